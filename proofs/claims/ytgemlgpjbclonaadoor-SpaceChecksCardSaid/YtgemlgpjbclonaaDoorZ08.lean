/- Merged of: WGa WGc WGd WGb (see NOTES.md). -/
import Derived.Test.YtgemlgpjbclonaaDoorZ07
import Derived.Test.YtgemlgpjbclonaaDoorZ06
import Derived.Deep.RegionHeld3
set_option linter.unusedSimpArgs false
set_option linter.unnecessarySimpa false
set_option linter.unusedVariables false

/- Contracts: what is light. -/
namespace Go.Proofs.YtgemlgpjbclonaaDoor
open Go.RowKit

theorem all_take_succ {α : Type} {f : α → Bool} {l : List α} {k : Nat} (h : k < l.length) (ha : (l.take k).all f = true) (hk : f l[k] = true) : (l.take (k + 1)).all f = true := by
  rw [List.take_succ_eq_append_getElem h, List.all_append, ha]; simp [hk]
theorem all_false_at {α : Type} {f : α → Bool} {l : List α} {k : Nat} (h : k < l.length) (hk : f l[k] = false) : l.all f = false := by
  rw [List.all_eq_false]; exact ⟨l[k], List.getElem_mem h, by simp [hk]⟩
theorem all_of_take {α : Type} {f : α → Bool} {l : List α} {k : Nat} (h : l.length ≤ k) (ha : (l.take k).all f = true) : l.all f = true := by rwa [List.take_of_length_le h] at ha

def lightC (c : Config) : Bool := decide (c.length ≤ 30) && c.all fun r => decide (r.length ≤ 10)


def lightG (g : Graph) : Bool := decide (g.ids.length ≤ 30) && decide (g.ports.length ≤ 30) && g.ports.all fun r => decide (r.length ≤ 30)

def degreesF (g : Graph) : Nat := (g.ports.map List.length).foldl max 1
theorem take_foldl_succ {α β : Type} (f : β → α → β) (b : β) (l : List α) (k : Nat) (h : k < l.length) : (l.take (k + 1)).foldl f b = f ((l.take k).foldl f b) l[k] := by
  rw [List.take_succ_eq_append_getElem h, List.foldl_append]; rfl
theorem foldl_nmax_le (l : List Nat) (a b : Nat) (ha : a ≤ b) (h : ∀ x ∈ l, x ≤ b) : l.foldl max a ≤ b := by
  induction l generalizing a with
  | nil => exact ha
  | cons x l ih => exact ih _ (Nat.max_le.2 ⟨ha, h x (by simp)⟩) (fun y hy => h y (by simp [hy]))
theorem foldl_nmax_ge (l : List Nat) (a : Nat) : a ≤ l.foldl max a := by
  induction l generalizing a with
  | nil => exact Nat.le_refl _
  | cons x l ih => exact Nat.le_trans (Nat.le_max_left a x) (ih _)
theorem ite_nmax (a b : Nat) : ∃ m : Nat, (if a < b then (b : Int) else (a : Int)) = (m : Int) ∧ m = max a b := ⟨max a b, by split <;> omega, rfl⟩



theorem box_cell {w wr : World} {cs : Array Value} {t : TypeId} (h : Bel (w.alloc (.cells cs t)) wr) (i : Nat) {v : Value} (hv : cs[i]? = some v) : wr.cell? ⟨w.heap.size, i, none⟩ = some v :=
  (h.cell (by simp)).trans ((Blk.new w cs t).cell i hv)
theorem box_lt {w wr : World} {cs : Array Value} {t : TypeId} (h : Bel (w.alloc (.cells cs t)) wr) : w.heap.size < wr.heap.size := by
  have := h.size; simp at this; omega
theorem box_bel {w wr : World} {o : Obj} (h : Bel (w.alloc o) wr) : Bel w wr := ((Bel.refl w).alloc o).trans h

theorem box2 {w wr : World} {cs ds : Array Value} {t u : TypeId} (h : Bel ((w.alloc (.cells cs t)).alloc (.cells ds u)) wr) :
    (∀ i v, cs[i]? = some v → wr.cell? ⟨w.heap.size, i, none⟩ = some v) ∧ (∀ i v, ds[i]? = some v → wr.cell? ⟨w.heap.size + 1, i, none⟩ = some v) ∧ w.heap.size + 1 < wr.heap.size := by
  refine ⟨fun i v hv => ?_, fun i v hv => ?_, ?_⟩
  · exact (h.cell (by simp; omega)).trans (((Blk.new w cs t).alloc _).cell i hv)
  · have := box_cell h i hv
    simpa using this
  · have := box_lt h
    simpa using this
/-- A program and a graph in boxes. -/
theorem pgbox {w wr : World} {a b c d e : Value} {t u : TypeId} (h : Bel ((w.alloc (.cells #[a, b, c] t)).alloc (.cells #[d, e] u)) wr) :
    wr.cell? ⟨w.heap.size, 0, none⟩ = some a ∧ wr.cell? ⟨w.heap.size, 1, none⟩ = some b ∧ wr.cell? ⟨w.heap.size, 2, none⟩ = some c ∧ wr.cell? ⟨w.heap.size + 1, 0, none⟩ = some d ∧ wr.cell? ⟨w.heap.size + 1, 1, none⟩ = some e ∧ w.heap.size + 1 < wr.heap.size := by
  obtain ⟨h1, h2, h3⟩ := box2 h
  exact ⟨h1 0 _ rfl, h1 1 _ rfl, h1 2 _ rfl, h2 0 _ rfl, h2 1 _ rfl, h3⟩
theorem box2_bel {w wr : World} {o o2 : Obj} (h : Bel ((w.alloc o).alloc o2) wr) : Bel w wr := box_bel (box_bel h)

def lightR (r : Rule) : Bool := decide (r.name.size ≤ 40) && decide (r.sets.length ≤ 10) && decide (r.guard.length ≤ 250) && r.sets.all fun s => decide (s.value.length ≤ 250)
def lightP (p : Prg) : Bool := decide (p.name.size ≤ 40) && decide (p.vars.length ≤ 10) && decide (p.rules.length ≤ 16) && p.vars.all (fun x => decide (x.name.size ≤ 40)) && p.rules.all lightR


end Go.Proofs.YtgemlgpjbclonaaDoor

/- Contracts of the reference's small functions on graphs: In, Port, SameInts, linksValid; and PortTo. -/
namespace Go.Proofs.YtgemlgpjbclonaaDoor
open Go.RowKit

def inB (v lo hi : Int) : Bool := decide (lo ≤ v ∧ v ≤ hi)
theorem inB_true {v lo hi : Int} (h1 : lo ≤ v) (h2 : v ≤ hi) : inB v lo hi = true := by unfold inB; simp [h1, h2]
theorem inB_false {v lo hi : Int} (h : v < lo ∨ hi < v) : inB v lo hi = false := by unfold inB; simp; omega
theorem inB_iff {v lo hi : Int} : inB v lo hi = true ↔ lo ≤ v ∧ v ≤ hi := by unfold inB; simp

theorem in01_any (v lo hi : Int) (w : World) : Calls Tryd.prog 11 #[.int .i64 v, .int .i64 lo, .int .i64 hi] w fun e w' => e = .returned (.bool (inB v lo hi)) ∧ w = w' := by
  go_enter Tryd.func11, Tryd.ntmps11
  go_wp2
  all_goals (go_ret; refine ⟨ret_bool ?_, rfl⟩; unfold inB; rw [Bool.eq_iff_iff]; simp) <;> omega
theorem within_any (v lo hi : Int) (w : World) : Calls Tryd.prog 67 #[.int .i64 v, .int .i64 lo, .int .i64 hi] w fun e w' => e = .returned (.bool (inB v lo hi)) ∧ w = w' := by
  go_enter Tryd.func67, Tryd.ntmps67
  go_wp2
  all_goals (go_ret; refine ⟨ret_bool ?_, rfl⟩; unfold inB; rw [Bool.eq_iff_iff]; simp) <;> omega


set_option maxRecDepth 100000 in
theorem portTo_any (v : Value) (g : Graph) (i : Nat) (u : Int) (w : World) (h : GraphV w v g) (hi : i < g.ports.length) :
    Calls Tryd.prog 53 #[v, .int .i64 i, .int .i64 u] w fun e w' => e = .returned (.int .i64 (portF g.ports[i] u)) ∧ Bel w w' := by
  obtain ⟨A, k, A2, k2, rfl, _, _, _, hr, _, hm⟩ := h
  obtain ⟨b, o, R, c1, rfl, hb, hc1, hL, hn, hm2⟩ := hr.at_ i hi
  have H := Lib.hid (fun w' (k : Bel w w') => LinksR.keep hL k); clear hL hr
  unfold maxLen at hm hm2
  go_enter Tryd.func53, Tryd.ntmps53
  go_wp2
  go_loopg [7, 8, 15] g.ports[i].length (fun m _x _y z wr => ∃ j : Nat, j ≤ g.ports[i].length ∧ m = g.ports[i].length - j ∧ Hid ((g.ports[i].take j).all (fun l => !(l.to == u)) = true) ∧ z = .int .i64 j ∧ Bel w wr)
  case atStart => exact ⟨0, by omega, rfl, rfl, rfl, (Bel.refl w).alloc _⟩
  case round =>
    obtain ⟨j, hj, rfl, HK, rfl, HB⟩ := hrel
    by_cases hlt : j < g.ports[i].length
    · obtain ⟨b', o', rfl, hb', hl1, hl2⟩ := (H.out _ HB).at_ j hlt
      have HB2 := HB.alloc (.cells #[.int .i64 g.ports[i][j].to, .int .i64 g.ports[i][j].weight] 60)
      by_cases he : (g.ports[i][j].to == u) = true
      · go_wp2
        go_ret
        exact ⟨ret_int (portF_found hlt HK.out he).symm, HB2⟩
      · have he' : (g.ports[i][j].to == u) = false := by simpa using he
        clear he
        go_wp2
        go_roundg (g.ports[i].length - (j + 1))
        case rel => exact ⟨j + 1, by omega, rfl, all_take_succ hlt HK.out (by simp [he']), by go_num, HB2⟩
        case measure => omega
    · go_wp2
      go_ret
      exact ⟨ret_int (portF_none (all_of_take (by omega) HK.out)).symm, HB⟩


end Go.Proofs.YtgemlgpjbclonaaDoor

/- Contracts of the reference's linksValid and Valid on graphs. -/
namespace Go.Proofs.YtgemlgpjbclonaaDoor
open Go.RowKit

theorem linksOK_bad {n v : Nat} {ls : List Link} {i : Nat} (h : i < ls.length) (hb : linkOK n v ls[i] = false) : linksOK n v ls = false := by
  unfold linksOK; rw [all_false_at h hb]; rfl
theorem linksOK_dup {n v : Nat} {ls : List Link} {j i : Nat} (hj : j < i) (h : i < ls.length) (he : ls[j].to = ls[i].to) : linksOK n v ls = false := by
  unfold linksOK
  have : decide ((ls.map Link.to).Nodup) = false := by
    simp only [decide_eq_false_iff_not]
    exact not_nodup hj (by simpa using h) (by simpa using he)
  rw [this]; simp


end Go.Proofs.YtgemlgpjbclonaaDoor

/- Contracts: Terms, Quick and what the laws ask ahead of their walks. -/
namespace Go.Proofs.YtgemlgpjbclonaaDoor
open Go.RowKit

def termsR (r : Rule) : Nat := r.guard.length + (r.sets.map (fun s => s.value.length)).sum
def termsF (p : Prg) : Nat := (p.rules.map termsR).sum
theorem sum_take_succ {α : Type} (f : α → Nat) (l : List α) (k : Nat) (h : k < l.length) : ((l.take (k + 1)).map f).sum = ((l.take k).map f).sum + f l[k] := by
  rw [List.take_succ_eq_append_getElem h, List.map_append, List.sum_append]; simp
theorem sum_le_mul {α : Type} (f : α → Nat) (l : List α) (b : Nat) (h : ∀ x ∈ l, f x ≤ b) : (l.map f).sum ≤ l.length * b := by
  induction l with
  | nil => simp
  | cons x l ih =>
    have h1 := h x (by simp)
    have h2 := ih (fun y hy => h y (by simp [hy]))
    simp only [List.map_cons, List.sum_cons, List.length_cons, Nat.add_mul]
    omega
theorem termsR_le {r : Rule} (h : lightR r = true) : termsR r ≤ 2750 := by
  unfold lightR at h
  simp at h
  obtain ⟨⟨⟨h1, h2⟩, h3⟩, h4⟩ := h
  have := sum_le_mul (fun s : SetT => s.value.length) r.sets 250 h4
  unfold termsR
  have : r.sets.length * 250 ≤ 2500 := by omega
  omega
theorem lightP_parts {p : Prg} (h : lightP p = true) : p.name.size ≤ 40 ∧ p.vars.length ≤ 10 ∧ p.rules.length ≤ 16 ∧ (∀ x ∈ p.vars, x.name.size ≤ 40) ∧ (∀ r ∈ p.rules, lightR r = true) := by
  unfold lightP at h
  simp at h
  obtain ⟨⟨⟨⟨h1, h2⟩, h3⟩, h4⟩, h5⟩ := h
  exact ⟨h1, h2, h3, h4, h5⟩
theorem lightR_parts {r : Rule} (h : lightR r = true) : r.name.size ≤ 40 ∧ r.sets.length ≤ 10 ∧ r.guard.length ≤ 250 ∧ ∀ s ∈ r.sets, s.value.length ≤ 250 := by
  unfold lightR at h
  simp at h
  obtain ⟨⟨⟨h1, h2⟩, h3⟩, h4⟩ := h
  exact ⟨h1, h2, h3, h4⟩
theorem termsF_le {p : Prg} (h : lightP p = true) : termsF p ≤ 44000 := by
  obtain ⟨_, _, h3, _, h5⟩ := lightP_parts h
  have := sum_le_mul termsR p.rules 2750 (fun r hr => termsR_le (h5 r hr))
  unfold termsF
  have : p.rules.length * 2750 ≤ 44000 := by omega
  omega
theorem lightG_parts {g : Graph} (h : lightG g = true) : g.ids.length ≤ 30 ∧ g.ports.length ≤ 30 ∧ ∀ r ∈ g.ports, r.length ≤ 30 := by
  unfold lightG at h
  simp at h
  obtain ⟨⟨h1, h2⟩, h3⟩ := h
  exact ⟨h1, h2, h3⟩
theorem degreesF_le {g : Graph} (h : lightG g = true) : 1 ≤ degreesF g ∧ degreesF g ≤ 30 := by
  obtain ⟨_, _, h3⟩ := lightG_parts h
  refine ⟨foldl_nmax_ge _ _, foldl_nmax_le _ _ _ (by omega) ?_⟩
  intro x hx
  obtain ⟨r, hr, rfl⟩ := List.mem_map.1 hx
  exact h3 r hr


def quickF (p : Prg) (g : Graph) : Bool := lightP p && lightG g && decide (termsF p * g.ports.length * degreesF g * degreesF g ≤ 100000)

theorem wrap_mul {a b : Nat} {x y : Nat} (ha : a ≤ x) (hb : b ≤ y) (h : x * y ≤ 9223372036854775807) : IntKind.i64.wrap ((a : Int) * (b : Int)) = ((a * b : Nat) : Int) := by
  have h1 : a * b ≤ x * y := Nat.mul_le_mul ha hb
  rw [← Int.natCast_mul]
  exact IntWalk.i64_in _ (by omega)



end Go.Proofs.YtgemlgpjbclonaaDoor

