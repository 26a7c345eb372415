/- Merged of: WSa WSb WSc WRj (see NOTES.md). -/
import Derived.Test.YtgemlgpjbclonaaGreatDoorZ19
import Derived.Test.YtgemlgpjbclonaaGreatDoorZ02
import Derived.Test.YtgemlgpjbclonaaGreatDoorZ21
import Derived.Test.YtgemlgpjbclonaaGreatDoorZ20
import Derived.Test.YtgemlgpjbclonaaGreatDoorZ04
set_option linter.unusedSimpArgs false
set_option linter.unnecessarySimpa false
set_option linter.unusedVariables false

/- Contracts: the program's mover: NewMover, Rule; Bring. -/
namespace Go.Proofs.YtgemlgpjbclonaaGreatDoor
open Go.RowKit

set_option maxRecDepth 100000 in
set_option maxHeartbeats 1000000 in
theorem bring_any (kind : Int) (b : Int × Int) (x : Int) (w : World) :
  Calls Tryz.prog 90 #[.int .i64 kind, .agg #[.int .i64 b.1, .int .i64 b.2], .int .i64 x] w fun e w' => e = .returned (.int .i64 (bringF kind b x)) ∧ Bel w w' := by
 obtain ⟨lo, hi⟩ := b
 have HF : Hid (bringF kind (lo, hi) x = if lo ≤ x ∧ x ≤ hi then x else if kind = 3 then -1 else if x < lo then lo else hi) := rfl
 have HB := (Bel.refl w).alloc (.cells #[.int .i64 lo, .int .i64 hi] 119)
 dsimp only
 by_cases h1 : lo ≤ x ∧ x ≤ hi
 ·rw [if_pos h1] at HF
  have d1 : decide (lo ≤ x) = true := by simp; omega
  have d2 : decide (x ≤ hi) = true := by simp; omega
  clear h1
  go_enter Tryz.func90, Tryz.ntmps90
  go_wp2
  go_ret
  exact ⟨ret_int HF.out.symm, HB⟩
 ·rw [if_neg h1] at HF
  have d1 : (decide (lo ≤ x) = true ∧ decide (x ≤ hi) = false) ∨ decide (lo ≤ x) = false := by
   simp; omega
  clear h1
  by_cases h2 : kind = 3
  ·rw [if_pos h2] at HF
   subst h2
   rcases d1 with ⟨d1, d2⟩ | d1
   all_goals
    go_enter Tryz.func90, Tryz.ntmps90
    go_wp2
    go_ret
    exact ⟨ret_int HF.out.symm, HB⟩
  ·rw [if_neg h2] at HF
   have hk : (kind == 3) = false := by simpa using h2
   clear h2
   by_cases h3 : x < lo
   ·rw [if_pos h3] at HF
    have d3 : decide (x < lo) = true := by simpa using h3
    have d1 : decide (lo ≤ x) = false := by simpa using h3
    clear h3
    go_enter Tryz.func90, Tryz.ntmps90
    go_wp2
    go_ret
    exact ⟨ret_int HF.out.symm, HB⟩
   ·rw [if_neg h3] at HF
    have d3 : decide (x < lo) = false := by simpa using h3
    have d4 : decide (lo ≤ x) = true := by simp; omega
    have d2 : decide (x ≤ hi) = false := by
     rcases d1 with ⟨_, d2⟩ | d1
     ·exact d2
     ·rw [d4] at d1; cases d1
    clear h3 d1
    go_enter Tryz.func90, Tryz.ntmps90
    go_wp2
    go_ret
    exact ⟨ret_int HF.out.symm, HB⟩

def moverCells (p : Prg) (g : Graph) (A1 : Option Addr) (k1 : Nat) (A2 : Option Addr) (k2 S : Nat) (AT : Option Addr) (kt : Nat) : Array Value :=
 #[.string p.name, .slice A1 p.vars.length k1, .slice A2 p.rules.length k2, .pointer (some ⟨S, 0, none⟩), .slice AT (tableF p g).length kt]
def MoverR (w : World) (B : Nat) (p : Prg) (g : Graph) : Prop :=
 ∃ A1 k1 A2 k2 S AT kt, Blk w B (moverCells p g A1 k1 A2 k2 S AT kt) 147 ∧
  PrgV w (.agg #[.string p.name, .slice A1 p.vars.length k1, .slice A2 p.rules.length k2]) p ∧ SceneR w S p g ∧ TableV w (.slice AT (tableF p g).length kt) (tableF p g)
theorem MoverR.keep {w w' : World} {B : Nat} {p : Prg} {g : Graph} (h : MoverR w B p g) (k : Bel w w') : MoverR w' B p g := by
 obtain ⟨A1, k1, A2, k2, S, AT, kt, h1, h2, h3, h4⟩ := h
 exact ⟨A1, k1, A2, k2, S, AT, kt, h1.keep k, h2.keep k, h3.keep k, h4.keep k⟩
def RetMover (p : Prg) (g : Graph) (w : World) (e : Ending) (w' : World) : Prop := ∃ B, e = .returned (.pointer (some ⟨B, 0, none⟩)) ∧ MoverR w' B p g ∧ Bel w w'

set_option maxRecDepth 100000 in
set_option maxHeartbeats 4000000 in
theorem newMover_any (v1 : Value) (p : Prg) (v2 : Value) (g : Graph) (w : World) (h : PrgV w v1 p) (h2 : GraphV w v2 g) (hc : checkF p = 0) (hg : GOK g) (hG : lightG g = true) :
  Calls Tryz.prog 64 #[v1, v2] w (RetMover p g w) := by
 have HPV := Lib.hid (fun w' (k : Bel w w') => h.keep k)
 have HGV := Lib.hid (fun w' (k : Bel w w') => h2.keep k)
 obtain ⟨A1, k1, A2, k2, rfl, _, _, _, _, _, _⟩ := h
 obtain ⟨A3, k3, A4, k4, rfl, _, _, _, _, _, _⟩ := h2
 have HW := Bel.refl ((w.alloc (.cells #[.string p.name, .slice A1 p.vars.length k1, .slice A2 p.rules.length k2] 25)).alloc (.cells #[.slice A3 g.ids.length k3, .slice A4 g.ports.length k4] 29))
 have hcell := Lib.hid (fun w' (kk : Bel ((w.alloc (.cells #[.string p.name, .slice A1 p.vars.length k1, .slice A2 p.rules.length k2] 25)).alloc (.cells #[.slice A3 g.ids.length k3, .slice A4 g.ports.length k4] 29)) w') => pgbox kk)
 have HC := Lib.hid hc
 have HG := Lib.hid hg
 have HGL := Lib.hid hG
 have HSC : Hid True := trivial
 have HT : Hid True := trivial
 clear hc hg hG
 go_enter Tryz.func64, Tryz.ntmps64
 go_wp2_with fail
 replace HW := HW.drew
 go_region_held3 (fun w' => w'.cell? ⟨w.heap.size, 0, none⟩ = some (.string p.name) ∧ w'.cell? ⟨w.heap.size, 1, none⟩ = some (.slice A1 p.vars.length k1) ∧ w'.cell? ⟨w.heap.size, 2, none⟩ = some (.slice A2 p.rules.length k2) ∧ w'.cell? ⟨w.heap.size + 1, 0, none⟩ = some (.slice A3 g.ids.length k3) ∧ w'.cell? ⟨w.heap.size + 1, 1, none⟩ = some (.slice A4 g.ports.length k4) ∧ w.heap.size + 1 < w'.heap.size) (first | exact hcell.out _ HW | exact hcell.out _ (HW.alloc _)) (first
  | (go_simp; go_at_call 87; refine (newScene_any _ p _ g _ (HPV.out _ (box2_bel HW)) (HGV.out _ (box2_bel HW)) HG.out).mono ?_; rintro e w' ⟨SB, rfl, hSC, _, hb⟩; replace HSC := Lib.hid hSC; (try replace HT := Lib.hid (TableV.keep HT.out hb)); replace HW := HW.trans hb; clear hb hSC)
  | (go_simp; go_at_call 63; refine (table_any _ p _ g _ (HPV.out _ (box2_bel HW)) (HGV.out _ (box2_bel HW)) HC.out HG.out HGL.out).mono ?_; rintro e w' ⟨tv, rfl, htv, hb⟩; obtain ⟨AT, kt, rfl, _⟩ := (id htv : TableV _ _ _); replace HT := Lib.hid htv; (try replace HSC := Lib.hid (SceneR.keep HSC.out hb)); replace HW := HW.trans hb; clear hb htv))
 go_wp2_with fail
 go_ret
 have hb := (Bel.refl w').alloc (.cells (moverCells p g A1 k1 A2 k2 SB AT kt) 147)
 exact ⟨_, rfl, ⟨A1, k1, A2, k2, SB, AT, kt, Blk.new w' _ _, HPV.out _ (box2_bel (HW.trans hb)), HSC.out.keep hb, TableV.keep HT.out hb⟩, box2_bel (HW.trans hb)⟩

set_option maxRecDepth 100000 in
set_option maxHeartbeats 2000000 in
theorem moverRule_any (B : Nat) (p : Prg) (g : Graph) (vc : Value) (c : Config) (v : Nat) (w : World) (hM : MoverR w B p g) (hC : ConfV w vc c) (hs : SOK p g c v) (hL : lightP p = true) :
  Calls Tryz.prog 68 #[.pointer (some ⟨B, 0, none⟩), vc, .int .i64 v] w fun e w' => e = .returned (.int .i64 (firstF p.rules g c v)) ∧ Bel w w' := by
 have HC := Lib.hid (fun w' (k : Bel w w') => hC.keep k)
 obtain ⟨AC, kc, rfl, _, _, _⟩ := hC
 obtain ⟨A1, k1, A2, k2, S, AT, kt, hB, hP, hS, _⟩ := hM
 have z2 := hB.cell 2 (v := .slice A2 p.rules.length k2) rfl
 have z3 := hB.cell 3 (v := .pointer (some ⟨S, 0, none⟩)) rfl
 have zl := hB.lt
 have HB := Lib.hid (fun w' (k : Bel w w') => hB.keep k)
 have HS := Lib.hid (fun w' (k : Bel w w') => hS.keep k)
 have HK := Lib.hid hs
 have HE := Lib.hid (fun (i : Nat) (hi : i < p.rules.length) => guard_eok (fits_zero hs.fits).1 hL hi)
 have hr16 := (lightP_parts hL).2.2.1
 clear hB hS hs hL hP
 have HW := Bel.refl w
 go_enter Tryz.func68, Tryz.ntmps68
 go_wp2
 clear z2 z3 zl
 go_loopg [7, 14] p.rules.length (fun m _x z wr => ∃ i : Nat, i ≤ p.rules.length ∧ m = p.rules.length - i ∧ z = .int .i64 i ∧ Hid ((p.rules.take i).all (fun r => !(trueAt g c v r.guard)) = true) ∧ Bel w wr)
 case atStart => exact ⟨0, by omega, rfl, rfl, rfl, HW⟩
 case round =>
  clear HW
  obtain ⟨i, hi, rfl, rfl, HI, HW⟩ := hrel
  by_cases hlt : i < p.rules.length
  ·have hd0 : decide (i < p.rules.length) = true := by simpa using hlt
   have z3 := (HB.out _ HW).cell 3 (v := .pointer (some ⟨S, 0, none⟩)) rfl
   have zl := (HB.out _ HW).lt
   cases hq : trueAt g c v p.rules[i].guard with
   | true =>
    have HF := Lib.hid (firstF_found hlt HI.out hq)
    have HQ : Hid ((evalF g c v (-1) (treeOf p.rules[i].guard) != 0) = true) := hq
    clear hq
    go_wp2_with (go_at_call 88; refine (sceneGuard_any S p g _ c v i _ (HS.out _ HW) (HC.out _ HW) HK.out hlt (HE.out i hlt)).mono ?_; rintro e w' ⟨rfl, hb⟩; rw [HQ.out]; replace HW := HW.trans hb; clear hb)
    go_ret
    exact ⟨ret_int HF.out.symm, HW⟩
   | false =>
    have HQ : Hid ((evalF g c v (-1) (treeOf p.rules[i].guard) != 0) = false) := hq
    have HI2 := Lib.hid (all_take_succ hlt HI.out (by rw [hq]; rfl))
    clear hq
    go_wp2_with (go_at_call 88; refine (sceneGuard_any S p g _ c v i _ (HS.out _ HW) (HC.out _ HW) HK.out hlt (HE.out i hlt)).mono ?_; rintro e w' ⟨rfl, hb⟩; rw [HQ.out]; replace HW := HW.trans hb; clear hb z3 zl)
    go_roundg (p.rules.length - (i + 1))
    case rel => exact ⟨i + 1, by omega, rfl, by go_num, HI2, HW⟩
    case measure => omega
  ·have hd0 : decide (i < p.rules.length) = false := by simpa using hlt
   have HF : Hid (firstF p.rules g c v = -1) := by
    refine firstF_none ?_
    have := HI.out
    rwa [List.take_of_length_le (by omega)] at this
   go_wp2_with fail
   go_ret
   exact ⟨ret_int HF.out.symm, HW⟩

end Go.Proofs.YtgemlgpjbclonaaGreatDoor

/- Configurations in memory of the call's own; contracts of Copy, of the program and of the reference. -/
namespace Go.Proofs.YtgemlgpjbclonaaGreatDoor
open Go.RowKit

theorem IntsR.cells {w : World} {A : Option Addr} {l : List Int} (h : IntsR w A l.length l) : CellsR w 1 A l.length (l.map (Value.int .i64)) := by
 refine ⟨by simp, fun j u hu => ?_⟩
 rw [List.getElem?_map] at hu
 cases hx : l[j]? with
 | none => rw [hx] at hu; cases hu
 | some x =>
  rw [hx] at hu
  obtain rfl : Value.int .i64 x = u := by simpa using hu
  obtain ⟨b, o, e, _, hc⟩ := h.2 j x hx
  exact ⟨b, o, e, by simpa [IntAt] using hc⟩
theorem int_cells_one (l : List Int) : ∀ u ∈ l.map (Value.int .i64), u.oneCell' = true := by
 intro u hu
 obtain ⟨x, _, rfl⟩ := List.mem_map.1 hu
 rfl
/-- The block of a slice is not this one. -/
def Off (g : Nat) (A : Option Addr) : Prop := ∀ b o, A = some ⟨b, o, none⟩ → b ≠ g
theorem IntsR.other {w : World} {A : Option Addr} {l : List Int} {g v : Nat} {x : Value} (h : IntsR w A l.length l) (ho : Off g A) : IntsR (w.setCell ⟨g, v, none⟩ x) A l.length l := by
 refine ⟨rfl, fun i y hy => ?_⟩
 obtain ⟨b, o, rfl, hb, hc⟩ := h.2 i y hy
 exact ⟨b, o, rfl, by simpa using hb, by
  unfold IntAt at *
  rw [((Fr.refl g w).set v x).cell hb (ho b o rfl)]; exact hc⟩

/-- A configuration in a row of the call's own; the rows of its nodes lie elsewhere. -/
structure OwnC (w : World) (base g cap : Nat) (d : Config) (hs : List Value) : Prop where
 own : w.ownsRow base 26 1 (.slice (some ⟨g, 0, none⟩) d.length cap) d.length hs
 rows : ∀ u (hu : u < d.length), ∃ R c', hs[u]? = some (.slice R d[u].length c') ∧ IntsR w R d[u].length d[u] ∧ d[u].length ≤ c' ∧ c' ≤ maxLen ∧ Off g R
theorem OwnC.keep {w w' : World} {base g cap : Nat} {d : Config} {hs : List Value} (h : OwnC w base g cap d hs) (k : Bel w w') : OwnC w' base g cap d hs :=
 ⟨k.owns h.own, fun u hu => by
  obtain ⟨R, c', h1, h2, h3⟩ := h.rows u hu
  exact ⟨R, c', h1, h2.keep k, h3⟩⟩
theorem OwnC.conf {w : World} {base g cap : Nat} {d : Config} {hs : List Value} (h : OwnC w base g cap d hs) : ConfV w (.slice (some ⟨g, 0, none⟩) d.length cap) d := by
 obtain ⟨h1, h2⟩ := own_cap h.own
 refine ⟨_, _, rfl, ⟨rfl, fun u x hx => ?_⟩, h1, h2⟩
 have hu : u < d.length := (List.getElem?_eq_some_iff.1 hx).1
 have hxe : d[u] = x := (List.getElem?_eq_some_iff.1 hx).2
 obtain ⟨R, c', k1, k2, k3, k4, _⟩ := h.rows u hu
 obtain ⟨g', e1, _, hlt, hc, _⟩ := own_at h.own k1
 obtain rfl : g = g' := by simpa using e1
 subst hxe
 exact ⟨g, 0, rfl, hlt, R, c', by rw [Nat.zero_add, Nat.mul_one]; exact hc, k2, k3, k4⟩
theorem OwnC.set {w : World} {base g cap : Nat} {d : Config} {hs : List Value} (h : OwnC w base g cap d hs) {v : Nat} {l : List Int} {A : Option Addr} {c' : Nat} (hv : v < d.length) (hl : IntsR w A l.length l) (h1 : l.length ≤ c') (h2 : c' ≤ maxLen) (ho : Off g A) :
  OwnC (w.setCell ⟨g, v, none⟩ (.slice A l.length c')) base g cap (d.set v l) (hs.set v (.slice A l.length c')) := by
 have hlen : hs.length = d.length := by have := h.own.1; omega
 refine ⟨by rw [List.length_set]; exact (h.own.stored v _).1, fun u hu => ?_⟩
 rw [List.length_set] at hu
 by_cases he : v = u
 ·subst he
  rw [List.getElem_set_self]
  exact ⟨A, c', List.getElem?_set_self (by omega), hl.other ho, h1, h2, ho⟩
 ·rw [List.getElem_set_ne he]
  obtain ⟨R, c2, k1, k2, k3, k4, k5⟩ := h.rows u hu
  exact ⟨R, c2, by rw [List.getElem?_set_ne he]; exact k1, k2.other k5, k3, k4, k5⟩
/-- A slice of ints that lies in memory from a block on. -/
def NewI (w : World) (B : Nat) (A : Option Addr) (c : Nat) (l : List Int) : Prop := IntsR w A l.length l ∧ l.length ≤ c ∧ c ≤ maxLen ∧ ∀ b o, A = some ⟨b, o, none⟩ → B ≤ b ∧ b < w.heap.size
theorem NewI.off {w : World} {B : Nat} {A : Option Addr} {c : Nat} {l : List Int} (h : NewI w B A c l) {g : Nat} (hg : g < B) : Off g A := fun b o e => by have := h.2.2.2 b o e; omega
theorem NewI.keep {w w' : World} {B : Nat} {A : Option Addr} {c : Nat} {l : List Int} (h : NewI w B A c l) (k : Bel w w') : NewI w' B A c l := ⟨h.1.keep k, h.2.1, h.2.2.1, fun b o e => ⟨(h.2.2.2 b o e).1, Nat.lt_of_lt_of_le (h.2.2.2 b o e).2 k.size⟩⟩
theorem NewI.lower {w : World} {B B' : Nat} {A : Option Addr} {c : Nat} {l : List Int} (h : NewI w B A c l) (hB : B' ≤ B) : NewI w B' A c l := ⟨h.1, h.2.1, h.2.2.1, fun b o e => ⟨Nat.le_trans hB (h.2.2.2 b o e).1, (h.2.2.2 b o e).2⟩⟩
theorem NewI.gr {w w' : World} {B : Nat} {A : Option Addr} {c : Nat} {l : List Int} {row : Option Nat} (h : NewI w B A c l) (hg : Gr row w w') (ho : ∀ b o, A = some ⟨b, o, none⟩ → some b ≠ row) : NewI w' B A c l :=
 ⟨⟨rfl, fun i x hx => by
  obtain ⟨b, o, e, hb, hc⟩ := h.1.2 i x hx
  exact ⟨b, o, e, Nat.lt_of_lt_of_le hb hg.1, (hg.cell hb (ho b o e)).trans hc⟩⟩, h.2.1, h.2.2.1, fun b o e => ⟨(h.2.2.2 b o e).1, Nat.lt_of_lt_of_le (h.2.2.2 b o e).2 hg.1⟩⟩
theorem own_newI {w : World} {base : Nat} {e : TypeId} {A : Option Addr} {n c : Nat} {l : List Int} (h : w.ownsRow base e 1 (.slice A n c) n (l.map (Value.int .i64))) : n = l.length ∧ NewI w base A c l := by
 have hn : n = l.length := by have := h.1; simp at this; omega
 subst hn
 obtain ⟨h1, h2⟩ := own_cap h
 refine ⟨rfl, own_ints h, h1, h2, fun b o e => ?_⟩
 subst e
 rcases h.2 with ⟨hv, _⟩ | ⟨g', cap, cur, hv, hb, hg, _⟩
 ·cases hv
 ·injection hv with hA; injection hA with hA; injection hA with hA; subst hA; exact ⟨hb, lt_of_block hg⟩
theorem own_len {w : World} {base : Nat} {e : TypeId} {size n m cap : Nat} {B : Option Addr} {hs : List Value} (h : w.ownsRow base e size (.slice B n cap) n hs) (hn : n = m) : w.ownsRow base e size (.slice B m cap) m hs := by subst hn; exact h
theorem own_lt {w : World} {base : Nat} {e : TypeId} {size n cap g o : Nat} {hs : List Value} (h : w.ownsRow base e size (.slice (some ⟨g, o, none⟩) n cap) n hs) : g < w.heap.size := by
 rcases h.2 with ⟨hv, _⟩ | ⟨g', _, _, hv, _, hg, _⟩
 ·cases hv
 ·injection hv with hA; injection hA with hA; injection hA with hA; subst hA; exact lt_of_block hg
theorem one_slice (A : Option Addr) (n c : Nat) : ∀ u ∈ (#[Value.slice A n c] : Array Value).toList, u.oneCell' = true := by simp [Value.oneCell']
/-- A configuration that the call appends to. -/
structure AppC (w : World) (base : Nat) (B : Option Addr) (cap : Nat) (d : Config) (hs : List Value) : Prop where
 own : w.ownsRow base 26 1 (.slice B d.length cap) d.length hs
 rows : ∀ u (hu : u < d.length), ∃ R c', hs[u]? = some (.slice R d[u].length c') ∧ NewI w base R c' d[u] ∧ ∀ g o, B = some ⟨g, o, none⟩ → Off g R
theorem AppC.nil (w : World) (base : Nat) : AppC w base none 0 [] [] := ⟨World.ownsRow_nil _ _ _ _, fun u hu => absurd hu (by simp)⟩
theorem AppC.keep {w w' : World} {base cap : Nat} {B : Option Addr} {d : Config} {hs : List Value} (h : AppC w base B cap d hs) (k : Bel w w') : AppC w' base B cap d hs :=
 ⟨k.owns h.own, fun u hu => by
  obtain ⟨R, c', h1, h2, h3⟩ := h.rows u hu
  exact ⟨R, c', h1, h2.keep k, h3⟩⟩
theorem AppC.push {w w' : World} {base cap n : Nat} {B : Option Addr} {d : Config} {hs : List Value} (h : AppC w base B cap d hs) (hn : d.length = n) {l : List Int} {A : Option Addr} {c : Nat} (hN : NewI w base A c l) (hoff : ∀ g o, B = some ⟨g, o, none⟩ → Off g A) {o : Obj}
  {B' : Option Addr} {cap' : Nat} (hown : w'.ownsRow base 26 1 (.slice B' (n + 1) cap') (n + 1) (hs ++ [.slice A l.length c])) (hgr : (w.alloc o).grownBy w' (Value.slice B n cap).ownBlock)
  (hat : (Value.slice B' (n + 1) cap').ownBlock = (Value.slice B n cap).ownBlock ∨ (Value.slice B' (n + 1) cap').ownBlock = some (w.alloc o).heap.size) : AppC w' base B' cap' (d ++ [l]) (hs ++ [.slice A l.length c]) := by
 have hlen : hs.length = d.length := by have := h.own.1; omega
 have hg : Gr (Value.slice B n cap).ownBlock w w' := (Gr.of_bel ((Bel.refl w).alloc o)).trans (Gr.grown hgr)
 have hb0 : ∀ R : Option Addr, (∀ g o, B = some ⟨g, o, none⟩ → Off g R) → ∀ b o, R = some ⟨b, o, none⟩ → some b ≠ (Value.slice B n cap).ownBlock := by
  intro R hR b o e hb
  rcases h.own.2 with ⟨hv, _⟩ | ⟨g', _, _, hv, _, _, _⟩
  ·injection hv with hA; subst hA; cases hb
  ·injection hv with hA; subst hA
   obtain rfl : b = g' := by simpa [Value.ownBlock] using hb
   exact hR b 0 rfl b o e rfl
 have hnew : ∀ R : Option Addr, ∀ c (l : List Int), NewI w base R c l → (∀ g o, B = some ⟨g, o, none⟩ → Off g R) → ∀ g o, B' = some ⟨g, o, none⟩ → Off g R := by
  intro R c l hR hRo g o' e b o2 eR hbg
  subst e; subst hbg
  rcases hat with hat | hat
  ·exact hb0 R hRo b o2 eR (by rw [← hat]; simp [Value.ownBlock])
  ·have := (hR.2.2.2 b o2 eR).2
   simp [Value.ownBlock] at hat
   omega
 refine ⟨by rw [List.length_append, hn]; exact hown, fun u hu => ?_⟩
 by_cases hu' : u < d.length
 ·obtain ⟨R, c', k1, k2, k3⟩ := h.rows u hu'
  rw [List.getElem_append_left hu']
  exact ⟨R, c', by rw [List.getElem?_append_left (by omega)]; exact k1, k2.gr hg (hb0 R k3), hnew R _ _ k2 k3⟩
 ·have : u = d.length := by simp at hu; omega
  subst this
  rw [List.getElem_append_right (Nat.le_refl _)]
  simp only [Nat.sub_self, List.getElem_singleton]
  exact ⟨A, c, by rw [List.getElem?_append_right (by omega), hlen]; simp, hN.gr hg (hb0 A hoff), hnew A _ _ hN hoff⟩
theorem AppC.ownC {w : World} {base cap g : Nat} {d : Config} {hs : List Value} (h : AppC w base (some ⟨g, 0, none⟩) cap d hs) : OwnC w base g cap d hs :=
 ⟨h.own, fun u hu => by
  obtain ⟨R, c', h1, h2, h3⟩ := h.rows u hu
  exact ⟨R, c', h1, h2.1, h2.2.1, h2.2.2.1, h3 g 0 rfl⟩⟩
theorem AppC.form {w : World} {base cap : Nat} {B : Option Addr} {d : Config} {hs : List Value} (h : AppC w base B cap d hs) (hd : 0 < d.length) : ∃ g, B = some ⟨g, 0, none⟩ := by
 obtain ⟨g, cap', hv, _⟩ := h.own.form hd
 injection hv with hA
 exact ⟨g, hA⟩
/-- A new slice of ints. -/
def RetNewI (l : List Int) (w : World) (e : Ending) (w' : World) : Prop := ∃ A c, e = .returned (.slice A l.length c) ∧ NewI w' w.heap.size A c l ∧ Bel w w'
def RetOwnC (d : Config) (w : World) (e : Ending) (w' : World) : Prop := ∃ g cap hs, e = .returned (.slice (some ⟨g, 0, none⟩) d.length cap) ∧ OwnC w' w.heap.size g cap d hs ∧ Bel w w'
theorem OwnC.zero {w : World} {base g cap n : Nat} {hs : List Value} (h : w.ownsRow base 26 1 (.slice (some ⟨g, 0, none⟩) n cap) n hs) (hs0 : hs = List.replicate n (.slice none 0 0)) : OwnC w base g cap (List.replicate n []) hs := by
 refine ⟨by rw [List.length_replicate]; exact h, fun u hu => ?_⟩
 rw [List.length_replicate] at hu
 refine ⟨none, 0, ?_, ?_, ?_, ?_, fun b o e => by cases e⟩
 ·subst hs0; rw [List.getElem_replicate]; rw [List.getElem?_replicate, if_pos hu]; rfl
 ·rw [List.getElem_replicate]; exact SliceR.nil
 ·rw [List.getElem_replicate]; exact Nat.le_refl _
 ·unfold maxLen; omega
theorem rows_infoC : (Tryz.prog.info? 26).map (fun i => (i.zero, i.size, i.bytes)) = some (some (.slice none 0 0), 1, 24) := by kernel_rfl
theorem int_infoC : (Tryz.prog.info? 3).map (fun i => (i.zero, i.size, i.bytes)) = some (some (.int .i64 0), 1, 8) := by kernel_rfl

set_option maxRecDepth 100000 in
set_option maxHeartbeats 2000000 in
theorem refCopy_any (v : Value) (c : Config) (w : World) (h : ConfV w v c) (hL : lightC c = true) (hpos : 0 < c.length) :
  Calls Tryz.prog 53 #[v] w (RetOwnC c w) := by
 obtain ⟨A, k, rfl, hR, _, _⟩ := h
 have HR := Lib.hid (fun w' (kk : Bel w w') => hR.keep kk)
 obtain ⟨l1, l2⟩ := lightC_parts hL
 have HL2 := Lib.hid l2
 clear hR l2 hL
 obtain ⟨i0, hi0, hz0, hz1, hz2⟩ := info_parts rows_infoC
 obtain ⟨j0, hj0, hy0, hy1, hy2⟩ := info_parts int_infoC
 have HW := Bel.refl w
 go_enter Tryz.func53, Tryz.ntmps53
 go_wp2
 go_loopg [3, 4] c.length (fun m x z wr => ∃ (v : Nat) (B : Option Addr) (cb : Nat) (hs : List Value), v ≤ c.length ∧ m = c.length - v ∧ x = .slice B v cb ∧ z = .int .i64 v ∧ Hid (AppC wr w.heap.size B cb (c.take v) hs) ∧ Bel w wr)
 case atStart => exact ⟨0, none, 0, [], by omega, rfl, rfl, rfl, AppC.nil _ _, HW⟩
 case round =>
  clear HW
  obtain ⟨v, B, cb, hs, hv, rfl, rfl, rfl, HO, HW⟩ := hrel
  by_cases hlt : v < c.length
  ·have hd0 : decide (v < c.length) = true := by simpa using hlt
   obtain ⟨b, o, R, rc, rfl, hbl, hcell, hI, _, _⟩ := (HR.out _ HW).at_ v hlt
   have hle := HL2.out _ (List.getElem_mem hlt)
   have HI := Lib.hid hI
   have HT : Hid ((c.take v).length = v) := by show _ = _; rw [List.length_take]; omega
   clear hI
   go_wp2_with (first
    | (at_builtin; refine wpList_extend _ rfl (.const (.slice none 0 0)) (.tmp 15) 26 rfl wr.heap.size 3 j0 (.int .i64 0) 1 8 Tryz.underlying26 hj0 hy0 hy1 hy2 rfl (by decide) none 0 0 [] rfl (World.ownsRow_nil _ _ _ _) R c[v].length rc (c[v].map (Value.int .i64)) rfl HI.out.cells (int_cells_one _) (by unfold maxLen; omega) (by omega) (Nat.le_refl _) ?_; intro A3 c3 w3 hown3 hgr3 _; rw [List.nil_append, Nat.zero_add] at hown3; have hb3 := (Bel.refl wr).grown hgr3 (fun k hk => by cases hk); obtain ⟨_, hN⟩ := own_newI hown3; have HN := Lib.hid hN; have HO3 := Lib.hid (HO.out.keep hb3); have HOV := Lib.hid (own_len HO3.out.own HT.out); have hszr := HW.size; have hoffA : ∀ g o, B = some ⟨g, o, none⟩ → Off g A3 := (fun g o e => HN.out.off (by have := HO.out.own; subst e; exact (own_lt this))); replace HW := HW.trans hb3; clear hown3 hgr3 hb3 hN)
    | (at_builtin; refine wpList_push _ rfl (.tmp 11) (.tmp 17) 50 rfl w.heap.size 26 i0 (.slice none 0 0) 1 24 Tryz.underlying50 hi0 hz0 hz1 hz2 rfl (by decide) B v cb hs rfl (HOV.out.alloc _) w3.heap.size #[.slice A3 c[v].length c3] 26 (0, 0) rfl (heap_new _ _) rfl (one_slice _ _ _) (by unfold maxLen; omega) (by omega) (by have := HW.size; simp; omega) ?_; intro B4 c4 w4 hown4 hgr4 hat4; have HP := Lib.hid (HO3.out.push HT.out (HN.out.lower hszr) hoffA hown4 hgr4 hat4); replace HW := (HW.alloc _).push (HOV.out.alloc _) hgr4; clear hown4 hgr4 hat4))
   go_roundg (c.length - (v + 1))
   case rel =>
    refine ⟨v + 1, B4, c4, hs ++ [.slice A3 c[v].length c3], by omega, rfl, rfl, by go_num, ?_, HW⟩
    show AppC _ _ _ _ _ _
    rw [List.take_succ_eq_append_getElem hlt]
    exact HP.out
   case measure => omega
  ·have hd0 : decide (v < c.length) = false := by simpa using hlt
   obtain rfl : v = c.length := by omega
   go_wp2_with fail
   go_ret
   have hO := HO.out
   rw [List.take_of_length_le (Nat.le_refl _)] at hO
   obtain ⟨gb, rfl⟩ := hO.form hpos
   exact ⟨gb, _, hs, rfl, hO.ownC, HW⟩

end Go.Proofs.YtgemlgpjbclonaaGreatDoor

/- Contracts: the program's mover: Enabled, Move, Step. -/
namespace Go.Proofs.YtgemlgpjbclonaaGreatDoor
open Go.RowKit


theorem tableF_len {p : Prg} {g : Graph} {c : Config} (hm : memF p g c = 0) : (tableF p g).length = c.length := ((confB_iff.1 (mem_zero hm).2).1).symm

theorem table_row {w : World} {AT : Option Addr} {kt : Nat} {p : Prg} {g : Graph} {v : Nat} (h : TableV w (.slice AT (tableF p g).length kt) (tableF p g)) (hv : v < (tableF p g).length) :
  ∃ b o R rc, AT = some ⟨b, o, none⟩ ∧ b < w.heap.size ∧ w.cell? ⟨b, o + v, none⟩ = some (.slice R p.vars.length rc) ∧ PairsR w R p.vars.length (rowF p g v) := by
 obtain ⟨A, c, e, hT, _, _⟩ := h
 obtain ⟨rfl, rfl⟩ : AT = A ∧ kt = c := by simpa using e
 obtain ⟨b, o, R, rc, h1, h2, h3, h4, _, _⟩ := hT.at_ v hv
 have e1 : (tableF p g)[v] = rowF p g v := tableF_at hv
 have e2 : (tableF p g)[v].length = p.vars.length := by rw [e1, rowF_length]
 rw [e2] at h3 h4
 rw [e1] at h4
 exact ⟨b, o, R, rc, h1, h2, h3, h4⟩
theorem lightR_len {r : Rule} (h : lightR r = true) : r.sets.length ≤ 10 := (lightR_parts h).2.1
theorem lightR_sets {r : Rule} (h : lightR r = true) {s : SetT} (hs : s ∈ r.sets) : s.value.length ≤ 250 := (lightR_parts h).2.2.2 s hs
set_option maxRecDepth 100000 in
set_option maxHeartbeats 4000000 in
theorem moverMove_any (B : Nat) (p : Prg) (g : Graph) (vc : Value) (c : Config) (v k : Nat) (w : World) (hM : MoverR w B p g) (hC : ConfV w vc c) (hm : memF p g c = 0) (hv : v < c.length) (hk : k < p.rules.length) (hL : lightP p = true) (hCL : lightC c = true) :
  Calls Tryz.prog 69 #[.pointer (some ⟨B, 0, none⟩), vc, .int .i64 v, .int .i64 k] w (RetNewI (movesF p g c v p.rules[k].sets) w) := by
 have HM := Lib.hid (fun w' (k : Bel w w') => hM.keep k)
 have HC := Lib.hid (fun w' (k : Bel w w') => hC.keep k)
 obtain ⟨AC, kc, rfl, hRC, _, _⟩ := hC
 obtain ⟨A1, k1, A2, k2, S, AT, kt, hB, hP, hS, hT⟩ := hM
 have HB := Lib.hid (fun w' (k : Bel w w') => hB.keep k)
 have HS := Lib.hid (fun w' (k : Bel w w') => hS.keep k)
 have HTV := Lib.hid (fun w' (k : Bel w w') => TableV.keep hT k)
 have HSK := Lib.hid (mem_sok hm hv)
 obtain ⟨b0, o0, R, rc, rfl, hb0, hcell0, hI, _, _⟩ := hRC.at_ v hv
 have HI := Lib.hid hI
 have hle10 := (lightC_parts hCL).2 _ (List.getElem_mem hv)
 obtain ⟨A1', k1', A2', k2', eP, hV, _, _, hR, _, _⟩ := hP
 obtain ⟨⟨rfl, rfl⟩, rfl, rfl⟩ : (A1 = A1' ∧ k1 = k1') ∧ A2 = A2' ∧ k2 = k2' := by simpa using eP
 have HV := Lib.hid (fun w' (k : Bel w w') => VarsR.keep hV k)
 obtain ⟨b1, o1, G, gc, SS, sc, rfl, hb1, _, _, cs, _, _, _, hSets, _, _⟩ := hR.at_ k hk
 have HSets := Lib.hid (fun w' (k : Bel w w') => SetsR.keep hSets k)
 have z2 := hB.cell 2 (v := .slice (some ⟨b1, o1, none⟩) p.rules.length k2) rfl
 have zl := hB.lt
 have hdv : decide (v < c.length) = true := by simpa using hv
 have hdk : decide (k < p.rules.length) = true := by simpa using hk
 obtain ⟨j0, hj0, hy0, hy1, hy2⟩ := info_parts int_infoC
 clear hI hRC hV hR hSets hB hS hT eP
 have HW := Bel.refl w
 go_enter Tryz.func69, Tryz.ntmps69
 go_wp2_with (at_builtin; go_must (refine wpList_extend _ rfl (.const (.slice none 0 0)) (.tmp 16) 26 rfl w.heap.size 3 j0 (.int .i64 0) 1 8 Tryz.underlying26 hj0 hy0 hy1 hy2 rfl (by decide) none 0 0 [] rfl (World.ownsRow_nil _ _ _ _) R c[v].length rc (c[v].map (Value.int .i64)) rfl HI.out.cells (int_cells_one _) (by unfold maxLen; omega) (by omega) (Nat.le_refl _) ?_); intro A3 c3 w3 hown3 hgr3 _; rw [List.nil_append, Nat.zero_add] at hown3; replace HW := HW.grown hgr3 (fun k hk => by cases hk); obtain ⟨_, hN⟩ := own_newI hown3; obtain ⟨hn1, hn2⟩ := own_cap hown3; have HO := Lib.hid hown3; have z2' := (HB.out _ HW).cell 2 (v := .slice (some ⟨b1, o1, none⟩) p.rules.length k2) rfl; have cs' := (HW.cell hb1).trans cs; have zl' := (HB.out _ HW).lt; clear hown3 hgr3 hN)
 clear z2 zl z2' cs cs' zl' hdk
 have hcl : c[v].length = p.vars.length := by have := row_len hm hv; rwa [getD_eq hv] at this
 have HCL := Lib.hid hcl
 have HST := Lib.hid (fun (s : SetT) hs => set_tree (fits_zero (mem_zero hm).1).1 (List.getElem_mem hk) (s := s) hs)
 have HSL := Lib.hid (fun (s : SetT) hs => lightR_sets ((lightP_parts hL).2.2.2.2 _ (List.getElem_mem hk)) (s := s) hs)
 have hls := lightR_len ((lightP_parts hL).2.2.2.2 _ (List.getElem_mem hk))
 have HMV : Hid (∀ j (hj : j < p.rules[k].sets.length), movesF p g c v (p.rules[k].sets.take (j + 1)) = (movesF p g c v (p.rules[k].sets.take j)).set p.rules[k].sets[j].var.toNat (setVal p g c v p.rules[k].sets[j])) := fun j hj => movesF_snoc _ _ _ _ _ _ hj
 have HML : Hid (∀ j, (movesF p g c v (p.rules[k].sets.take j)).length = c[v].length) := fun j => by rw [movesF_length, getD_eq hv]
 have HO0 : Hid (w3.ownsRow w.heap.size 3 1 (.slice A3 c[v].length c3) c[v].length ((movesF p g c v (p.rules[k].sets.take 0)).map (Value.int .i64))) := by
  have := HO.out
  show World.ownsRow _ _ _ _ _ _ _
  rw [List.take_zero]; unfold movesF; rw [getD_eq hv]; exact this
 have hpv : 0 < p.vars.length := by have := (check_numbers (fits_zero (mem_zero hm).1).1).2.1; omega
 obtain ⟨ga, hga⟩ : ∃ ga, A3 = some ⟨ga, 0, none⟩ := by
  obtain ⟨ga, cap, hv', _⟩ := HO.out.form (by omega)
  injection hv' with hA
  exact ⟨ga, hA⟩
 subst hga
 have hTl : (tableF p g).length = c.length := tableF_len hm
 have HTL := Lib.hid hTl
 obtain ⟨bT, oT, RT, rT, rfl, hbT, cT, hPT⟩ := table_row (HTV.out _ (Bel.refl w)) (v := v) (by omega)
 have HPT := Lib.hid hPT
 clear hTl hcl HO hL hPT
 go_loopg [11, 12, 28] p.rules[k].sets.length (fun m _x _y z wr => ∃ j : Nat, j ≤ p.rules[k].sets.length ∧ m = p.rules[k].sets.length - j ∧ z = .int .i64 j ∧ Hid (wr.ownsRow w.heap.size 3 1 (.slice (some ⟨ga, 0, none⟩) c[v].length c3) c[v].length ((movesF p g c v (p.rules[k].sets.take j)).map (Value.int .i64))) ∧ Bel w wr)
 case atStart => exact ⟨0, by omega, rfl, rfl, HO0, HW⟩
 case round =>
  clear HO0 HW
  obtain ⟨j, hj, rfl, rfl, HO, HW⟩ := hrel
  by_cases hlt : j < p.rules[k].sets.length
  ·have hd0 : decide (j < p.rules[k].sets.length) = true := by simpa using hlt
   obtain ⟨t1, t2, t4, t5, hx0, hx1⟩ := HST.out _ (List.getElem_mem hlt)
   obtain ⟨x, hx⟩ := Int.eq_ofNat_of_zero_le hx0
   have hxl : x < p.vars.length := by omega
   have hsl := HSL.out _ (List.getElem_mem hlt)
   have HE : Hid (EOK p p.rules[k].sets[j].value) := ⟨t1, t2, t4, t5, by omega⟩
   obtain ⟨bs, os, V, vc, rfl, hbs, s0, s1, hVT, _, _⟩ := (HSets.out _ (Bel.refl w)).at_ j hlt
   replace s0 := (HW.cell hbs).trans s0
   replace s1 := (HW.cell hbs).trans s1
   have hbs' : bs < wr.heap.size := Nat.lt_of_lt_of_le hbs HW.size
   have HVT := Lib.hid hVT
   rw [hx] at s0
   have HX := Lib.hid hx
   clear hVT t1 t2 t4 t5 hx hx0 hx1
   obtain ⟨bV, oV, eV, hbV, _, cV, _⟩ := (HV.out _ (Bel.refl w)).at_ x hxl
   subst eV
   obtain ⟨bP, oP, eP, hbP, cP1, cP2⟩ := HPT.out.at_ x (by rw [rowF_length]; exact hxl)
   subst eP
   obtain ⟨lo, hlo⟩ : ∃ lo, lo = ((rowF p g v)[x]'(by rw [rowF_length]; exact hxl)).1 := ⟨_, rfl⟩
   obtain ⟨hi, hhi⟩ : ∃ hi, hi = ((rowF p g v)[x]'(by rw [rowF_length]; exact hxl)).2 := ⟨_, rfl⟩
   rw [← hlo] at cP1
   rw [← hhi] at cP2
   have hsv : setVal p g c v p.rules[k].sets[j] = bringF p.vars[x].kind (lo, hi) (evalF g c v (-1) (treeOf p.rules[k].sets[j].value)) := by
    unfold setVal varAt
    rw [HX.out, Int.toNat_natCast, getD_eq hxl, hlo, hhi]
    congr 1
    rw [rowF_at]
   have HSV := Lib.hid hsv
   clear hsv hlo hhi
   have hzB := (HB.out _ (Bel.refl w)).lt
   have zB1 := (HB.out _ (Bel.refl w)).cell 1 (v := .slice (some ⟨bV, oV, none⟩) p.vars.length k1) rfl
   have zB3 := (HB.out _ (Bel.refl w)).cell 3 (v := .pointer (some ⟨S, 0, none⟩)) rfl
   have zB4 := (HB.out _ (Bel.refl w)).cell 4 (v := .slice (some ⟨bT, oT, none⟩) (tableF p g).length kt) rfl
   have hga := own_base HO.out
   have hwr := HW.size
   have HAB := (Bel.refl wr).alloc (.cells #[.int .i64 (x : Int), .slice V p.rules[k].sets[j].value.length vc] 92)
   have HWA := HW.trans HAB
   have hcell := Lib.hid (fun w' (kk : Fr ga (wr.alloc (.cells #[.int .i64 (x : Int), .slice V p.rules[k].sets[j].value.length vc] 92)) w') => by
    have hbx := Blk.new wr #[.int .i64 (x : Int), .slice V p.rules[k].sets[j].value.length vc] 92
    have hsz := kk.1
    simp only [World.size_alloc] at hsz
    have hn1 : wr.heap.size ≠ ga := by omega
    have hold : ∀ b o u, b < w.heap.size → w.cell? ⟨b, o, none⟩ = some u → w'.cell? ⟨b, o, none⟩ = some u := fun b o u hb hc =>
     (kk.cell (by simp; omega) (by omega)).trans ((HWA.cell hb).trans hc)
    exact show w'.cell? ⟨wr.heap.size, 0, none⟩ = some (.int .i64 (x : Int)) ∧ w'.cell? ⟨wr.heap.size, 1, none⟩ = some (.slice V p.rules[k].sets[j].value.length vc) ∧ w'.cell? ⟨B, 1, none⟩ = some (.slice (some ⟨bV, oV, none⟩) p.vars.length k1) ∧ w'.cell? ⟨B, 3, none⟩ = some (.pointer (some ⟨S, 0, none⟩)) ∧ w'.cell? ⟨B, 4, none⟩ = some (.slice (some ⟨bT, oT, none⟩) (tableF p g).length kt) ∧ w'.cell? ⟨bV, oV + x * 6 + 1, none⟩ = some (.int .i64 p.vars[x].kind) ∧ w'.cell? ⟨bT, oT + v, none⟩ = some (.slice (some ⟨bP, oP, none⟩) p.vars.length rT) ∧ w'.cell? ⟨bP, oP + x * 2, none⟩ = some (.int .i64 lo) ∧ w'.cell? ⟨bP, oP + x * 2 + 1, none⟩ = some (.int .i64 hi) ∧ wr.heap.size < w'.heap.size ∧ B < w'.heap.size ∧ bV < w'.heap.size ∧ bT < w'.heap.size ∧ bP < w'.heap.size from
     ⟨(kk.cell (by simp) hn1).trans (hbx.cell 0 rfl), (kk.cell (by simp) hn1).trans (hbx.cell 1 rfl), hold _ _ _ hzB zB1, hold _ _ _ hzB zB3, hold _ _ _ hzB zB4, hold _ _ _ hbV cV, hold _ _ _ hbT cT, hold _ _ _ hbP cP1, hold _ _ _ hbP cP2, by omega, by omega, by omega, by omega, by omega⟩)
   have HG := Fr.refl ga (wr.alloc (.cells #[.int .i64 (x : Int), .slice V p.rules[k].sets[j].value.length vc] 92))
   have HOA := Lib.hid (HAB.owns HO.out)
   have hdx : decide (x < p.vars.length) = true := by simpa using hxl
   have hxc : x < c[v].length := by rw [HCL.out]; exact hxl
   have hdc : decide (x < c[v].length) = true := by simpa using hxc
   have hvT : v < (tableF p g).length := by rw [HTL.out]; exact hv
   have hdT : decide (v < (tableF p g).length) = true := by simpa using hvT
   clear zB1 zB3 zB4 cV cP1 cP2 hsl HAB
   go_wp2
   replace HWA := HWA.drew
   replace HG := HG.drew
   replace HOA := Lib.hid (HOA.out.drew)
   go_region_held3 (fun w' => w'.cell? ⟨wr.heap.size, 0, none⟩ = some (.int .i64 (x : Int)) ∧ w'.cell? ⟨wr.heap.size, 1, none⟩ = some (.slice V p.rules[k].sets[j].value.length vc) ∧ w'.cell? ⟨B, 1, none⟩ = some (.slice (some ⟨bV, oV, none⟩) p.vars.length k1) ∧ w'.cell? ⟨B, 3, none⟩ = some (.pointer (some ⟨S, 0, none⟩)) ∧ w'.cell? ⟨B, 4, none⟩ = some (.slice (some ⟨bT, oT, none⟩) (tableF p g).length kt) ∧ w'.cell? ⟨bV, oV + x * 6 + 1, none⟩ = some (.int .i64 p.vars[x].kind) ∧ w'.cell? ⟨bT, oT + v, none⟩ = some (.slice (some ⟨bP, oP, none⟩) p.vars.length rT) ∧ w'.cell? ⟨bP, oP + x * 2, none⟩ = some (.int .i64 lo) ∧ w'.cell? ⟨bP, oP + x * 2 + 1, none⟩ = some (.int .i64 hi) ∧ wr.heap.size < w'.heap.size ∧ B < w'.heap.size ∧ bV < w'.heap.size ∧ bT < w'.heap.size ∧ bP < w'.heap.size) (exact hcell.out _ HG) (first
    | (go_simp; go_at_call 89; refine (sceneValue_any S p g _ c v _ _ _ _ (HS.out _ HWA) (HC.out _ HWA) (TermsR.keep HVT.out HWA) HSK.out HE.out).mono ?_; rintro e w4 ⟨rfl, hbb⟩; replace HWA := HWA.trans hbb; replace HG := HG.trans (Fr.of_bel hbb); replace HOA := Lib.hid (hbb.owns HOA.out); clear hbb))
   go_wp2_with fail
   have hmx : x < (movesF p g c v (p.rules[k].sets.take j)).length := by rw [HML.out]; exact hxc
   have HY : Hid (((movesF p g c v (p.rules[k].sets.take j)).map (Value.int .i64))[x]? = some (.int .i64 (movesF p g c v (p.rules[k].sets.take j))[x])) := by
    show _ = _
    rw [List.getElem?_map, List.getElem?_eq_getElem hmx]; rfl
   replace HWA := HWA.drew
   replace HG := HG.drew
   replace HOA := Lib.hid (HOA.out.drew)
   go_region_held3 (fun w' => w'.cell? ⟨wr.heap.size, 0, none⟩ = some (.int .i64 (x : Int)) ∧ w'.cell? ⟨wr.heap.size, 1, none⟩ = some (.slice V p.rules[k].sets[j].value.length vc) ∧ w'.cell? ⟨B, 1, none⟩ = some (.slice (some ⟨bV, oV, none⟩) p.vars.length k1) ∧ w'.cell? ⟨B, 3, none⟩ = some (.pointer (some ⟨S, 0, none⟩)) ∧ w'.cell? ⟨B, 4, none⟩ = some (.slice (some ⟨bT, oT, none⟩) (tableF p g).length kt) ∧ w'.cell? ⟨bV, oV + x * 6 + 1, none⟩ = some (.int .i64 p.vars[x].kind) ∧ w'.cell? ⟨bT, oT + v, none⟩ = some (.slice (some ⟨bP, oP, none⟩) p.vars.length rT) ∧ w'.cell? ⟨bP, oP + x * 2, none⟩ = some (.int .i64 lo) ∧ w'.cell? ⟨bP, oP + x * 2 + 1, none⟩ = some (.int .i64 hi) ∧ wr.heap.size < w'.heap.size ∧ B < w'.heap.size ∧ bV < w'.heap.size ∧ bT < w'.heap.size ∧ bP < w'.heap.size) (first | exact hcell.out _ HG | exact hcell.out _ (HG.set _ _)) (first
    | (go_simp; go_at_call 90; refine (bring_any p.vars[x].kind (lo, hi) _ _).mono ?_; rintro e w5 ⟨rfl, hbb⟩; replace HWA := HWA.trans hbb; replace HG := HG.trans (Fr.of_bel hbb); replace HOA := Lib.hid (hbb.owns HOA.out); clear hbb; have y1 := (own_at HOA.out HY.out); obtain ⟨q1, e1, _, _, y1, z1⟩ := y1; obtain rfl : ga = q1 := (by simpa using e1); clear e1))
   go_wp2_with fail
   go_roundg (p.rules[k].sets.length - (j + 1))
   case rel =>
    refine ⟨j + 1, by omega, rfl, by go_num, ?_, HWA.setCell (by simp; omega) _⟩
    have hst := (HOA.out.stored x (.int .i64 (bringF p.vars[x].kind (lo, hi) (evalF g c v (-1) (treeOf p.rules[k].sets[j].value))))).1
    show World.ownsRow _ _ _ _ _ _ _
    rw [HMV.out j hlt, HX.out, Int.toNat_natCast, HSV.out, List.map_set]
    exact hst
   case measure => omega
  ·have hd0 : decide (j < p.rules[k].sets.length) = false := by simpa using hlt
   obtain rfl : j = p.rules[k].sets.length := by omega
   go_wp2_with fail
   go_ret
   have hO := HO.out
   rw [List.take_of_length_le (Nat.le_refl _)] at hO
   obtain ⟨hn, hN⟩ := own_newI hO
   exact ⟨_, c3, by rw [← hn]; rfl, hN, HW⟩

end Go.Proofs.YtgemlgpjbclonaaGreatDoor

/- The iterator that goes backward through a slice: what it hands on. -/
namespace Go.Proofs.YtgemlgpjbclonaaGreatDoor
open Go.RowKit
attribute [local go_sem] Oper.semAt_some

def downN (p : Value) : Nat := match p with | .int _ x => (x + 1).toNat | _ => 0
theorem range_down (m : Nat) : (List.range (m + 1)).reverse = m :: (List.range m).reverse := by rw [List.range_succ, List.reverse_append]; rfl
theorem SameE.cell {E : Nat → Prop} {A B : World} (h : SameE E A B) {k o : Nat} {v : Value} (hc : A.cell? ⟨k, o, none⟩ = some v) (hE : E k) : B.cell? ⟨k, o, none⟩ = some v := by
 have hk : k < A.heap.size := by
  rcases Nat.lt_or_ge k A.heap.size with h | h
  ·exact h
  ·simp [World.cell?, Array.getElem?_eq_none h] at hc
 rw [World.cell?_of_block (h.2 k hk hE)]; exact hc

theorem bwdTCall_any (A : Option Addr) (n c : Nat) (w : World) :
  Calls Tryz.prog 72 #[.slice A n c] w fun e w' => e = .returned (.func (.func 95) #[] #[.pointer (some ⟨w.heap.size, 0, none⟩)]) ∧ w' = w.alloc (.cells #[.slice A n c] 77) := by
 go_enter Tryz.func72, Tryz.ntmps72
 go_wp2
 go_ret
 exact ⟨rfl, rfl⟩
set_option maxRecDepth 100000 in
set_option maxHeartbeats 2000000 in
theorem bwdT_seq (n : Nat) (B b o len cp : Nat) (R : Nat → Option Addr) (l cc : Nat → Nat) (w : World) (hn : 1 ≤ n) (hB : Boxed w B 77 (.slice (some ⟨b, o, none⟩) len cp)) (hb : b < w.heap.size) (hv : ∀ v, v < len → w.cell? ⟨b, o + v, none⟩ = some (.slice (R v) (l v) (cc v))) (hl : len ≤ 100) :
  SeqE Fence.wide n Tryz.prog 95 #[.pointer (some ⟨B, 0, none⟩)] (fun v : Nat => #[.int .i64 (v : Int), .slice (R v) (l v) (cc v)]) (fun _ => False) (fun k => k = B ∨ k = b) (List.range len).reverse w := by
 intro lp J Jx W hW hJ hJx hY h0
 have HBW : Hid (Boxed W B 77 (.slice (some ⟨b, o, none⟩) len cp)) := (hW.block B hB.lt).trans hB
 have HVW : Hid (∀ v, v < len → W.cell? ⟨b, o + v, none⟩ = some (.slice (R v) (l v) (cc v))) := fun v h => (hW.cell hb).trans (hv v h)
 have hbW := Nat.lt_of_lt_of_le hb hW.size
 clear hB hv hb
 refine callsIn_of_wp Tryz.func95 rfl trivial ?_ rfl
 simp only [Tryz.ntmps95, List.size_toArray, List.length_cons, List.length_nil, Nat.reduceAdd, Nat.reduceSub, Array.replicate_succ, Array.replicate_zero, List.push_toArray, List.append_toArray, List.nil_append, List.cons_append]
 have c0 := HBW.out.cell
 have f0 := HBW.out.frozen
 have l0 := HBW.out.lt
 gi_wp2
 clear c0 f0 l0
 gi_loopw [3] (fun p wr => ∃ (pre : List Nat) (m : Nat) (z : Int), p = .int .i64 z ∧ z = (m : Int) - 1 ∧ m ≤ len ∧ Hid (pre ++ (List.range m).reverse = (List.range len).reverse) ∧ Hid (Boxed wr B 77 (.slice (some ⟨b, o, none⟩) len cp)) ∧ Hid (∀ v, v < len → wr.cell? ⟨b, o + v, none⟩ = some (.slice (R v) (l v) (cc v))) ∧ b < wr.heap.size ∧ Hid (J pre wr)) (fun p _ => downN p)
 case atStart => exact ⟨[], len, _, rfl, rfl, Nat.le_refl _, by show _ = _; rfl, HBW, HVW, hbW, h0⟩
 case round =>
  clear h0 HBW HVW hbW
  obtain ⟨pre, m, z, rfl, hz, hm, HP, HX, HV, hb, HJ⟩ := hrel
  cases m with
  | zero =>
   have d0 : decide (0 ≤ z) = false := by simp; omega
   gi_wp2
   go_end0
   have h := HP.out
   rw [List.range_zero, List.reverse_nil, List.append_nil] at h
   exact ⟨⟨_, rfl⟩, .inl (by rw [← h]; exact HJ.out)⟩
  | succ v =>
   obtain rfl : z = (v : Int) := by omega
   clear hz
   have d0 : decide ((0 : Int) ≤ (v : Int)) = true := by simp
   have hvl : (v : Int) < (len : Int) := by omega
   have hvl' : decide (v < len) = true := by simp; omega
   have hc := HX.out.cell
   have hf := HX.out.frozen
   have hl' := HX.out.lt
   have hcv := HV.out v (by omega)
   have HQ : Hid (pre ++ [v] ++ (List.range v).reverse = (List.range len).reverse) := by
    have := HP.out
    rw [range_down] at this
    show _ = _
    rw [List.append_assoc]; exact this
   have hpre : pre ++ [v] <+: (List.range len).reverse := ⟨_, HQ.out⟩
   obtain ⟨fn, tmps, assign, body, hy, hR⟩ := hY pre v wr hpre HJ.out
   clear hpre
   gi_wp2
   refine hR.mono ?_
   rintro e w' (⟨rfl, hJ', hs⟩ | ⟨rfl, hJx'⟩)
   ·have HX' : Hid (Boxed w' B 77 (.slice (some ⟨b, o, none⟩) len cp)) := (hs.2 B HX.out.lt (.inr (.inl rfl))).trans HX.out
    have HV' : Hid (∀ v, v < len → w'.cell? ⟨b, o + v, none⟩ = some (.slice (R v) (l v) (cc v))) := fun u hu => hs.cell (HV.out u hu) (.inr (.inr rfl))
    have hb' := Nat.lt_of_lt_of_le hb hs.1
    have HJ' := Lib.hid hJ'
    clear hJ' hs hc hf hl' hcv
    gi_wp2
    go_roundw
    case rel => exact ⟨pre ++ [v], v, _, rfl, rfl, by omega, HQ, HX', HV', hb', HJ'⟩
    case measure => simp [downN]
   ·gi_wp2
    refine bodyPost_ret (results_none rfl _ _ _) rfl ?_
    exact ⟨⟨_, rfl⟩, .inr ⟨pre ++ [v], ⟨_, HQ.out⟩, hJx'⟩⟩

theorem bwdRCall_any (A : Option Addr) (n c : Nat) (w : World) :
  Calls Tryz.prog 73 #[.slice A n c] w fun e w' => e = .returned (.func (.func 96) #[] #[.pointer (some ⟨w.heap.size, 0, none⟩)]) ∧ w' = w.alloc (.cells #[.slice A n c] 118) := by
 go_enter Tryz.func73, Tryz.ntmps73
 go_wp2
 go_ret
 exact ⟨rfl, rfl⟩
set_option maxRecDepth 100000 in
set_option maxHeartbeats 2000000 in
theorem bwdR_seq (n : Nat) (B b o len cp : Nat) (f : Nat → Int × Int) (w : World) (hn : 1 ≤ n) (hB : Boxed w B 118 (.slice (some ⟨b, o, none⟩) len cp)) (hb : b < w.heap.size) (hv : ∀ v, v < len → w.cell? ⟨b, o + v * 2, none⟩ = some (.int .i64 (f v).1) ∧ w.cell? ⟨b, o + v * 2 + 1, none⟩ = some (.int .i64 (f v).2)) (hl : len ≤ 100) :
  SeqE Fence.wide n Tryz.prog 96 #[.pointer (some ⟨B, 0, none⟩)] (fun v : Nat => #[.int .i64 (v : Int), .agg #[.int .i64 (f v).1, .int .i64 (f v).2]]) (fun _ => False) (fun k => k = B ∨ k = b) (List.range len).reverse w := by
 intro lp J Jx W hW hJ hJx hY h0
 have HBW : Hid (Boxed W B 118 (.slice (some ⟨b, o, none⟩) len cp)) := (hW.block B hB.lt).trans hB
 have HVW : Hid (∀ v, v < len → W.cell? ⟨b, o + v * 2, none⟩ = some (.int .i64 (f v).1) ∧ W.cell? ⟨b, o + v * 2 + 1, none⟩ = some (.int .i64 (f v).2)) := fun v h => ⟨(hW.cell hb).trans (hv v h).1, (hW.cell hb).trans (hv v h).2⟩
 have hbW := Nat.lt_of_lt_of_le hb hW.size
 clear hB hv hb
 refine callsIn_of_wp Tryz.func96 rfl trivial ?_ rfl
 simp only [Tryz.ntmps96, List.size_toArray, List.length_cons, List.length_nil, Nat.reduceAdd, Nat.reduceSub, Array.replicate_succ, Array.replicate_zero, List.push_toArray, List.append_toArray, List.nil_append, List.cons_append]
 have c0 := HBW.out.cell
 have f0 := HBW.out.frozen
 have l0 := HBW.out.lt
 gi_wp2
 clear c0 f0 l0
 gi_loopw [3] (fun p wr => ∃ (pre : List Nat) (m : Nat) (z : Int), p = .int .i64 z ∧ z = (m : Int) - 1 ∧ m ≤ len ∧ Hid (pre ++ (List.range m).reverse = (List.range len).reverse) ∧ Hid (Boxed wr B 118 (.slice (some ⟨b, o, none⟩) len cp)) ∧ Hid (∀ v, v < len → wr.cell? ⟨b, o + v * 2, none⟩ = some (.int .i64 (f v).1) ∧ wr.cell? ⟨b, o + v * 2 + 1, none⟩ = some (.int .i64 (f v).2)) ∧ b < wr.heap.size ∧ Hid (J pre wr)) (fun p _ => downN p)
 case atStart => exact ⟨[], len, _, rfl, rfl, Nat.le_refl _, by show _ = _; rfl, HBW, HVW, hbW, h0⟩
 case round =>
  clear h0 HBW HVW hbW
  obtain ⟨pre, m, z, rfl, hz, hm, HP, HX, HV, hb, HJ⟩ := hrel
  cases m with
  | zero =>
   have d0 : decide (0 ≤ z) = false := by simp; omega
   gi_wp2
   go_end0
   have h := HP.out
   rw [List.range_zero, List.reverse_nil, List.append_nil] at h
   exact ⟨⟨_, rfl⟩, .inl (by rw [← h]; exact HJ.out)⟩
  | succ v =>
   obtain rfl : z = (v : Int) := by omega
   clear hz
   have d0 : decide ((0 : Int) ≤ (v : Int)) = true := by simp
   have hvl : (v : Int) < (len : Int) := by omega
   have hvl' : decide (v < len) = true := by simp; omega
   have hc := HX.out.cell
   have hf := HX.out.frozen
   have hl' := HX.out.lt
   obtain ⟨hcv, hcv2⟩ := HV.out v (by omega)
   have HQ : Hid (pre ++ [v] ++ (List.range v).reverse = (List.range len).reverse) := by
    have := HP.out
    rw [range_down] at this
    show _ = _
    rw [List.append_assoc]; exact this
   have hpre : pre ++ [v] <+: (List.range len).reverse := ⟨_, HQ.out⟩
   obtain ⟨fn, tmps, assign, body, hy, hR⟩ := hY pre v wr hpre HJ.out
   clear hpre
   gi_wp2
   refine hR.mono ?_
   rintro e w' (⟨rfl, hJ', hs⟩ | ⟨rfl, hJx'⟩)
   ·have HX' : Hid (Boxed w' B 118 (.slice (some ⟨b, o, none⟩) len cp)) := (hs.2 B HX.out.lt (.inr (.inl rfl))).trans HX.out
    have HV' : Hid (∀ v, v < len → w'.cell? ⟨b, o + v * 2, none⟩ = some (.int .i64 (f v).1) ∧ w'.cell? ⟨b, o + v * 2 + 1, none⟩ = some (.int .i64 (f v).2)) := fun u hu => ⟨hs.cell (HV.out u hu).1 (.inr (.inr rfl)), hs.cell (HV.out u hu).2 (.inr (.inr rfl))⟩
    have hb' := Nat.lt_of_lt_of_le hb hs.1
    have HJ' := Lib.hid hJ'
    clear hJ' hs hc hf hl' hcv hcv2
    gi_wp2
    go_roundw
    case rel => exact ⟨pre ++ [v], v, _, rfl, rfl, by omega, HQ, HX', HV', hb', HJ'⟩
    case measure => simp [downN]
   ·gi_wp2
    refine bodyPost_ret (results_none rfl _ _ _) rfl ?_
    exact ⟨⟨_, rfl⟩, .inr ⟨pre ++ [v], ⟨_, HQ.out⟩, hJx'⟩⟩

end Go.Proofs.YtgemlgpjbclonaaGreatDoor

