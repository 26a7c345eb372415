/- Merged of: AnyE WEd WEe WEf (see NOTES.md). -/
import Derived.Test.YtgemlgpjbclonaaGreatDoorZ01
import Derived.Deep.RegionHeld
import Derived.Test.YtgemlgpjbclonaaGreatDoorZ19
set_option linter.unusedSimpArgs false
set_option linter.unnecessarySimpa false
set_option linter.unusedVariables false

/- A drawn region whose last operation may write what the others read. -/
namespace Go.Proofs.YtgemlgpjbclonaaGreatDoor
open Go.RowKit

section
variable {P : Program} {ops : Array Oper} {Q : Exit → Act → World → Prop} {md : Region.Mode} {S : World → Prop} {L : Nat}
/-- In whatever order, and S holds behind each operation but L. -/
def AnyE (P : Program) (md : Region.Mode) (ops : Array Oper) (Q : Exit → Act → World → Prop) (S : World → Prop) (L : Nat) : Nat → Array Bool → Act → World → Prop
 | 0, listed, a, w => Region.ready md ops listed = [] ∧ Q .normal a w
 | fuel + 1, listed, a, w => (Region.ready md ops listed = [] → Q .normal a w) ∧
   ∀ i ∈ Region.ready md ops listed, wpOp P ops Q i (fun a' w' => (i ≠ L → S w') ∧ AnyE P md ops Q S L fuel (listed.setIfInBounds i true) a' w') a w
theorem AnyE.any : ∀ (fuel : Nat) (listed : Array Bool) (a : Act) (w : World), AnyE P md ops Q S L fuel listed a w → wpAny P md ops Q fuel listed a w
 | 0, _, _, _, h => h
 | fuel + 1, _, _, _, h => ⟨h.1, fun i hi => wpOp_mono (fun a' w' k => AnyE.any fuel _ a' w' k.2) (h.2 i hi)⟩
/-- Each waits for the one before it. -/
def waits (md : Region.Mode) (ops : Array Oper) : Nat → List Nat → Bool
 | _, [] => true
 | i, c :: cs => (match ops[c]? with | some o => o.after.any (fun e => Region.binds md e && e.on == i) | none => false) && waits md ops c cs
def unlisted (listed : Array Bool) (cs : List Nat) : Bool := cs.all fun c => !(listed.getD c true)
theorem not_ready {listed : Array Bool} {j : Nat} (hj : j ∈ Region.ready md ops listed) (cs : List Nat) : ∀ i, listed.getD i true = false → waits md ops i cs = true → unlisted listed cs = true → j ∉ cs := by
 induction cs with
 | nil => intro i _ _ _ h; cases h
 | cons c cs ih =>
  intro i hi hw hu hm
  simp only [waits, Bool.and_eq_true] at hw
  simp only [unlisted, List.all_cons, Bool.and_eq_true] at hu
  have hc : listed.getD c true = false := by simpa using hu.1
  rcases List.mem_cons.1 hm with rfl | hm
  ·obtain ⟨_, oj, hoj, hall⟩ := mem_ready.1 hj
   have h1 := hw.1
   rw [hoj] at h1
   simp only [Array.any_eq_true'] at h1
   obtain ⟨e, he, hb⟩ := h1
   simp only [Bool.and_eq_true, beq_iff_eq] at hb
   have h2 := hall e he hb.1
   rw [hb.2] at h2
   rcases Nat.lt_or_ge i listed.size with h' | h'
   ·simp [h'] at hi h2; rw [hi] at h2; cases h2
   ·simp [Array.getElem?_eq_none h'] at h2
  ·exact ih c hc hw.2 hu.2 hm
theorem AnyE.first {i : Nat} {oi : Oper} {v : Value} (cs : List Nat) (hi : ops[i]? = some oi) (hsel : ∀ (j : Nat) (o : Oper) cs b, ops[j]? = some o → o.op ≠ .select cs b)
  (hL : L ∈ cs) (hw : waits md ops i cs = true)
  (hQ : ∀ c a w, Q (.panic c) (a.put oi.dst v) w → Q (.panic c) a w) (fuel : Nat) : ∀ (listed : Array Bool) (a : Act) (w : World),
   (∀ j oj, ops[j]? = some oj → j ≠ i → listed.getD j true = false → (∀ e ∈ oj.after, Region.binds md e = true → e.on ≠ i) → oi.apart ops oj = true) →
   i ∈ Region.ready md ops listed → unlisted listed cs = true → YieldsIf P ops S oi v a → S w →
   AnyE P md ops Q S L fuel (listed.setIfInBounds i true) (a.put oi.dst v) w → AnyE P md ops Q S L (fuel + 1) listed a w := by
 induction fuel with
 | zero =>
  intro listed a w _ hr _ hy hS H
  refine And.intro (fun h => ?_) (fun j hj => ?_)
  ·rw [h] at hr; exact absurd hr (by simp)
  by_cases hji : j = i
  ·subst hji; exact hy.wpOp hi hS ⟨fun _ => hS, H⟩
  ·have := ready_mono hj hji
   rw [H.1] at this; exact absurd this (by simp)
 | succ fuel ih =>
  intro listed a w hfree hr hun hy hS H
  refine And.intro (fun h => ?_) (fun j hj => ?_)
  ·rw [h] at hr; exact absurd hr (by simp)
  by_cases hji : j = i
  ·subst hji; exact hy.wpOp hi hS ⟨fun _ => hS, H⟩
  have hi0 := (mem_ready.1 hr).1
  have hjc := not_ready hj cs i hi0 hw hun
  have hjL : j ≠ L := fun e => hjc (e ▸ hL)
  obtain ⟨hjun, oj, hoj, hall⟩ := mem_ready.1 hj
  have hnot : ∀ e ∈ oj.after, Region.binds md e = true → e.on ≠ i := fun e he hb heq => by
   have h1 := hall e he hb
   rw [heq] at h1
   rcases Nat.lt_or_ge i listed.size with h' | h'
   ·simp [h'] at hi0 h1; rw [hi0] at h1; cases h1
   ·simp [Array.getElem?_eq_none h'] at h1
  have h2 := wpOp_putIf hoj (hfree j oj hoj hji hjun hnot) (fun cs b => hsel i oi cs b hi) (fun cs b => hsel j oj cs b hoj) hQ hy (H.2 j (ready_mono hj hji))
  refine wpOp_mono (fun a' w' h3 => ?_) h2
  obtain ⟨hy', hS', hrest⟩ := h3
  have hs' := hS' hjL
  refine ⟨fun _ => hs', ih _ a' w' ?_ (ready_mono hr (Ne.symm hji)) ?_ hy' hs' (by rw [Array.setIfInBounds_comm _ _ hji]; exact hrest)⟩
  ·intro k ok hk hki hunk hno
   refine hfree k ok hk hki ?_ hno
   by_cases hjk : j = k
   ·subst hjk; exact hjun
   ·rw [getD_set_ne true hjk] at hunk; exact hunk
  ·unfold unlisted at hun ⊢
   rw [List.all_eq_true] at hun ⊢
   intro c hc
   rw [getD_set_ne true (show j ≠ c from fun e => hjc (by rw [e]; exact hc))]
   exact hun c hc
theorem AnyE.take {i : Nat} {oi : Oper} {v : Value} {fuel : Nat} {listed : Array Bool} {a : Act} {w : World} (cs : List Nat) (d : Option Tmp) (hi : ops[i]? = some oi) (hd : oi.dst = d)
  (hs : Region.noSelect ops = true) (hf : Region.free md ops listed i = true) (hr : (Region.ready md ops listed).contains i = true)
  (hL : cs.contains L = true) (hw : waits md ops i cs = true) (hu : unlisted listed cs = true)
  (hQ : ∀ c a w, Q (.panic c) (a.put d v) w → Q (.panic c) a w) (hS : S w) (hy : YieldsIf P ops S oi v a)
  (h : AnyE P md ops Q S L fuel (listed.setIfInBounds i true) (a.put d v) w) : AnyE P md ops Q S L (fuel + 1) listed a w :=
 AnyE.first cs hi (Region.noSelect_spec hs) (by simpa using hL) hw (by rw [hd]; exact hQ) fuel listed a w (Region.free_spec hi hf) (by simpa using hr) hu hy hS (by rw [hd]; exact h)
/-- One alone may come up. -/
theorem AnyE.one {i : Nat} {o : Oper} {fuel : Nat} {listed : Array Bool} {a : Act} {w : World} (hr : Region.ready md ops listed = [i]) (ho : ops[i]? = some o)
  (h : ∀ K' : Act → World → Prop, Shut (∀ a w, (i ≠ L → S w) → AnyE P md ops Q S L fuel (listed.setIfInBounds i true) a w → K' a w) → if Region.wanted o (yielded ops a.tmps) = true then Oper.wp P o a w K' Q else K' (a.put o.dst undef) w) :
  AnyE P md ops Q S L (fuel + 1) listed a w := by
 refine And.intro (fun h => by rw [h] at hr; exact absurd hr (by simp)) (fun j hj => ?_)
 rw [hr] at hj
 obtain rfl : j = i := by simpa using hj
 exact wpOp_step ho (fun K' hK => h K' (fun a w hS hW => hK a w ⟨hS, hW⟩))
theorem AnyE.done {listed : Array Bool} {a : Act} {w : World} (hr : Region.ready md ops listed = []) (h : Q .normal a w) : ∀ fuel, AnyE P md ops Q S L fuel listed a w
 | 0 => ⟨hr, h⟩
 | _ + 1 => ⟨fun _ => h, by rw [hr]; simp⟩
theorem AnyE.start (S : World → Prop) (L : Nat) {id : Nat} {a : Act} {w : World} (hm : P.follows .mixedOrders = true)
  (h : AnyE P .any ops Q S L ops.size (Array.replicate ops.size false) a w.drew) : (Code.region id ops true).wp P Q a w :=
 wp_region_any hm (AnyE.any _ _ _ _ h)
end

end Go.Proofs.YtgemlgpjbclonaaGreatDoor

/- The scene of a program on a graph: what its texts import. -/

/- The scene of a program on a graph; NewScene. -/
namespace Go.Proofs.YtgemlgpjbclonaaGreatDoor
open Go.RowKit

def backRow (g : Graph) (v : Nat) : List Int := (g.ports.getD v []).map fun l => portF (g.ports.getD l.to.toNat []) v
def backsF (g : Graph) : List (List Int) := (List.range g.ports.length).map (backRow g)
def scenes (p : Prg) (g : Graph) (A1 : Option Addr) (k1 : Nat) (A2 : Option Addr) (k2 : Nat) (A3 : Option Addr) (k3 : Nat) (A4 : Option Addr) (k4 : Nat) (m : Int) (gb : Nat) : Array Value :=
 #[.string p.name, .slice A1 p.vars.length k1, .slice A2 p.rules.length k2, .slice A3 g.ids.length k3, .slice A4 g.ports.length k4, .int .i64 m, .slice (some ⟨gb, 0, none⟩) g.ports.length g.ports.length]
def SceneR (w : World) (B : Nat) (p : Prg) (g : Graph) : Prop :=
 ∃ A1 k1 A2 k2 A3 k3 A4 k4 gb, Blk w B (scenes p g A1 k1 A2 k2 A3 k3 A4 k4 (gmax g.ids) gb) 169 ∧
  PrgV w (.agg #[.string p.name, .slice A1 p.vars.length k1, .slice A2 p.rules.length k2]) p ∧ GraphV w (.agg #[.slice A3 g.ids.length k3, .slice A4 g.ports.length k4]) g ∧ RowsR w (some ⟨gb, 0, none⟩) g.ports.length (backsF g)
theorem SceneR.keep {w w' : World} {B : Nat} {p : Prg} {g : Graph} (h : SceneR w B p g) (k : Bel w w') : SceneR w' B p g := by
 obtain ⟨A1, k1, A2, k2, A3, k3, A4, k4, gb, h1, h2, h3, h4⟩ := h
 exact ⟨A1, k1, A2, k2, A3, k3, A4, k4, gb, h1.keep k, h2.keep k, h3.keep k, h4.keep k⟩
/-- Blocks other than one row's are as they were. -/
def Gr (row : Option Nat) (a b : World) : Prop := a.heap.size ≤ b.heap.size ∧ ∀ k, k < a.heap.size → some k ≠ row → b.heap[k]? = a.heap[k]?
theorem Gr.of_bel {row : Option Nat} {a b : World} (h : Bel a b) : Gr row a b := ⟨h.size, fun k hk _ => h.block k hk⟩
theorem Gr.trans {row : Option Nat} {a b c : World} (h : Gr row a b) (k : Gr row b c) : Gr row a c := ⟨Nat.le_trans h.1 k.1, fun i hi hr => (k.2 i (Nat.lt_of_lt_of_le hi h.1) hr).trans (h.2 i hi hr)⟩
theorem Gr.grown {row : Option Nat} {a b : World} (h : a.grownBy b row) : Gr row a b := ⟨h.size, fun k hk hr => h.block k hk hr⟩
theorem Gr.cell {row : Option Nat} {a b : World} (h : Gr row a b) {k o : Nat} (hk : k < a.heap.size) (hr : some k ≠ row) : b.cell? ⟨k, o, none⟩ = a.cell? ⟨k, o, none⟩ := by
 unfold World.cell?; rw [h.2 k hk hr]
theorem Gr.frozen {row : Option Nat} {a b : World} (h : Gr row a b) {k o : Nat} (hk : k < a.heap.size) (hr : some k ≠ row) : b.frozen? ⟨k, o, none⟩ = a.frozen? ⟨k, o, none⟩ := by
 unfold World.frozen?; rw [h.2 k hk hr]
theorem own_gr {w w' : World} {base : Nat} {e : TypeId} {size gb n c : Nat} {row : Option Nat} {xs : List Value} (h : w.ownsRow base e size (.slice (some ⟨gb, 0, none⟩) n c) n xs) (hf : Gr row w w') (hne : some gb ≠ row) : w'.ownsRow base e size (.slice (some ⟨gb, 0, none⟩) n c) n xs := by
 refine ⟨h.1, ?_⟩
 rcases h.2 with ⟨hv, _⟩ | ⟨g', cap, cur, hv, hb, hg, hr⟩
 ·cases hv
 ·right
  refine ⟨g', cap, cur, hv, hb, ?_, hr⟩
  injection hv with hA; injection hA with hA; injection hA with hA; subst hA
  rw [hf.2 gb (lt_of_block hg) hne]; exact hg
theorem Fr.gr {f : Nat} {row : Option Nat} {a b c : World} (h : Fr f a b) (k : Gr row b c) (hr : ∀ k, row = some k → a.heap.size ≤ k) : Fr f a c :=
 ⟨Nat.le_trans h.1 k.1, fun i hi hne => (k.2 i (Nat.lt_of_lt_of_le hi h.1) (fun e => by have := hr i e.symm; omega)).trans (h.2 i hi hne)⟩
theorem Blk.gr {row : Option Nat} {w w' : World} {B : Nat} {cs : Array Value} {t : TypeId} (h : Blk w B cs t) (k : Gr row w w') (hr : some B ≠ row) : Blk w' B cs t := by
 unfold Blk at *
 rw [k.2 B (lt_of_block h) hr]; exact h
/-- The rows that are done. -/
def BackDone (w : World) (gb S v : Nat) (hs : List Value) (g : Graph) : Prop :=
 ∀ u, u < v → ∃ R c, hs[u]? = some (.slice R (backRow g u).length c) ∧ (backRow g u).length ≤ c ∧ c ≤ maxLen ∧ ∀ x i, (backRow g u)[i]? = some x → ∃ q, R = some ⟨q, 0, none⟩ ∧ q ≠ gb ∧ q ≠ S ∧ q < w.heap.size ∧ w.cell? ⟨q, i, none⟩ = some (.int .i64 x)
theorem BackDone.kept {w w' : World} {gb S v f : Nat} {hs : List Value} {g : Graph} (h : BackDone w gb S v hs g) (hf : Fr f w w') (hne : f = gb ∨ f = S) : BackDone w' gb S v hs g := fun u hu => by
 obtain ⟨R, c, h1, h2, h3, h4⟩ := h u hu
 refine ⟨R, c, h1, h2, h3, fun x i hx => ?_⟩
 obtain ⟨q, e, q1, q2, q3, q4⟩ := h4 x i hx
 exact ⟨q, e, q1, q2, Nat.lt_of_lt_of_le q3 hf.1, (hf.cell q3 (by omega)).trans q4⟩
theorem rows_info : (Tryz.prog.info? 26).map (fun i => (i.zero, i.size, i.bytes)) = some (some (.slice none 0 0), 1, 24) := by kernel_rfl

set_option maxRecDepth 100000 in
set_option maxHeartbeats 4000000 in
theorem newScene_any (v1 : Value) (p : Prg) (v2 : Value) (g : Graph) (w : World) (h : PrgV w v1 p) (h2 : GraphV w v2 g) (hg : GOK g) :
  Calls Tryz.prog 87 #[v1, v2] w fun e w' => ∃ B, e = .returned (.pointer (some ⟨B, 0, none⟩)) ∧ SceneR w' B p g ∧ w.heap.size ≤ B ∧ Bel w w' := by
 have HPV := Lib.hid (fun w' (k : Bel w w') => h.keep k)
 have HGV := Lib.hid (fun w' (k : Bel w w') => h2.keep k)
 obtain ⟨A1, k1, A2, k2, rfl, _, _, _, _, _, _⟩ := h
 obtain ⟨A3, k3, A4, k4, rfl, hI, _, _, hP, _, _⟩ := h2
 have HI := Lib.hid (fun w' (k : Bel w w') => IntsR.keep hI k)
 have HP := Lib.hid (fun w' (k : Bel w w') => PortsR.keep hP k)
 clear hI hP
 have hn : g.ports.length ≤ 24 := hg.le
 have HIL := Lib.hid hg.ids
 have HGO := Lib.hid hg
 obtain ⟨i0, hi0, hz0, hz1, hz2⟩ := info_parts rows_info
 obtain ⟨j0, hj0, hy0, hy1, hy2⟩ := info_parts int_info
 clear hg
 have HW := Bel.refl ((w.alloc (.cells #[.string p.name, .slice A1 p.vars.length k1, .slice A2 p.rules.length k2] 25)).alloc (.cells #[.slice A3 g.ids.length k3, .slice A4 g.ports.length k4] 29))
 obtain ⟨w1, hmk, hown, hgrw⟩ := run_make_full (P := Tryz.prog) ((w.alloc (.cells #[.string p.name, .slice A1 p.vars.length k1, .slice A2 p.rules.length k2] 25)).alloc (.cells #[.slice A3 g.ids.length k3, .slice A4 g.ports.length k4] 29)).drew (w.heap.size + 1 + 1) 50 26 i0 (.slice none 0 0) 1 Tryz.underlying50 hi0 hz0 hz1 .i64 .i64 g.ports.length (by rw [hz2]; omega) (by unfold maxLen; omega) (by simp)
 have ewz : (((w.alloc (.cells #[.string p.name, .slice A1 p.vars.length k1, .slice A2 p.rules.length k2] 25)).alloc (.cells #[.slice A3 g.ids.length k3, .slice A4 g.ports.length k4] 29)).drew).heap.size = w.heap.size + 1 + 1 := by simp
 rw [made_one _ rfl, ewz] at hown
 rw [ewz] at hmk
 have HO := Lib.hid hown
 have HB1 := Lib.hid (HW.drew.grown hgrw (fun k hk => by cases hk))
 have hs1 : w.heap.size + 1 + 1 < w1.heap.size := (own_base hown).2
 clear hown hgrw
 have hcell := Lib.hid (fun w' (kk : Bel ((w.alloc (.cells #[.string p.name, .slice A1 p.vars.length k1, .slice A2 p.rules.length k2] 25)).alloc (.cells #[.slice A3 g.ids.length k3, .slice A4 g.ports.length k4] 29)) w') => pgbox kk)
 go_enter Tryz.func87, Tryz.ntmps87
 go_wp2_with fail
 go_region_held3 (fun w' => w'.cell? ⟨w.heap.size, 0, none⟩ = some (.string p.name) ∧ w'.cell? ⟨w.heap.size, 1, none⟩ = some (.slice A1 p.vars.length k1) ∧ w'.cell? ⟨w.heap.size, 2, none⟩ = some (.slice A2 p.rules.length k2) ∧ w'.cell? ⟨w.heap.size + 1, 0, none⟩ = some (.slice A3 g.ids.length k3) ∧ w'.cell? ⟨w.heap.size + 1, 1, none⟩ = some (.slice A4 g.ports.length k4) ∧ w.heap.size + 1 < w'.heap.size)
  (first | exact hcell.out _ HW.drew | exact hcell.out _ HB1.out | exact hcell.out _ (HB1.out.alloc _))
  (fail)
 obtain ⟨p0, p1, p2, g0, g1, gsz⟩ := pgbox (HB1.out.alloc (.cells (scenes p g A1 k1 A2 k2 A3 k3 A4 k4 0 (w.heap.size + 1 + 1)) 169))
 simp only [scenes] at p0 p1 p2 g0 g1 gsz
 go_wp2_with fail
 have HOa := Lib.hid (HO.out.alloc (.cells (scenes p g A1 k1 A2 k2 A3 k3 A4 k4 0 (w.heap.size + 1 + 1)) 169))
 have HBk := Lib.hid (Blk.new w1 (scenes p g A1 k1 A2 k2 A3 k3 A4 k4 0 (w.heap.size + 1 + 1)) 169)
 have HWa := HB1.out.alloc (.cells (scenes p g A1 k1 A2 k2 A3 k3 A4 k4 0 (w.heap.size + 1 + 1)) 169)
 clear HO HB1 HW hmk p0 p1 p2 g0 g1 gsz
 go_loopg [6, 7, 9, 21] g.ports.length (fun m _x _y _u z wr => ∃ (v : Nat) (hs : List Value), v ≤ g.ports.length ∧ m = g.ports.length - v ∧ z = .int .i64 v ∧ Hid (wr.ownsRow (w.heap.size + 1 + 1) 26 1 (.slice (some ⟨w.heap.size + 1 + 1, 0, none⟩) g.ports.length g.ports.length) g.ports.length hs) ∧ Hid (BackDone wr (w.heap.size + 1 + 1) w1.heap.size v hs g) ∧ Hid (∀ u, v ≤ u → u < g.ports.length → hs[u]? = some (.slice none 0 0)) ∧ Hid (Blk wr w1.heap.size (scenes p g A1 k1 A2 k2 A3 k3 A4 k4 (gmax (g.ids.take v)) (w.heap.size + 1 + 1)) 169) ∧ Bel ((w.alloc (.cells #[.string p.name, .slice A1 p.vars.length k1, .slice A2 p.rules.length k2] 25)).alloc (.cells #[.slice A3 g.ids.length k3, .slice A4 g.ports.length k4] 29)) wr)
 case atStart =>
  refine ⟨0, _, by omega, rfl, rfl, HOa, fun u hu => absurd hu (by omega), fun u _ hu => ?_, HBk, HWa⟩
  rw [List.getElem?_replicate, if_pos hu]
 case round =>
  clear HOa HBk HWa
  obtain ⟨wo, rfl⟩ : ∃ wo : World, wo = wr := ⟨_, rfl⟩
  obtain ⟨v, hs, hv, rfl, rfl, HO, HD, HN, HBk, HW⟩ := hrel
  by_cases hlt : v < g.ports.length
  ·have hd0 : decide (v < g.ports.length) = true := by simpa using hlt
   obtain ⟨p0, p1, p2, g0, g1, gsz⟩ := pgbox HW
   obtain ⟨b, o, R, rc, rfl, hb, hc, hL, hn1, hm1⟩ := (HP.out _ (Bel.refl w)).at_ v hlt
   rw [← (box2_bel HW).cell hb] at hc
   replace hb := Nat.lt_of_lt_of_le hb (box2_bel HW).size
   obtain ⟨bi, oi, rfl, hbi, hci⟩ := (HI.out _ (box2_bel HW)).at_ v (by rw [HIL.out]; exact hlt)
   have HL := Lib.hid (fun w' (k : Bel w w') => LinksR.keep hL k); clear hL
   have hvi : v < g.ids.length := by rw [HIL.out]; exact hlt
   go_wp2_with fail
   have z5 := HBk.out.cell 5 (v := .int .i64 (gmax (g.ids.take v))) rfl
   have zf := HBk.out.frozen 5
   have zl := HBk.out.lt
   refine AnyE.start (fun w' => w' = wo.drew) 13 (by kernel_rfl) ?_
   have hHeld : wo.drew = wo.drew := rfl
   refine AnyE.take (i := 0) (v := ?_) [13] (some 26) rfl rfl (by kernel_rfl) (by kernel_rfl) (by kernel_rfl) (by kernel_rfl) (by kernel_rfl) (by kernel_rfl) (fun _ _ _ h => h) hHeld (Or.inl ⟨by rfl, ?_⟩) ?_
   rotate_left 1; · (intro w' hSw; obtain rfl : w' = _ := hSw; go_simp; try with_reducible rfl)
   (try simp only [Act.put, List.setIfInBounds_toArray, List.set_cons_zero, List.set_cons_succ])
   refine AnyE.take (i := 1) (v := ?_) [13] (some 27) rfl rfl (by kernel_rfl) (by kernel_rfl) (by kernel_rfl) (by kernel_rfl) (by kernel_rfl) (by kernel_rfl) (fun _ _ _ h => h) hHeld (Or.inl ⟨by rfl, ?_⟩) ?_
   rotate_left 1; · (intro w' hSw; obtain rfl : w' = _ := hSw; go_simp; try with_reducible rfl)
   (try simp only [Act.put, List.setIfInBounds_toArray, List.set_cons_zero, List.set_cons_succ])
   refine AnyE.take (i := 2) (v := ?_) [13] (some 28) rfl rfl (by kernel_rfl) (by kernel_rfl) (by kernel_rfl) (by kernel_rfl) (by kernel_rfl) (by kernel_rfl) (fun _ _ _ h => h) hHeld (Or.inl ⟨by rfl, ?_⟩) ?_
   rotate_left 1; · (intro w' hSw; obtain rfl : w' = _ := hSw; go_simp; try with_reducible rfl)
   (try simp only [Act.put, List.setIfInBounds_toArray, List.set_cons_zero, List.set_cons_succ])
   refine AnyE.take (i := 3) (v := ?_) [13] (some 29) rfl rfl (by kernel_rfl) (by kernel_rfl) (by kernel_rfl) (by kernel_rfl) (by kernel_rfl) (by kernel_rfl) (fun _ _ _ h => h) hHeld (Or.inl ⟨by rfl, ?_⟩) ?_
   rotate_left 1; · (intro w' hSw; obtain rfl : w' = _ := hSw; go_simp; try with_reducible rfl)
   (try simp only [Act.put, List.setIfInBounds_toArray, List.set_cons_zero, List.set_cons_succ])
   refine AnyE.take (i := 4) (v := ?_) [13] (some 30) rfl rfl (by kernel_rfl) (by kernel_rfl) (by kernel_rfl) (by kernel_rfl) (by kernel_rfl) (by kernel_rfl) (fun _ _ _ h => h) hHeld (Or.inl ⟨by rfl, ?_⟩) ?_
   rotate_left 1; · (intro w' hSw; obtain rfl : w' = _ := hSw; go_simp; try with_reducible rfl)
   (try simp only [Act.put, List.setIfInBounds_toArray, List.set_cons_zero, List.set_cons_succ])
   refine AnyE.take (i := 5) (v := ?_) [13] (some 31) rfl rfl (by kernel_rfl) (by kernel_rfl) (by kernel_rfl) (by kernel_rfl) (by kernel_rfl) (by kernel_rfl) (fun _ _ _ h => h) hHeld (Or.inl ⟨by rfl, ?_⟩) ?_
   rotate_left 1; · (intro w' hSw; obtain rfl : w' = _ := hSw; go_simp; try with_reducible rfl)
   (try simp only [Act.put, List.setIfInBounds_toArray, List.set_cons_zero, List.set_cons_succ])
   refine AnyE.take (i := 6) (v := ?_) [13] (some 32) rfl rfl (by kernel_rfl) (by kernel_rfl) (by kernel_rfl) (by kernel_rfl) (by kernel_rfl) (by kernel_rfl) (fun _ _ _ h => h) hHeld (Or.inl ⟨by rfl, ?_⟩) ?_
   rotate_left 1; · (intro w' hSw; obtain rfl : w' = _ := hSw; go_simp; try with_reducible rfl)
   (try simp only [Act.put, List.setIfInBounds_toArray, List.set_cons_zero, List.set_cons_succ])
   refine AnyE.take (i := 7) (v := ?_) [13] (some 33) rfl rfl (by kernel_rfl) (by kernel_rfl) (by kernel_rfl) (by kernel_rfl) (by kernel_rfl) (by kernel_rfl) (fun _ _ _ h => h) hHeld (Or.inl ⟨by rfl, ?_⟩) ?_
   rotate_left 1; · (intro w' hSw; obtain rfl : w' = _ := hSw; go_simp; try with_reducible rfl)
   (try simp only [Act.put, List.setIfInBounds_toArray, List.set_cons_zero, List.set_cons_succ])
   refine AnyE.take (i := 8) (v := ?_) [13] (some 34) rfl rfl (by kernel_rfl) (by kernel_rfl) (by kernel_rfl) (by kernel_rfl) (by kernel_rfl) (by kernel_rfl) (fun _ _ _ h => h) hHeld (Or.inl ⟨by rfl, ?_⟩) ?_
   rotate_left 1; · (intro w' hSw; obtain rfl : w' = _ := hSw; go_simp; try with_reducible rfl)
   (try simp only [Act.put, List.setIfInBounds_toArray, List.set_cons_zero, List.set_cons_succ])
   refine AnyE.take (i := 9) (v := ?_) [13] (some 35) rfl rfl (by kernel_rfl) (by kernel_rfl) (by kernel_rfl) (by kernel_rfl) (by kernel_rfl) (by kernel_rfl) (fun _ _ _ h => h) hHeld (Or.inl ⟨by rfl, ?_⟩) ?_
   rotate_left 1; · (intro w' hSw; obtain rfl : w' = _ := hSw; go_simp; try with_reducible rfl)
   (try simp only [Act.put, List.setIfInBounds_toArray, List.set_cons_zero, List.set_cons_succ])
   refine AnyE.take (i := 10) (v := ?_) [13] (some 36) rfl rfl (by kernel_rfl) (by kernel_rfl) (by kernel_rfl) (by kernel_rfl) (by kernel_rfl) (by kernel_rfl) (fun _ _ _ h => h) hHeld (Or.inl ⟨by rfl, ?_⟩) ?_
   rotate_left 1; · (intro w' hSw; obtain rfl : w' = _ := hSw; go_simp; try with_reducible rfl)
   (try simp only [Act.put, List.setIfInBounds_toArray, List.set_cons_zero, List.set_cons_succ])
   refine AnyE.take (i := 11) (v := ?_) [12, 13] (some 37) rfl rfl (by kernel_rfl) (by kernel_rfl) (by kernel_rfl) (by kernel_rfl) (by kernel_rfl) (by kernel_rfl) (fun _ _ _ h => h) hHeld (Or.inl ⟨by rfl, ?_⟩) ?_
   rotate_left 1; · (intro w' hSw; obtain rfl : w' = _ := hSw; go_simp; try with_reducible rfl)
   (try simp only [Act.put, List.setIfInBounds_toArray, List.set_cons_zero, List.set_cons_succ])
   refine AnyE.take (i := 12) (v := ?_) [13] (some 38) rfl rfl (by kernel_rfl) (by kernel_rfl) (by kernel_rfl) (by kernel_rfl) (by kernel_rfl) (by kernel_rfl) (fun _ _ _ h => h) hHeld (Or.inl ⟨by rfl, ?_⟩) ?_
   rotate_left 1; · (intro w' hSw; obtain rfl : w' = _ := hSw; go_simp; try with_reducible rfl)
   (try simp only [Act.put, List.setIfInBounds_toArray, List.set_cons_zero, List.set_cons_succ])
   refine AnyE.one (i := 13) (by kernel_rfl) rfl (fun K hK => ?_)
   go_simp
   refine hK.out _ _ (fun h => absurd rfl h) ?_
   clear hK K
   refine AnyE.done (by kernel_rfl) ?_ _
   have emx : (if gmax (g.ids.take v) < g.ids[v] then g.ids[v] else gmax (g.ids.take v)) = gmax (g.ids.take (v + 1)) := by
    rw [List.take_succ_eq_append_getElem hvi, gmax_snoc]; split <;> omega
   have HBkx := Lib.hid ((HBk.out.set 5 (.int .i64 (gmax (g.ids.take (v + 1))))).drew)
   have hne1 : w.heap.size + 1 + 1 ≠ w1.heap.size := by omega
   have HF1 := ((Fr.refl w1.heap.size wo).set 5 (.int .i64 (gmax (g.ids.take (v + 1))))).drew
   have HOx := Lib.hid (own_fr HO.out HF1 hne1)
   have HDx := Lib.hid (HD.out.kept HF1 (Or.inr rfl))
   have hw1s : w.heap.size + 1 + 1 ≤ w1.heap.size := by omega
   have HWx := (HW.setCell (p := ⟨w1.heap.size, 5, none⟩) (by simpa using hw1s) (.int .i64 (gmax (g.ids.take (v + 1))))).drew
   rw [emx]
   clear HO HD HBk HF1 HW z5 zf emx hHeld p0 p1 p2 g0 g1 gsz hc hci hb hbi
   have hszo : w1.heap.size < (wo.setCell ⟨w1.heap.size, 5, none⟩ (.int .i64 (gmax (g.ids.take (v + 1))))).drew.heap.size := by simpa using zl
   generalize (wo.setCell ⟨w1.heap.size, 5, none⟩ (.int .i64 (gmax (g.ids.take (v + 1))))).drew = wq at *
   clear zl
   have hsl : hs.length = g.ports.length := by have := HOx.out.1; omega
   have hset : hs = hs.set v (.slice none 0 0) := by
    apply List.ext_getElem?
    intro u
    by_cases hu : v = u
    ·subst hu; rw [HN.out v (Nat.le_refl _) hlt, List.getElem?_set_self (by omega)]
    ·rw [List.getElem?_set_ne hu]
   go_wp2_with fail
   have HBky : Hid (Blk wq w1.heap.size (scenes p g A1 k1 A2 k2 (some ⟨bi, oi, none⟩) k3 (some ⟨b, o, none⟩) k4 (gmax (g.ids.take (v + 1))) (w.heap.size + 1 + 1)) 169) := HBkx
   clear HBkx
   have hbl : (backRow g v).length = g.ports[v].length := by unfold backRow; rw [getD_eq hlt, List.length_map]
   have hwq : w.heap.size + 1 + 1 < wq.heap.size := by omega
   have hpl : g.ports[v].length ≤ 24 := by have := linksOK_len hlt (HGO.out.links v hlt); omega
   go_loopg [9, 41] g.ports[v].length (fun m _x z ws => ∃ (j : Nat) (A : Option Addr) (c : Nat), j ≤ g.ports[v].length ∧ m = g.ports[v].length - j ∧ z = .int .i64 j ∧ Hid (ws.ownsRow wq.heap.size 3 1 (.slice A j c) j (((backRow g v).take j).map (Value.int .i64))) ∧ Hid (ws.ownsRow (w.heap.size + 1 + 1) 26 1 (.slice (some ⟨w.heap.size + 1 + 1, 0, none⟩) g.ports.length g.ports.length) g.ports.length (hs.set v (.slice A j c))) ∧ Fr (w.heap.size + 1 + 1) wq ws ∧ Hid (Blk ws w1.heap.size (scenes p g A1 k1 A2 k2 (some ⟨bi, oi, none⟩) k3 (some ⟨b, o, none⟩) k4 (gmax (g.ids.take (v + 1))) (w.heap.size + 1 + 1)) 169) ∧ Bel ((w.alloc (.cells #[.string p.name, .slice A1 p.vars.length k1, .slice A2 p.rules.length k2] 25)).alloc (.cells #[.slice (some ⟨bi, oi, none⟩) g.ids.length k3, .slice (some ⟨b, o, none⟩) g.ports.length k4] 29)) ws)
   case atStart =>
    refine ⟨0, none, 0, by omega, rfl, rfl, World.ownsRow_nil _ _ _ _, ?_, Fr.refl _ _, HBky, HWx⟩
    show World.ownsRow _ _ _ _ _ _ _
    rw [← hset]; exact HOx.out
   case round =>
    obtain ⟨j, A, c, hj, rfl, rfl, HR, HO2, HF, HB, HW⟩ := hrel
    by_cases hlt2 : j < g.ports[v].length
    ·have hd1 : decide (j < g.ports[v].length) = true := by simpa using hlt2
     obtain ⟨_, t, ht, htl, _, _, _⟩ := link_at HGO.out hlt hlt2
     obtain ⟨bl, ol, rfl, hbl2, c0, c1⟩ := (HL.out _ (box2_bel HW)).at_ j hlt2
     rw [ht] at c0
     have hbj : (backRow g v)[j]? = some (portF g.ports[t] v) := by
      unfold backRow
      rw [getD_eq hlt, List.getElem?_map, List.getElem?_eq_getElem hlt2]
      simp only [Option.map_some]
      rw [ht, Int.toNat_natCast, getD_eq htl]
     have HBJ := Lib.hid hbj
     have hsz := HF.1
     obtain ⟨p0, p1, p2, g0, g1, gsz⟩ := pgbox HW
     have hrow : ∀ k, (Value.slice A j c).ownBlock = some k → wq.heap.size ≤ k := fun k hk => (HR.out.lt k hk).1
     have hrk : ∀ k, k < wq.heap.size → some k ≠ (Value.slice A j c).ownBlock := fun k hk e => by have := hrow k e.symm; omega
     have hrk2 : some wr.heap.size ≠ (Value.slice A j c).ownBlock := fun e => by have := (HR.out.lt _ e.symm).2; omega
     have hHRK := Lib.hid hrow
     have hk1 := hrk _ hwq
     have hk2 := hrk (w.heap.size + 1) (by omega)
     have hk3 := hrk _ hszo
     have hcell9 := Lib.hid (fun w' (kk : Gr (Value.slice A j c).ownBlock (wr.alloc (.cells #[.int .i64 (t : Int), .int .i64 g.ports[v][j].weight] 112)) w') => by
      have hB := (Bel.refl wr).alloc (.cells #[.int .i64 (t : Int), .int .i64 g.ports[v][j].weight] 112)
      have hbx := Blk.new wr #[.int .i64 (t : Int), .int .i64 g.ports[v][j].weight] 112
      have h6 := HB.out.cell 6 (v := .slice (some ⟨w.heap.size + 1 + 1, 0, none⟩) g.ports.length g.ports.length) rfl
      have hv1 : wr.cell? ⟨w.heap.size + 1 + 1, v, none⟩ = some (.slice A j c) := by
       have := own_cell0 HO2.out v (by simp; omega)
       simpa using this
      have hs1 := kk.1
      simp only [World.size_alloc] at hs1
      exact show w'.cell? ⟨w1.heap.size, 6, none⟩ = some (.slice (some ⟨w.heap.size + 1 + 1, 0, none⟩) g.ports.length g.ports.length) ∧ w'.cell? ⟨w.heap.size + 1 + 1, v, none⟩ = some (.slice A j c) ∧ w'.cell? ⟨w.heap.size + 1, 0, none⟩ = some (.slice (some ⟨bi, oi, none⟩) g.ids.length k3) ∧ w'.cell? ⟨w.heap.size + 1, 1, none⟩ = some (.slice (some ⟨b, o, none⟩) g.ports.length k4) ∧ w'.cell? ⟨wr.heap.size, 0, none⟩ = some (.int .i64 (t : Int)) ∧ w'.frozen? ⟨w.heap.size + 1 + 1, v, none⟩ = false from
       ⟨(kk.cell (by simp; omega) hk3).trans ((hB.cell (by omega)).trans h6), (kk.cell (by simp; omega) hk1).trans ((hB.cell (by omega)).trans hv1), (kk.cell (by simp; omega) hk2).trans ((hB.cell (by omega)).trans g0), (kk.cell (by simp; omega) hk2).trans ((hB.cell (by omega)).trans g1), (kk.cell (by simp) hrk2).trans (hbx.cell 0 rfl), (kk.frozen (by simp; omega) hk1).trans ((HO2.out.alloc (.cells #[.int .i64 (t : Int), .int .i64 g.ports[v][j].weight] 112)).frozenAt v)⟩)
     have HWb := HW.alloc (.cells #[.int .i64 (t : Int), .int .i64 g.ports[v][j].weight] 112)
     have HRb := Lib.hid (HR.out.alloc (.cells #[.int .i64 (t : Int), .int .i64 g.ports[v][j].weight] 112)).drew
     clear hrow hrk hrk2 hk1 hk2 hk3 hbj ht
     go_wp2_with fail
     clear c0 c1 p0 p1 p2 g0 g1 gsz
     refine AnyE.start (fun w' => w'.cell? ⟨w1.heap.size, 6, none⟩ = some (.slice (some ⟨w.heap.size + 1 + 1, 0, none⟩) g.ports.length g.ports.length) ∧ w'.cell? ⟨w.heap.size + 1 + 1, v, none⟩ = some (.slice A j c) ∧ w'.cell? ⟨w.heap.size + 1, 0, none⟩ = some (.slice (some ⟨bi, oi, none⟩) g.ids.length k3) ∧ w'.cell? ⟨w.heap.size + 1, 1, none⟩ = some (.slice (some ⟨b, o, none⟩) g.ports.length k4) ∧ w'.cell? ⟨wr.heap.size, 0, none⟩ = some (.int .i64 (t : Int)) ∧ w'.frozen? ⟨w.heap.size + 1 + 1, v, none⟩ = false) 20 (by kernel_rfl) ?_
     have HG := (Gr.of_bel (row := (Value.slice A j c).ownBlock) (Bel.refl (wr.alloc (.cells #[.int .i64 (t : Int), .int .i64 g.ports[v][j].weight] 112))).drew)
     have hHeld := hcell9.out _ HG
     refine AnyE.take (i := 0) (v := ?_) [20] (some 45) rfl rfl (by kernel_rfl) (by kernel_rfl) (by kernel_rfl) (by kernel_rfl) (by kernel_rfl) (by kernel_rfl) (fun _ _ _ h => h) hHeld (Or.inl ⟨by rfl, ?_⟩) ?_
     rotate_left 1; · (intro w' hSw; (try dsimp only at hSw); go_simp; try with_reducible rfl)
     (try simp only [Act.put, List.setIfInBounds_toArray, List.set_cons_zero, List.set_cons_succ])
     refine AnyE.take (i := 1) (v := ?_) [20] (some 46) rfl rfl (by kernel_rfl) (by kernel_rfl) (by kernel_rfl) (by kernel_rfl) (by kernel_rfl) (by kernel_rfl) (fun _ _ _ h => h) hHeld (Or.inl ⟨by rfl, ?_⟩) ?_
     rotate_left 1; · (intro w' hSw; (try dsimp only at hSw); go_simp; try with_reducible rfl)
     (try simp only [Act.put, List.setIfInBounds_toArray, List.set_cons_zero, List.set_cons_succ])
     refine AnyE.take (i := 2) (v := ?_) [20] (some 47) rfl rfl (by kernel_rfl) (by kernel_rfl) (by kernel_rfl) (by kernel_rfl) (by kernel_rfl) (by kernel_rfl) (fun _ _ _ h => h) hHeld (Or.inl ⟨by rfl, ?_⟩) ?_
     rotate_left 1; · (intro w' hSw; (try dsimp only at hSw); go_simp; try with_reducible rfl)
     (try simp only [Act.put, List.setIfInBounds_toArray, List.set_cons_zero, List.set_cons_succ])
     refine AnyE.take (i := 3) (v := ?_) [20] (some 48) rfl rfl (by kernel_rfl) (by kernel_rfl) (by kernel_rfl) (by kernel_rfl) (by kernel_rfl) (by kernel_rfl) (fun _ _ _ h => h) hHeld (Or.inl ⟨by rfl, ?_⟩) ?_
     rotate_left 1; · (intro w' hSw; (try dsimp only at hSw); go_simp; try with_reducible rfl)
     (try simp only [Act.put, List.setIfInBounds_toArray, List.set_cons_zero, List.set_cons_succ])
     refine AnyE.take (i := 4) (v := ?_) [20] (some 49) rfl rfl (by kernel_rfl) (by kernel_rfl) (by kernel_rfl) (by kernel_rfl) (by kernel_rfl) (by kernel_rfl) (fun _ _ _ h => h) hHeld (Or.inl ⟨by rfl, ?_⟩) ?_
     rotate_left 1; · (intro w' hSw; (try dsimp only at hSw); go_simp; try with_reducible rfl)
     (try simp only [Act.put, List.setIfInBounds_toArray, List.set_cons_zero, List.set_cons_succ])
     refine AnyE.take (i := 5) (v := ?_) [20] (some 50) rfl rfl (by kernel_rfl) (by kernel_rfl) (by kernel_rfl) (by kernel_rfl) (by kernel_rfl) (by kernel_rfl) (fun _ _ _ h => h) hHeld (Or.inl ⟨by rfl, ?_⟩) ?_
     rotate_left 1; · (intro w' hSw; (try dsimp only at hSw); go_simp; try with_reducible rfl)
     (try simp only [Act.put, List.setIfInBounds_toArray, List.set_cons_zero, List.set_cons_succ])
     refine AnyE.take (i := 6) (v := ?_) [20] (some 51) rfl rfl (by kernel_rfl) (by kernel_rfl) (by kernel_rfl) (by kernel_rfl) (by kernel_rfl) (by kernel_rfl) (fun _ _ _ h => h) hHeld (Or.inl ⟨by rfl, ?_⟩) ?_
     rotate_left 1; · (intro w' hSw; (try dsimp only at hSw); go_simp; try with_reducible rfl)
     (try simp only [Act.put, List.setIfInBounds_toArray, List.set_cons_zero, List.set_cons_succ])
     refine AnyE.take (i := 7) (v := ?_) [20] (some 52) rfl rfl (by kernel_rfl) (by kernel_rfl) (by kernel_rfl) (by kernel_rfl) (by kernel_rfl) (by kernel_rfl) (fun _ _ _ h => h) hHeld (Or.inl ⟨by rfl, ?_⟩) ?_
     rotate_left 1; · (intro w' hSw; (try dsimp only at hSw); go_simp; try with_reducible rfl)
     (try simp only [Act.put, List.setIfInBounds_toArray, List.set_cons_zero, List.set_cons_succ])
     refine AnyE.take (i := 8) (v := ?_) [20] (some 53) rfl rfl (by kernel_rfl) (by kernel_rfl) (by kernel_rfl) (by kernel_rfl) (by kernel_rfl) (by kernel_rfl) (fun _ _ _ h => h) hHeld (Or.inl ⟨by rfl, ?_⟩) ?_
     rotate_left 1; · (intro w' hSw; (try dsimp only at hSw); go_simp; try with_reducible rfl)
     (try simp only [Act.put, List.setIfInBounds_toArray, List.set_cons_zero, List.set_cons_succ])
     refine AnyE.take (i := 9) (v := ?_) [20] (some 54) rfl rfl (by kernel_rfl) (by kernel_rfl) (by kernel_rfl) (by kernel_rfl) (by kernel_rfl) (by kernel_rfl) (fun _ _ _ h => h) hHeld (Or.inl ⟨by rfl, ?_⟩) ?_
     rotate_left 1; · (intro w' hSw; (try dsimp only at hSw); go_simp; try with_reducible rfl)
     (try simp only [Act.put, List.setIfInBounds_toArray, List.set_cons_zero, List.set_cons_succ])
     refine AnyE.take (i := 10) (v := ?_) [20] (some 55) rfl rfl (by kernel_rfl) (by kernel_rfl) (by kernel_rfl) (by kernel_rfl) (by kernel_rfl) (by kernel_rfl) (fun _ _ _ h => h) hHeld (Or.inl ⟨by rfl, ?_⟩) ?_
     rotate_left 1; · (intro w' hSw; (try dsimp only at hSw); go_simp; try with_reducible rfl)
     (try simp only [Act.put, List.setIfInBounds_toArray, List.set_cons_zero, List.set_cons_succ])
     refine AnyE.take (i := 11) (v := ?_) [20] (some 56) rfl rfl (by kernel_rfl) (by kernel_rfl) (by kernel_rfl) (by kernel_rfl) (by kernel_rfl) (by kernel_rfl) (fun _ _ _ h => h) hHeld (Or.inl ⟨by rfl, ?_⟩) ?_
     rotate_left 1; · (intro w' hSw; (try dsimp only at hSw); go_simp; try with_reducible rfl)
     (try simp only [Act.put, List.setIfInBounds_toArray, List.set_cons_zero, List.set_cons_succ])
     refine AnyE.take (i := 12) (v := ?_) [20] (some 57) rfl rfl (by kernel_rfl) (by kernel_rfl) (by kernel_rfl) (by kernel_rfl) (by kernel_rfl) (by kernel_rfl) (fun _ _ _ h => h) hHeld (Or.inl ⟨by rfl, ?_⟩) ?_
     rotate_left 1; · (intro w' hSw; (try dsimp only at hSw); go_simp; try with_reducible rfl)
     (try simp only [Act.put, List.setIfInBounds_toArray, List.set_cons_zero, List.set_cons_succ])
     refine AnyE.take (i := 13) (v := ?_) [20] (some 58) rfl rfl (by kernel_rfl) (by kernel_rfl) (by kernel_rfl) (by kernel_rfl) (by kernel_rfl) (by kernel_rfl) (fun _ _ _ h => h) hHeld (Or.inl ⟨by rfl, ?_⟩) ?_
     rotate_left 1; · (intro w' hSw; (try dsimp only at hSw); go_simp; try with_reducible rfl)
     (try simp only [Act.put, List.setIfInBounds_toArray, List.set_cons_zero, List.set_cons_succ])
     refine AnyE.take (i := 14) (v := ?_) [20] (some 59) rfl rfl (by kernel_rfl) (by kernel_rfl) (by kernel_rfl) (by kernel_rfl) (by kernel_rfl) (by kernel_rfl) (fun _ _ _ h => h) hHeld (Or.inl ⟨by rfl, ?_⟩) ?_
     rotate_left 1; · (intro w' hSw; (try dsimp only at hSw); go_simp; try with_reducible rfl)
     (try simp only [Act.put, List.setIfInBounds_toArray, List.set_cons_zero, List.set_cons_succ])
     refine AnyE.take (i := 15) (v := ?_) [20] (some 60) rfl rfl (by kernel_rfl) (by kernel_rfl) (by kernel_rfl) (by kernel_rfl) (by kernel_rfl) (by kernel_rfl) (fun _ _ _ h => h) hHeld (Or.inl ⟨by rfl, ?_⟩) ?_
     rotate_left 1; · (intro w' hSw; (try dsimp only at hSw); go_simp; try with_reducible rfl)
     (try simp only [Act.put, List.setIfInBounds_toArray, List.set_cons_zero, List.set_cons_succ])
     refine AnyE.one (i := 16) (by kernel_rfl) rfl (fun K hK => ?_)
     go_simp
     go_at_call 114
     refine (portTo_any _ g t v _ (HGV.out _ (box2_bel HWb.drew)) htl).mono ?_
     rintro e w4 ⟨rfl, hb4⟩
     replace HG := HG.trans (Gr.of_bel hb4)
     replace HWb := HWb.drew.trans hb4
     replace HRb := Lib.hid (hb4.owns HRb.out)
     have HS4 := hb4.size
     clear hb4 hHeld
     (try go_simp)
     refine hK.out _ _ (fun _ => hcell9.out _ HG) ?_
     clear hK K
     (try simp only [Act.put, List.setIfInBounds_toArray, List.set_cons_zero, List.set_cons_succ])
     refine AnyE.one (i := 17) (by kernel_rfl) rfl (fun K hK => ?_)
     go_simp
     replace HG := HG.trans (Gr.of_bel ((Bel.refl w4).alloc (.cells #[.int .i64 (portF g.ports[t] v)] 3)))
     replace HWb := HWb.alloc (.cells #[.int .i64 (portF g.ports[t] v)] 3)
     replace HRb := Lib.hid (HRb.out.alloc (.cells #[.int .i64 (portF g.ports[t] v)] 3))
     refine hK.out _ _ (fun _ => hcell9.out _ HG) ?_
     clear hK K
     (try simp only [Act.put, List.setIfInBounds_toArray, List.set_cons_zero, List.set_cons_succ])
     refine AnyE.one (i := 18) (by kernel_rfl) rfl (fun K hK => ?_)
     refine step_push _ rfl (.tmp 56) (.tmp 62) 26 rfl wq.heap.size 3 j0 (.int .i64 0) 1 8 Tryz.underlying26 hj0 hy0 hy1 hy2 rfl (by decide) A j c (((backRow g v).take j).map (Value.int .i64)) (by simp [Act.eval]) HRb.out w4.heap.size #[.int .i64 (portF g.ports[t] v)] 3 (0, 0) (by simp [Act.eval]) (heap_new _ _) rfl (one_int _ _) (by unfold maxLen; omega) (by omega) (by have := HG.1; simp only [World.size_alloc] at this ⊢; omega) ?_
     intro A' c' w6 hown hgr hat
     replace HG := HG.trans (Gr.grown hgr)
     replace HWb := HWb.grown hgr (fun k hk => by have := hHRK.out k hk; simp; omega)
     have HR6 := Lib.hid hown
     clear hown hgr hat HRb HS4
     refine hK.out _ _ (fun _ => hcell9.out _ HG) ?_
     clear hK K
     have hHeld := hcell9.out _ HG
     (try simp only [Act.put, List.setIfInBounds_toArray, List.set_cons_zero, List.set_cons_succ])
     refine AnyE.take (i := 19) (v := ?_) [20] (some 64) rfl rfl (by kernel_rfl) (by kernel_rfl) (by kernel_rfl) (by kernel_rfl) (by kernel_rfl) (by kernel_rfl) (fun _ _ _ h => h) hHeld (Or.inl ⟨by rfl, ?_⟩) ?_
     rotate_left 1; · (intro w' hSw; (try dsimp only at hSw); go_simp; try with_reducible rfl)
     (try simp only [Act.put, List.setIfInBounds_toArray, List.set_cons_zero, List.set_cons_succ])
     refine AnyE.one (i := 20) (by kernel_rfl) rfl (fun K hK => ?_)
     go_simp
     refine hK.out _ _ (fun h => absurd rfl h) ?_
     clear hK K hHeld
     refine AnyE.done (by kernel_rfl) ?_ _
     go_wp2_with fail
     go_roundg (g.ports[v].length - (j + 1))
     case rel =>
      have hbd := own_base (own_gr HO2.out ((Gr.of_bel ((Bel.refl wr).alloc (.cells #[.int .i64 (t : Int), .int .i64 g.ports[v][j].weight] 112))).trans HG) (fun e => by have := hHRK.out _ e.symm; omega))
      refine ⟨j + 1, A', c', by omega, rfl, by go_num, ?_, ?_, ?_, ?_, ?_⟩
      ·have h1 := HR6.out
       obtain ⟨g', cap, hv', hb', hg'⟩ := h1.form (by omega)
       injection hv' with hA _ hc'
       subst hA; subst hc'
       have h2 := own_fr h1 ((Fr.refl (w.heap.size + 1 + 1) w6).set v (.slice (some ⟨g', 0, none⟩) (j + 1) c')) (by omega)
       have e : (((backRow g v).take j).map (Value.int .i64)) ++ [Value.int .i64 (portF g.ports[t] v)] = ((backRow g v).take (j + 1)).map (Value.int .i64) := by
        rw [List.take_add_one, HBJ.out, List.map_append]; rfl
       show World.ownsRow _ _ _ _ _ _ _
       rw [← e]; exact h2
      ·have h1 := own_gr HO2.out ((Gr.of_bel ((Bel.refl wr).alloc (.cells #[.int .i64 (t : Int), .int .i64 g.ports[v][j].weight] 112))).trans HG) (fun e => by have := hHRK.out _ e.symm; omega)
       have h2 := (h1.stored v (.slice A' (j + 1) c')).1
       rw [List.set_set] at h2
       exact h2
      ·exact ((HF.alloc (.cells #[.int .i64 (t : Int), .int .i64 g.ports[v][j].weight] 112)).gr HG hHRK.out).trans ((Fr.refl _ w6).set v _)
      ·exact ((HB.out.alloc (.cells #[.int .i64 (t : Int), .int .i64 g.ports[v][j].weight] 112)).gr HG (fun e => by have := hHRK.out _ e.symm; omega)).other (by simp; omega) _
      ·exact HWb.setCell (by simp) _
     case measure => omega
    ·have hd1 : decide (j < g.ports[v].length) = false := by simpa using hlt2
     obtain rfl : j = g.ports[v].length := by omega
     go_wp2_with fail
     go_roundg (g.ports.length - (v + 1))
     case rel =>
      refine ⟨v + 1, _, by omega, rfl, by go_num, HO2, ?_, ?_, HB, HW⟩
      ·intro u hu
       rcases Nat.lt_or_ge u v with h | h
       ·obtain ⟨R', c', h1, h2, h3, h4⟩ := (HDx.out.kept HF (Or.inl rfl)) u h
        exact ⟨R', c', by rw [List.getElem?_set_ne (by omega)]; exact h1, h2, h3, h4⟩
       ·obtain rfl : u = v := by omega
        obtain ⟨hc1, hc2⟩ := own_cap HR.out
        refine ⟨A, c, by rw [List.getElem?_set_self (by omega), hbl], by omega, hc2, fun x i hx => ?_⟩
        have hR := HR.out
        rw [List.take_of_length_le (by omega)] at hR
        obtain ⟨q, e1, e2, e3, e4, _⟩ := own_at hR (j := i) (u := .int .i64 x) (by rw [List.getElem?_map, hx]; rfl)
        exact ⟨q, e1, by omega, by omega, e3, e4⟩
      ·intro u hu hu2
       rw [List.getElem?_set_ne (by omega)]
       exact HN.out u (by omega) hu2
     case measure => omega
  ·have hd0 : decide (v < g.ports.length) = false := by simpa using hlt
   obtain rfl : v = g.ports.length := by omega
   go_wp2_with fail
   go_ret
   have hB := HBk.out
   rw [List.take_of_length_le (by rw [HIL.out]; exact Nat.le_refl _)] at hB
   refine ⟨w1.heap.size, rfl, ⟨A1, k1, A2, k2, A3, k3, A4, k4, w.heap.size + 1 + 1, hB, HPV.out _ (box2_bel HW), HGV.out _ (box2_bel HW), ⟨by simp [backsF], fun u x hx => ?_⟩⟩, by omega, box2_bel HW⟩
   have hul : u < (backsF g).length := (List.getElem?_eq_some_iff.1 hx).1
   have hu : u < g.ports.length := by simpa [backsF] using hul
   have hxe : x = backRow g u := by
    unfold backsF at hx
    rw [List.getElem?_map, List.getElem?_range hu] at hx
    simpa using hx.symm
   subst hxe
   obtain ⟨R, c, h1, h2, h3, h4⟩ := HD.out u hu
   obtain ⟨g', e1, _, hlt', hcl, _⟩ := own_at HO.out h1
   obtain rfl : w.heap.size + 1 + 1 = g' := by simpa using e1
   refine ⟨_, 0, rfl, hlt', R, c, by rw [Nat.zero_add, Nat.mul_one]; exact hcl, ⟨rfl, fun i y hy => ?_⟩, h2, h3⟩
   obtain ⟨q, e, _, _, q3, q4⟩ := h4 y i hy
   exact ⟨q, 0, e, q3, by rw [Nat.zero_add, Nat.mul_one]; exact q4⟩

end Go.Proofs.YtgemlgpjbclonaaGreatDoor

/- Contracts: the program's Fact. -/
namespace Go.Proofs.YtgemlgpjbclonaaGreatDoor
open Go.RowKit

set_option maxRecDepth 100000 in
set_option maxHeartbeats 4000000 in
theorem fact_any (B : Nat) (p : Prg) (g : Graph) (op : Int) (v : Nat) (port : Int) (b : Bool) (w : World) (hS : SceneR w B p g) (hg : GOK g) (hv : v < g.ports.length) (hop : 6 ≤ op ∧ op ≤ 17 ∧ op ≠ 12) (hb : nearOp op = true → b = true) (hp : portOK g v b port) :
  Calls Tryz.prog 149 #[.pointer (some ⟨B, 0, none⟩), .int .i64 op, .int .i64 v, .int .i64 port] w fun e w' => e = .returned (.int .i64 (factF g op v port)) ∧ Bel w w' := by
 obtain ⟨A1, k1, A2, k2, A3, k3, A4, k4, gb, hB, _, hGV, hBK⟩ := hS
 have z3 := hB.cell 3 (v := .slice A3 g.ids.length k3) rfl
 have z4 := hB.cell 4 (v := .slice A4 g.ports.length k4) rfl
 have z5 := hB.cell 5 (v := .int .i64 (gmax g.ids)) rfl
 have z6 := hB.cell 6 (v := .slice (some ⟨gb, 0, none⟩) g.ports.length g.ports.length) rfl
 have zl := hB.lt
 obtain ⟨A, k, A2', k2', eG, hI, _, _, hP, _, _⟩ := hGV
 obtain ⟨⟨rfl, rfl⟩, rfl, rfl⟩ : (A3 = A ∧ k3 = k) ∧ A4 = A2' ∧ k4 = k2' := by simpa using eG
 have hids := hg.ids
 have hle := hg.le
 have hvi : v < g.ids.length := by omega
 have hbkl : (backsF g).length = g.ports.length := by simp [backsF]
 have hbkv : (backsF g)[v]'(by omega) = backRow g v := by simp [backsF]
 obtain ⟨b1, o1, rfl, hb1, hid⟩ := hI.at_ v hvi
 obtain ⟨b2, o2, R, rc, rfl, hb2, hrow, hL, _, _⟩ := hP.at_ v hv
 obtain ⟨b6, o6, R6, rc6, e6, hb6, hrow6, hL6, hn6, hm6⟩ := hBK.at_ v (by omega)
 obtain ⟨rfl, rfl⟩ : gb = b6 ∧ 0 = o6 := by simpa using e6
 rw [hbkv] at hrow6 hL6
 clear hn6 hm6
 rw [Nat.zero_add] at hrow6
 have hdv : decide (v < g.ports.length) = true := by simpa using hv
 have hdi : decide (v < g.ids.length) = true := by simpa using hvi
 have hbr : (backRow g v).length = g.ports[v].length := by unfold backRow; rw [getD_eq hv, List.length_map]
 rw [hbr] at hrow6
 have HID := Lib.hid hids
 have HBR := Lib.hid hbr
 clear hids hB eG e6 hbkv hbr
 rcases fact_op hop with (rfl | rfl | rfl | rfl | rfl | rfl) | hnear
 ·have HF : Hid (factF g 6 v port = g.ids.length) := rfl
  clear hI hP hb hp hop hBK hL6 hL
  go_enter Tryz.func149, Tryz.ntmps149
  go_wp2
  go_ret
  exact ⟨ret_int HF.out.symm, Bel.refl _⟩
 ·clear hI hP hb hp hop hBK hL6 hL
  have HF : Hid (factF g 7 v port = gmax g.ids) := rfl
  go_enter Tryz.func149, Tryz.ntmps149
  go_wp2
  go_ret
  exact ⟨ret_int HF.out.symm, Bel.refl _⟩
 ·have HF : Hid (factF g 8 v port = g.ids[v]) := getD_eq hvi
  clear hI hP hb hp hop hBK hL6 hL
  go_enter Tryz.func149, Tryz.ntmps149
  go_wp2
  go_ret
  exact ⟨ret_int HF.out.symm, Bel.refl _⟩
 ·have HF : Hid (factF g 9 v port = (g.ports[v].length : Int)) := by show factF g 9 v port = _; rw [← getD_eq (d := []) hv]; rfl
  clear hI hP hb hp hop hBK hL6 hL
  go_enter Tryz.func149, Tryz.ntmps149
  go_wp2
  go_ret
  exact ⟨ret_int HF.out.symm, Bel.refl _⟩
 ·have HF : Hid (factF g 10 v port = truthI (decide (v = 0))) := rfl
  obtain ⟨z, hz⟩ : ∃ z, decide (v = 0) = z := ⟨_, rfl⟩
  rw [hz] at HF
  have hz1 : ((v : Int) == 0) = z := by rw [← hz, Bool.eq_iff_iff]; simp
  have hz2 : (v == 0) = z := by rw [← hz, Bool.eq_iff_iff]; simp
  clear hI hP hb hp hop hz hBK hL6 hL
  go_enter Tryz.func149, Tryz.ntmps149
  go_wp2_with (go_at_call 150; refine (truth_any _ _).mono ?_; rintro e w' ⟨rfl, rfl⟩)
  go_ret
  exact ⟨ret_int HF.out.symm, Bel.refl _⟩
 ·have HF : Hid (factF g 11 v port = port) := rfl
  clear hI hP hb hp hop hBK hL6 hL
  go_enter Tryz.func149, Tryz.ntmps149
  go_wp2
  go_ret
  exact ⟨ret_int HF.out.symm, Bel.refl _⟩
 ·obtain ⟨q, rfl, hq⟩ := hp (hb (by unfold nearOp; simp; omega))
  rw [getD_eq hv] at hq
  obtain ⟨e, t, ht, htl, _⟩ := link_at hg hv hq
  obtain ⟨b3, o3, rfl, hb3, hto, hwe⟩ := hL.at_ q hq
  have hti : t < g.ids.length := by rw [HID.out]; exact htl
  obtain ⟨b4, o4, e4, _, hid4⟩ := hI.at_ t hti
  obtain ⟨rfl, rfl⟩ : b1 = b4 ∧ o1 = o4 := by simpa using e4
  obtain ⟨b5, o5, R5, rc5, e5, _, hrow5, _, _, _⟩ := hP.at_ t htl
  obtain ⟨rfl, rfl⟩ : b2 = b5 ∧ o2 = o5 := by simpa using e5
  obtain ⟨b7, o7, rfl, hb7, hbk⟩ := hL6.at_ q (by rw [HBR.out]; exact hq)
  have hbe : (backRow g v)[q]'(by rw [HBR.out]; exact hq) = portF g.ports[t] v := by
   have : (backRow g v)[q]? = some (portF g.ports[t] v) := by
    unfold backRow
    rw [getD_eq hv, List.getElem?_map, List.getElem?_eq_getElem hq]
    simp only [Option.map_some]
    rw [ht, Int.toNat_natCast, getD_eq htl]
   exact (List.getElem?_eq_some_iff.1 this).2
  rw [hbe] at hbk
  rw [ht] at hto
  have hdt : decide (t < g.ports.length) = true := by simpa using htl
  have hdti : decide (t < g.ids.length) = true := by simpa using hti
  have hdq : decide (q < g.ports[v].length) = true := by simpa using hq
  have HE := Lib.hid e
  have HT := Lib.hid ht
  clear hI hP hb hp hop e4 e5 e ht hL hBK hL6 hbe
  rcases hnear with rfl | rfl | rfl | rfl | rfl
  ·have HF : Hid (factF g 13 v (q : Int) = g.ids[t]) := by show g.ids.getD (linkF g v q).to.toNat 0 = _; rw [HE.out, HT.out, Int.toNat_natCast, getD_eq hti]
   go_enter Tryz.func149, Tryz.ntmps149
   go_wp2_with fail
   go_quiet (fail)
   go_wp2_with fail
   go_ret
   exact ⟨ret_int HF.out.symm, (((Bel.refl w).alloc _).drewN _)⟩
  ·have HF : Hid (factF g 14 v (q : Int) = (g.ports[t].length : Int)) := by show ((g.ports.getD (linkF g v q).to.toNat []).length : Int) = _; rw [HE.out, HT.out, Int.toNat_natCast, getD_eq htl]
   go_enter Tryz.func149, Tryz.ntmps149
   go_wp2_with fail
   go_quiet (fail)
   go_wp2_with fail
   go_ret
   exact ⟨ret_int HF.out.symm, (((Bel.refl w).alloc _).drewN _)⟩
  ·have HF : Hid (factF g 15 v (q : Int) = truthI (decide ((t : Int) = 0))) := by show truthI (decide ((linkF g v q).to = 0)) = _; rw [HE.out, HT.out]
   obtain ⟨z, hz⟩ : ∃ z, decide ((t : Int) = 0) = z := ⟨_, rfl⟩
   rw [hz] at HF
   have hz1 : ((t : Int) == 0) = z := by rw [← hz, Bool.eq_iff_iff]; simp
   have hz2 : (t == 0) = z := by rw [← hz, Bool.eq_iff_iff]; simp
   clear hz
   go_enter Tryz.func149, Tryz.ntmps149
   go_wp2_with (go_at_call 150; refine (truth_any _ _).mono ?_; rintro e w' ⟨rfl, rfl⟩)
   go_ret
   exact ⟨ret_int HF.out.symm, ((Bel.refl w).alloc _)⟩
  ·have HF : Hid (factF g 16 v (q : Int) = g.ports[v][q].weight) := by show (linkF g v q).weight = _; rw [HE.out]
   go_enter Tryz.func149, Tryz.ntmps149
   go_wp2
   go_ret
   exact ⟨ret_int HF.out.symm, ((Bel.refl w).alloc _)⟩
  ·have HF : Hid (factF g 17 v (q : Int) = portF g.ports[t] v) := by show portF (g.ports.getD (linkF g v q).to.toNat []) v = _; rw [HE.out, HT.out, Int.toNat_natCast, getD_eq htl]
   go_enter Tryz.func149, Tryz.ntmps149
   go_wp2
   go_ret
   exact ⟨ret_int HF.out.symm, ((Bel.refl w).alloc _)⟩

end Go.Proofs.YtgemlgpjbclonaaGreatDoor

