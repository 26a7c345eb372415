/- Merged of: WQd P18f PSe PM (see NOTES.md). -/
import Derived.Test.YtgemlgpjbclonaaGreatDoorZ04
import Derived.Test.YtgemlgpjbclonaaGreatDoorZ23
import Derived.Test.YtgemlgpjbclonaaGreatDoorZ03
set_option linter.unusedSimpArgs false
set_option linter.unnecessarySimpa false
set_option linter.unusedVariables false

/- Contracts: the program's daemons: sets that are independent. -/
namespace Go.Proofs.YtgemlgpjbclonaaGreatDoor
open Go.RowKit
attribute [local go_sem] Oper.semAt_some

def MaskAt (w : World) (b o : Nat) (x : Nat) : Prop := w.cell? ⟨b, o, none⟩ = some (.int .u32 (x : Int))
theorem MaskAt.keeps : Keeps MaskAt := fun _ _ _ _ _ k hb h => (k.cell hb).trans h
def MasksR := SliceR 1 MaskAt
theorem MasksR.keep {w w' : World} {A : Option Addr} {n : Nat} {xs : List Nat} (h : MasksR w A n xs) (k : Bel w w') : MasksR w' A n xs := SliceR.keep MaskAt.keeps h k
theorem MasksR.at_ {w : World} {A : Option Addr} {n : Nat} {xs : List Nat} (h : MasksR w A n xs) (k : Nat) (hk : k < xs.length) :
  ∃ b o, A = some ⟨b, o, none⟩ ∧ b < w.heap.size ∧ w.cell? ⟨b, o + k, none⟩ = some (.int .u32 (xs[k] : Int)) := by
 obtain ⟨b, o, e, hb, h⟩ := SliceR.at_ h k hk
 exact ⟨b, o, e, hb, by rw [Nat.mul_one] at h; exact h⟩
def netsF (g : Graph) : List Nat := (List.range g.ports.length).map (netV g)
def NetR (w : World) (A : Option Addr) (g : Graph) : Prop := MasksR w A g.ports.length (netsF g)
theorem NetR.keep {w w' : World} {A : Option Addr} {g : Graph} (h : NetR w A g) (k : Bel w w') : NetR w' A g := MasksR.keep h k
theorem NetR.at_ {w : World} {A : Option Addr} {g : Graph} (h : NetR w A g) {v : Nat} (hv : v < g.ports.length) :
  ∃ b o, A = some ⟨b, o, none⟩ ∧ b < w.heap.size ∧ w.cell? ⟨b, o + v, none⟩ = some (.int .u32 (netV g v : Int)) := by
 obtain ⟨b, o, e, hb, h⟩ := MasksR.at_ h v (by unfold netsF; simpa using hv)
 refine ⟨b, o, e, hb, ?_⟩
 rw [h]; simp [netsF]

set_option maxRecDepth 100000 in
set_option maxHeartbeats 2000000 in
theorem indep_any (A : Option Addr) (c : Nat) (g : Graph) (S : Nat) (w : World) (hN : NetR w A g) (hT : Tab32 w) (hS : S < 4294967296) (hw : ∀ v, S.testBit v = true → v < g.ports.length) (hg : GOK g) :
  Calls Tryz.prog 116 #[.slice A g.ports.length c, .int .u32 (S : Int)] w fun e w' => e = .returned (.bool (indepP g S)) ∧ Bel w w' := by
 have HN := Lib.hid (fun w' (k : Bel w w') => hN.keep k)
 have HT := Lib.hid (fun w' (k : Bel w w') => hT.keep k)
 refine calls_marks Tryz.func116 rfl ?_
 simp only [Tryz.ntmps116, List.size_toArray, List.length_cons, List.length_nil, Nat.reduceAdd, Nat.reduceSub, Array.replicate_succ, Array.replicate_zero, List.push_toArray, List.append_toArray, List.nil_append, List.cons_append]
 go_wp2_with (go_at_call 71; refine (nodesCall_any _ _).mono ?_; rintro e w' ⟨rfl, rfl⟩)
 obtain ⟨W0, hW0⟩ : ∃ W0, (((w.alloc (.cells #[.slice A g.ports.length c] 76)).alloc (.cells #[.int .u32 (S : Int)] 45)).alloc (.cells #[.bool false] 4)).alloc (.cells #[.int .u32 (S : Int)] 45) = W0 := ⟨_, rfl⟩
 have b1 : Boxed W0 w.heap.size 76 (.slice A g.ports.length c) := by rw [← hW0]; exact (((Boxed.new w _ _).alloc _).alloc _).alloc _
 have b2 : Boxed W0 (w.heap.size + 1) 45 (.int .u32 (S : Int)) := by
  rw [← hW0]
  have := Boxed.new (w.alloc (.cells #[.slice A g.ports.length c] 76)) 45 (.int .u32 (S : Int))
  rw [World.size_alloc] at this
  exact (this.alloc _).alloc _
 have b3 : Boxed W0 (w.heap.size + 1 + 1) 4 (.bool false) := by
  rw [← hW0]
  have := Boxed.new ((w.alloc (.cells #[.slice A g.ports.length c] 76)).alloc (.cells #[.int .u32 (S : Int)] 45)) 4 (.bool false)
  rw [World.size_alloc, World.size_alloc] at this
  exact this.alloc _
 have b4 : Boxed W0 (w.heap.size + 1 + 1 + 1) 45 (.int .u32 (S : Int)) := by
  rw [← hW0]
  have := Boxed.new (((w.alloc (.cells #[.slice A g.ports.length c] 76)).alloc (.cells #[.int .u32 (S : Int)] 45)).alloc (.cells #[.bool false] 4)) 45 (.int .u32 (S : Int))
  rw [World.size_alloc, World.size_alloc, World.size_alloc] at this
  exact this
 have hb0 : Bel w W0 := by rw [← hW0]; exact ((((Bel.refl w).alloc _).alloc _).alloc _).alloc _
 have hz0 : W0.heap.size = w.heap.size + 1 + 1 + 1 + 1 := by rw [← hW0]; simp
 rw [hW0]
 clear hW0
 refine (wpIn_wide (n := 5)).1 ?_
 refine wpIn_rangeE (n := 5) rfl (by decide) (gf := 93) (lb := #[.pointer (some ⟨w.heap.size + 1 + 1 + 1, 0, none⟩)]) (by simp [go_sem]) trivial (enters_of Tryz.func93 (by kernel_rfl) rfl)
  (nodes_seq 4 _ S W0 (by decide) hS b4 (HT.out _ hb0)) (by rintro k rfl; omega) (by rintro k rfl; exact (HT.out _ hb0).1) (fun _ => rfl) (fun k => k = w.heap.size + 1 + 1 + 1 ∨ k = W0.heap.size ∨ k = W0.heap.size + 1) (fun k => Iff.rfl)
  (fun pre W => Boxed W w.heap.size 76 (.slice A g.ports.length c) ∧ Boxed W (w.heap.size + 1) 45 (.int .u32 (S : Int)) ∧ Boxed W (w.heap.size + 1 + 1) 4 (.bool false) ∧ (∀ v ∈ pre, netV g v &&& S = 0) ∧ Bel w W)
  (fun c pre W => c = .ret ∧ Boxed W (w.heap.size + 1 + 1) 4 (.bool false) ∧ indepP g S = false ∧ Bel w W)
  (fun s A B ⟨h1, h2, h3, h4, h5⟩ hg => ⟨hg.boxed h1 (by omega), hg.boxed h2 (by omega), hg.boxed h3 (by omega), h4, hg.belE h5 (by omega)⟩)
  (fun c s A B ⟨h1, h2, h3, h4⟩ hg => ⟨h1, hg.boxed h2 (by omega), h3, hg.belE h4 (by omega)⟩)
  ⟨b1, b2, b3, by simp, hb0⟩
  (fun x a' W => a' = { tmps := #[.slice A g.ports.length c, .int .u32 (S : Int), .pointer (some ⟨w.heap.size, 0, none⟩), .pointer (some ⟨w.heap.size + 1, 0, none⟩), .pointer (some ⟨w.heap.size + 1 + 1, 0, none⟩), .int .i64 (x : Int), .int .u32 (S : Int), .func (.func 93) #[] #[.pointer (some ⟨w.heap.size + 1 + 1 + 1, 0, none⟩)], .int .i64 (x : Int), undef, undef, undef, undef, undef, undef, undef], defers := [] })
  (fun _ _ _ _ h _ => h) ?assign ?body ?done ?stop
 case assign =>
  intro pre x W K hp hI hl hK
  gi_wp2
  exact hK _ _ (SameE.refl _ _) hI rfl
 case body =>
  rintro pre x a' W hp ⟨h1, h2, h3, h4, h5⟩ rfl hl ⟨r, hr⟩
  obtain ⟨c1, f1, l1⟩ := boxed_cell0 h1
  obtain ⟨c2, f2, l2⟩ := boxed_cell0 h2
  obtain ⟨c3, f3, l3⟩ := boxed_cell0 h3
  have hx : x ∈ elemsF S := hp.subset (by simp)
  have hxn := hw x (mem_elemsF.1 hx).2
  obtain ⟨b, o, e, hb, hc⟩ := (HN.out _ h5).at_ hxn
  subst e
  have q := bits_and (netV_lt hg x) hS
  have hdx : decide (x < g.ports.length) = true := by simpa using hxn
  generalize hnv : netV g x = N at *
  refine wpIn_block (wpIn_seq ?_)
  refine AnyE.startIn (fun w' => w'.cell? ⟨w.heap.size, 0, none⟩ = some (.slice (some ⟨b, o, none⟩) g.ports.length c) ∧ w'.cell? ⟨w.heap.size + 1, 0, none⟩ = some (.int .u32 (S : Int)) ∧ w'.cell? ⟨b, o + x, none⟩ = some (.int .u32 (N : Int)) ∧ w.heap.size < w'.heap.size ∧ w.heap.size + 1 < w'.heap.size ∧ b < w'.heap.size) 6 (by kernel_rfl) (by kernel_rfl) (by rintro ⟨_, _, h⟩; exact h) ?_
  have hHeld : W.drew.cell? ⟨w.heap.size, 0, none⟩ = some (.slice (some ⟨b, o, none⟩) g.ports.length c) ∧ W.drew.cell? ⟨w.heap.size + 1, 0, none⟩ = some (.int .u32 (S : Int)) ∧ W.drew.cell? ⟨b, o + x, none⟩ = some (.int .u32 (N : Int)) ∧ w.heap.size < W.drew.heap.size ∧ w.heap.size + 1 < W.drew.heap.size ∧ b < W.drew.heap.size := ⟨c1, c2, hc, l1, l2, hb⟩
  by_cases hz : N &&& S = 0
  ·rw [hz] at q
   (refine AnyE.t (v := ?_) 0 9 rfl rfl (by kernel_rfl) (fun _ _ _ h => h) hHeld (Or.inl ⟨by rfl, ?_⟩) ?_; rotate_left 1; focus (intro w' hSw; (try dsimp only at hSw); go_simp; (try with_reducible rfl); done); (try simp only [Act.put, List.setIfInBounds_toArray, List.set_cons_zero, List.set_cons_succ]))
   (refine AnyE.t (v := ?_) 1 10 rfl rfl (by kernel_rfl) (fun _ _ _ h => h) hHeld (Or.inl ⟨by rfl, ?_⟩) ?_; rotate_left 1; focus (intro w' hSw; (try dsimp only at hSw); go_simp; (try with_reducible rfl); done); (try simp only [Act.put, List.setIfInBounds_toArray, List.set_cons_zero, List.set_cons_succ]))
   (refine AnyE.t (v := ?_) 2 11 rfl rfl (by kernel_rfl) (fun _ _ _ h => h) hHeld (Or.inl ⟨by rfl, ?_⟩) ?_; rotate_left 1; focus (intro w' hSw; (try dsimp only at hSw); go_simp; (try with_reducible rfl); done); (try simp only [Act.put, List.setIfInBounds_toArray, List.set_cons_zero, List.set_cons_succ]))
   (refine AnyE.t (v := ?_) 3 12 rfl rfl (by kernel_rfl) (fun _ _ _ h => h) hHeld (Or.inl ⟨by rfl, ?_⟩) ?_; rotate_left 1; focus (intro w' hSw; (try dsimp only at hSw); go_simp; (try with_reducible rfl); done); (try simp only [Act.put, List.setIfInBounds_toArray, List.set_cons_zero, List.set_cons_succ]))
   (refine AnyE.t (v := ?_) 4 13 rfl rfl (by kernel_rfl) (fun _ _ _ h => h) hHeld (Or.inl ⟨by rfl, ?_⟩) ?_; rotate_left 1; focus (intro w' hSw; (try dsimp only at hSw); go_simp; (try with_reducible rfl); done); (try simp only [Act.put, List.setIfInBounds_toArray, List.set_cons_zero, List.set_cons_succ]))
   (refine AnyE.t (v := ?_) 5 14 rfl rfl (by kernel_rfl) (fun _ _ _ h => h) hHeld (Or.inl ⟨by rfl, ?_⟩) ?_; rotate_left 1; focus (intro w' hSw; (try dsimp only at hSw); go_simp; (try with_reducible rfl); done); (try simp only [Act.put, List.setIfInBounds_toArray, List.set_cons_zero, List.set_cons_succ]))
   refine AnyE.one (i := 6) (by kernel_rfl) rfl (fun K hK => ?_)
   go_simp
   refine hK.out _ _ (fun h => absurd rfl h) ?_
   refine AnyE.done (by kernel_rfl) ?_ _
   (try simp only [Act.put, List.setIfInBounds_toArray, List.set_cons_zero, List.set_cons_succ])
   change Code.wpIn _ _ _ _ _ _ _
   gi_wp2
   exact ⟨SameE.of_bel ((Bel.refl W).drew), h1, h2, h3, fun v hv => by
    rcases List.mem_append.1 hv with hv | hv
    ·exact h4 v hv
    ·obtain rfl : v = x := by simpa using hv
     rw [hnv]; exact hz, h5.drew⟩
  ·have hq : (((N &&& S : Nat) : Int) != 0) = true := by simpa using hz
   have hpf : indepP g S = false := by
    rw [Bool.eq_false_iff]
    intro hp
    have := (indepP_iff hS).1 hp x (mem_elemsF.1 hx).2
    rw [hnv] at this
    exact hz this
   generalize N &&& S = M at *
   (refine AnyE.t (v := ?_) 0 9 rfl rfl (by kernel_rfl) (fun _ _ _ h => h) hHeld (Or.inl ⟨by rfl, ?_⟩) ?_; rotate_left 1; focus (intro w' hSw; (try dsimp only at hSw); go_simp; (try with_reducible rfl); done); (try simp only [Act.put, List.setIfInBounds_toArray, List.set_cons_zero, List.set_cons_succ]))
   (refine AnyE.t (v := ?_) 1 10 rfl rfl (by kernel_rfl) (fun _ _ _ h => h) hHeld (Or.inl ⟨by rfl, ?_⟩) ?_; rotate_left 1; focus (intro w' hSw; (try dsimp only at hSw); go_simp; (try with_reducible rfl); done); (try simp only [Act.put, List.setIfInBounds_toArray, List.set_cons_zero, List.set_cons_succ]))
   (refine AnyE.t (v := ?_) 2 11 rfl rfl (by kernel_rfl) (fun _ _ _ h => h) hHeld (Or.inl ⟨by rfl, ?_⟩) ?_; rotate_left 1; focus (intro w' hSw; (try dsimp only at hSw); go_simp; (try with_reducible rfl); done); (try simp only [Act.put, List.setIfInBounds_toArray, List.set_cons_zero, List.set_cons_succ]))
   (refine AnyE.t (v := ?_) 3 12 rfl rfl (by kernel_rfl) (fun _ _ _ h => h) hHeld (Or.inl ⟨by rfl, ?_⟩) ?_; rotate_left 1; focus (intro w' hSw; (try dsimp only at hSw); go_simp; (try with_reducible rfl); done); (try simp only [Act.put, List.setIfInBounds_toArray, List.set_cons_zero, List.set_cons_succ]))
   (refine AnyE.t (v := ?_) 4 13 rfl rfl (by kernel_rfl) (fun _ _ _ h => h) hHeld (Or.inl ⟨by rfl, ?_⟩) ?_; rotate_left 1; focus (intro w' hSw; (try dsimp only at hSw); go_simp; (try with_reducible rfl); done); (try simp only [Act.put, List.setIfInBounds_toArray, List.set_cons_zero, List.set_cons_succ]))
   (refine AnyE.t (v := ?_) 5 14 rfl rfl (by kernel_rfl) (fun _ _ _ h => h) hHeld (Or.inl ⟨by rfl, ?_⟩) ?_; rotate_left 1; focus (intro w' hSw; (try dsimp only at hSw); go_simp; (try with_reducible rfl); done); (try simp only [Act.put, List.setIfInBounds_toArray, List.set_cons_zero, List.set_cons_succ]))
   refine AnyE.one (i := 6) (by kernel_rfl) rfl (fun K hK => ?_)
   go_simp
   refine hK.out _ _ (fun h => absurd rfl h) ?_
   refine AnyE.done (by kernel_rfl) ?_ _
   (try simp only [Act.put, List.setIfInBounds_toArray, List.set_cons_zero, List.set_cons_succ])
   change Code.wpIn _ _ _ _ _ _ _
   gi_wp2
   refine ⟨(SameE.of_bel ((Bel.refl W).drew)).trans (SameE.setCell _ _ _ ?_), rfl, Boxed.set _ (show Boxed W.drew _ _ _ from h3), hpf, h5.drew.setCell (by simp; omega) _⟩
   have := hT.1
   rintro ((h | h | h) | h) <;> simp at h <;> omega
 case done =>
  rintro W ⟨h1, h2, h3, h4, h5⟩ hK
  obtain ⟨c3, f3, l3⟩ := boxed_cell0 h3
  have hpt : indepP g S = true := (indepP_iff hS).2 fun v hv => h4 v (mem_elemsF.2 ⟨bit_lt hS hv, hv⟩)
  go_wp2
  have h3' := h3.set (.bool true)
  refine leave_marks (B := w.heap.size) (Marks.push (Marks.nil _ _) (by omega) ((Below.heap_setCell _ _ _ _ (by simp; omega)).trans hK) (by simp)) ?_
  intro W' hA hs
  have hr := hA.cellD h3'.cell
  exact ⟨.bool true, by simp [results, Tryz.results116, go_sem, hr], ret_bool hpt.symm, hA.bel (h5.setCell (by simp; omega) _)⟩
 case stop =>
  rintro c' pre W hp ⟨rfl, h3, hpf, h5⟩ hK
  refine wpIn_wide.2 ?_
  go_wp2
  refine leave_marks (B := w.heap.size) (Marks.push (Marks.nil _ _) (by omega) hK (by simp)) ?_
  intro W' hA hs
  have hr := hA.cellD h3.cell
  exact ⟨.bool false, by simp [results, Tryz.results116, go_sem, hr], ret_bool hpf.symm, hA.bel h5⟩

end Go.Proofs.YtgemlgpjbclonaaGreatDoor

/- How many configurations there are, counted with a limit in two ways, plain. -/
namespace Go.Proofs.YtgemlgpjbclonaaGreatDoor

def limF (x : Int) : Option Int := if 32768 < x then none else some x

theorem mul_ge {r s : Int} (hr : 1 ≤ r) (hs : 1 ≤ s) : r ≤ r * s := by
 have := Int.mul_le_mul_of_nonneg_left hs (show 0 ≤ r by omega)
 rwa [Int.mul_one] at this

/-- The reference's way: the number of states of a node, cut at M; then the product of these. -/
def szL (M : Int) : Int → List (Int × Int) → Int
 | a, [] => a
 | a, b :: bs => szL M (min (a * (b.2 - b.1 + 1)) M) bs
def cntR (M : Int) : Int → List (List (Int × Int)) → Option Int
 | r, [] => some r
 | r, t :: T => if 32768 < szL M 1 t ∨ 32768 < r * szL M 1 t then none else cntR M (r * szL M 1 t) T

theorem szL_eq {M : Int} (hM : 1 ≤ M) : ∀ {bs : List (Int × Int)} {a : Int}, okL bs → 1 ≤ a → a ≤ M → szL M a bs = min (a * sizeL bs) M
 | [], a, _, h1, h2 => by
  show a = min (a * 1) M
  rw [Int.mul_one]; omega
 | b :: bs, a, ho, h1, h2 => by
  obtain ⟨hb, ho'⟩ := okL_cons ho
  have hp := sizeL_pos ho'
  have h3 : a ≤ a * (b.2 - b.1 + 1) := mul_ge h1 (by omega)
  show szL M (min (a * (b.2 - b.1 + 1)) M) bs = min (a * ((b.2 - b.1 + 1) * sizeL bs)) M
  rw [szL_eq hM ho' (by omega) (by omega), ← Int.mul_assoc]
  rcases Int.le_total (a * (b.2 - b.1 + 1)) M with h | h
  ·rw [Int.min_eq_left h]
  ·have h4 : a * (b.2 - b.1 + 1) ≤ a * (b.2 - b.1 + 1) * sizeL bs := mul_ge (by omega) (by omega)
   have h5 : M ≤ M * sizeL bs := mul_ge hM (by omega)
   rw [Int.min_eq_right h]; omega

theorem cntR_eq {M : Int} (hM : 32768 < M) : ∀ {T : List (List (Int × Int))} {r : Int}, okN T → 1 ≤ r → r ≤ 32768 → cntR M r T = limF (r * sizeN T)
 | [], r, _, h1, h2 => by
  show some r = limF (r * 1)
  rw [Int.mul_one]; unfold limF; rw [if_neg (by omega)]
 | t :: T, r, ho, h1, h2 => by
  obtain ⟨ht, ho'⟩ := okN_cons ho
  have hp := sizeL_pos ht
  have hq := sizeN_pos ho'
  have e : szL M 1 t = min (sizeL t) M := by rw [szL_eq (by omega) ht (by omega) (by omega), Int.one_mul]
  show (if 32768 < szL M 1 t ∨ 32768 < r * szL M 1 t then none else cntR M (r * szL M 1 t) T) = limF (r * (sizeL t * sizeN T))
  rw [← Int.mul_assoc]
  by_cases hs : 32768 < sizeL t
  ·have h3 : 1 * sizeL t ≤ r * sizeL t := Int.mul_le_mul_of_nonneg_right h1 (by omega)
   have h4 : r * sizeL t ≤ r * sizeL t * sizeN T := mul_ge (by omega) (by omega)
   rw [if_pos (.inl (by omega))]; unfold limF; rw [if_pos (by omega)]
  ·have e2 : szL M 1 t = sizeL t := by omega
   rw [e2]
   have h3 : r ≤ r * sizeL t := mul_ge h1 (by omega)
   by_cases h : 32768 < r * sizeL t
   ·have h4 : r * sizeL t ≤ r * sizeL t * sizeN T := mul_ge (by omega) (by omega)
    rw [if_pos (.inr h)]; unfold limF; rw [if_pos (by omega)]
   ·rw [if_neg (by omega), cntR_eq hM ho' (by omega) (by omega)]

end Go.Proofs.YtgemlgpjbclonaaGreatDoor

/- Plain laws: steps of an independent set, one node after the other. -/
namespace Go.Proofs.YtgemlgpjbclonaaGreatDoor

/-- As the machine asks whether a set is independent. -/
theorem indepF_eq {g : Graph} (hg : graphB g = true) {S : Nat} (hS : S < 4294967296) : indepF g S = (within32 S (setF g.ports.length fun _ => true) && (nbrF g S &&& S == 0)) := by
 unfold indepF
 rw [hg, Bool.true_and]
 congr 1
 rw [Bool.eq_iff_iff, List.all_eq_true, beq_iff_eq]
 constructor
 ·intro h
  refine Nat.eq_of_testBit_eq fun v => ?_
  rw [Nat.testBit_and, Nat.zero_testBit]
  cases hb : S.testBit v with
  | false => exact Bool.and_false _
  | true =>
   have := h v (List.mem_range.2 (bit_lt hS hb))
   rw [hb] at this
   simpa using this
 ·intro h v _
  have := congrArg (fun x => x.testBit v) h
  simp only [Nat.testBit_and, Nat.zero_testBit] at this
  rw [this]; rfl

end Go.Proofs.YtgemlgpjbclonaaGreatDoor

/- Transition systems, plain: configurations within their bounds, counts, arcs. -/
namespace Go.Proofs.YtgemlgpjbclonaaGreatDoor

theorem inL_iff : ∀ {bs : List (Int × Int)} {cs : List Int}, inL bs cs ↔ cs.length = bs.length ∧ ∀ i, (h1 : i < cs.length) → (h2 : i < bs.length) → bs[i].1 ≤ cs[i] ∧ cs[i] ≤ bs[i].2
 | [], [] => by simp [inL]
 | [], _ :: _ => by simp [inL]
 | _ :: _, [] => by simp [inL]
 | b :: bs, c :: cs => by
  have ih := inL_iff (bs := bs) (cs := cs)
  constructor
  ·rintro ⟨h1, h2, h3⟩
   obtain ⟨h4, h5⟩ := ih.1 h3
   refine ⟨by simp [h4], fun i a1 a2 => ?_⟩
   cases i with
   | zero => exact ⟨h1, h2⟩
   | succ i => exact h5 i (by simpa using a1) (by simpa using a2)
  ·rintro ⟨h1, h2⟩
   have h0 := h2 0 (by simp) (by simp)
   refine ⟨h0.1, h0.2, ih.2 ⟨by simpa using h1, fun i a1 a2 => ?_⟩⟩
   exact h2 (i + 1) (by simpa using a1) (by simpa using a2)
theorem inN_iff : ∀ {T : List (List (Int × Int))} {C : Config}, inN T C ↔ C.length = T.length ∧ ∀ v, (h1 : v < C.length) → (h2 : v < T.length) → inL T[v] C[v]
 | [], [] => by simp [inN]
 | [], _ :: _ => by simp [inN]
 | _ :: _, [] => by simp [inN]
 | t :: T, c :: C => by
  have ih := inN_iff (T := T) (C := C)
  constructor
  ·rintro ⟨h1, h3⟩
   obtain ⟨h4, h5⟩ := ih.1 h3
   refine ⟨by simp [h4], fun i a1 a2 => ?_⟩
   cases i with
   | zero => exact h1
   | succ i => exact h5 i (by simpa using a1) (by simpa using a2)
  ·rintro ⟨h1, h2⟩
   have h0 := h2 0 (by simp) (by simp)
   refine ⟨h0, ih.2 ⟨by simpa using h1, fun i a1 a2 => ?_⟩⟩
   exact h2 (i + 1) (by simpa using a1) (by simpa using a2)
theorem conf_in {T : List (List (Int × Int))} {C : Config} : confB T C = true ↔ inN T C := by
 rw [confB_iff, inN_iff]
 constructor
 ·rintro ⟨h1, h2⟩; exact ⟨h1, fun v a b => inL_iff.2 (stateB_iff.1 (h2 v a b))⟩
 ·rintro ⟨h1, h2⟩; exact ⟨h1, fun v a b => stateB_iff.2 (inL_iff.1 (h2 v a b))⟩
theorem mem_in {p : Prg} {g : Graph} {c : Config} (hm : memF p g c = 0) : inN (tableF p g) c := conf_in.1 (mem_zero hm).2
theorem in_mem {p : Prg} {g : Graph} {c : Config} (hf : fitsF p g = 0) (h : inN (tableF p g) c) : memF p g c = 0 := by
 unfold memF; rw [if_neg (by simpa using hf), conf_in.2 h]; simp
theorem table_ok {p : Prg} {g : Graph} (hf : fitsF p g = 0) : okN (tableF p g) := by
 intro t ht
 unfold tableF at ht
 obtain ⟨v, _, rfl⟩ := List.mem_map.1 ht
 intro b hb
 unfold rowF at hb
 obtain ⟨x, hx, rfl⟩ := List.mem_map.1 hb
 exact (fits_bounds hf hx v).1

/-! ### Configurations with a number -/
def sizeF (p : Prg) (g : Graph) : Int := sizeN (tableF p g)
def confK (p : Prg) (g : Graph) (k : Nat) : Config := confN (tableF p g) (k : Int)
def numF (p : Prg) (g : Graph) (c : Config) : Int := numN (tableF p g) c
def totalF (p : Prg) (g : Graph) : Int × Int := if fitsF p g ≠ 0 then (0, fitsF p g) else if 32768 < sizeF p g then (0, 3) else (sizeF p g, 0)
theorem size_pos {p : Prg} {g : Graph} (hf : fitsF p g = 0) : 0 < sizeF p g := sizeN_pos (table_ok hf)
theorem confK_mem {p : Prg} {g : Graph} (hf : fitsF p g = 0) {k : Nat} (hk : (k : Int) < sizeF p g) : memF p g (confK p g k) = 0 := in_mem hf (confN_in (table_ok hf) (by omega) hk)
theorem numF_range {p : Prg} {g : Graph} {c : Config} (hm : memF p g c = 0) : 0 ≤ numF p g c ∧ numF p g c < sizeF p g := numN_range (mem_in hm)
theorem confK_num {p : Prg} {g : Graph} {c : Config} (hm : memF p g c = 0) : confK p g (numF p g c).toNat = c := by
 have h := numF_range hm
 unfold confK
 rw [Int.toNat_of_nonneg h.1]
 exact confN_num (mem_in hm)
theorem num_confK {p : Prg} {g : Graph} (hf : fitsF p g = 0) {k : Nat} (hk : (k : Int) < sizeF p g) : numF p g (confK p g k) = (k : Int) := numN_conf (table_ok hf) (by omega) hk

/-! ### Transition systems -/
structure Spc where
 enabled : List Nat
 arcs : List (List (Nat × Int))
def arcsOf (p : Prg) (g : Graph) (kind : Int) (c : Config) : List (Nat × Int) := (choicesF g kind (enabF p g c)).1.map fun T => (T, numF p g (stepCF p g c T))
def spaceF (p : Prg) (g : Graph) (kind : Int) : Spc := ⟨(List.range (sizeF p g).toNat).map fun k => enabF p g (confK p g k), (List.range (sizeF p g).toNat).map fun k => arcsOf p g kind (confK p g k)⟩
/-- What Build returns, where there are few nodes. -/
def buildF (p : Prg) (g : Graph) (kind : Int) : Spc × Int :=
 if (totalF p g).2 ≠ 0 ∧ (totalF p g).2 ≠ 3 then (⟨[], []⟩, (totalF p g).2)
 else if kindB kind = false then (⟨[], []⟩, 12)
 else if (totalF p g).2 ≠ 0 then (⟨[], []⟩, (totalF p g).2)
 else (spaceF p g kind, 0)

/-! ### Few choices where there are few nodes -/
theorem parts_len {S : Nat} (hS : S < 4294967296) : ∀ n s, S - s < n → s &&& S = s → s ≠ 0 → (partsFrom S s).length ≤ S - s + 1 := by
 intro n
 induction n with
 | zero => intro s h; omega
 | succ n ih =>
  intro s hn hs h0
  rw [partsFrom_step hS hs h0, List.length_cons]
  by_cases hl : s = S
  ·subst hl; rw [nextW_last 32 s hS, partsFrom_zero]; simp
  ·obtain ⟨h1, h2, _⟩ := nextW_next 32 S s hS hs hl
   have hle := partW_le h2
   have := ih _ (by omega) h2 (by omega)
   omega
theorem elems_len {S n : Nat} (hn : n ≤ 32) (hS : S < 2 ^ n) : (elemsF S).length ≤ n := by
 rw [elemsF_upto hn hS]
 exact Nat.le_trans (List.length_filter_le _ _) (by simp)
theorem choices_few {g : Graph} {kind : Int} {E : Nat} (hE : E < 32) : (choicesF g kind E).2 = 0 ∧ (choicesF g kind E).1.length ≤ 31 ∧ (elemsF E).length ≤ 5 := by
 have h5 := elems_len (S := E) (n := 5) (by decide) hE
 unfold choicesF
 by_cases h0 : E = 0
 ·rw [if_pos h0]; exact ⟨rfl, by simp, h5⟩
 rw [if_neg h0]
 split
 ·exact ⟨rfl, by simp; omega, h5⟩
 split
 ·exact ⟨rfl, by simp, h5⟩
 rw [if_neg (by omega)]
 refine ⟨rfl, ?_, h5⟩
 have hlt : E < 4294967296 := by omega
 have h1 := parts_len hlt (E - lsb E + 1) (lsb E) (by omega) lsb_part (lsb_ne hlt h0)
 have h2 := List.length_filter_le (permitsF g kind E) (partsFrom E (lsb E))
 have h3 := partW_le (lsb_part (S := E))
 have h4 := lsb_ne hlt h0
 show (List.filter _ _).length ≤ 31
 omega

theorem permits_part {g : Graph} {kind : Int} {E S : Nat} (h : permitsF g kind E S = true) : S ≠ 0 ∧ within32 S E = true := by
 unfold permitsF at h
 split at h
 ·cases h
 split at h
 ·cases h
 ·rename_i h1 h2
  exact ⟨h1, by simpa using h2⟩
theorem part_within {S E : Nat} (hS : S < 4294967296) (hE : E < 4294967296) : S &&& E = S ↔ within32 S E = true := by
 rw [within32_iff]
 constructor
 ·intro h v _ hv
  have := Nat.testBit_and S E v
  rw [h, hv, Bool.true_and] at this
  exact this.symm
 ·intro h
  refine nat_bits (Nat.and_lt_two_pow (n := 32) S hE) hS fun v hv => ?_
  rw [Nat.testBit_and]
  cases hb : S.testBit v with
  | false => rfl
  | true => rw [h v hv hb]; rfl
theorem elems_two {v : Nat} (hv : v < 32) : elemsF (2 ^ v) = [v] := by
 have h := elemsF_cons (k := v) (m := 0) (by have := two_lt hv; simpa using this)
 simpa [elemsF_zero] using h
theorem mem_choices {g : Graph} {kind : Int} {E S : Nat} (hE : E < 4294967296) (hk : kindB kind = true) (ho : (choicesF g kind E).2 = 0) (hS : S < 4294967296) :
  S ∈ (choicesF g kind E).1 ↔ permitsF g kind E S = true := by
 unfold kindB at hk
 simp at hk
 unfold choicesF at *
 by_cases h0 : E = 0
 ·rw [if_pos h0]
  subst h0
  constructor
  ·intro h; cases h
  ·intro h
   obtain ⟨h1, h2⟩ := permits_part h
   exfalso
   apply h1
   refine nat_bits hS (by decide) fun v hv => ?_
   rw [Nat.zero_testBit]
   cases hb : S.testBit v with
   | false => rfl
   | true => have := within32_iff.1 h2 v hv hb; rw [Nat.zero_testBit] at this; cases this
 rw [if_neg h0] at ho ⊢
 by_cases h1 : kind = 1
 ·rw [if_pos h1]
  subst h1
  constructor
  ·intro h
   obtain ⟨v, hv, rfl⟩ := List.mem_map.1 h
   obtain ⟨hv1, hv2⟩ := mem_elemsF.1 hv
   unfold permitsF
   rw [if_neg (Nat.ne_of_gt (Nat.two_pow_pos v))]
   have hw : within32 (2 ^ v) E = true := by
    rw [within32_iff]; intro u _ hu
    rw [two_bit] at hu
    obtain rfl : v = u := by simpa using hu
    exact hv2
   rw [hw, if_neg (by decide), if_pos rfl, single_iff hS (Nat.ne_of_gt (Nat.two_pow_pos v)), elems_two hv1]; rfl
  ·intro h
   obtain ⟨h2, h3⟩ := permits_part h
   unfold permitsF at h
   rw [if_neg h2, h3, if_neg (by decide), if_pos rfl, single_iff hS h2, decide_eq_true_eq] at h
   obtain ⟨k, m, e, hk, _, e2, e3⟩ := set_split hS h2
   rw [e3, List.length_cons] at h
   have hz : 2 ^ k * (2 * m) = 0 := by
    refine (elems_len_zero ?_).1 (by omega)
    have : 2 ^ k * (2 * m) ≤ 2 ^ k * (2 * m + 1) := Nat.mul_le_mul_left _ (by omega)
    omega
   have hS2 : S = 2 ^ k := by rw [e, Nat.mul_add, hz]; simp
   refine List.mem_map.2 ⟨k, mem_elemsF.2 ⟨hk, ?_⟩, hS2.symm⟩
   refine within32_iff.1 h3 k hk ?_
   rw [hS2, two_bit]; simp
 rw [if_neg h1] at ho ⊢
 by_cases h4 : kind = 4
 ·rw [if_pos h4]
  subst h4
  rw [List.mem_singleton]
  constructor
  ·rintro rfl
   unfold permitsF
   have hw : within32 S S = true := by rw [within32_iff]; intro _ _ h; exact h
   rw [if_neg h0, hw]; simp
  ·intro h
   obtain ⟨h2, h3⟩ := permits_part h
   unfold permitsF at h
   rw [if_neg h2, h3] at h
   simpa using h
 rw [if_neg h4] at ho ⊢
 by_cases h10 : 10 < (elemsF E).length
 ·rw [if_pos h10] at ho; cases ho
 rw [if_neg h10, List.mem_filter, mem_partsFrom hE (E - lsb E + 1) _ (by omega) lsb_part (lsb_ne hE h0)]
 constructor
 ·rintro ⟨_, h⟩; exact h
 ·intro h
  obtain ⟨h2, h3⟩ := permits_part h
  have hp := (part_within hS hE).2 h3
  refine ⟨⟨?_, hp⟩, h⟩
  obtain ⟨k, m, e, hk, e1, _, e3⟩ := set_split hE h0
  rw [e1]
  obtain ⟨k2, m2, e4, hk2, _, _, e5⟩ := set_split hS h2
  have hb : E.testBit k2 = true := within32_iff.1 h3 k2 hk2 (by rw [e4, bit_low]; simp)
  have hkk : k ≤ k2 := by
   rw [e, bit_low] at hb
   rcases Nat.lt_or_ge k2 k with hlt | hge
   ·rw [bit_below k m k2 (by omega)] at hb; simp at hb; omega
   ·exact hge
  have h6 : 2 ^ k ≤ 2 ^ k2 := Nat.pow_le_pow_right (by decide) hkk
  have h7 : 2 ^ k2 * 1 ≤ 2 ^ k2 * (2 * m2 + 1) := Nat.mul_le_mul_left _ (by omega)
  omega

end Go.Proofs.YtgemlgpjbclonaaGreatDoor

