/- Merged of: WRd WRe WRf P18g (see NOTES.md). -/
import Derived.Test.YtgemlgpjbclonaaGreatDoorZ25
import Derived.Test.YtgemlgpjbclonaaGreatDoorZ24
set_option linter.unusedSimpArgs false
set_option linter.unnecessarySimpa false
set_option linter.unusedVariables false

/- Rows of sets of the call's own; what stays while such a row grows; the choices of a daemon, what is returned. -/
namespace Go.Proofs.YtgemlgpjbclonaaGreatDoor
open Go.RowKit

theorem own_agr {E : Nat → Prop} {A B : World} {base e size n : Nat} {v : Value} {xs : List Value} (h : A.ownsRow base e size v n xs) (hA : Agr E A B) (hE : ∀ k, base ≤ k → ¬ E k) : B.ownsRow base e size v n xs := by
 refine ⟨h.1, ?_⟩
 rcases h.2 with hn | ⟨g, cap, cur, hv, hb, hg, hr⟩
 ·exact .inl hn
 ·exact .inr ⟨g, cap, cur, hv, hb, (hA.block g (lt_of_block hg) (hE g hb)).trans hg, hr⟩
theorem own_agrB {E : Nat → Prop} {A B : World} {base e size n m c g : Nat} {xs : List Value} (h : A.ownsRow base e size (.slice (some ⟨g, 0, none⟩) m c) n xs) (hA : Agr E A B) (hg : ¬ E g) : B.ownsRow base e size (.slice (some ⟨g, 0, none⟩) m c) n xs := by
 refine ⟨h.1, ?_⟩
 rcases h.2 with ⟨hv, _⟩ | ⟨g', cap, cur, hv, hb, hg', hr⟩
 ·cases hv
 ·injection hv with hA' hn hc
  injection hA' with hA'
  injection hA' with hA'
  subst hA'
  exact .inr ⟨g, cap, cur, by rw [hn, hc], hb, (hA.block g (lt_of_block hg') hg).trans hg', hr⟩
theorem Agr.drew {E : Nat → Prop} {A B : World} (h : Agr E A B) : Agr E A B.drew := ⟨h.os, h.tape, h.output, h.size, h.block⟩
theorem Agr.step {E' E : Nat → Prop} {A B C : World} (h : Agr E' A B) (k : Agr E B C) (hE : ∀ q, q < A.heap.size → E q → E' q) : Agr E' A C :=
 ⟨k.os.trans h.os, k.tape.trans h.tape, k.output.trans h.output, Nat.le_trans h.size k.size, fun i hi hn => (k.block i (Nat.lt_of_lt_of_le hi h.size) (fun e => hn (hE i hi e))).trans (h.block i hi hn)⟩
/-- Rows are no blocks of deferred calls. -/
theorem own_def {B0 : Nat} {A B : World} {base e size n : Nat} {v : Value} {xs : List Value} (h : A.ownsRow base e size v n xs) (hA : Agr (DefE B0 A) A B) : B.ownsRow base e size v n xs := by
 refine ⟨h.1, ?_⟩
 rcases h.2 with hn | ⟨g, cap, cur, hv, hb, hg, hr⟩
 ·exact .inl hn
 ·exact .inr ⟨g, cap, cur, hv, hb, (hA.block g (lt_of_block hg) (by rintro ⟨_, x, hx⟩; rw [hg] at hx; cases hx)).trans hg, hr⟩
theorem own_ne {w : World} {base e size n : Nat} {v : Value} {xs : List Value} (h : w.ownsRow base e size v n xs) {B : Nat} (hB : B < base) : some B ≠ v.ownBlock := by
 rcases h.2 with ⟨rfl, _⟩ | ⟨g, cap, cur, rfl, hb, _⟩
 ·simp [Value.ownBlock]
 ·simp only [Value.ownBlock]
  intro he
  injection he with he
  omega
theorem own_ge {w : World} {base e size n : Nat} {v : Value} {xs : List Value} (h : w.ownsRow base e size v n xs) : ∀ k, v.ownBlock = some k → base ≤ k := by
 intro k hk
 rcases h.2 with ⟨rfl, _⟩ | ⟨g, cap, cur, rfl, hb, _⟩
 ·simp [Value.ownBlock] at hk
 ·simp only [Value.ownBlock] at hk
  injection hk with hk
  omega
theorem SameE.grown {E : Nat → Prop} {A B : World} {row : Option Nat} (h : A.grownBy B row) (hE : ∀ k, E k → some k ≠ row) : SameE E A B := ⟨h.size, fun k hk he => h.block k hk (hE k he)⟩
theorem SameE.alloc (E : Nat → Prop) (A : World) (o : Obj) : SameE E A (A.alloc o) := SameE.of_bel ((Bel.refl A).alloc o)
theorem SameE.drew {E : Nat → Prop} {A B : World} (h : SameE E A B) : SameE E A B.drew := h
theorem own_other_cell {w : World} {base e size n : Nat} {v : Value} {xs : List Value} (h : w.ownsRow base e size v n xs) {a : Addr} (ha : a.block < base) (u : Value) : (w.setCell a u).ownsRow base e size v n xs := by
 refine ⟨h.1, ?_⟩
 rcases h.2 with hn | ⟨g, cap, cur, hv, hb, hg, hr⟩
 ·exact .inl hn
 ·exact .inr ⟨g, cap, cur, hv, hb, (Below.heap_setCell _ _ _ _ (by omega)).trans hg, hr⟩

def maskV (S : Nat) : Value := .int .u32 (S : Int)
theorem one_mask (x : Int) : ∀ u ∈ (#[Value.int .u32 x] : Array Value).toList, u.oneCell' = true := by intro u hu; simp at hu; subst hu; rfl
theorem own_masks {w : World} {base e c : Nat} {A : Option Addr} {xs : List Nat} (h : w.ownsRow base e 1 (.slice A xs.length c) xs.length (xs.map maskV)) : MasksR w A xs.length xs := by
 refine ⟨rfl, fun i x hx => ?_⟩
 obtain ⟨q, e1, _, q3, q4, _⟩ := own_at h (j := i) (u := maskV x) (by rw [List.getElem?_map, hx]; rfl)
 exact ⟨q, 0, e1, q3, by simpa [MaskAt, maskV] using q4⟩
def RetChoices (r : List Nat × Int) (w : World) (e : Ending) (w' : World) : Prop :=
 ∃ A c, e = .returned (.tuple #[.slice A r.1.length c, .int .i64 r.2]) ∧ MasksR w' A r.1.length r.1 ∧ r.1.length ≤ c ∧ c ≤ maxLen ∧ Bel w w'
theorem RetChoices.empty {w w' : World} (k : Int) (hb : Bel w w') : RetChoices ([], k) w (.returned (.tuple #[.slice none 0 0, .int .i64 k])) w' := ⟨none, 0, rfl, SliceR.nil, Nat.le_refl _, by unfold maxLen; decide, hb⟩
theorem RetChoices.own {w w' : World} {base e c : Nat} {A : Option Addr} {xs : List Nat} (h : w'.ownsRow base e 1 (.slice A xs.length c) xs.length (xs.map maskV)) (hb : Bel w w') : RetChoices (xs, 0) w (.returned (.tuple #[.slice A xs.length c, .int .i64 0])) w' :=
 ⟨A, c, rfl, own_masks h, (own_cap h).1, (own_cap h).2, hb⟩

/-- How much is left of the parts. -/
def leftP (E s : Nat) : Nat := if s = 0 then 0 else E + 1 - s
theorem leftP_next {E s : Nat} (hE : E < 4294967296) (hs : s &&& E = s) (h0 : s ≠ 0) : leftP E (nextW 32 E s) < leftP E s := by
 have hle := partW_le hs
 unfold leftP
 rw [if_neg h0]
 by_cases hl : s = E
 ·subst hl; rw [nextW_last 32 s hE, if_pos rfl]; omega
 ·obtain ⟨h1, h2, _⟩ := nextW_next 32 E s hE hs hl
  have := partW_le h2
  rw [if_neg (by omega)]; omega
theorem nextW_part {E s : Nat} : nextW 32 E s &&& E = nextW 32 E s := by
 unfold nextW; rw [Nat.and_assoc, Nat.and_self]
theorem nextW_lt {E s : Nat} (hE : E < 4294967296) : nextW 32 E s < 4294967296 := by
 have := partW_le (nextW_part (E := E) (s := s)); omega
theorem nextW_bits {E s : Nat} (hE : E < 4294967296) (_ : s ≤ E) : bits .and .u32 (((s : Int) - (E : Int)) % 4294967296) (E : Int) = ((nextW 32 E s : Nat) : Int) := by
 have e : ((s : Int) - (E : Int)) % 4294967296 = (((s + (2 ^ 32 - E)) % 2 ^ 32 : Nat) : Int) := by omega
 rw [e, bits_and (Nat.mod_lt _ (by decide)) hE]; rfl

end Go.Proofs.YtgemlgpjbclonaaGreatDoor

/- Contract: the choices of a daemon, the program's. -/
namespace Go.Proofs.YtgemlgpjbclonaaGreatDoor
open Go.RowKit
attribute [local go_sem] Oper.semAt_some

def pow2 (v : Nat) : Nat := 2 ^ v
set_option maxRecDepth 100000 in
set_option maxHeartbeats 2000000 in
theorem choicesC_any (A : Option Addr) (c : Nat) (g : Graph) (E : Nat) (w : World) (hT : Tab32 w) (hE : E < 4294967296) (h0 : E ≠ 0) :
  Calls Tryz.prog 70 #[.slice A g.ports.length c, .int .i64 1, .int .u32 (E : Int)] w (RetChoices ((elemsF E).map pow2, 0) w) := by
 have HT := Lib.hid (fun w' (k : Bel w w') => hT.keep k)
 obtain ⟨i0, hi0, hz0, hz1, hz2⟩ := info_parts u32_info
 have d0 : ((E : Int) == 0) = false := by simpa using h0
 refine calls_marks Tryz.func70 rfl ?_
 simp only [Tryz.ntmps70, List.size_toArray, List.length_cons, List.length_nil, Nat.reduceAdd, Nat.reduceSub, Array.replicate_succ, Array.replicate_zero, List.push_toArray, List.append_toArray, List.nil_append, List.cons_append]
 go_wp2_with (go_at_call 71; refine (nodesCall_any _ _).mono ?_; rintro e w' ⟨rfl, rfl⟩)
 obtain ⟨W0, hW0⟩ : ∃ W0, (w.alloc (.cells #[.slice none 0 0] 32)).alloc (.cells #[.int .u32 (E : Int)] 45) = W0 := ⟨_, rfl⟩
 have b1 : Boxed W0 w.heap.size 32 (.slice none 0 0) := by rw [← hW0]; exact (Boxed.new w _ _).alloc _
 have b2 : Boxed W0 (w.heap.size + 1) 45 (.int .u32 (E : Int)) := by
  rw [← hW0]
  have := Boxed.new (w.alloc (.cells #[.slice none 0 0] 32)) 45 (.int .u32 (E : Int))
  rw [World.size_alloc] at this
  exact this
 have hb0 : Bel w W0 := by rw [← hW0]; exact ((Bel.refl w).alloc _).alloc _
 have hz : W0.heap.size = w.heap.size + 1 + 1 := by rw [← hW0]; simp
 rw [hW0]
 clear hW0
 refine (wpIn_wide (n := 5)).1 ?_
 refine wpIn_rangeE (n := 5) rfl (by decide) (gf := 93) (lb := #[.pointer (some ⟨w.heap.size + 1, 0, none⟩)]) (by simp [go_sem]) trivial (enters_of Tryz.func93 (by kernel_rfl) rfl)
  (nodes_seq 4 _ E W0 (by decide) hE b2 (HT.out _ hb0)) (by rintro k rfl; omega) (by rintro k rfl; exact (HT.out _ hb0).1) (fun _ => rfl) (fun k => k = w.heap.size + 1 ∨ k = W0.heap.size ∨ k = W0.heap.size + 1) (fun k => Iff.rfl)
  (fun pre W => ∃ B cb, Boxed W w.heap.size 32 (.slice B pre.length cb) ∧ W.ownsRow (W0.heap.size + 2) 45 1 (.slice B pre.length cb) pre.length ((pre.map pow2).map maskV) ∧ Bel w W)
  (fun c pre W => False)
  (fun s A B ⟨B1, cb, h1, h2, h3⟩ hg => ⟨B1, cb, hg.boxed h1 (by omega), own_agr h2 hg (by omega), hg.belE h3 (by omega)⟩)
  (fun c s A B h hg => h)
  ⟨none, 0, b1, World.ownsRow_nil _ _ _ _, hb0⟩
  (fun x a' W => a' = { tmps := #[.slice A g.ports.length c, .int .i64 1, .int .u32 (E : Int), undef, undef, undef, .slice none 0 0, .int .i64 0, .pointer (some ⟨w.heap.size, 0, none⟩), .int .i64 (x : Int), undef, .int .u32 (E : Int), .bool false, .int .i64 1, .bool true, .bool true, .int .u32 (E : Int), .func (.func 93) #[] #[.pointer (some ⟨w.heap.size + 1, 0, none⟩)], .int .i64 (x : Int), undef, undef, undef, undef, undef, undef, undef, undef, undef, undef, undef, undef, undef, undef, undef, undef, undef, undef, undef, undef, undef, undef, undef, undef, undef, undef, undef, undef, undef, undef, undef, undef, undef, undef], defers := [] })
  (fun _ _ _ _ h _ => h) ?assign ?body ?done ?stop
 case assign =>
  intro pre x W K hp hI hl hK
  gi_wp2
  exact hK _ _ (SameE.refl _ _) hI rfl
 case body =>
  rintro pre x a' W hp ⟨B, cb, h1, h2, h3⟩ rfl hl ⟨r, hr⟩
  obtain ⟨c1, f1, l1⟩ := boxed_cell0 h1
  have hx := (mem_elemsF.1 (hp.subset (by simp) : x ∈ elemsF E)).1
  have hx' : decide (x < 32) = true := by simpa using hx
  have hpl : pre.length ≤ 32 := by
   have := hp.length_le
   have h4 := elems_len (S := E) (n := 32) (by decide) hE
   simp at this; omega
  have e2 : (2 : Int) ^ x % 4294967296 = ((pow2 x : Nat) : Int) := by
   have e3 : (2 : Int) ^ x = ((pow2 x : Nat) : Int) := by unfold pow2; rw [Int.natCast_pow]; rfl
   have := two_lt hx
   rw [e3]; exact Int.emod_eq_of_lt (b := 4294967296) (Int.natCast_nonneg _) (Int.ofNat_lt.2 this)
  have e4 : IntKind.u32.wrap (2 ^ min x 32) = ((pow2 x : Nat) : Int) := by
   rw [Nat.min_eq_left (by omega), ← e2]; rfl
  clear hx
  refine wpIn_block ?_
  refine AnyE.startIn (fun w' => w'.cell? ⟨w.heap.size, 0, none⟩ = some (.slice B pre.length cb) ∧ w.heap.size < w'.heap.size) 5 (by kernel_rfl) (by kernel_rfl) (by rintro ⟨_, _, h⟩; exact h) ?_
  have hHeld : W.drew.cell? ⟨w.heap.size, 0, none⟩ = some (.slice B pre.length cb) ∧ w.heap.size < W.drew.heap.size := ⟨c1, l1⟩
  (refine AnyE.t (v := ?_) 0 19 rfl rfl (by kernel_rfl) (fun _ _ _ h => h) hHeld (Or.inl ⟨by rfl, ?_⟩) ?_; rotate_left 1; focus (intro w' hSw; (try dsimp only at hSw); go_simp; (try with_reducible rfl); done); (try simp only [Act.put, List.setIfInBounds_toArray, List.set_cons_zero, List.set_cons_succ])); (refine AnyE.t (v := ?_) 1 20 rfl rfl (by kernel_rfl) (fun _ _ _ h => h) hHeld (Or.inl ⟨by rfl, ?_⟩) ?_; rotate_left 1; focus (intro w' hSw; (try dsimp only at hSw); go_simp; (try with_reducible rfl); done); (try simp only [Act.put, List.setIfInBounds_toArray, List.set_cons_zero, List.set_cons_succ])); (refine AnyE.t (v := ?_) 2 21 rfl rfl (by kernel_rfl) (fun _ _ _ h => h) hHeld (Or.inl ⟨by rfl, ?_⟩) ?_; rotate_left 1; focus (intro w' hSw; (try dsimp only at hSw); go_simp; (try with_reducible rfl); done); (try simp only [Act.put, List.setIfInBounds_toArray, List.set_cons_zero, List.set_cons_succ]))
  refine AnyE.one (i := 3) (by kernel_rfl) rfl (fun K hK => ?_)
  go_simp
  refine hK.out _ _ (fun _ => ?_) ?_
  ·refine ⟨?_, ?_⟩ <;> go_simp
  clear hK K hHeld
  (try simp only [Act.put, List.setIfInBounds_toArray, List.set_cons_zero, List.set_cons_succ])
  refine AnyE.one (i := 4) (by kernel_rfl) rfl (fun K hK => ?_)
  refine step_push _ rfl (.tmp 19) (.tmp 22) 32 rfl (W0.heap.size + 2) 45 i0 (.int .u32 0) 1 4 Tryz.underlying32 hi0 hz0 hz1 hz2 rfl (by decide) B pre.length cb ((pre.map pow2).map maskV) (by simp [Act.eval]) (h2.drew.alloc _) W.heap.size #[.int .u32 ((pow2 x : Nat) : Int)] 45 (0, 0) (by simp [Act.eval]) (heap_new_drew _ _) rfl (one_mask _) (by unfold maxLen; omega) (by omega) (by simp; omega) ?_
  intro B' cb' w4 hown hgr hat
  have hne : ∀ k, orE (fun k => k = w.heap.size + 1 ∨ k = W0.heap.size ∨ k = W0.heap.size + 1) (fun k => k = 0) k → some k ≠ (Value.slice B pre.length cb).ownBlock := by
   have := hT.1
   rintro k (h | h)
   ·exact own_ne h2 (by omega)
   ·exact own_ne h2 (by omega)
  have hs4 := (SameE.alloc (orE (fun k => k = w.heap.size + 1 ∨ k = W0.heap.size ∨ k = W0.heap.size + 1) (fun k => k = 0)) W.drew (.cells #[.int .u32 ((pow2 x : Nat) : Int)] 45)).trans (SameE.grown hgr hne)
  have hb4 := ((h3.drew).alloc (.cells #[.int .u32 ((pow2 x : Nat) : Int)] 45)).grown hgr (fun k hk => by have := own_ge h2 k hk; omega)
  have h14 : Boxed w4 w.heap.size 32 (.slice B pre.length cb) := Blk.grown (Blk.alloc (show Blk W.drew _ _ _ from h1) _) hgr (own_ne h2 (by omega))
  obtain ⟨c4, f4, l4⟩ := boxed_cell0 h14
  refine hK.out _ _ (fun _ => ⟨c4, l4⟩) ?_
  clear hK K
  (try simp only [Act.put, List.setIfInBounds_toArray, List.set_cons_zero, List.set_cons_succ])
  (refine AnyE.one (i := 5) (by kernel_rfl) rfl (fun K hK => ?_)); go_simp; refine hK.out _ _ (fun h => absurd rfl h) ?_; clear hK K; refine AnyE.done (by kernel_rfl) ?_ _; (try simp only [Act.put, List.setIfInBounds_toArray, List.set_cons_zero, List.set_cons_succ])
  refine ⟨hs4.trans (SameE.setCell _ _ _ ?_), B', cb', ?_, ?_, hb4.setCell (by simp) _⟩
  ·have := hT.1
   rintro ((h | h | h) | h) <;> (dsimp only at h; omega)
  ·have := h14.set (.slice B' (pre.length + 1) cb')
   simpa using this
  ·have := own_other_cell hown (a := ⟨w.heap.size, 0, none⟩) (by simp; omega) (.slice B' (pre.length + 1) cb')
   simpa [maskV] using this
 case done =>
  rintro W ⟨B, cb, h1, h2, h3⟩ hK
  obtain ⟨c1, f1, l1⟩ := boxed_cell0 h1
  go_wp2
  refine leave_marks (B := w.heap.size) (Marks.push (Marks.nil _ _) (by omega) hK (by simp)) ?_
  intro W' hA hs
  refine ⟨.tuple #[.slice B (elemsF E).length cb, .int .i64 0], by simp [results, Tryz.results70, go_sem], ?_⟩
  have h4 := own_def h2 hA
  have h5 : W'.ownsRow (W0.heap.size + 2) 45 1 (.slice B ((elemsF E).map pow2).length cb) ((elemsF E).map pow2).length (((elemsF E).map pow2).map maskV) := by simpa using h4
  have := RetChoices.own h5 (hA.bel h3)
  simpa using this
 case stop =>
  rintro c' pre W hp h hK
  exact h.elim

end Go.Proofs.YtgemlgpjbclonaaGreatDoor

/- Contract: the choices of all daemons, the program's. -/
namespace Go.Proofs.YtgemlgpjbclonaaGreatDoor
open Go.RowKit

set_option maxRecDepth 100000 in
set_option maxHeartbeats 4000000 in
theorem choices_any (A : Option Addr) (c : Nat) (g : Graph) (kind : Int) (E : Nat) (w : World) (hN : NetR w A g) (hT : Tab32 w) (hE : E < 4294967296) (hw : ∀ v, E.testBit v = true → v < g.ports.length) (hg : GOK g) :
  Calls Tryz.prog 70 #[.slice A g.ports.length c, .int .i64 kind, .int .u32 (E : Int)] w (RetChoices (choicesF g kind E) w) := by
 have HF : Hid (choicesF g kind E = if E = 0 then ([], 0) else if kind = 1 then ((elemsF E).map (2 ^ ·), 0) else if kind = 4 then ([E], 0) else if 10 < (elemsF E).length then ([], 3) else ((partsFrom E (lsb E)).filter (permitsF g kind E), 0)) := rfl
 have HB := Bel.refl w
 obtain ⟨i0, hi0, hz0, hz1, hz2⟩ := info_parts u32_info
 by_cases h0 : E = 0
 ·rw [if_pos h0] at HF
  have d0 : ((E : Int) == 0) = true := by simpa using h0
  clear h0 hN hT hg
  go_enter Tryz.func70, Tryz.ntmps70
  go_wp2_with fail
  go_ret2
  rw [HF.out]
  exact RetChoices.empty _ HB
 rw [if_neg h0] at HF
 have d0 : ((E : Int) == 0) = false := by simpa using h0
 by_cases k1 : kind = 1
 ·rw [if_pos k1] at HF
  subst k1
  have := choicesC_any A c g E w hT hE h0
  rw [HF.out]
  exact this
 rw [if_neg k1] at HF
 have k1' : (kind == 1) = false := by simpa using k1
 by_cases k4 : kind = 4
 ·rw [if_pos k4] at HF
  subst k4
  clear h0 k1 hN hT hg
  go_enter Tryz.func70, Tryz.ntmps70
  go_wp2_with fail
  go_ret2
  rw [HF.out]
  refine ⟨_, 1, rfl, ⟨rfl, fun i x hx => ?_⟩, Nat.le_refl _, by unfold maxLen; decide, (HB.alloc _).alloc _⟩
  match i, hx with
  | 0, hx =>
   obtain rfl : E = x := by simpa using hx
   refine ⟨_, 0, rfl, by simp, ?_⟩
   unfold MaskAt
   go_simp
  | i + 1, hx => simp at hx
 rw [if_neg k4] at HF
 have k4' : (kind == 4) = false := by simpa using k4
 by_cases h10 : 10 < (elemsF E).length
 ·rw [if_pos h10] at HF
  have d10 : decide ((10 : Int) < ((elemsF E).length : Int)) = true := by simp; omega
  clear h0 k1 k4 h10 hN hT hg
  go_enter Tryz.func70, Tryz.ntmps70
  go_wp2_with (go_at_call 91; refine (ones_any E _ hE).mono ?_; rintro e w' ⟨rfl, hb⟩)
  go_ret2
  rw [HF.out]
  exact RetChoices.empty _ ((HB.alloc _).trans hb)
 ·rw [if_neg h10] at HF
  have d10 : decide ((10 : Int) < ((elemsF E).length : Int)) = false := by simp; omega
  have HN := Lib.hid (fun w' (k : Bel w w') => hN.keep k)
  have HT := Lib.hid (fun w' (k : Bel w w') => hT.keep k)
  have HG := Lib.hid hg
  have HWV := Lib.hid hw
  have hl1 := lsb_lt hE
  have hl0 := lsb_ne hE h0
  have HLP := Lib.hid (lsb_part (S := E))
  have qb := bits_lsb' hE h0
  have hle : (partsFrom E (lsb E)).length ≤ 4294967296 := by
   have := parts_len hE (E - lsb E + 1) (lsb E) (by omega) lsb_part (lsb_ne hE h0)
   omega
  have HLE := Lib.hid hle
  clear h0 k1 k4 h10 hN hT hg hw hle
  go_enter Tryz.func70, Tryz.ntmps70
  go_wp2_with (go_at_call 91; refine (ones_any E _ hE).mono ?_; rintro e w1 ⟨rfl, hb⟩)
  have HBX : Hid (Boxed w1 w.heap.size 32 (.slice none 0 0)) := Blk.keep (Boxed.new w 32 (.slice none 0 0)) hb
  replace HB := (HB.alloc _).trans hb
  have hz := hb.size
  rw [World.size_alloc] at hz
  clear hb
  go_loopg [10] (leftP E (lsb E)) (fun m x wr => ∃ (s : Nat) (pre : List Nat) (R : Option Addr) (rc : Nat), m = leftP E s ∧ x = .int .u32 (s : Int) ∧ s < 4294967296 ∧ Hid (s &&& E = s) ∧ Hid (pre ++ (partsFrom E s).filter (permitsF g kind E) = (partsFrom E (lsb E)).filter (permitsF g kind E)) ∧ Hid (Boxed wr w.heap.size 32 (.slice R pre.length rc)) ∧ Hid (wr.ownsRow (w.heap.size + 1) 45 1 (.slice R pre.length rc) pre.length (pre.map maskV)) ∧ Bel w wr)
  case atStart => exact ⟨lsb E, [], none, 0, rfl, rfl, hl1, HLP.out, by show _ = _; simp, HBX, World.ownsRow_nil _ _ _ _, HB⟩
  case round =>
   clear HB HBX hz hl1 hl0 qb HLP
   obtain ⟨s, pre, R, rc, rfl, rfl, hs, HS, HP, HX, HO, HB⟩ := hrel
   have c1 := HX.out.cell
   have f1 := HX.out.frozen
   have l1 := HX.out.lt
   have hpl : pre.length ≤ 4294967296 := by
    have h1 := congrArg List.length HP.out
    have h2 := List.length_filter_le (permitsF g kind E) (partsFrom E (lsb E))
    have h3 := HLE.out
    rw [List.length_append] at h1
    omega
   by_cases hs0 : s = 0
   ·have hq : ((s : Int) != 0) = false := by simpa using hs0
    have HZ := Lib.hid hs0
    clear hs0
    go_wp2_with fail
    go_ret2
    rw [HF.out]
    have h1 := HP.out
    rw [HZ.out, partsFrom_zero, List.filter_nil, List.append_nil] at h1
    rw [← h1]
    exact RetChoices.own HO.out HB
   ·have hq : ((s : Int) != 0) = true := by simpa using hs0
    have hse := partW_le HS.out
    have q := nextW_bits (E := E) (s := s) hE hse
    have hnl := nextW_lt (E := E) (s := s) hE
    have HM := Lib.hid (leftP_next hE HS.out hs0)
    have HST := Lib.hid (partsFrom_step hE HS.out hs0)
    have HNP := Lib.hid (nextW_part (E := E) (s := s))
    clear hs0
    generalize nextW 32 E s = nx at *
    cases hp : permitsF g kind E s with
    | false =>
     have HP2 : Hid (pre ++ (partsFrom E nx).filter (permitsF g kind E) = (partsFrom E (lsb E)).filter (permitsF g kind E)) := by
      have h1 := HP.out
      rw [HST.out, List.filter_cons, hp] at h1
      exact h1
     go_wp2_with (go_at_call 92; refine (permits_any A c g kind E s _ (HN.out _ HB) (HT.out _ HB) hE hs HWV.out HG.out).mono ?_; rintro e w' ⟨rfl, hb⟩; rw [hp]; have HX' := Lib.hid (Blk.keep HX.out hb : Boxed w' w.heap.size 32 (.slice R pre.length rc)); have HO' := Lib.hid (hb.owns HO.out); have HB' := HB.trans hb; clear c1 f1 l1)
     go_roundg (leftP E nx)
     case rel => exact ⟨nx, pre, R, rc, rfl, by go_num, hnl, HNP, HP2, HX', HO', HB'⟩
     case measure => exact HM.out
    | true =>
     have HP2 : Hid ((pre ++ [s]) ++ (partsFrom E nx).filter (permitsF g kind E) = (partsFrom E (lsb E)).filter (permitsF g kind E)) := by
      have h1 := HP.out
      rw [HST.out, List.filter_cons, hp] at h1
      show _ = _
      rw [List.append_assoc]; exact h1
     go_wp2_with (first
      | (go_at_call 92; refine (permits_any A c g kind E s _ (HN.out _ HB) (HT.out _ HB) hE hs HWV.out HG.out).mono ?_; rintro e w' ⟨rfl, hb⟩; rw [hp]; have HX' := Lib.hid (Blk.keep HX.out hb : Boxed w' w.heap.size 32 (.slice R pre.length rc)); have HO' := Lib.hid (hb.owns HO.out); have HB' := HB.trans hb; clear c1 f1 l1; have c1 := HX'.out.cell; have f1 := HX'.out.frozen; have l1 := HX'.out.lt)
      | (at_builtin; refine wpList_push _ rfl (.tmp 48) (.tmp 50) 32 rfl (w.heap.size + 1) 45 i0 (.int .u32 0) 1 4 Tryz.underlying32 hi0 hz0 hz1 hz2 rfl (by decide) R pre.length rc (pre.map maskV) rfl (HO'.out.alloc _) w'.heap.size #[.int .u32 (s : Int)] 45 (0, 0) rfl (heap_new _ _) rfl (one_mask _) (by unfold maxLen; omega) (by omega) (by simp; omega) ?_; intro R4 c4 w4 hown hgr hat; have HX4 := Lib.hid (Blk.grown (Blk.alloc HX'.out _) hgr (own_ne HO'.out (by omega)) : Boxed w4 w.heap.size 32 (.slice R pre.length rc)); have HO4 := Lib.hid hown; have HB4 := (HB'.alloc (.cells #[.int .u32 (s : Int)] 45)).grown hgr (fun k hk => by have := own_ge HO'.out k hk; omega); clear hown hgr hat c1 f1 l1; have c1 := HX4.out.cell; have f1 := HX4.out.frozen; have l1 := HX4.out.lt))
     go_roundg (leftP E nx)
     case rel =>
      refine ⟨nx, pre ++ [s], R4, c4, rfl, by go_num, hnl, HNP, HP2, ?_, ?_, HB4.setCell (by simp) _⟩
      ·have := (show Boxed w4 w.heap.size 32 (.slice R pre.length rc) from HX4.out).set (.slice R4 (pre.length + 1) c4)
       show Boxed _ _ _ _
       simpa using this
      ·have := own_other_cell HO4.out (a := ⟨w.heap.size, 0, none⟩) (by simp) (.slice R4 (pre.length + 1) c4)
       show World.ownsRow _ _ _ _ _ _ _
       simpa [maskV] using this
     case measure => exact HM.out

end Go.Proofs.YtgemlgpjbclonaaGreatDoor

/- Configurations from their numbers and the next configuration, value by value from the last one, plain. -/
namespace Go.Proofs.YtgemlgpjbclonaaGreatDoor

/-! ### From the number, from the last value on -/
def runL : List (Int × Int) → Int → List Int × Int
 | [], k => ([], k)
 | b :: bs, k => ((b.1 + (runL bs k).2 % (b.2 - b.1 + 1)) :: (runL bs k).1, (runL bs k).2 / (b.2 - b.1 + 1))
def runN : List (List (Int × Int)) → Int → List (List Int) × Int
 | [], k => ([], k)
 | t :: T, k => ((runL t (runN T k).2).1 :: (runN T k).1, (runL t (runN T k).2).2)
theorem div_mod_mul {k s S : Int} (hs : 0 < s) (hS : 0 < S) (_ : 0 ≤ k) : k % (s * S) / S = k / S % s ∧ k % (s * S) % S = k % S := by
 have h1 : k % (s * S) = k % (S * s) := by rw [Int.mul_comm]
 have hq := Int.emod_add_mul_ediv k S
 have hq2 := Int.emod_add_mul_ediv (k / S) s
 have h0 := Int.emod_nonneg k (show S ≠ 0 by omega)
 have h0' := Int.emod_lt_of_pos k hS
 have h2 := Int.emod_nonneg (k / S) (show s ≠ 0 by omega)
 have h2' := Int.emod_lt_of_pos (k / S) hs
 have e : k = (S * (k / S % s) + k % S) + (s * S) * (k / S / s) := by
  have h3 : S * (k / S) = S * (k / S % s) + S * (s * (k / S / s)) := by rw [← Int.mul_add, hq2]
  have h4 : (s * S) * (k / S / s) = S * (s * (k / S / s)) := by rw [Int.mul_comm s S, Int.mul_assoc]
  omega
 have e2 : k % (s * S) = S * (k / S % s) + k % S := by
  have hlt : S * (k / S % s) + k % S < s * S := by
   have : S * (k / S % s) + S ≤ S * s := by
    have := Int.mul_le_mul_of_nonneg_left (show k / S % s + 1 ≤ s by omega) (Int.le_of_lt hS)
    rw [Int.mul_add, Int.mul_one] at this
    exact this
   rw [Int.mul_comm s S]; omega
  have hnn : 0 ≤ S * (k / S % s) + k % S := by
   have := Int.mul_nonneg (Int.le_of_lt hS) h2
   omega
  conv => lhs; rw [e]
  rw [Int.add_mul_emod_self_left, Int.emod_eq_of_lt hnn hlt]
 rw [e2]
 constructor
 ·rw [Int.add_comm, Int.add_mul_ediv_left _ _ (by omega), Int.ediv_eq_zero_of_lt h0 h0', Int.zero_add]
 ·rw [Int.add_comm, Int.add_mul_emod_self_left, Int.emod_eq_of_lt h0 h0']
theorem runL_eq : ∀ {bs : List (Int × Int)} {k : Int}, okL bs → 0 ≤ k → runL bs k = (confL bs (k % sizeL bs), k / sizeL bs)
 | [], k, _, _ => by simp [runL, confL, sizeL]
 | b :: bs, k, ho, hk => by
  obtain ⟨hb, ho'⟩ := okL_cons ho
  have hS := sizeL_pos ho'
  have ih := runL_eq ho' hk
  obtain ⟨e1, e2⟩ := div_mod_mul (s := b.2 - b.1 + 1) (by omega) hS hk
  show (_ :: _, _) = ((b.1 + k % ((b.2 - b.1 + 1) * sizeL bs) / sizeL bs) :: confL bs (k % ((b.2 - b.1 + 1) * sizeL bs) % sizeL bs), k / ((b.2 - b.1 + 1) * sizeL bs))
  rw [ih, e1, e2, Int.mul_comm, ← Int.ediv_ediv_of_nonneg (Int.le_of_lt hS)]
theorem runN_eq : ∀ {T : List (List (Int × Int))} {k : Int}, okN T → 0 ≤ k → runN T k = (confN T (k % sizeN T), k / sizeN T)
 | [], k, _, _ => by simp [runN, confN, sizeN]
 | t :: T, k, ho, hk => by
  obtain ⟨hb, ho'⟩ := okN_cons ho
  have hS := sizeN_pos ho'
  have ih := runN_eq ho' hk
  have hs := sizeL_pos hb
  obtain ⟨e1, e2⟩ := div_mod_mul (s := sizeL t) hs hS hk
  have hq : 0 ≤ k / sizeN T := Int.ediv_nonneg hk (by omega)
  show ((runL t (runN T k).2).1 :: (runN T k).1, (runL t (runN T k).2).2) = (confL t (k % (sizeL t * sizeN T) / sizeN T) :: confN T (k % (sizeL t * sizeN T) % sizeN T), k / (sizeL t * sizeN T))
  rw [ih, runL_eq hb hq, e1, e2, Int.mul_comm, ← Int.ediv_ediv_of_nonneg (Int.le_of_lt hS)]
theorem runN_conf {T : List (List (Int × Int))} {k : Int} (ho : okN T) (h0 : 0 ≤ k) (hk : k < sizeN T) : (runN T k).1 = confN T k := by
 rw [runN_eq ho h0]
 show confN T (k % sizeN T) = _
 rw [Int.emod_eq_of_lt h0 hk]
/-- As far as the values from x on are done. -/
def partL (t : List (Int × Int)) (k : Int) (x : Nat) : List Int := (leastL t).take x ++ (runL (t.drop x) k).1
def partN (T : List (List (Int × Int))) (k : Int) (v : Nat) : List (List Int) := (leastN T).take v ++ (runN (T.drop v) k).1
theorem leastL_length (t : List (Int × Int)) : (leastL t).length = t.length := by simp [leastL]
theorem leastN_length (T : List (List (Int × Int))) : (leastN T).length = T.length := by simp [leastN]
theorem partL_start (t : List (Int × Int)) (k : Int) : partL t k t.length = leastL t := by
 unfold partL; rw [List.drop_length, List.take_of_length_le (by rw [leastL_length]; exact Nat.le_refl _)]; simp [runL]
theorem partN_start (T : List (List (Int × Int))) (k : Int) : partN T k T.length = leastN T := by
 unfold partN; rw [List.drop_length, List.take_of_length_le (by rw [leastN_length]; exact Nat.le_refl _)]; simp [runN]
theorem partL_zero (t : List (Int × Int)) (k : Int) : partL t k 0 = (runL t k).1 := by simp [partL]
theorem partN_zero (T : List (List (Int × Int))) (k : Int) : partN T k 0 = (runN T k).1 := by simp [partN]
/-- One value more. -/
theorem partL_step {t : List (Int × Int)} {k : Int} {x : Nat} (hx : x < t.length) :
  partL t k x = (partL t k (x + 1)).set x (t[x].1 + (runL (t.drop (x + 1)) k).2 % (t[x].2 - t[x].1 + 1)) ∧ (runL (t.drop x) k).2 = (runL (t.drop (x + 1)) k).2 / (t[x].2 - t[x].1 + 1) ∧
   (partL t k (x + 1))[x]? = some t[x].1 := by
 have hd : t.drop x = t[x] :: t.drop (x + 1) := (List.drop_eq_getElem_cons hx)
 have hl : x < (leastL t).length := by rw [leastL_length]; exact hx
 have ht : (leastL t).take (x + 1) = (leastL t).take x ++ [t[x].1] := by
  rw [List.take_succ_eq_append_getElem hl]; simp [leastL]
 have hlen : ((leastL t).take x).length = x := by rw [List.length_take]; omega
 unfold partL
 rw [hd, ht]
 refine ⟨?_, rfl, ?_⟩
 ·rw [List.append_assoc, List.set_append_right _ _ (by omega), hlen, Nat.sub_self]; rfl
 ·rw [List.append_assoc, List.getElem?_append_right (by omega), hlen, Nat.sub_self]; rfl
/-- One row more. -/
theorem partN_step {T : List (List (Int × Int))} {k : Int} {v : Nat} (hv : v < T.length) :
  partN T k v = (partN T k (v + 1)).set v (runL T[v] (runN (T.drop (v + 1)) k).2).1 ∧ (runN (T.drop v) k).2 = (runL T[v] (runN (T.drop (v + 1)) k).2).2 ∧
   (partN T k (v + 1))[v]? = some (leastL T[v]) := by
 have hd : T.drop v = T[v] :: T.drop (v + 1) := (List.drop_eq_getElem_cons hv)
 have hl : v < (leastN T).length := by rw [leastN_length]; exact hv
 have ht : (leastN T).take (v + 1) = (leastN T).take v ++ [leastL T[v]] := by
  rw [List.take_succ_eq_append_getElem hl]; simp [leastN]
 have hlen : ((leastN T).take v).length = v := by rw [List.length_take]; omega
 unfold partN
 rw [hd, ht]
 refine ⟨?_, rfl, ?_⟩
 ·rw [List.append_assoc, List.set_append_right _ _ (by omega), hlen, Nat.sub_self]; rfl
 ·rw [List.append_assoc, List.getElem?_append_right (by omega), hlen, Nat.sub_self]; rfl
/-- What is left of a number stays small. -/
theorem runL_rest : ∀ {bs : List (Int × Int)} {k : Int}, okL bs → 0 ≤ k → 0 ≤ (runL bs k).2 ∧ (runL bs k).2 ≤ k
 | [], k, _, hk => ⟨hk, Int.le_refl _⟩
 | b :: bs, k, ho, hk => by
  obtain ⟨hb, ho'⟩ := okL_cons ho
  obtain ⟨h1, h2⟩ := runL_rest ho' hk
  have h3 := Int.ediv_nonneg h1 (show 0 ≤ b.2 - b.1 + 1 by omega)
  have h4 := Int.ediv_le_self (b.2 - b.1 + 1) h1
  exact ⟨h3, Int.le_trans h4 h2⟩
theorem runN_rest : ∀ {T : List (List (Int × Int))} {k : Int}, okN T → 0 ≤ k → 0 ≤ (runN T k).2 ∧ (runN T k).2 ≤ k
 | [], k, _, hk => ⟨hk, Int.le_refl _⟩
 | t :: T, k, ho, hk => by
  obtain ⟨hb, ho'⟩ := okN_cons ho
  obtain ⟨h1, h2⟩ := runN_rest ho' hk
  obtain ⟨h3, h4⟩ := runL_rest hb h1
  exact ⟨h3, Int.le_trans h4 h2⟩
theorem okL_drop {t : List (Int × Int)} (h : okL t) (x : Nat) : okL (t.drop x) := fun b hb => h b (List.mem_of_mem_drop hb)
theorem okN_drop {T : List (List (Int × Int))} (h : okN T) (x : Nat) : okN (T.drop x) := fun b hb => h b (List.mem_of_mem_drop hb)

/-! ### The next configuration, from the last value on -/
theorem advL_cons (b : Int × Int) (bs : List (Int × Int)) (c : Int) (cs : List Int) : advL (b :: bs) (c :: cs) = if (advL bs cs).2 then (if c < b.2 then ((c + 1) :: (advL bs cs).1, false) else (b.1 :: (advL bs cs).1, true)) else (c :: (advL bs cs).1, false) := rfl
theorem advN_cons (t : List (Int × Int)) (T : List (List (Int × Int))) (c : List Int) (C : List (List Int)) : advN (t :: T) (c :: C) = if (advN T C).2 then ((advL t c).1 :: (advN T C).1, (advL t c).2) else (c :: (advN T C).1, false) := rfl
theorem advL_cut : ∀ (x : Nat) (bs : List (Int × Int)) (cs : List Int), cs.length = bs.length → (advL (bs.drop x) (cs.drop x)).2 = false → advL bs cs = (cs.take x ++ (advL (bs.drop x) (cs.drop x)).1, false)
 | 0, bs, cs, _, h => by
  simp only [List.drop_zero, List.take_zero, List.nil_append] at *
  rw [← h]
 | x + 1, [], cs, _, h => by simp [advL] at h
 | x + 1, b :: bs, [], hl, _ => by simp at hl
 | x + 1, b :: bs, c :: cs, hl, h => by
  have ih := advL_cut x bs cs (by simpa using hl) h
  simp only [List.drop_succ_cons, List.take_succ_cons]
  rw [advL_cons, ih]; rfl
theorem advN_cut : ∀ (v : Nat) (T : List (List (Int × Int))) (C : List (List Int)), C.length = T.length → (advN (T.drop v) (C.drop v)).2 = false → advN T C = (C.take v ++ (advN (T.drop v) (C.drop v)).1, false)
 | 0, bs, cs, _, h => by
  simp only [List.drop_zero, List.take_zero, List.nil_append] at *
  rw [← h]
 | x + 1, [], cs, _, h => by simp [advN] at h
 | x + 1, b :: bs, [], hl, _ => by simp at hl
 | x + 1, b :: bs, c :: cs, hl, h => by
  have ih := advN_cut x bs cs (by simpa using hl) h
  simp only [List.drop_succ_cons, List.take_succ_cons]
  rw [advN_cons, ih]; rfl
/-- The values from x on are the least again. -/
def backL (t : List (Int × Int)) (c : List Int) (x : Nat) : List Int := c.take x ++ (leastL t).drop x
def backN (T : List (List (Int × Int))) (C : List (List Int)) (v : Nat) : List (List Int) := C.take v ++ (leastN T).drop v
theorem adv_least {bs : List (Int × Int)} {cs : List Int} (hin : inL bs cs) (h : (advL bs cs).2 = true) : advL bs cs = (leastL bs, true) := by
 have := ((advL_law hin).2.1 h).2
 rw [← this, ← h]
theorem advN_least {T : List (List (Int × Int))} {C : List (List Int)} (hin : inN T C) (h : (advN T C).2 = true) : advN T C = (leastN T, true) := by
 have := ((advN_law hin).2.1 h).2
 rw [← this, ← h]
theorem inL_length : ∀ {bs : List (Int × Int)} {cs : List Int}, inL bs cs → cs.length = bs.length
 | [], [], _ => rfl
 | [], _ :: _, h => h.elim
 | _ :: _, [], h => h.elim
 | _ :: _, _ :: _, h => by simpa using inL_length h.2.2
theorem inN_length : ∀ {bs : List (List (Int × Int))} {cs : List (List Int)}, inN bs cs → cs.length = bs.length
 | [], [], _ => rfl
 | [], _ :: _, h => h.elim
 | _ :: _, [], h => h.elim
 | _ :: _, _ :: _, h => by simpa using inN_length h.2
theorem inL_drop : ∀ {bs : List (Int × Int)} {cs : List Int} (x : Nat), inL bs cs → inL (bs.drop x) (cs.drop x)
 | _, _, 0, h => by simpa using h
 | [], [], _ + 1, _ => by simp [inL]
 | [], _ :: _, _, h => h.elim
 | _ :: _, [], _, h => h.elim
 | _ :: bs, _ :: cs, x + 1, h => by simpa using inL_drop x h.2.2
theorem inN_drop : ∀ {bs : List (List (Int × Int))} {cs : List (List Int)} (x : Nat), inN bs cs → inN (bs.drop x) (cs.drop x)
 | _, _, 0, h => by simpa using h
 | [], [], _ + 1, _ => by simp [inN]
 | [], _ :: _, _, h => h.elim
 | _ :: _, [], _, h => h.elim
 | _ :: bs, _ :: cs, x + 1, h => by simpa using inN_drop x h.2
theorem backL_start {t : List (Int × Int)} {c : List Int} (h : c.length = t.length) : backL t c t.length = c := by
 unfold backL; rw [List.take_of_length_le (by omega), List.drop_eq_nil_of_le (by rw [leastL_length]; exact Nat.le_refl _), List.append_nil]
theorem backN_start {T : List (List (Int × Int))} {C : List (List Int)} (h : C.length = T.length) : backN T C T.length = C := by
 unfold backN; rw [List.take_of_length_le (by omega), List.drop_eq_nil_of_le (by rw [leastN_length]; exact Nat.le_refl _), List.append_nil]
theorem backL_zero {t : List (Int × Int)} {c : List Int} : backL t c 0 = leastL t := by simp [backL]
theorem backN_zero {T : List (List (Int × Int))} {C : List (List Int)} : backN T C 0 = leastN T := by simp [backN]
theorem backN_length {T : List (List (Int × Int))} {C : List (List Int)} (h : C.length = T.length) {x : Nat} (hx : x ≤ T.length) : (backN T C x).length = T.length := by
 unfold backN; rw [List.length_append, List.length_take, List.length_drop, leastN_length]; omega
theorem backL_step {t : List (Int × Int)} {c : List Int} (h : c.length = t.length) {x : Nat} (hx : x < t.length) : (backL t c (x + 1)).set x t[x].1 = backL t c x ∧ (backL t c (x + 1))[x]? = some (c[x]'(by omega)) := by
 have hl : x < (leastL t).length := by rw [leastL_length]; exact hx
 have hd : (leastL t).drop x = t[x].1 :: (leastL t).drop (x + 1) := by rw [List.drop_eq_getElem_cons hl]; simp [leastL]
 have ht : c.take (x + 1) = c.take x ++ [c[x]'(by omega)] := List.take_succ_eq_append_getElem _
 have hlen : (c.take x).length = x := by rw [List.length_take]; omega
 unfold backL
 rw [hd, ht]
 refine ⟨?_, ?_⟩
 ·rw [List.append_assoc, List.set_append_right _ _ (by omega), hlen, Nat.sub_self]; rfl
 ·rw [List.append_assoc, List.getElem?_append_right (by omega), hlen, Nat.sub_self]; rfl
theorem backN_step {T : List (List (Int × Int))} {C : List (List Int)} (h : C.length = T.length) {x : Nat} (hx : x < T.length) : (backN T C (x + 1)).set x (leastL T[x]) = backN T C x ∧ (backN T C (x + 1))[x]? = some (C[x]'(by omega)) := by
 have hl : x < (leastN T).length := by rw [leastN_length]; exact hx
 have hd : (leastN T).drop x = leastL T[x] :: (leastN T).drop (x + 1) := by rw [List.drop_eq_getElem_cons hl]; simp [leastN]
 have ht : C.take (x + 1) = C.take x ++ [C[x]'(by omega)] := List.take_succ_eq_append_getElem _
 have hlen : (C.take x).length = x := by rw [List.length_take]; omega
 unfold backN
 rw [hd, ht]
 refine ⟨?_, ?_⟩
 ·rw [List.append_assoc, List.set_append_right _ _ (by omega), hlen, Nat.sub_self]; rfl
 ·rw [List.append_assoc, List.getElem?_append_right (by omega), hlen, Nat.sub_self]; rfl
/-- A value that may grow: the rest is the least again. -/
theorem advL_stop {t : List (Int × Int)} {c : List Int} (hin : inL t c) {x : Nat} (hx : x < t.length) (hc : x < c.length) (hb : (advL (t.drop (x + 1)) (c.drop (x + 1))).2 = true) (hlt : c[x] < t[x].2) :
  advL t c = ((backL t c (x + 1)).set x (c[x] + 1), false) := by
 have h1 := adv_least (inL_drop (x + 1) hin) hb
 have e : advL (t.drop x) (c.drop x) = ((c[x] + 1) :: leastL (t.drop (x + 1)), false) := by
  rw [List.drop_eq_getElem_cons hx, List.drop_eq_getElem_cons hc]
  rw [advL_cons]
  rw [h1, if_pos rfl, if_pos hlt]
 rw [advL_cut x t c (inL_length hin) (by rw [e]), e]
 have ht : c.take (x + 1) = c.take x ++ [c[x]] := List.take_succ_eq_append_getElem hc
 have hlen : (c.take x).length = x := by rw [List.length_take]; omega
 unfold backL
 rw [ht, List.append_assoc, List.set_append_right _ _ (by omega), hlen, Nat.sub_self]
 simp [leastL]
theorem advL_go {t : List (Int × Int)} {c : List Int} {x : Nat} (hx : x < t.length) (hc : x < c.length) (hb : (advL (t.drop (x + 1)) (c.drop (x + 1))).2 = true) (hlt : ¬ c[x] < t[x].2) :
  (advL (t.drop x) (c.drop x)).2 = true := by
 rw [List.drop_eq_getElem_cons hx, List.drop_eq_getElem_cons hc]
 rw [advL_cons, hb, if_pos rfl, if_neg hlt]
theorem advN_stop {T : List (List (Int × Int))} {C : List (List Int)} (hin : inN T C) {v : Nat} (hv : v < T.length) (hc : v < C.length) (hb : (advN (T.drop (v + 1)) (C.drop (v + 1))).2 = true) (hlt : (advL T[v] C[v]).2 = false) :
  (advN T C).1 = (backN T C (v + 1)).set v (advL T[v] C[v]).1 := by
 have h1 := advN_least (inN_drop (v + 1) hin) hb
 have e : advN (T.drop v) (C.drop v) = ((advL T[v] C[v]).1 :: leastN (T.drop (v + 1)), false) := by
  rw [List.drop_eq_getElem_cons hv, List.drop_eq_getElem_cons hc]
  rw [advN_cons]
  rw [h1, if_pos rfl, hlt]
 rw [advN_cut v T C (inN_length hin) (by rw [e]), e]
 have ht : C.take (v + 1) = C.take v ++ [C[v]] := List.take_succ_eq_append_getElem hc
 have hlen : (C.take v).length = v := by rw [List.length_take]; omega
 unfold backN
 rw [ht, List.append_assoc, List.set_append_right _ _ (by omega), hlen, Nat.sub_self]
 simp [leastN]
theorem advN_go {T : List (List (Int × Int))} {C : List (List Int)} {v : Nat} (hv : v < T.length) (hc : v < C.length) (hb : (advN (T.drop (v + 1)) (C.drop (v + 1))).2 = true) (hlt : (advL T[v] C[v]).2 = true) :
  (advN (T.drop v) (C.drop v)).2 = true := by
 rw [List.drop_eq_getElem_cons hv, List.drop_eq_getElem_cons hc]
 rw [advN_cons, hb, if_pos rfl, hlt]
theorem advL_end (t : List (Int × Int)) (c : List Int) : (advL (t.drop t.length) (c.drop t.length)).2 = true := by
 rw [List.drop_length]; simp [advL]
theorem advN_end (T : List (List (Int × Int))) (C : List (List Int)) : (advN (T.drop T.length) (C.drop T.length)).2 = true := by
 rw [List.drop_length]; simp [advN]

/-! ### Sizes of rests -/
theorem sizeL_drop : ∀ {bs : List (Int × Int)} (x : Nat), okL bs → sizeL (bs.drop x) ≤ sizeL bs
 | bs, 0, _ => by simp
 | [], _ + 1, _ => by simp
 | b :: bs, x + 1, ho => by
  obtain ⟨hb, ho'⟩ := okL_cons ho
  have ih := sizeL_drop x ho'
  have hp := sizeL_pos ho'
  have := mul_ge (r := sizeL bs) (s := b.2 - b.1 + 1) (by omega) (by omega)
  rw [Int.mul_comm] at this
  show sizeL (bs.drop x) ≤ (b.2 - b.1 + 1) * sizeL bs
  omega
theorem sizeN_drop : ∀ {T : List (List (Int × Int))} (v : Nat), okN T → sizeN (T.drop v) ≤ sizeN T
 | T, 0, _ => by simp
 | [], _ + 1, _ => by simp
 | t :: T, x + 1, ho => by
  obtain ⟨hb, ho'⟩ := okN_cons ho
  have ih := sizeN_drop x ho'
  have hp := sizeN_pos ho'
  have hq := sizeL_pos hb
  have := mul_ge (r := sizeN T) (s := sizeL t) (by omega) (by omega)
  rw [Int.mul_comm] at this
  show sizeN (T.drop x) ≤ sizeL t * sizeN T
  omega
/-- All sizes on the way are small. -/
theorem size_within {T : List (List (Int × Int))} (ho : okN T) {M : Int} (hM : sizeN T ≤ M) {v : Nat} (hv : v < T.length) (x : Nat) :
  1 ≤ sizeL (T[v].drop x) * sizeN (T.drop (v + 1)) ∧ sizeL (T[v].drop x) * sizeN (T.drop (v + 1)) ≤ M := by
 have hok : okL T[v] := ho _ (List.getElem_mem hv)
 have h1 := sizeL_pos (okL_drop hok x)
 have h2 := sizeN_pos (okN_drop ho (v + 1))
 have h3 := sizeL_drop x hok
 have h4 := sizeN_drop v ho
 rw [List.drop_eq_getElem_cons hv] at h4
 have h5 : sizeN (T[v] :: T.drop (v + 1)) = sizeL T[v] * sizeN (T.drop (v + 1)) := rfl
 rw [h5] at h4
 have h6 := Int.mul_le_mul_of_nonneg_right h3 (Int.le_of_lt h2)
 have h7 := Int.mul_pos h1 h2
 omega

end Go.Proofs.YtgemlgpjbclonaaGreatDoor

