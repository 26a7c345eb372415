/- Merged of: W12a W12d W12b W12e (see NOTES.md). -/
import Derived.Test.YtaifafljakojnaaGreatZ16
import Derived.Test.YtaifafljakojnaaGreatZ04
import Derived.Test.YtaifafljakojnaaGreatZ07
set_option linter.unusedSimpArgs false
set_option linter.unnecessarySimpa false
set_option linter.unusedVariables false

/- Contracts of the compiler of layer 12. -/
namespace Go.Proofs.YtaifafljakojnaaGreat
open Go.RowKit

theorem instr_info : (Tryz.prog.info? 43).map (fun i => (i.zero, i.size, i.bytes)) = some (some (.agg #[.int .i64 0, .int .i64 0]), 2, 16) := by kernel_rfl

/-- The compiler: its terms, and the code that it has written. -/
def CompSt (w0 : World) (B : Nat) (w : World) (E : Option Addr) (n c : Nat) (C : Option Addr) (m mc : Nat) (is : List Term) : Prop :=
  w0.heap.size ≤ B ∧ Blk w B #[.slice E n c, .slice C m mc] 97 ∧ w.ownsRow w0.heap.size 43 2 (.slice C m mc) m (is.flatMap termCells) ∧ Bel w0 w

def CompFr : World → World → Prop := TFrame [97, 43]

theorem CompSt.len {w0 : World} {B : Nat} {w : World} {E : Option Addr} {n c : Nat} {C : Option Addr} {m mc : Nat} {is : List Term} (h : CompSt w0 B w E n c C m mc is) : is.length = m := by
  have := h.2.2.1.1
  rw [termCells_length] at this; omega
theorem CompSt.alloc {w0 : World} {B : Nat} {w : World} {E : Option Addr} {n c : Nat} {C : Option Addr} {m mc : Nat} {is : List Term} (h : CompSt w0 B w E n c C m mc is) (o : Obj) : CompSt w0 B (w.alloc o) E n c C m mc is :=
  ⟨h.1, h.2.1.alloc o, h.2.2.1.alloc o, h.2.2.2.alloc o⟩

theorem CompSt.push {w0 : World} {B : Nat} {w w2 : World} {E : Option Addr} {n c : Nat} {C C' : Option Addr} {m mc mc' : Nat} {is : List Term} {t : Term} (h : CompSt w0 B w E n c C m mc is)
    (ho : w2.ownsRow w0.heap.size 43 2 (.slice C' (m + 1) mc') (m + 1) (is.flatMap termCells ++ [.int .i64 t.op, .int .i64 t.arg])) (hg : w.grownBy w2 (Value.slice C m mc).ownBlock) :
    Blk w2 B #[.slice E n c, .slice C m mc] 97 ∧ CompSt w0 B (w2.setCell ⟨B, 1, none⟩ (.slice C' (m + 1) mc')) E n c C' (m + 1) mc' (is ++ [t]) ∧ CompFr w (w2.setCell ⟨B, 1, none⟩ (.slice C' (m + 1) mc')) := by
  obtain ⟨h1, h2, h3, h4⟩ := h
  have hB : Blk w2 B #[.slice E n c, .slice C m mc] 97 := h2.grown hg (h2.apart h3 (by decide))
  refine ⟨hB, ⟨h1, hB.set 1 _, ?_, ?_⟩, ?_⟩
  · have := ownsRow_setCell_other ho (a := ⟨B, 1, none⟩) (fun e => hB.apart ho (by decide) e.symm) (.slice C' (m + 1) mc')
    simpa [termCells] using this
  · exact (h4.push h3 hg).setCell h1 _
  · exact ((TFrame.refl _ _).grown h3 (by decide) hg).set hB (by decide) _ _

def RetEmit (w0 : World) (B : Nat) (w : World) (E : Option Addr) (n c : Nat) (m : Nat) (is : List Term) (e : Ending) (w' : World) : Prop :=
  ∃ C mc, e = .returned (.int .i64 m) ∧ CompSt w0 B w' E n c C is.length mc is ∧ CompFr w w'

set_option maxHeartbeats 400000 in
theorem emit_any (w0 : World) (B : Nat) (w : World) (E : Option Addr) (n c : Nat) (C : Option Addr) (m mc : Nat) (is : List Term) (op a : Int) (h : CompSt w0 B w E n c C m mc is) (hm : m ≤ 1000000) :
    Calls Tryz.prog 103 #[.pointer (some ⟨B, 0, none⟩), .int .i64 op, .int .i64 a] w (RetEmit w0 B w E n c m (is ++ [⟨op, a⟩])) := by
  have hc1 := h.2.1.cell 1 (v := .slice C m mc) rfl
  have hf1 := h.2.1.frozen 1
  have hlt := h.2.1.lt
  have hlen := Lib.hid h.len
  have hbs := h.2.2.2.size
  have H := Lib.hid h; clear h
  obtain ⟨i0, hi0, hz0, hz1, hz2⟩ := info_parts instr_info
  go_enter Tryz.func103, Tryz.ntmps103
  go_wp2_with (at_builtin; refine wpList_push _ rfl (.tmp 11) (.tmp 15) 22 rfl w0.heap.size 43 i0 (.agg #[.int .i64 0, .int .i64 0]) 2 16 Tryz.underlying22 hi0 hz0 hz1 hz2 rfl (by decide) C m mc (is.flatMap termCells) (by simp [Act.eval]) (H.out.2.2.1.alloc _) w.heap.size #[.int .i64 op, .int .i64 a] 43 (0, 0) (by simp [Act.eval]) (heap_new _ _) rfl (two_ints _ _ _ _) (by unfold maxLen; omega) (by omega) (by simp; omega) ?_; intro C' mc' w2 hown2 hgr2 hat2; obtain ⟨hB2, HS2, HF2⟩ := CompSt.push (t := ⟨op, a⟩) (H.out.alloc _) hown2 hgr2; have hc2 := hB2.cell 1 (v := .slice C m mc) rfl; have hf2 := hB2.frozen 1; replace HS2 := Lib.hid HS2; replace HF2 := Lib.hid HF2; clear hown2 hgr2 hat2 hB2)
  go_ret
  refine ⟨C', mc', ret_int (by omega), ?_, (TFrame.of_bel ((Bel.refl w).alloc _)).trans HF2.out⟩
  have := HS2.out
  rw [show (is ++ [(⟨op, a⟩ : Term)]).length = m + 1 by simp [hlen.out]]
  exact this
def RetLeaf (w0 : World) (B : Nat) (w : World) (E : Option Addr) (n c : Nat) (is : List Term) (e : Ending) (w' : World) : Prop :=
  ∃ v C mc, e = .returned v ∧ CompSt w0 B w' E n c C is.length mc is ∧ CompFr w w'

set_option maxHeartbeats 1000000 in
theorem leaf_any (w0 : World) (B : Nat) (w : World) (E : Option Addr) (n c : Nat) (C : Option Addr) (m mc : Nat) (is : List Term) (t : Term) (h : CompSt w0 B w E n c C m mc is) (hm : m ≤ 1000000) :
    Calls Tryz.prog 101 #[.pointer (some ⟨B, 0, none⟩), .agg #[.int .i64 t.op, .int .i64 t.arg]] w (RetLeaf w0 B w E n c (is ++ [leafI t])) := by
  have H := Lib.hid h; clear h
  obtain ⟨op, arg⟩ := t
  have hfin : ∀ x : Term, leafI ⟨op, arg⟩ = x → ∀ (w2 : World) (v : Value), RetEmit w0 B (w.alloc (.cells #[.int .i64 op, .int .i64 arg] 129)) E n c m (is ++ [x]) (.returned v) w2 → ∀ u, RetLeaf w0 B w E n c (is ++ [leafI ⟨op, arg⟩]) (.returned u) w2 := by
    rintro x rfl w2 v ⟨C2, mc2, _, h2, h3⟩ u
    exact ⟨u, C2, mc2, rfl, h2, (TFrame.of_bel ((Bel.refl w).alloc _)).trans h3⟩
  have HF := Lib.hid hfin; clear hfin
  simp only
  go_enter Tryz.func101, Tryz.ntmps101
  go_wp2_with (go_at_call 103; refine (emit_any w0 B _ E n c C m mc is _ _ (H.out.alloc _) hm).mono ?_; intro e w2 hR; have HR := Lib.hid hR; clear hR; obtain ⟨v, rfl⟩ : ∃ v, e = .returned v := by (obtain ⟨_, _, h, _⟩ := HR.out; exact ⟨_, h⟩))
  all_goals
    go_end0
    refine HF.out _ ?_ w2 _ HR.out _
    simp only [beq_iff_eq, beq_eq_false_iff_ne, ne_eq] at *
    simp [leafI, *]

theorem termCells_set (es : List Term) (j : Nat) (a : Int) (h : j < es.length) : (es.flatMap termCells).set (j * 2 + 1) (.int .i64 a) = (es.set j ⟨es[j].op, a⟩).flatMap termCells := by
  induction es generalizing j with
  | nil => simp at h
  | cons x es ih =>
    cases j with
    | zero => simp [termCells]
    | succ j =>
      have := ih j (by simpa using h)
      rw [show (j + 1) * 2 + 1 = (j * 2 + 1) + 1 + 1 by omega]
      simpa [termCells] using this

theorem CompSt.store {w0 : World} {B : Nat} {w : World} {E : Option Addr} {n c : Nat} {g m mc : Nat} {is : List Term} (h : CompSt w0 B w E n c (some ⟨g, 0, none⟩) m mc is) (j : Nat) {u : Term} (hu : is[j]? = some u) (a : Int) :
    CompSt w0 B (w.setCell ⟨g, j * 2 + 1, none⟩ (.int .i64 a)) E n c (some ⟨g, 0, none⟩) m mc (is.set j ⟨u.op, a⟩) ∧ CompFr w (w.setCell ⟨g, j * 2 + 1, none⟩ (.int .i64 a)) := by
  obtain ⟨h1, h2, h3, h4⟩ := h
  obtain ⟨hj, rfl⟩ := List.getElem?_eq_some_iff.1 hu
  have hne : B ≠ g := fun e => h2.apart h3 (by decide) (by rw [e]; rfl)
  have hs := h3.stored (j * 2 + 1) (.int .i64 a)
  obtain ⟨cs, hg⟩ := own_blk h3
  refine ⟨⟨h1, h2.other hne _, ?_, ?_⟩, (TFrame.refl _ _).set hg (by decide) _ _⟩
  · rw [← termCells_set is j a hj]; exact hs.1
  · exact h4.setCell (h3.lt g rfl).1 _
theorem CompSt.drew {w0 : World} {B : Nat} {w : World} {E : Option Addr} {n c : Nat} {C : Option Addr} {m mc : Nat} {is : List Term} (h : CompSt w0 B w E n c C m mc is) : CompSt w0 B w.drew E n c C m mc is :=
  ⟨h.1, h.2.1.drew, h.2.2.1.drew, h.2.2.2.drew⟩
theorem CompSt.drewN {w0 : World} {B : Nat} {w : World} {E : Option Addr} {n c : Nat} {C : Option Addr} {m mc : Nat} {is : List Term} (h : CompSt w0 B w E n c C m mc is) (k : Nat) : CompSt w0 B (w.drewN k) E n c C m mc is :=
  ⟨h.1, h.2.1.drewN k, h.2.2.1, h.2.2.2.drewN k⟩
/-- The cell that a store into the code meets. -/
theorem CompSt.at_ {w0 : World} {B : Nat} {w : World} {E : Option Addr} {n c : Nat} {C : Option Addr} {m mc : Nat} {is : List Term} (h : CompSt w0 B w E n c C m mc is) (j : Nat) {u : Term} (hu : is[j]? = some u) :
    ∃ g, C = some ⟨g, 0, none⟩ ∧ w.cell? ⟨g, j * 2 + 1, none⟩ = some (.int .i64 u.arg) ∧ w.frozen? ⟨g, j * 2 + 1, none⟩ = false ∧ g ≠ B := by
  obtain ⟨g, h1, _, _, h4, h5⟩ := own_at h.2.2.1 (termCells_at is j u hu).2
  subst h1
  exact ⟨g, rfl, h4, h5, fun e => h.2.1.apart h.2.2.1 (by decide) (by rw [e]; rfl)⟩

end Go.Proofs.YtaifafljakojnaaGreat

/- Contracts of the verifier's small methods. -/
namespace Go.Proofs.YtaifafljakojnaaGreat
open Go.RowKit

theorem loop_info : (Tryz.prog.info? 153).map (fun i => (i.zero, i.size, i.bytes)) = some (some (.agg #[.int .i64 0, .int .i64 0, .int .i64 0]), 3, 24) := by kernel_rfl

def trCells (t : Tr) : List Value := [.int .i64 t.1, .int .i64 t.2.1, .int .i64 t.2.2]
theorem trCells_at (ts : List Tr) (i : Nat) (t : Tr) (h : ts[i]? = some t) : (ts.flatMap trCells)[i * 3]? = some (.int .i64 t.1) ∧ (ts.flatMap trCells)[i * 3 + 1]? = some (.int .i64 t.2.1) ∧ (ts.flatMap trCells)[i * 3 + 2]? = some (.int .i64 t.2.2) := by
  induction ts generalizing i with
  | nil => simp at h
  | cons x es ih =>
    cases i with
    | zero => simp at h; subst h; simp [trCells]
    | succ i =>
      have := ih i (by simpa using h)
      have e : (i + 1) * 3 = i * 3 + 1 + 1 + 1 := by omega
      rw [e]
      simpa [trCells] using this
theorem trCells_length (ts : List Tr) : (ts.flatMap trCells).length = ts.length * 3 := by
  induction ts with
  | nil => rfl
  | cons x es ih => simp [ih, trCells]; omega

def verCells (L : Value) (v : Int) (H O : Value) (most : Int) : Array Value :=
  #[L, .int .i64 0, .int .i64 (-1), .int .i64 (-1073741824), .int .i64 1073741824, .int .i64 0, .int .i64 (v - 1), .int .i64 0, .int .i64 (v - 1), .int .i64 6, .int .i64 17, .int .i64 18, .int .i64 19, .int .i64 30, .int .i64 42, .int .i64 0, .int .i64 1024, .int .i64 0, .int .i64 1024, .int .i64 0, .int .i64 1024, .int .i64 20, .int .i64 29, H, O, .int .i64 most]

/-- The verifier in memory. -/
structure VerSt (w0 : World) (B : Nat) (w : World) (L : Option Addr) (n c : Nat) (v : Int) (H : Option Addr) (hc : Nat) (hs : List Int) (O : Option Addr) (oc : Nat) (tr : List Tr) (most : Int) : Prop where
  base : w0.heap.size ≤ B
  blk : Blk w B (verCells (.slice L n c) v (.slice H hs.length hc) (.slice O tr.length oc) most) 92
  ints : w.ownsRow w0.heap.size 3 1 (.slice H hs.length hc) hs.length (hs.map (Value.int .i64))
  loops : w.ownsRow w0.heap.size 153 3 (.slice O tr.length oc) tr.length (tr.flatMap trCells)
  bel : Bel w0 w

theorem VerSt.keep {w0 : World} {B : Nat} {w w' : World} {L : Option Addr} {n c : Nat} {v : Int} {H : Option Addr} {hc : Nat} {hs : List Int} {O : Option Addr} {oc : Nat} {tr : List Tr} {most : Int} (h : VerSt w0 B w L n c v H hc hs O oc tr most) (k : Bel w w') : VerSt w0 B w' L n c v H hc hs O oc tr most :=
  ⟨h.base, h.blk.keep k, k.owns h.ints, k.owns h.loops, h.bel.trans k⟩

theorem needsLoop_any (p : Value) (x : Term) (w : World) :
    Calls Tryz.prog 81 #[p, .agg #[.int .i64 x.op, .int .i64 x.arg]] w fun e w' => e = .returned (.bool (needsF x)) ∧ Bel w w' := by
  obtain ⟨op, arg⟩ := x
  go_enter Tryz.func81, Tryz.ntmps81
  go_wp2
  all_goals
    go_ret
    refine ⟨ret_bool ?_, (Bel.refl _).alloc _⟩
    (try simp only [beq_iff_eq, beq_eq_false_iff_ne, ne_eq] at *)
    unfold needsF
    rw [Bool.eq_iff_iff]
    simp [*]

set_option maxRecDepth 100000 in
set_option maxHeartbeats 2000000 in
theorem known_any (B : Nat) (L : Value) (v : Int) (H O : Value) (most : Int) (x : Term) (w : World) (h : Blk w B (verCells L v H O most) 92) :
    Calls Tryz.prog 80 #[.pointer (some ⟨B, 0, none⟩), .agg #[.int .i64 x.op, .int .i64 x.arg]] w fun e w' => e = .returned (.bool (knownF x v)) ∧ Bel w w' := by
  obtain ⟨op, arg⟩ := x
  have hlt := h.lt
  have HB := Lib.hid h; clear h
  by_cases hr : 1 ≤ op ∧ op ≤ 10
  · obtain ⟨h1, h2⟩ := hr
    by_cases hn : op = 4 ∧ arg = 12
    · obtain ⟨rfl, rfl⟩ := hn
      go_enter Tryz.func80, Tryz.ntmps80
      go_wp2
      go_ret
      exact ⟨ret_bool (by simp [knownF]), (Bel.refl _).alloc _⟩
    · have hnb : op = 4 → (arg == 12) = false := by intro h; simp; intro h3; exact hn ⟨h, h3⟩
      have HN := Lib.hid hnb; clear hnb
      have HN2 := Lib.hid hn; clear hn
      obtain ⟨k, rfl⟩ := Int.eq_ofNat_of_zero_le (show 0 ≤ op by omega)
      have hk1 : 1 ≤ k := by omega
      have hk2 : k ≤ 10 := by omega
      obtain ⟨lo, hi, e1, e2, c1, c2⟩ : ∃ lo hi, (boundsV v).getD (k * 2) 0 = lo ∧ (boundsV v).getD (k * 2 + 1) 0 = hi ∧ w.cell? ⟨B, 1 + k * 2, none⟩ = some (.int .i64 lo) ∧ w.cell? ⟨B, 1 + k * 2 + 1, none⟩ = some (.int .i64 hi) := by
        rcases (show k = 1 ∨ k = 2 ∨ k = 3 ∨ k = 4 ∨ k = 5 ∨ k = 6 ∨ k = 7 ∨ k = 8 ∨ k = 9 ∨ k = 10 by omega) with h | h | h | h | h | h | h | h | h | h <;> subst h <;> exact ⟨_, _, rfl, rfl, HB.out.cell _ rfl, HB.out.cell _ rfl⟩
      have HF : Hid (knownF ⟨(k : Int), arg⟩ v = (decide (lo ≤ arg) && decide (arg ≤ hi))) := by
        show knownF ⟨(k : Int), arg⟩ v = (decide (lo ≤ arg) && decide (arg ≤ hi))
        have hb : (decide ((k : Int) = 4) && decide (arg = 12)) = false := by
          rw [Bool.eq_false_iff]; intro hh
          have := HN2.out
          simp at hh this
          omega
        unfold knownF
        simp only []
        rw [hb, Int.toNat_natCast, e1, e2, show decide (1 ≤ (k : Int) ∧ (k : Int) ≤ 10) = true by simp; omega]
        rfl
      clear e1 e2
      have hd1 : decide ((k : Int) < 1) = false := by simp; omega
      have hd2 : decide (10 < (k : Int)) = false := by simp; omega
      have hk11 : k < 11 := by omega
      by_cases hlo : lo ≤ arg
      · have hdl : decide (lo ≤ arg) = true := by simpa using hlo
        by_cases h4 : k = 4
        · subst h4
          have h12 := HN.out rfl
          go_enter Tryz.func80, Tryz.ntmps80
          go_wp2
          go_quiet (fail)
          go_wp2
          go_ret
          refine ⟨ret_bool ?_, ((Bel.refl _).alloc _).drewN _⟩
          rw [HF.out]; simp [hlo]
        · have h4b : ((k : Int) == 4) = false := by simp; omega
          go_enter Tryz.func80, Tryz.ntmps80
          go_wp2
          go_quiet (fail)
          go_wp2
          go_ret
          refine ⟨ret_bool ?_, ((Bel.refl _).alloc _).drewN _⟩
          rw [HF.out]; simp [hlo]
      · have hdl : decide (lo ≤ arg) = false := by simpa using hlo
        by_cases h4 : k = 4
        · subst h4
          have h12 := HN.out rfl
          go_enter Tryz.func80, Tryz.ntmps80
          go_wp2
          go_quiet (fail)
          go_wp2
          go_ret
          refine ⟨ret_bool ?_, ((Bel.refl _).alloc _).drewN _⟩
          rw [HF.out, hdl]; rfl
        · have h4b : ((k : Int) == 4) = false := by simp; omega
          go_enter Tryz.func80, Tryz.ntmps80
          go_wp2
          go_quiet (fail)
          go_wp2
          go_ret
          refine ⟨ret_bool ?_, ((Bel.refl _).alloc _).drewN _⟩
          rw [HF.out, hdl]; rfl
  · have HF : Hid (knownF ⟨op, arg⟩ v = false) := by
      show knownF ⟨op, arg⟩ v = false
      unfold knownF
      simp only []
      rw [show decide (1 ≤ op ∧ op ≤ 10) = false by simpa using hr]; rfl
    by_cases h1 : op < 1
    · go_enter Tryz.func80, Tryz.ntmps80
      go_wp2
      go_ret
      exact ⟨ret_bool HF.out.symm, (Bel.refl _).alloc _⟩
    · have h2 : 10 < op := by omega
      have h1' : 1 ≤ op := by omega
      clear h1 hr
      go_enter Tryz.func80, Tryz.ntmps80
      go_wp2
      go_ret
      exact ⟨ret_bool HF.out.symm, (Bel.refl _).alloc _⟩

theorem innerF_nil (n : Int) : innerF [] n = (-1, n, 0) := rfl
theorem innerF_last {tr : List Tr} (h : 0 < tr.length) (n : Int) : tr[tr.length - 1]? = some (innerF tr n) := by
  unfold innerF
  rw [← List.getLast?_eq_getElem?]
  cases tr with
  | nil => simp at h
  | cons x l => rfl

set_option maxRecDepth 100000 in
set_option maxHeartbeats 2000000 in
theorem innermost_any {w0 : World} {B : Nat} {w : World} {L : Option Addr} {n c : Nat} {v : Int} {H : Option Addr} {hc : Nat} {hs : List Int} {O : Option Addr} {oc : Nat} {tr : List Tr} {most : Int} (h : VerSt w0 B w L n c v H hc hs O oc tr most) :
    Calls Tryz.prog 122 #[.pointer (some ⟨B, 0, none⟩)] w fun e w' => e = .returned (.agg #[.int .i64 (innerF tr n).1, .int .i64 (innerF tr n).2.1, .int .i64 (innerF tr n).2.2]) ∧ Bel w w' := by
  have hlt := h.blk.lt
  have c24 := h.blk.cell 24 (v := .slice O tr.length oc) rfl
  have c0 := h.blk.cell 0 (v := .slice L n c) rfl
  rcases Nat.eq_zero_or_pos tr.length with h0 | h0
  · obtain rfl : tr = [] := List.eq_nil_of_length_eq_zero h0
    have HS := Lib.hid h; clear h h0
    go_enter Tryz.func122, Tryz.ntmps122
    go_wp2
    exact bodyPost_ret (v := .agg #[.int .i64 (-1), .int .i64 n, .int .i64 0]) (by simp [results, Tryz.results122, go_sem]) rfl ⟨rfl, (Bel.refl _).alloc _⟩
  · have hl := innerF_last h0 (n : Int)
    obtain ⟨g1, g2, g3⟩ := trCells_at tr _ _ hl
    obtain ⟨g, rfl, hg0, hgl, k1, _⟩ := own_at h.loops g1
    obtain ⟨g', e', _, _, k2, _⟩ := own_at h.loops g2
    obtain rfl : g = g' := by simpa using e'
    obtain ⟨g', e', _, _, k3, _⟩ := own_at h.loops g3
    obtain rfl : g = g' := by simpa using e'
    clear e' g1 g2 g3 hl
    generalize innerF tr n = I at *
    obtain ⟨a1, a2, a3⟩ := I
    have HS := Lib.hid h; clear h
    obtain ⟨m, hm⟩ : ∃ m, tr.length = m + 1 := ⟨tr.length - 1, by omega⟩
    have hmx := own_cap HS.out.loops
    unfold maxLen at hmx
    rw [hm] at c24 k1 k2 k3 hmx
    have hd : ((m : Int) + 1 == 0) = false := by simp; omega
    have hm2 : m ≤ 9223372036854775806 := by omega
    simp only [Nat.add_sub_cancel] at k1 k2 k3
    have hw1 : IntKind.i64.wrap ((m : Int) + 1 - 1) = m := by rw [IntWalk.i64_in _ (by omega)]; omega
    clear h0 hm hmx
    go_enter Tryz.func122, Tryz.ntmps122
    go_wp2
    go_region
    all_goals
      go_wp2
      exact bodyPost_ret (v := .agg #[.int .i64 a1, .int .i64 a2, .int .i64 a3]) (by simp [results, Tryz.results122, go_sem]) rfl ⟨rfl, ((Bel.refl _).alloc _).drew⟩

end Go.Proofs.YtaifafljakojnaaGreat

/- The contract of (*compiler).expression. -/
namespace Go.Proofs.YtaifafljakojnaaGreat
open Go.RowKit

def RetExpr (w0 : World) (B : Nat) (w : World) (E : Option Addr) (n c : Nat) (nx : Nat) (is : List Term) (e : Ending) (w' : World) : Prop :=
  ∃ C mc, e = .returned (.int .i64 nx) ∧ CompSt w0 B w' E n c C is.length mc is ∧ CompFr w w'

def ExprOk (w0 : World) (B : Nat) (E : Option Addr) (n c : Nat) (es : List Term) (x : Ex) : Prop :=
  ∀ (k : Nat) (w : World) (C : Option Addr) (m mc : Nat) (is : List Term), x.At es k → CompSt w0 B w E n c C m mc is → m + x.size ≤ 1000000 →
    Calls Tryz.prog 43 #[.pointer (some ⟨B, 0, none⟩), .int .i64 k] w (RetExpr w0 B w E n c (k + x.len) (is ++ x.code m))

theorem terms_get {w : World} {A : Option Addr} {n : Nat} {es : List Term} (h : TermsR w A n es) {k : Nat} {t : Term} (ht : es[k]? = some t) :
    ∃ b o, A = some ⟨b, o, none⟩ ∧ b < w.heap.size ∧ w.cell? ⟨b, o + k * 2, none⟩ = some (.int .i64 t.op) ∧ w.cell? ⟨b, o + k * 2 + 1, none⟩ = some (.int .i64 t.arg) := by
  obtain ⟨h1, rfl⟩ := List.getElem?_eq_some_iff.1 ht
  exact h.at_ k h1

theorem len_leaf (t : Term) : (Ex.leaf t).len = 1 := rfl
theorem len_un (t : Term) (a : Ex) : (Ex.un t a).len = 1 + a.len := by simp [Ex.len, Ex.terms]; omega
theorem len_bin (t : Term) (a b : Ex) : (Ex.bin t a b).len = 1 + a.len + b.len := by simp [Ex.len, Ex.terms]; omega
theorem len_tri (t : Term) (a b c : Ex) : (Ex.tri t a b c).len = 1 + a.len + b.len + c.len := by simp [Ex.len, Ex.terms]; omega

set_option maxRecDepth 100000 in
set_option maxHeartbeats 1000000 in
theorem expr_leaf (w0 : World) (B : Nat) (E : Option Addr) (n c : Nat) (es : List Term) (hT : TermsR w0 E n es) (hn : n ≤ 1000000) (t : Term) : ExprOk w0 B E n c es (.leaf t) := by
  intro k w C m mc is hat h hm
  obtain ⟨hk, ha⟩ := At.leaf hat
  obtain rfl := hT.1
  have hlt := At.lt hat
  obtain ⟨b, o, rfl, hb, hc1, hc2⟩ := terms_get (hT.keep h.2.2.2) hk
  have hB0 := h.2.1.cell 0 (v := .slice (some ⟨b, o, none⟩) es.length c) rfl
  have hBl := h.2.1.lt
  have H := Lib.hid h
  have hm' : m ≤ 1000000 := by omega
  have HT := Lib.hid hT; clear hT h hat hk hm
  go_enter Tryz.func43, Tryz.ntmps43
  go_wp2_with (first
    | (go_at_call 100; refine (arity_any _ _).mono ?_; rintro e w' ⟨rfl, rfl⟩; rw [ha])
    | (go_at_call 101; refine (leaf_any w0 B _ _ es.length c C m mc is t (H.out.alloc _) hm').mono ?_; rintro e w2 ⟨v, C2, mc2, rfl, h2, h3⟩; replace h2 := Lib.hid h2; replace h3 := Lib.hid h3))
  go_ret
  refine ⟨C2, mc2, ret_int ?_, h2.out, (TFrame.of_bel ((Bel.refl w).alloc _)).trans h3.out⟩
  rw [len_leaf]; omega

theorem RetEmit.len {w0 : World} {B : Nat} {w w' : World} {E : Option Addr} {n c m : Nat} {is : List Term} {e : Ending} (h : RetEmit w0 B w E n c m is e w') : ∃ C mc, e = .returned (.int .i64 m) ∧ CompSt w0 B w' E n c C is.length mc is ∧ CompFr w w' := h

set_option maxRecDepth 100000 in
set_option maxHeartbeats 2000000 in
theorem expr_un (w0 : World) (B : Nat) (E : Option Addr) (n c : Nat) (es : List Term) (hT : TermsR w0 E n es) (hn : n ≤ 1000000) (t : Term) (x : Ex) (ih : ExprOk w0 B E n c es x) : ExprOk w0 B E n c es (.un t x) := by
  intro k w C m mc is hat h hm
  obtain ⟨hk, ha, hx⟩ := At.un hat
  obtain rfl := hT.1
  have hlt := At.lt hat
  obtain ⟨b, o, rfl, hb, hc1, hc2⟩ := terms_get (hT.keep h.2.2.2) hk
  have hB0 := h.2.1.cell 0 (v := .slice (some ⟨b, o, none⟩) es.length c) rfl
  have hBl := h.2.1.lt
  have hil := Lib.hid h.len
  have H := Lib.hid h
  have HX := Lib.hid hx
  have HI := Lib.hid ih
  have HL := Lib.hid (Blk.new w #[.int .i64 t.op, .int .i64 t.arg] 129)
  have HT := Lib.hid hT; clear hT h hat hk hx ih
  cases hag : aggregate t.op with
  | false =>
    simp only [Ex.size, hag] at hm
    have hm' : m + x.size ≤ 1000000 := by simp at hm; omega
    have hm2 : is.length + x.size ≤ 1000000 := by rw [hil.out]; exact hm'
    clear hm
    go_enter Tryz.func43, Tryz.ntmps43
    go_wp2_with (first
      | (go_at_call 100; refine (arity_any _ _).mono ?_; rintro e w' ⟨rfl, rfl⟩; rw [ha])
      | (go_at_call 102; refine (aggregate_any _ _).mono ?_; rintro e w' ⟨rfl, rfl⟩; rw [hag])
      | (go_at_call 43; refine (HI.out (k + 1) _ C m mc is HX.out (H.out.alloc _) hm').mono ?_; rintro e w2 ⟨C2, mc2, rfl, h2, h3⟩; replace HL := Lib.hid (HL.out.of_frame h3 (by decide)); have hl0 := HL.out.cell 0 (v := .int .i64 t.op) rfl; have hl2 := h2.2.1.lt; have hlen2 : (is ++ x.code m).length ≤ 1000000 := (by rw [List.length_append, Ex.code_length]; exact hm2); have hll := HL.out.lt; replace h2 := Lib.hid h2; replace h3 := Lib.hid h3)
      | (go_at_call 103; refine (emit_any w0 B _ _ es.length c C2 _ mc2 _ _ _ h2.out hlen2).mono ?_; rintro e w3 ⟨C3, mc3, rfl, h4, h5⟩; replace h4 := Lib.hid h4; replace h5 := Lib.hid h5))
    go_ret
    refine ⟨C3, mc3, ret_int ?_, ?_, ((TFrame.of_bel ((Bel.refl w).alloc _)).trans h3.out).trans h5.out⟩
    · rw [len_un]; omega
    · have := h4.out
      simp only [Ex.code, hag]
      simpa using this
  | true =>
    simp only [Ex.size, hag] at hm
    have hm' : m + 1 + x.size ≤ 1000000 := by simp at hm; omega
    have hm1 : m ≤ 1000000 := by omega
    have hm2 : is.length + 1 + x.size ≤ 1000000 := by rw [hil.out]; exact hm'
    have hmm : (is ++ [(⟨9, 0⟩ : Term)]).length = m + 1 := by simp [hil.out]
    have hmm2 : (is ++ [(⟨9, 0⟩ : Term)]).length + x.size ≤ 1000000 := by rw [hmm]; exact hm'
    have HMM := Lib.hid hmm
    clear hm hmm
    go_enter Tryz.func43, Tryz.ntmps43
    go_wp2_with (first
      | (go_at_call 100; refine (arity_any _ _).mono ?_; rintro e w' ⟨rfl, rfl⟩; rw [ha])
      | (go_at_call 102; refine (aggregate_any _ _).mono ?_; rintro e w' ⟨rfl, rfl⟩; rw [hag]))
    refine (emit_any w0 B _ _ es.length c C m mc is _ _ (H.out.alloc _) hm1).mono ?_
    rintro e w1 ⟨C1, mc1, rfl, h1, f1⟩
    replace HL := Lib.hid (HL.out.of_frame f1 (by decide))
    have hl1 := h1.2.1.lt
    rw [HMM.out] at h1
    replace h1 := Lib.hid h1
    replace f1 := Lib.hid f1
    go_wp2_with fail
    refine (HI.out (k + 1) _ C1 (m + 1) mc1 _ HX.out h1.out hm').mono ?_
    rintro e w2 ⟨C2, mc2, rfl, h2, f2⟩
    replace HL := Lib.hid (HL.out.of_frame f2 (by decide))
    have hl0 := HL.out.cell 0 (v := .int .i64 t.op) rfl
    have hl2 := h2.2.1.lt
    have hlen2 : (is ++ [(⟨9, 0⟩ : Term)] ++ x.code (m + 1)).length ≤ 1000000 := by rw [List.length_append, Ex.code_length]; exact hmm2
    have hll := HL.out.lt
    replace h2 := Lib.hid h2
    replace f2 := Lib.hid f2
    go_wp2_with fail
    refine (emit_any w0 B _ _ es.length c C2 _ mc2 _ _ _ h2.out hlen2).mono ?_
    rintro e w3 ⟨C3, mc3, rfl, h3, f3⟩
    have hlen3 : (is ++ [(⟨9, 0⟩ : Term)] ++ x.code (m + 1) ++ [(⟨10, t.op⟩ : Term)]).length = m + x.size + 2 := by simp [hil.out, Ex.code_length]; omega
    have hlen4 : (is ++ [(⟨9, 0⟩ : Term)] ++ x.code (m + 1)).length = m + 1 + x.size := by simp [hil.out, Ex.code_length]; omega
    rw [hlen3] at h3
    rw [hlen4]
    have hj : (is ++ [(⟨9, 0⟩ : Term)] ++ x.code (m + 1) ++ [(⟨10, t.op⟩ : Term)])[m]? = some ⟨9, 0⟩ := by rw [← hil.out]; simp
    obtain ⟨g, rfl, hg1, hg2, hg3⟩ := h3.at_ m hj
    have hB1 := h3.2.1.cell 1 (v := .slice (some ⟨g, 0, none⟩) (m + x.size + 2) mc3) rfl
    have hl3 := h3.2.1.lt
    obtain ⟨hs1, hs2⟩ := h3.store m hj ((m : Int) + 1 + (x.size : Int))
    replace hs1 := Lib.hid hs1
    replace hs2 := Lib.hid hs2
    replace f3 := Lib.hid f3
    have hm3 : m < m + x.size + 2 := by omega
    clear hlen3 hlen4 h3 hj hlen2
    go_wp2_with fail
    go_ret
    refine ⟨some ⟨g, 0, none⟩, mc3, ret_int ?_, ?_, ((((TFrame.of_bel ((Bel.refl w).alloc _)).trans f1.out).trans f2.out).trans f3.out).trans hs2.out⟩
    · rw [len_un]; omega
    · have := hs1.out
      simp only [Ex.code, hag]
      rw [← hil.out] at this ⊢
      have e : is.length + (x.size + 1 + 1) = is.length + x.size + 2 := by omega
      simpa [Ex.code_length, e] using this

set_option maxRecDepth 100000 in
set_option maxHeartbeats 2000000 in
theorem expr_bin (w0 : World) (B : Nat) (E : Option Addr) (n c : Nat) (es : List Term) (hT : TermsR w0 E n es) (hn : n ≤ 1000000) (t : Term) (x y : Ex) (ihx : ExprOk w0 B E n c es x) (ihy : ExprOk w0 B E n c es y) : ExprOk w0 B E n c es (.bin t x y) := by
  intro k w C m mc is hat h hm
  obtain ⟨hk, ha, hx, hy⟩ := At.bin hat
  obtain rfl := hT.1
  have hlt := At.lt hat
  have hag := agg_false (op := t.op) (by rw [ha]; omega)
  obtain ⟨b, o, rfl, hb, hc1, hc2⟩ := terms_get (hT.keep h.2.2.2) hk
  have hB0 := h.2.1.cell 0 (v := .slice (some ⟨b, o, none⟩) es.length c) rfl
  have hBl := h.2.1.lt
  have hil := Lib.hid h.len
  have H := Lib.hid h
  have HX := Lib.hid hx
  have HY := Lib.hid hy
  have HI := Lib.hid ihx
  have HJ := Lib.hid ihy
  have HL := Lib.hid (Blk.new w #[.int .i64 t.op, .int .i64 t.arg] 129)
  have HT := Lib.hid hT; clear hT h hat hk hx hy ihx ihy
  simp only [Ex.size] at hm
  have hm' : m + x.size ≤ 1000000 := by omega
  have hm2 : m + x.size + y.size ≤ 1000000 := by omega
  clear hm
  go_enter Tryz.func43, Tryz.ntmps43
  go_wp2_with (first
    | (go_at_call 100; refine (arity_any _ _).mono ?_; rintro e w' ⟨rfl, rfl⟩; rw [ha])
    | (go_at_call 102; refine (aggregate_any _ _).mono ?_; rintro e w' ⟨rfl, rfl⟩; rw [hag]))
  refine (HI.out (k + 1) _ C m mc is HX.out (H.out.alloc _) hm').mono ?_
  rintro e w1 ⟨C1, mc1, rfl, h1, f1⟩
  replace HL := Lib.hid (HL.out.of_frame f1 (by decide))
  have hl1 := h1.2.1.lt
  rw [show (is ++ x.code m).length = m + x.size by simp [hil.out, Ex.code_length]] at h1
  replace h1 := Lib.hid h1
  replace f1 := Lib.hid f1
  go_wp2_with fail
  refine (HJ.out (k + 1 + x.len) _ C1 (m + x.size) mc1 _ HY.out h1.out hm2).mono ?_
  rintro e w2 ⟨C2, mc2, rfl, h2, f2⟩
  replace HL := Lib.hid (HL.out.of_frame f2 (by decide))
  have hl0 := HL.out.cell 0 (v := .int .i64 t.op) rfl
  have hl2 := h2.2.1.lt
  have hll := HL.out.lt
  rw [show (is ++ x.code m ++ y.code (m + x.size)).length = m + x.size + y.size by simp [hil.out, Ex.code_length]; omega] at h2
  replace h2 := Lib.hid h2
  replace f2 := Lib.hid f2
  go_wp2_with fail
  refine (emit_any w0 B _ _ es.length c C2 _ mc2 _ _ _ h2.out hm2).mono ?_
  rintro e w3 ⟨C3, mc3, rfl, h3, f3⟩
  replace h3 := Lib.hid h3
  replace f3 := Lib.hid f3
  go_wp2_with fail
  go_ret
  refine ⟨C3, mc3, ret_int ?_, ?_, (((TFrame.of_bel ((Bel.refl w).alloc _)).trans f1.out).trans f2.out).trans f3.out⟩
  · rw [len_bin]; omega
  · have := h3.out
    simp only [Ex.code]
    simpa using this

set_option maxRecDepth 100000 in
set_option maxHeartbeats 4000000 in
theorem expr_tri (w0 : World) (B : Nat) (E : Option Addr) (n c : Nat) (es : List Term) (hT : TermsR w0 E n es) (hn : n ≤ 1000000) (t : Term) (x y z : Ex) (ihx : ExprOk w0 B E n c es x) (ihy : ExprOk w0 B E n c es y) (ihz : ExprOk w0 B E n c es z) : ExprOk w0 B E n c es (.tri t x y z) := by
  intro k w C m mc is hat h hm
  obtain ⟨hk, ha, hx, hy, hz⟩ := At.tri hat
  obtain rfl := hT.1
  have hlt := At.lt hat
  have hag := agg_false (op := t.op) (by rw [ha]; omega)
  obtain ⟨b, o, rfl, hb, hc1, hc2⟩ := terms_get (hT.keep h.2.2.2) hk
  have hB0 := h.2.1.cell 0 (v := .slice (some ⟨b, o, none⟩) es.length c) rfl
  have hBl := h.2.1.lt
  have hil := Lib.hid h.len
  have H := Lib.hid h
  have HX := Lib.hid hx
  have HY := Lib.hid hy
  have HZ := Lib.hid hz
  have HI := Lib.hid ihx
  have HJ := Lib.hid ihy
  have HK := Lib.hid ihz
  have HT := Lib.hid hT; clear hT h hat hk hx hy hz ihx ihy ihz
  simp only [Ex.size] at hm
  have hm0 : m + x.size ≤ 1000000 := by omega
  have hm1 : m + x.size + 1 ≤ 1000000 := by omega
  have hm2 : m + x.size + 1 + y.size ≤ 1000000 := by omega
  have hm3 : m + x.size + 1 + y.size + 1 + z.size ≤ 1000000 := by omega
  clear hm
  go_enter Tryz.func43, Tryz.ntmps43
  go_wp2_with (first
    | (go_at_call 100; refine (arity_any _ _).mono ?_; rintro e w' ⟨rfl, rfl⟩; rw [ha])
    | (go_at_call 102; refine (aggregate_any _ _).mono ?_; rintro e w' ⟨rfl, rfl⟩; rw [hag]))
  refine (HI.out (k + 1) _ C m mc is HX.out (H.out.alloc _) hm0).mono ?_
  rintro e w1 ⟨C1, mc1, rfl, h1, f1⟩
  rw [show (is ++ x.code m).length = m + x.size by simp [hil.out, Ex.code_length]] at h1
  replace h1 := Lib.hid h1
  replace f1 := Lib.hid f1
  go_wp2_with fail
  refine (emit_any w0 B _ _ es.length c C1 _ mc1 _ _ _ h1.out hm0).mono ?_
  rintro e w2 ⟨C2, mc2, rfl, h2, f2⟩
  rw [show (is ++ x.code m ++ [(⟨7, 0⟩ : Term)]).length = m + x.size + 1 by simp [hil.out, Ex.code_length]; omega] at h2
  replace h2 := Lib.hid h2
  replace f2 := Lib.hid f2
  go_wp2_with fail
  refine (HJ.out (k + 1 + x.len) _ C2 (m + x.size + 1) mc2 _ HY.out h2.out hm2).mono ?_
  rintro e w3 ⟨C3, mc3, rfl, h3, f3⟩
  rw [show (is ++ x.code m ++ [(⟨7, 0⟩ : Term)] ++ y.code (m + x.size + 1)).length = m + x.size + 1 + y.size by simp [hil.out, Ex.code_length]; omega] at h3
  replace h3 := Lib.hid h3
  replace f3 := Lib.hid f3
  go_wp2_with fail
  refine (emit_any w0 B _ _ es.length c C3 _ mc3 _ _ _ h3.out hm2).mono ?_
  rintro e w4 ⟨C4, mc4, rfl, h4, f4⟩
  rw [show (is ++ x.code m ++ [(⟨7, 0⟩ : Term)] ++ y.code (m + x.size + 1) ++ [(⟨8, 0⟩ : Term)]).length = m + x.size + 1 + y.size + 1 by simp [hil.out, Ex.code_length]; omega] at h4
  have hj : (is ++ x.code m ++ [(⟨7, 0⟩ : Term)] ++ y.code (m + x.size + 1) ++ [(⟨8, 0⟩ : Term)])[m + x.size]? = some ⟨7, 0⟩ := by
    rw [show m + x.size = (is ++ x.code m).length by simp [hil.out, Ex.code_length]]; simp
  obtain ⟨g, rfl, hg1, hg2, hg3⟩ := h4.at_ _ hj
  have hB1 := h4.2.1.cell 1 (v := .slice (some ⟨g, 0, none⟩) (m + x.size + 1 + y.size + 1) mc4) rfl
  have hB1f := h4.2.1.frozen 1
  have hl4 := h4.2.1.lt
  have hlm : m + x.size < m + x.size + 1 + y.size + 1 := by omega
  replace h4 := Lib.hid h4
  replace f4 := Lib.hid f4
  have Hj := Lib.hid hj; clear hj
  clear hc1 hc2 hB0
  go_wp2_with fail
  go_region
  go_wp2_with fail
  obtain ⟨hs1, hs2⟩ := h4.out.store (m + x.size) Hj.out ((m : Int) + x.size + 1 + y.size + 1)
  replace hs1 := Lib.hid hs1
  replace hs2 := Lib.hid hs2
  refine (HK.out (k + 1 + x.len + y.len) _ (some ⟨g, 0, none⟩) (m + x.size + 1 + y.size + 1) mc4 _ HZ.out hs1.out.drew hm3).mono ?_
  rintro e w5 ⟨C5, mc5, rfl, h5, f5⟩
  rw [show ((is ++ x.code m ++ [(⟨7, 0⟩ : Term)] ++ y.code (m + x.size + 1) ++ [(⟨8, 0⟩ : Term)]).set (m + x.size) ⟨7, (m : Int) + x.size + 1 + y.size + 1⟩ ++ z.code (m + x.size + 1 + y.size + 1)).length = m + x.size + 1 + y.size + 1 + z.size by simp [hil.out, Ex.code_length]; omega] at h5
  have hj : ((is ++ x.code m ++ [(⟨7, 0⟩ : Term)] ++ y.code (m + x.size + 1) ++ [(⟨8, 0⟩ : Term)]).set (m + x.size) ⟨7, (m : Int) + x.size + 1 + y.size + 1⟩ ++ z.code (m + x.size + 1 + y.size + 1))[m + x.size + 1 + y.size]? = some ⟨8, 0⟩ := by
    rw [List.getElem?_append_left (by simp [hil.out, Ex.code_length]; omega), List.getElem?_set_ne (by omega), show m + x.size + 1 + y.size = (is ++ x.code m ++ [(⟨7, 0⟩ : Term)] ++ y.code (m + x.size + 1)).length by simp [hil.out, Ex.code_length]; omega]
    simp
  clear hg1 hg2 hg3 hB1 hB1f hlm
  obtain ⟨g5, rfl, hg1, hg2, hg3⟩ := h5.at_ _ hj
  have hB1 := h5.2.1.cell 1 (v := .slice (some ⟨g5, 0, none⟩) (m + x.size + 1 + y.size + 1 + z.size) mc5) rfl
  have hB1f := h5.2.1.frozen 1
  have hl5 := h5.2.1.lt
  have hlm : m + x.size + 1 + y.size < m + x.size + 1 + y.size + 1 + z.size := by have := z.size_pos; omega
  obtain ⟨hs3, hs4⟩ := h5.store _ hj ((m : Int) + x.size + 1 + y.size + 1 + z.size)
  replace hs3 := Lib.hid hs3
  replace hs4 := Lib.hid hs4
  replace h5 := Lib.hid h5
  replace f5 := Lib.hid f5
  clear hj
  go_wp2_with fail
  go_region
  go_wp2_with fail
  go_ret
  refine ⟨some ⟨g5, 0, none⟩, mc5, ret_int ?_, ?_, (((((((TFrame.of_bel ((Bel.refl w).alloc _)).trans f1.out).trans f2.out).trans f3.out).trans f4.out).trans (hs2.out.drew)).trans f5.out).trans hs4.out.drew⟩
  · rw [len_tri]; omega
  · have := hs3.out.drew
    rw [tri_list _ _ _ _ _ _ _ _ _ _ (by rw [hil.out, Ex.code_length]) (by rw [Ex.code_length])] at this
    simp only [Ex.code]
    rw [show (is ++ (x.code m ++ [(⟨7, ((m + x.size + 1 + y.size + 1 : Nat) : Int)⟩ : Term)] ++ y.code (m + x.size + 1) ++ [(⟨8, ((m + x.size + 1 + y.size + 1 + z.size : Nat) : Int)⟩ : Term)] ++ z.code (m + x.size + 1 + y.size + 1))).length = m + x.size + 1 + y.size + 1 + z.size by simp [hil.out, Ex.code_length]; omega]
    exact this

theorem expression_any (w0 : World) (B : Nat) (E : Option Addr) (n c : Nat) (es : List Term) (hT : TermsR w0 E n es) (hn : n ≤ 1000000) (x : Ex) : ExprOk w0 B E n c es x := by
  induction x with
  | leaf t => exact expr_leaf w0 B E n c es hT hn t
  | un t a ih => exact expr_un w0 B E n c es hT hn t a ih
  | bin t a b iha ihb => exact expr_bin w0 B E n c es hT hn t a b iha ihb
  | tri t a b c' iha ihb ihc => exact expr_tri w0 B E n c es hT hn t a b c' iha ihb ihc

def codeF (es : List Term) : List Term × Int → Prop := fun r => (validF es 6 = false ∧ r = ([], 7)) ∨ (validF es 6 = true ∧ ∃ x : Ex, x.ok ∧ x.terms = es ∧ r = (x.code 0, 0))

/-- What Compile returns: a row of its own. -/
def RetCode (es : List Term) (w : World) (e : Ending) (w' : World) : Prop :=
  ∃ (A : Option Addr) (c : Nat) (is : List Term) (err : Int), codeF es (is, err) ∧ e = .returned (.tuple #[.slice A is.length c, .int .i64 err]) ∧ w'.ownsRow w.heap.size 43 2 (.slice A is.length c) is.length (is.flatMap termCells) ∧ Bel w w'

set_option maxRecDepth 100000 in
set_option maxHeartbeats 1000000 in
theorem compile_any (A : Option Addr) (n c : Nat) (es : List Term) (w : World) (h : TermsR w A n es) (hl : n ≤ 1000000) :
    Calls Tryz.prog 22 #[.slice A n c] w (RetCode es w) := by
  have H := Lib.hid h; clear h
  cases hv : validF es 6 with
  | false =>
    have HV := Lib.hid hv
    go_enter Tryz.func22, Tryz.ntmps22
    go_wp2_with (go_at_call 42; refine (valid_any _ _ _ es _ _ H.out hl).mono ?_; rintro e w1 ⟨rfl, hb⟩; rw [hv])
    go_ret2
    exact ⟨none, 0, [], 7, .inl ⟨HV.out, rfl⟩, rfl, World.ownsRow_nil _ _ _ _, hb⟩
  | true =>
    have HV := Lib.hid hv
    obtain ⟨x, hx1, hx2, hx3, _⟩ := valid_tree hv
    have hsz : 0 + x.size ≤ 1000000 := by have := x.size_le; have : x.len = es.length := by rw [← hx2]; rfl
                                          omega
    have HX := Lib.hid (At.whole hx1 hx2)
    have HP := Lib.hid (show codeF es (x.code 0, 0) from .inr ⟨hv, x, hx1, hx2, rfl⟩)
    clear hx1 hx2 hx3
    go_enter Tryz.func22, Tryz.ntmps22
    go_wp2_with (first
      | (go_at_call 42; refine (valid_any _ _ _ es _ _ H.out hl).mono ?_; rintro e w1 ⟨rfl, hb⟩; rw [hv]))
    have hst : CompSt w1 w1.heap.size (w1.alloc (.cells #[.slice A n c, .slice none 0 0] 97)) A n c none 0 0 [] :=
      ⟨Nat.le_refl _, Blk.new _ _ _, (World.ownsRow_nil _ _ _ _).alloc _, (Bel.refl _).alloc _⟩
    replace hst := Lib.hid hst
    refine (expression_any w1 w1.heap.size A n c es (H.out.keep hb) hl x 0 _ none 0 0 [] HX.out hst.out hsz).mono ?_
    rintro e w2 ⟨C2, mc2, rfl, h2, f2⟩
    have hc := h2.2.1.cell 1 (v := .slice C2 ([] ++ x.code 0).length mc2) rfl
    have hl2 := h2.2.1.lt
    replace h2 := Lib.hid h2
    go_wp2_with fail
    go_ret2
    refine ⟨C2, mc2, x.code 0, 0, HP.out, rfl, own_lower h2.out.2.2.1 hb.size, hb.trans h2.out.2.2.2⟩

end Go.Proofs.YtaifafljakojnaaGreat

/- Contracts of eachAllowed, nextAllowed and jumpAllowed. -/
namespace Go.Proofs.YtaifafljakojnaaGreat
open Go.RowKit

theorem run_loop1 (x y z : Int) (w : World) : (Instr.field 153 (.agg #[.int .i64 x, .int .i64 y, .int .i64 z]) 1).run Tryz.prog w = .ok (.int .i64 y) w := by kernel_rfl
theorem run_loop2 (x y z : Int) (w : World) : (Instr.field 153 (.agg #[.int .i64 x, .int .i64 y, .int .i64 z]) 2).run Tryz.prog w = .ok (.int .i64 z) w := by kernel_rfl

set_option maxRecDepth 100000 in
set_option maxHeartbeats 4000000 in
theorem eachAllowed_any {w0 : World} {B : Nat} {w : World} {L : Option Addr} {n c : Nat} {v : Int} {H : Option Addr} {hc : Nat} {hs : List Int} {O : Option Addr} {oc : Nat} {tr : List Tr} {most : Int} {l : List Term} (h : VerSt w0 B w L n c v H hc hs O oc tr most) (hT : TermsR w0 L n l) (hn : n ≤ 1000000) (i : Nat) (x : Term) :
    Calls Tryz.prog 82 #[.pointer (some ⟨B, 0, none⟩), .int .i64 i, .agg #[.int .i64 x.op, .int .i64 x.arg]] w fun e w' => e = .returned (.bool (eachF l tr i x)) ∧ Bel w w' := by
  obtain rfl := hT.1
  obtain ⟨op, arg⟩ := x
  have hlt := h.blk.lt
  have c24 := h.blk.cell 24 (v := .slice O tr.length oc) rfl
  have c0 := h.blk.cell 0 (v := .slice L l.length c) rfl
  have HT := Lib.hid (hT.keep h.bel); clear hT
  have HS := Lib.hid h; clear h
  by_cases h9 : op = 9
  · subst h9
    have HF : Hid (eachF l tr i ⟨9, arg⟩ = (decide ((i : Int) < arg) && decide (arg < l.length) && decide ((insAt l arg).op = 10) && decide (tr.length < 2) && decide (arg < (innerF tr l.length).2.1))) := by
      show eachF l tr i ⟨9, arg⟩ = _
      simp [eachF]
    by_cases h1 : arg ≤ (i : Int)
    · have hd1 : decide (arg ≤ (i : Int)) = true := by simpa using h1
      go_enter Tryz.func82, Tryz.ntmps82
      go_wp2
      go_quiet (fail)
      go_wp2
      go_ret
      refine ⟨ret_bool ?_, ((Bel.refl _).alloc _).drewN _⟩
      rw [HF.out, show decide ((i : Int) < arg) = false by simp; omega]; rfl
    · have hd1 : decide (arg ≤ (i : Int)) = false := by simpa using h1
      by_cases h2 : (l.length : Int) ≤ arg
      · have hd2 : decide ((l.length : Int) ≤ arg) = true := by simpa using h2
        go_enter Tryz.func82, Tryz.ntmps82
        go_wp2
        go_quiet (fail)
        go_wp2
        go_ret
        refine ⟨ret_bool ?_, ((Bel.refl _).alloc _).drewN _⟩
        rw [HF.out, show decide (arg < (l.length : Int)) = false by simp; omega]; simp
      · have hd2 : decide ((l.length : Int) ≤ arg) = false := by simpa using h2
        obtain ⟨a, rfl⟩ := Int.eq_ofNat_of_zero_le (show 0 ≤ arg by omega)
        have ha : a < l.length := by omega
        have hia : i < a := by omega
        obtain ⟨b, o, rfl, hb, k1, k2⟩ := HT.out.at_ a ha
        have HI := Lib.hid (insAt_get ha)
        have hd2' : decide (l.length ≤ a) = false := by simp; omega
        have hd1' : decide (a ≤ i) = false := by simp; omega
        by_cases h10 : l[a].op = 10
        · have h10b : (l[a].op != 10) = false := by simp [h10]
          have HF2 : Hid (eachF l tr i ⟨9, (a : Int)⟩ = (decide (tr.length < 2) && decide ((a : Int) < (innerF tr l.length).2.1))) := by
            show eachF l tr i ⟨9, (a : Int)⟩ = _
            rw [HF.out, HI.out, show decide ((i : Int) < (a : Int)) = true by simp; omega, show decide ((a : Int) < (l.length : Int)) = true by simp; omega, show decide (l[a].op = 10) = true by simpa using h10]
            simp
          clear HF HI h10 h1 h2
          by_cases h2 : tr.length < 2
          · have hd3 : decide ((tr.length : Int) < 2) = true := by simp; omega
            have HF3 : Hid (eachF l tr i ⟨9, (a : Int)⟩ = decide ((a : Int) < (innerF tr l.length).2.1)) := by
              show eachF l tr i ⟨9, (a : Int)⟩ = _
              rw [HF2.out, show decide (tr.length < 2) = true by simpa using h2]; rfl
            clear h2 HF2
            go_enter Tryz.func82, Tryz.ntmps82
            go_wp2
            go_quiet (fail)
            go_wp2
            have rf := run_loop1
            go_region_with (go_at_call 122; refine (innermost_any (HS.out.keep (((Bel.refl w).alloc (.cells #[.int .i64 9, .int .i64 (a : Int)] 43)).drewN _))).mono ?_; rintro e w2 ⟨rfl, hb2⟩; have q1 := hb2.cell (b := w.heap.size) (o := 1) (by simp); have q2 := hb2.size)
            all_goals
              go_wp2
              go_ret
              refine ⟨ret_bool ?_, (((Bel.refl _).alloc _).drewN _).trans hb2⟩
              rw [HF3.out]
          · have hd3 : decide ((tr.length : Int) < 2) = false := by simp; omega
            go_enter Tryz.func82, Tryz.ntmps82
            go_wp2
            go_quiet (fail)
            go_wp2
            go_quiet (fail)
            go_wp2
            go_ret
            refine ⟨ret_bool ?_, (((Bel.refl _).alloc _).drewN _).drewN _⟩
            rw [HF2.out, show decide (tr.length < 2) = false by simpa using h2]; rfl
        · have h10b : (l[a].op != 10) = true := by simp [h10]
          go_enter Tryz.func82, Tryz.ntmps82
          go_wp2
          go_quiet (fail)
          go_wp2
          go_ret
          refine ⟨ret_bool ?_, ((Bel.refl _).alloc _).drewN _⟩
          rw [HF.out, HI.out, show decide (l[a].op = 10) = false by simpa using h10]; simp
  · have hne : (op != 9) = true := by simpa using h9
    go_enter Tryz.func82, Tryz.ntmps82
    go_wp2
    go_ret
    exact ⟨ret_bool (by simp [eachF, h9]), (Bel.refl _).alloc _⟩

set_option maxRecDepth 100000 in
set_option maxHeartbeats 4000000 in
theorem nextAllowed_any {w0 : World} {B : Nat} {w : World} {L : Option Addr} {n c : Nat} {v : Int} {H : Option Addr} {hc : Nat} {hs : List Int} {O : Option Addr} {oc : Nat} {tr : List Tr} {most : Int} {l : List Term} (h : VerSt w0 B w L n c v H hc hs O oc tr most) (hn : l.length = n) (i : Int) (x : Term) (y : Int) (h0 : 0 ≤ (innerF tr n).2.2) (h1 : (innerF tr n).2.2 ≤ 1000000) :
    Calls Tryz.prog 83 #[.pointer (some ⟨B, 0, none⟩), .int .i64 i, .agg #[.int .i64 x.op, .int .i64 x.arg], .int .i64 y] w fun e w' => e = .returned (.bool (nextF l tr i x y)) ∧ Bel w w' := by
  obtain rfl := hn
  obtain ⟨op, arg⟩ := x
  have HS := Lib.hid (fun w' (k : Bel w w') => h.keep k); clear h
  by_cases h9 : op = 10
  · subst h9
    have HF : Hid (nextF l tr i ⟨10, arg⟩ y = (decide ((innerF tr l.length).2.1 = i) && decide (y = (innerF tr l.length).2.2 + 1))) := by
      show nextF l tr i ⟨10, arg⟩ y = _
      simp [nextF]
    have HB := Bel.refl w
    have rf := run_loop1
    have rf2 := run_loop2
    by_cases e : (innerF tr l.length).2.1 = i
    · have hd : ((innerF tr l.length).2.1 == i) = true := by simpa using e
      have E := Lib.hid e; clear e
      go_enter Tryz.func83, Tryz.ntmps83
      go_wp2_with fail
      refine (innermost_any (HS.out _ (HB.alloc _))).mono ?_
      rintro e w2 ⟨rfl, hb2⟩
      replace HB := (HB.alloc _).trans hb2
      clear hb2
      go_wp2_with fail
      refine (innermost_any (HS.out _ HB)).mono ?_
      rintro e w3 ⟨rfl, hb3⟩
      replace HB := HB.trans hb3
      clear hb3
      go_wp2_with fail
      go_ret
      refine ⟨ret_bool ?_, HB⟩
      rw [HF.out, E.out, Bool.eq_iff_iff]; simp
    · have hd : ((innerF tr l.length).2.1 == i) = false := by simpa using e
      have E := Lib.hid e; clear e
      go_enter Tryz.func83, Tryz.ntmps83
      go_wp2_with fail
      refine (innermost_any (HS.out _ (HB.alloc _))).mono ?_
      rintro e w2 ⟨rfl, hb2⟩
      replace HB := (HB.alloc _).trans hb2
      clear hb2
      go_wp2_with fail
      go_ret
      refine ⟨ret_bool ?_, HB⟩
      rw [HF.out, show decide ((innerF tr l.length).2.1 = i) = false by simpa using E.out]; rfl
  · have hne : (op != 10) = true := by simpa using h9
    go_enter Tryz.func83, Tryz.ntmps83
    go_wp2
    go_ret
    exact ⟨ret_bool (by simp [nextF, h9]), (Bel.refl _).alloc _⟩

end Go.Proofs.YtaifafljakojnaaGreat

