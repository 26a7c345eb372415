/- Contracts of the compiler of layer 12. -/
import Derived.Test.YtnhhedecaejgcaaP12
import Derived.Test.YtnhhedecaejgcaaBlk
import Derived.Test.YtnhhedecaejgcaaW05e
namespace Go.Proofs.Ytnhhedecaejgcaa
open Go.RowKit

theorem instr_info : (Try.prog.info? 40).map (fun i => (i.zero, i.size, i.bytes)) = some (some (.agg #[.int .i64 0, .int .i64 0]), 2, 16) := by kernel_rfl

/-- The compiler: its terms, and the code that it has written. -/
def CompSt (w0 : World) (B : Nat) (w : World) (E : Option Addr) (n c : Nat) (C : Option Addr) (m mc : Nat) (is : List Term) : Prop :=
  w0.heap.size ≤ B ∧ Blk w B #[.slice E n c, .slice C m mc] 44 ∧ w.ownsRow w0.heap.size 40 2 (.slice C m mc) m (is.flatMap termCells) ∧ Bel w0 w

def CompFr : World → World → Prop := TFrame [44, 40]

theorem CompSt.len {w0 : World} {B : Nat} {w : World} {E : Option Addr} {n c : Nat} {C : Option Addr} {m mc : Nat} {is : List Term} (h : CompSt w0 B w E n c C m mc is) : is.length = m := by
  have := h.2.2.1.1
  rw [termCells_length] at this; omega
theorem CompSt.alloc {w0 : World} {B : Nat} {w : World} {E : Option Addr} {n c : Nat} {C : Option Addr} {m mc : Nat} {is : List Term} (h : CompSt w0 B w E n c C m mc is) (o : Obj) : CompSt w0 B (w.alloc o) E n c C m mc is :=
  ⟨h.1, h.2.1.alloc o, h.2.2.1.alloc o, h.2.2.2.alloc o⟩

theorem CompSt.push {w0 : World} {B : Nat} {w w2 : World} {E : Option Addr} {n c : Nat} {C C' : Option Addr} {m mc mc' : Nat} {is : List Term} {t : Term} (h : CompSt w0 B w E n c C m mc is)
    (ho : w2.ownsRow w0.heap.size 40 2 (.slice C' (m + 1) mc') (m + 1) (is.flatMap termCells ++ [.int .i64 t.op, .int .i64 t.arg])) (hg : w.grownBy w2 (Value.slice C m mc).ownBlock) :
    Blk w2 B #[.slice E n c, .slice C m mc] 44 ∧ CompSt w0 B (w2.setCell ⟨B, 1, none⟩ (.slice C' (m + 1) mc')) E n c C' (m + 1) mc' (is ++ [t]) ∧ CompFr w (w2.setCell ⟨B, 1, none⟩ (.slice C' (m + 1) mc')) := by
  obtain ⟨h1, h2, h3, h4⟩ := h
  have hB : Blk w2 B #[.slice E n c, .slice C m mc] 44 := h2.grown hg (h2.apart h3 (by decide))
  refine ⟨hB, ⟨h1, hB.set 1 _, ?_, ?_⟩, ?_⟩
  · have := ownsRow_setCell_other ho (a := ⟨B, 1, none⟩) (fun e => hB.apart ho (by decide) e.symm) (.slice C' (m + 1) mc')
    simpa [termCells] using this
  · exact (h4.push h3 hg).setCell h1 _
  · exact ((TFrame.refl _ _).grown h3 (by decide) hg).set hB (by decide) _ _

def RetEmit (w0 : World) (B : Nat) (w : World) (E : Option Addr) (n c : Nat) (m : Nat) (is : List Term) (e : Ending) (w' : World) : Prop :=
  ∃ C mc, e = .returned (.int .i64 m) ∧ CompSt w0 B w' E n c C is.length mc is ∧ CompFr w w'

set_option maxHeartbeats 400000 in
theorem emit_any (w0 : World) (B : Nat) (w : World) (E : Option Addr) (n c : Nat) (C : Option Addr) (m mc : Nat) (is : List Term) (op a : Int) (h : CompSt w0 B w E n c C m mc is) (hm : m ≤ 1000000) :
    Calls Try.prog 40 #[.pointer (some ⟨B, 0, none⟩), .int .i64 op, .int .i64 a] w (RetEmit w0 B w E n c m (is ++ [⟨op, a⟩])) := by
  have hc1 := h.2.1.cell 1 (v := .slice C m mc) rfl
  have hf1 := h.2.1.frozen 1
  have hlt := h.2.1.lt
  have hlen := Lib.hid h.len
  have hbs := h.2.2.2.size
  have H := Lib.hid h; clear h
  obtain ⟨i0, hi0, hz0, hz1, hz2⟩ := info_parts instr_info
  go_enter Try.func40, Try.ntmps40
  go_wp2_with (at_builtin; refine wpList_push _ rfl (.tmp 11) (.tmp 15) 25 rfl w0.heap.size 40 i0 (.agg #[.int .i64 0, .int .i64 0]) 2 16 Try.underlying25 hi0 hz0 hz1 hz2 rfl (by decide) C m mc (is.flatMap termCells) (by simp [Act.eval]) (H.out.2.2.1.alloc _) w.heap.size #[.int .i64 op, .int .i64 a] 40 (0, 0) (by simp [Act.eval]) (heap_new _ _) rfl (two_ints _ _ _ _) (by unfold maxLen; omega) (by omega) (by simp; omega) ?_; intro C' mc' w2 hown2 hgr2 hat2; obtain ⟨hB2, HS2, HF2⟩ := CompSt.push (t := ⟨op, a⟩) (H.out.alloc _) hown2 hgr2; have hc2 := hB2.cell 1 (v := .slice C m mc) rfl; have hf2 := hB2.frozen 1; replace HS2 := Lib.hid HS2; replace HF2 := Lib.hid HF2; clear hown2 hgr2 hat2 hB2)
  go_ret
  refine ⟨C', mc', ret_int (by omega), ?_, (TFrame.of_bel ((Bel.refl w).alloc _)).trans HF2.out⟩
  have := HS2.out
  rw [show (is ++ [(⟨op, a⟩ : Term)]).length = m + 1 by simp [hlen.out]]
  exact this
def RetLeaf (w0 : World) (B : Nat) (w : World) (E : Option Addr) (n c : Nat) (is : List Term) (e : Ending) (w' : World) : Prop :=
  ∃ v C mc, e = .returned v ∧ CompSt w0 B w' E n c C is.length mc is ∧ CompFr w w'

set_option maxHeartbeats 1000000 in
theorem leaf_any (w0 : World) (B : Nat) (w : World) (E : Option Addr) (n c : Nat) (C : Option Addr) (m mc : Nat) (is : List Term) (t : Term) (h : CompSt w0 B w E n c C m mc is) (hm : m ≤ 1000000) :
    Calls Try.prog 38 #[.pointer (some ⟨B, 0, none⟩), .agg #[.int .i64 t.op, .int .i64 t.arg]] w (RetLeaf w0 B w E n c (is ++ [leafI t])) := by
  have H := Lib.hid h; clear h
  obtain ⟨op, arg⟩ := t
  have hfin : ∀ x : Term, leafI ⟨op, arg⟩ = x → ∀ (w2 : World) (v : Value), RetEmit w0 B (w.alloc (.cells #[.int .i64 op, .int .i64 arg] 37)) E n c m (is ++ [x]) (.returned v) w2 → ∀ u, RetLeaf w0 B w E n c (is ++ [leafI ⟨op, arg⟩]) (.returned u) w2 := by
    rintro x rfl w2 v ⟨C2, mc2, _, h2, h3⟩ u
    exact ⟨u, C2, mc2, rfl, h2, (TFrame.of_bel ((Bel.refl w).alloc _)).trans h3⟩
  have HF := Lib.hid hfin; clear hfin
  simp only
  go_enter Try.func38, Try.ntmps38
  go_wp2_with (go_at_call 40; refine (emit_any w0 B _ E n c C m mc is _ _ (H.out.alloc _) hm).mono ?_; intro e w2 hR; have HR := Lib.hid hR; clear hR; obtain ⟨v, rfl⟩ : ∃ v, e = .returned v := by (obtain ⟨_, _, h, _⟩ := HR.out; exact ⟨_, h⟩))
  all_goals
    go_end0
    refine HF.out _ ?_ w2 _ HR.out _
    simp only [beq_iff_eq, beq_eq_false_iff_ne, ne_eq] at *
    simp [leafI, *]

theorem termCells_set (es : List Term) (j : Nat) (a : Int) (h : j < es.length) : (es.flatMap termCells).set (j * 2 + 1) (.int .i64 a) = (es.set j ⟨es[j].op, a⟩).flatMap termCells := by
  induction es generalizing j with
  | nil => simp at h
  | cons x es ih =>
    cases j with
    | zero => simp [termCells]
    | succ j =>
      have := ih j (by simpa using h)
      rw [show (j + 1) * 2 + 1 = (j * 2 + 1) + 1 + 1 by omega]
      simpa [termCells] using this

theorem CompSt.store {w0 : World} {B : Nat} {w : World} {E : Option Addr} {n c : Nat} {g m mc : Nat} {is : List Term} (h : CompSt w0 B w E n c (some ⟨g, 0, none⟩) m mc is) (j : Nat) {u : Term} (hu : is[j]? = some u) (a : Int) :
    CompSt w0 B (w.setCell ⟨g, j * 2 + 1, none⟩ (.int .i64 a)) E n c (some ⟨g, 0, none⟩) m mc (is.set j ⟨u.op, a⟩) ∧ CompFr w (w.setCell ⟨g, j * 2 + 1, none⟩ (.int .i64 a)) := by
  obtain ⟨h1, h2, h3, h4⟩ := h
  obtain ⟨hj, rfl⟩ := List.getElem?_eq_some_iff.1 hu
  have hne : B ≠ g := fun e => h2.apart h3 (by decide) (by rw [e]; rfl)
  have hs := h3.stored (j * 2 + 1) (.int .i64 a)
  obtain ⟨cs, hg⟩ := own_blk h3
  refine ⟨⟨h1, h2.other hne _, ?_, ?_⟩, (TFrame.refl _ _).set hg (by decide) _ _⟩
  · rw [← termCells_set is j a hj]; exact hs.1
  · exact h4.setCell (h3.lt g rfl).1 _
theorem CompSt.drew {w0 : World} {B : Nat} {w : World} {E : Option Addr} {n c : Nat} {C : Option Addr} {m mc : Nat} {is : List Term} (h : CompSt w0 B w E n c C m mc is) : CompSt w0 B w.drew E n c C m mc is :=
  ⟨h.1, h.2.1.drew, h.2.2.1.drew, h.2.2.2.drew⟩
theorem CompSt.drewN {w0 : World} {B : Nat} {w : World} {E : Option Addr} {n c : Nat} {C : Option Addr} {m mc : Nat} {is : List Term} (h : CompSt w0 B w E n c C m mc is) (k : Nat) : CompSt w0 B (w.drewN k) E n c C m mc is :=
  ⟨h.1, h.2.1.drewN k, h.2.2.1, h.2.2.2.drewN k⟩
/-- The cell that a store into the code meets. -/
theorem CompSt.at_ {w0 : World} {B : Nat} {w : World} {E : Option Addr} {n c : Nat} {C : Option Addr} {m mc : Nat} {is : List Term} (h : CompSt w0 B w E n c C m mc is) (j : Nat) {u : Term} (hu : is[j]? = some u) :
    ∃ g, C = some ⟨g, 0, none⟩ ∧ w.cell? ⟨g, j * 2 + 1, none⟩ = some (.int .i64 u.arg) ∧ w.frozen? ⟨g, j * 2 + 1, none⟩ = false ∧ g ≠ B := by
  obtain ⟨g, h1, _, _, h4, h5⟩ := own_at h.2.2.1 (termCells_at is j u hu).2
  subst h1
  exact ⟨g, rfl, h4, h5, fun e => h.2.1.apart h.2.2.1 (by decide) (by rw [e]; rfl)⟩

end Go.Proofs.Ytnhhedecaejgcaa
