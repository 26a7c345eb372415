/- The contract of (*compiler).expression. -/
import Derived.Test.YtnhhedecaejgcaaW12a
namespace Go.Proofs.Ytnhhedecaejgcaa
open Go.RowKit

def RetExpr (w0 : World) (B : Nat) (w : World) (E : Option Addr) (n c : Nat) (nx : Nat) (is : List Term) (e : Ending) (w' : World) : Prop :=
  ∃ C mc, e = .returned (.int .i64 nx) ∧ CompSt w0 B w' E n c C is.length mc is ∧ CompFr w w'

def ExprOk (w0 : World) (B : Nat) (E : Option Addr) (n c : Nat) (es : List Term) (x : Ex) : Prop :=
  ∀ (k : Nat) (w : World) (C : Option Addr) (m mc : Nat) (is : List Term), x.At es k → CompSt w0 B w E n c C m mc is → m + x.size ≤ 1000000 →
    Calls Try.prog 22 #[.pointer (some ⟨B, 0, none⟩), .int .i64 k] w (RetExpr w0 B w E n c (k + x.len) (is ++ x.code m))

theorem terms_get {w : World} {A : Option Addr} {n : Nat} {es : List Term} (h : TermsR w A n es) {k : Nat} {t : Term} (ht : es[k]? = some t) :
    ∃ b o, A = some ⟨b, o, none⟩ ∧ b < w.heap.size ∧ w.cell? ⟨b, o + k * 2, none⟩ = some (.int .i64 t.op) ∧ w.cell? ⟨b, o + k * 2 + 1, none⟩ = some (.int .i64 t.arg) := by
  obtain ⟨h1, rfl⟩ := List.getElem?_eq_some_iff.1 ht
  exact h.at_ k h1

theorem len_leaf (t : Term) : (Ex.leaf t).len = 1 := rfl
theorem len_un (t : Term) (a : Ex) : (Ex.un t a).len = 1 + a.len := by simp [Ex.len, Ex.terms]; omega
theorem len_bin (t : Term) (a b : Ex) : (Ex.bin t a b).len = 1 + a.len + b.len := by simp [Ex.len, Ex.terms]; omega
theorem len_tri (t : Term) (a b c : Ex) : (Ex.tri t a b c).len = 1 + a.len + b.len + c.len := by simp [Ex.len, Ex.terms]; omega

set_option maxRecDepth 100000 in
set_option maxHeartbeats 1000000 in
theorem expr_leaf (w0 : World) (B : Nat) (E : Option Addr) (n c : Nat) (es : List Term) (hT : TermsR w0 E n es) (hn : n ≤ 1000000) (t : Term) : ExprOk w0 B E n c es (.leaf t) := by
  intro k w C m mc is hat h hm
  obtain ⟨hk, ha⟩ := At.leaf hat
  obtain rfl := hT.1
  have hlt := At.lt hat
  obtain ⟨b, o, rfl, hb, hc1, hc2⟩ := terms_get (hT.keep h.2.2.2) hk
  have hB0 := h.2.1.cell 0 (v := .slice (some ⟨b, o, none⟩) es.length c) rfl
  have hBl := h.2.1.lt
  have H := Lib.hid h
  have hm' : m ≤ 1000000 := by omega
  have HT := Lib.hid hT; clear hT h hat hk hm
  go_enter Try.func22, Try.ntmps22
  go_wp2_with (first
    | (go_at_call 37; refine (arity_any _ _).mono ?_; rintro e w' ⟨rfl, rfl⟩; rw [ha])
    | (go_at_call 38; refine (leaf_any w0 B _ _ es.length c C m mc is t (H.out.alloc _) hm').mono ?_; rintro e w2 ⟨v, C2, mc2, rfl, h2, h3⟩; replace h2 := Lib.hid h2; replace h3 := Lib.hid h3))
  go_ret
  refine ⟨C2, mc2, ret_int ?_, h2.out, (TFrame.of_bel ((Bel.refl w).alloc _)).trans h3.out⟩
  rw [len_leaf]; omega

theorem RetEmit.len {w0 : World} {B : Nat} {w w' : World} {E : Option Addr} {n c m : Nat} {is : List Term} {e : Ending} (h : RetEmit w0 B w E n c m is e w') : ∃ C mc, e = .returned (.int .i64 m) ∧ CompSt w0 B w' E n c C is.length mc is ∧ CompFr w w' := h

set_option maxRecDepth 100000 in
set_option maxHeartbeats 2000000 in
theorem expr_un (w0 : World) (B : Nat) (E : Option Addr) (n c : Nat) (es : List Term) (hT : TermsR w0 E n es) (hn : n ≤ 1000000) (t : Term) (x : Ex) (ih : ExprOk w0 B E n c es x) : ExprOk w0 B E n c es (.un t x) := by
  intro k w C m mc is hat h hm
  obtain ⟨hk, ha, hx⟩ := At.un hat
  obtain rfl := hT.1
  have hlt := At.lt hat
  obtain ⟨b, o, rfl, hb, hc1, hc2⟩ := terms_get (hT.keep h.2.2.2) hk
  have hB0 := h.2.1.cell 0 (v := .slice (some ⟨b, o, none⟩) es.length c) rfl
  have hBl := h.2.1.lt
  have hil := Lib.hid h.len
  have H := Lib.hid h
  have HX := Lib.hid hx
  have HI := Lib.hid ih
  have HL := Lib.hid (Blk.new w #[.int .i64 t.op, .int .i64 t.arg] 37)
  have HT := Lib.hid hT; clear hT h hat hk hx ih
  cases hag : aggregate t.op with
  | false =>
    simp only [Ex.size, hag] at hm
    have hm' : m + x.size ≤ 1000000 := by simp at hm; omega
    have hm2 : is.length + x.size ≤ 1000000 := by rw [hil.out]; exact hm'
    clear hm
    go_enter Try.func22, Try.ntmps22
    go_wp2_with (first
      | (go_at_call 37; refine (arity_any _ _).mono ?_; rintro e w' ⟨rfl, rfl⟩; rw [ha])
      | (go_at_call 39; refine (aggregate_any _ _).mono ?_; rintro e w' ⟨rfl, rfl⟩; rw [hag])
      | (go_at_call 22; refine (HI.out (k + 1) _ C m mc is HX.out (H.out.alloc _) hm').mono ?_; rintro e w2 ⟨C2, mc2, rfl, h2, h3⟩; replace HL := Lib.hid (HL.out.of_frame h3 (by decide)); have hl0 := HL.out.cell 0 (v := .int .i64 t.op) rfl; have hl2 := h2.2.1.lt; have hlen2 : (is ++ x.code m).length ≤ 1000000 := (by rw [List.length_append, Ex.code_length]; exact hm2); have hll := HL.out.lt; replace h2 := Lib.hid h2; replace h3 := Lib.hid h3)
      | (go_at_call 40; refine (emit_any w0 B _ _ es.length c C2 _ mc2 _ _ _ h2.out hlen2).mono ?_; rintro e w3 ⟨C3, mc3, rfl, h4, h5⟩; replace h4 := Lib.hid h4; replace h5 := Lib.hid h5))
    go_ret
    refine ⟨C3, mc3, ret_int ?_, ?_, ((TFrame.of_bel ((Bel.refl w).alloc _)).trans h3.out).trans h5.out⟩
    · rw [len_un]; omega
    · have := h4.out
      simp only [Ex.code, hag]
      simpa using this
  | true =>
    simp only [Ex.size, hag] at hm
    have hm' : m + 1 + x.size ≤ 1000000 := by simp at hm; omega
    have hm1 : m ≤ 1000000 := by omega
    have hm2 : is.length + 1 + x.size ≤ 1000000 := by rw [hil.out]; exact hm'
    have hmm : (is ++ [(⟨9, 0⟩ : Term)]).length = m + 1 := by simp [hil.out]
    have hmm2 : (is ++ [(⟨9, 0⟩ : Term)]).length + x.size ≤ 1000000 := by rw [hmm]; exact hm'
    have HMM := Lib.hid hmm
    clear hm hmm
    go_enter Try.func22, Try.ntmps22
    go_wp2_with (first
      | (go_at_call 37; refine (arity_any _ _).mono ?_; rintro e w' ⟨rfl, rfl⟩; rw [ha])
      | (go_at_call 39; refine (aggregate_any _ _).mono ?_; rintro e w' ⟨rfl, rfl⟩; rw [hag]))
    refine (emit_any w0 B _ _ es.length c C m mc is _ _ (H.out.alloc _) hm1).mono ?_
    rintro e w1 ⟨C1, mc1, rfl, h1, f1⟩
    replace HL := Lib.hid (HL.out.of_frame f1 (by decide))
    have hl1 := h1.2.1.lt
    rw [HMM.out] at h1
    replace h1 := Lib.hid h1
    replace f1 := Lib.hid f1
    go_wp2_with fail
    refine (HI.out (k + 1) _ C1 (m + 1) mc1 _ HX.out h1.out hm').mono ?_
    rintro e w2 ⟨C2, mc2, rfl, h2, f2⟩
    replace HL := Lib.hid (HL.out.of_frame f2 (by decide))
    have hl0 := HL.out.cell 0 (v := .int .i64 t.op) rfl
    have hl2 := h2.2.1.lt
    have hlen2 : (is ++ [(⟨9, 0⟩ : Term)] ++ x.code (m + 1)).length ≤ 1000000 := by rw [List.length_append, Ex.code_length]; exact hmm2
    have hll := HL.out.lt
    replace h2 := Lib.hid h2
    replace f2 := Lib.hid f2
    go_wp2_with fail
    refine (emit_any w0 B _ _ es.length c C2 _ mc2 _ _ _ h2.out hlen2).mono ?_
    rintro e w3 ⟨C3, mc3, rfl, h3, f3⟩
    have hlen3 : (is ++ [(⟨9, 0⟩ : Term)] ++ x.code (m + 1) ++ [(⟨10, t.op⟩ : Term)]).length = m + x.size + 2 := by simp [hil.out, Ex.code_length]; omega
    have hlen4 : (is ++ [(⟨9, 0⟩ : Term)] ++ x.code (m + 1)).length = m + 1 + x.size := by simp [hil.out, Ex.code_length]; omega
    rw [hlen3] at h3
    rw [hlen4]
    have hj : (is ++ [(⟨9, 0⟩ : Term)] ++ x.code (m + 1) ++ [(⟨10, t.op⟩ : Term)])[m]? = some ⟨9, 0⟩ := by rw [← hil.out]; simp
    obtain ⟨g, rfl, hg1, hg2, hg3⟩ := h3.at_ m hj
    have hB1 := h3.2.1.cell 1 (v := .slice (some ⟨g, 0, none⟩) (m + x.size + 2) mc3) rfl
    have hl3 := h3.2.1.lt
    obtain ⟨hs1, hs2⟩ := h3.store m hj ((m : Int) + 1 + (x.size : Int))
    replace hs1 := Lib.hid hs1
    replace hs2 := Lib.hid hs2
    replace f3 := Lib.hid f3
    have hm3 : m < m + x.size + 2 := by omega
    clear hlen3 hlen4 h3 hj hlen2
    go_wp2_with fail
    go_ret
    refine ⟨some ⟨g, 0, none⟩, mc3, ret_int ?_, ?_, ((((TFrame.of_bel ((Bel.refl w).alloc _)).trans f1.out).trans f2.out).trans f3.out).trans hs2.out⟩
    · rw [len_un]; omega
    · have := hs1.out
      simp only [Ex.code, hag]
      rw [← hil.out] at this ⊢
      have e : is.length + (x.size + 1 + 1) = is.length + x.size + 2 := by omega
      simpa [Ex.code_length, e] using this

set_option maxRecDepth 100000 in
set_option maxHeartbeats 2000000 in
theorem expr_bin (w0 : World) (B : Nat) (E : Option Addr) (n c : Nat) (es : List Term) (hT : TermsR w0 E n es) (hn : n ≤ 1000000) (t : Term) (x y : Ex) (ihx : ExprOk w0 B E n c es x) (ihy : ExprOk w0 B E n c es y) : ExprOk w0 B E n c es (.bin t x y) := by
  intro k w C m mc is hat h hm
  obtain ⟨hk, ha, hx, hy⟩ := At.bin hat
  obtain rfl := hT.1
  have hlt := At.lt hat
  have hag := agg_false (op := t.op) (by rw [ha]; omega)
  obtain ⟨b, o, rfl, hb, hc1, hc2⟩ := terms_get (hT.keep h.2.2.2) hk
  have hB0 := h.2.1.cell 0 (v := .slice (some ⟨b, o, none⟩) es.length c) rfl
  have hBl := h.2.1.lt
  have hil := Lib.hid h.len
  have H := Lib.hid h
  have HX := Lib.hid hx
  have HY := Lib.hid hy
  have HI := Lib.hid ihx
  have HJ := Lib.hid ihy
  have HL := Lib.hid (Blk.new w #[.int .i64 t.op, .int .i64 t.arg] 37)
  have HT := Lib.hid hT; clear hT h hat hk hx hy ihx ihy
  simp only [Ex.size] at hm
  have hm' : m + x.size ≤ 1000000 := by omega
  have hm2 : m + x.size + y.size ≤ 1000000 := by omega
  clear hm
  go_enter Try.func22, Try.ntmps22
  go_wp2_with (first
    | (go_at_call 37; refine (arity_any _ _).mono ?_; rintro e w' ⟨rfl, rfl⟩; rw [ha])
    | (go_at_call 39; refine (aggregate_any _ _).mono ?_; rintro e w' ⟨rfl, rfl⟩; rw [hag]))
  refine (HI.out (k + 1) _ C m mc is HX.out (H.out.alloc _) hm').mono ?_
  rintro e w1 ⟨C1, mc1, rfl, h1, f1⟩
  replace HL := Lib.hid (HL.out.of_frame f1 (by decide))
  have hl1 := h1.2.1.lt
  rw [show (is ++ x.code m).length = m + x.size by simp [hil.out, Ex.code_length]] at h1
  replace h1 := Lib.hid h1
  replace f1 := Lib.hid f1
  go_wp2_with fail
  refine (HJ.out (k + 1 + x.len) _ C1 (m + x.size) mc1 _ HY.out h1.out hm2).mono ?_
  rintro e w2 ⟨C2, mc2, rfl, h2, f2⟩
  replace HL := Lib.hid (HL.out.of_frame f2 (by decide))
  have hl0 := HL.out.cell 0 (v := .int .i64 t.op) rfl
  have hl2 := h2.2.1.lt
  have hll := HL.out.lt
  rw [show (is ++ x.code m ++ y.code (m + x.size)).length = m + x.size + y.size by simp [hil.out, Ex.code_length]; omega] at h2
  replace h2 := Lib.hid h2
  replace f2 := Lib.hid f2
  go_wp2_with fail
  refine (emit_any w0 B _ _ es.length c C2 _ mc2 _ _ _ h2.out hm2).mono ?_
  rintro e w3 ⟨C3, mc3, rfl, h3, f3⟩
  replace h3 := Lib.hid h3
  replace f3 := Lib.hid f3
  go_wp2_with fail
  go_ret
  refine ⟨C3, mc3, ret_int ?_, ?_, (((TFrame.of_bel ((Bel.refl w).alloc _)).trans f1.out).trans f2.out).trans f3.out⟩
  · rw [len_bin]; omega
  · have := h3.out
    simp only [Ex.code]
    simpa using this

set_option maxRecDepth 100000 in
set_option maxHeartbeats 4000000 in
theorem expr_tri (w0 : World) (B : Nat) (E : Option Addr) (n c : Nat) (es : List Term) (hT : TermsR w0 E n es) (hn : n ≤ 1000000) (t : Term) (x y z : Ex) (ihx : ExprOk w0 B E n c es x) (ihy : ExprOk w0 B E n c es y) (ihz : ExprOk w0 B E n c es z) : ExprOk w0 B E n c es (.tri t x y z) := by
  intro k w C m mc is hat h hm
  obtain ⟨hk, ha, hx, hy, hz⟩ := At.tri hat
  obtain rfl := hT.1
  have hlt := At.lt hat
  have hag := agg_false (op := t.op) (by rw [ha]; omega)
  obtain ⟨b, o, rfl, hb, hc1, hc2⟩ := terms_get (hT.keep h.2.2.2) hk
  have hB0 := h.2.1.cell 0 (v := .slice (some ⟨b, o, none⟩) es.length c) rfl
  have hBl := h.2.1.lt
  have hil := Lib.hid h.len
  have H := Lib.hid h
  have HX := Lib.hid hx
  have HY := Lib.hid hy
  have HZ := Lib.hid hz
  have HI := Lib.hid ihx
  have HJ := Lib.hid ihy
  have HK := Lib.hid ihz
  have HT := Lib.hid hT; clear hT h hat hk hx hy hz ihx ihy ihz
  simp only [Ex.size] at hm
  have hm0 : m + x.size ≤ 1000000 := by omega
  have hm1 : m + x.size + 1 ≤ 1000000 := by omega
  have hm2 : m + x.size + 1 + y.size ≤ 1000000 := by omega
  have hm3 : m + x.size + 1 + y.size + 1 + z.size ≤ 1000000 := by omega
  clear hm
  go_enter Try.func22, Try.ntmps22
  go_wp2_with (first
    | (go_at_call 37; refine (arity_any _ _).mono ?_; rintro e w' ⟨rfl, rfl⟩; rw [ha])
    | (go_at_call 39; refine (aggregate_any _ _).mono ?_; rintro e w' ⟨rfl, rfl⟩; rw [hag]))
  refine (HI.out (k + 1) _ C m mc is HX.out (H.out.alloc _) hm0).mono ?_
  rintro e w1 ⟨C1, mc1, rfl, h1, f1⟩
  rw [show (is ++ x.code m).length = m + x.size by simp [hil.out, Ex.code_length]] at h1
  replace h1 := Lib.hid h1
  replace f1 := Lib.hid f1
  go_wp2_with fail
  refine (emit_any w0 B _ _ es.length c C1 _ mc1 _ _ _ h1.out hm0).mono ?_
  rintro e w2 ⟨C2, mc2, rfl, h2, f2⟩
  rw [show (is ++ x.code m ++ [(⟨7, 0⟩ : Term)]).length = m + x.size + 1 by simp [hil.out, Ex.code_length]; omega] at h2
  replace h2 := Lib.hid h2
  replace f2 := Lib.hid f2
  go_wp2_with fail
  refine (HJ.out (k + 1 + x.len) _ C2 (m + x.size + 1) mc2 _ HY.out h2.out hm2).mono ?_
  rintro e w3 ⟨C3, mc3, rfl, h3, f3⟩
  rw [show (is ++ x.code m ++ [(⟨7, 0⟩ : Term)] ++ y.code (m + x.size + 1)).length = m + x.size + 1 + y.size by simp [hil.out, Ex.code_length]; omega] at h3
  replace h3 := Lib.hid h3
  replace f3 := Lib.hid f3
  go_wp2_with fail
  refine (emit_any w0 B _ _ es.length c C3 _ mc3 _ _ _ h3.out hm2).mono ?_
  rintro e w4 ⟨C4, mc4, rfl, h4, f4⟩
  rw [show (is ++ x.code m ++ [(⟨7, 0⟩ : Term)] ++ y.code (m + x.size + 1) ++ [(⟨8, 0⟩ : Term)]).length = m + x.size + 1 + y.size + 1 by simp [hil.out, Ex.code_length]; omega] at h4
  have hj : (is ++ x.code m ++ [(⟨7, 0⟩ : Term)] ++ y.code (m + x.size + 1) ++ [(⟨8, 0⟩ : Term)])[m + x.size]? = some ⟨7, 0⟩ := by
    rw [show m + x.size = (is ++ x.code m).length by simp [hil.out, Ex.code_length]]; simp
  obtain ⟨g, rfl, hg1, hg2, hg3⟩ := h4.at_ _ hj
  have hB1 := h4.2.1.cell 1 (v := .slice (some ⟨g, 0, none⟩) (m + x.size + 1 + y.size + 1) mc4) rfl
  have hB1f := h4.2.1.frozen 1
  have hl4 := h4.2.1.lt
  have hlm : m + x.size < m + x.size + 1 + y.size + 1 := by omega
  replace h4 := Lib.hid h4
  replace f4 := Lib.hid f4
  have Hj := Lib.hid hj; clear hj
  clear hc1 hc2 hB0
  go_wp2_with fail
  go_region
  go_wp2_with fail
  obtain ⟨hs1, hs2⟩ := h4.out.store (m + x.size) Hj.out ((m : Int) + x.size + 1 + y.size + 1)
  replace hs1 := Lib.hid hs1
  replace hs2 := Lib.hid hs2
  refine (HK.out (k + 1 + x.len + y.len) _ (some ⟨g, 0, none⟩) (m + x.size + 1 + y.size + 1) mc4 _ HZ.out hs1.out.drew hm3).mono ?_
  rintro e w5 ⟨C5, mc5, rfl, h5, f5⟩
  rw [show ((is ++ x.code m ++ [(⟨7, 0⟩ : Term)] ++ y.code (m + x.size + 1) ++ [(⟨8, 0⟩ : Term)]).set (m + x.size) ⟨7, (m : Int) + x.size + 1 + y.size + 1⟩ ++ z.code (m + x.size + 1 + y.size + 1)).length = m + x.size + 1 + y.size + 1 + z.size by simp [hil.out, Ex.code_length]; omega] at h5
  have hj : ((is ++ x.code m ++ [(⟨7, 0⟩ : Term)] ++ y.code (m + x.size + 1) ++ [(⟨8, 0⟩ : Term)]).set (m + x.size) ⟨7, (m : Int) + x.size + 1 + y.size + 1⟩ ++ z.code (m + x.size + 1 + y.size + 1))[m + x.size + 1 + y.size]? = some ⟨8, 0⟩ := by
    rw [List.getElem?_append_left (by simp [hil.out, Ex.code_length]; omega), List.getElem?_set_ne (by omega), show m + x.size + 1 + y.size = (is ++ x.code m ++ [(⟨7, 0⟩ : Term)] ++ y.code (m + x.size + 1)).length by simp [hil.out, Ex.code_length]; omega]
    simp
  clear hg1 hg2 hg3 hB1 hB1f hlm
  obtain ⟨g5, rfl, hg1, hg2, hg3⟩ := h5.at_ _ hj
  have hB1 := h5.2.1.cell 1 (v := .slice (some ⟨g5, 0, none⟩) (m + x.size + 1 + y.size + 1 + z.size) mc5) rfl
  have hB1f := h5.2.1.frozen 1
  have hl5 := h5.2.1.lt
  have hlm : m + x.size + 1 + y.size < m + x.size + 1 + y.size + 1 + z.size := by have := z.size_pos; omega
  obtain ⟨hs3, hs4⟩ := h5.store _ hj ((m : Int) + x.size + 1 + y.size + 1 + z.size)
  replace hs3 := Lib.hid hs3
  replace hs4 := Lib.hid hs4
  replace h5 := Lib.hid h5
  replace f5 := Lib.hid f5
  clear hj
  go_wp2_with fail
  go_region
  go_wp2_with fail
  go_ret
  refine ⟨some ⟨g5, 0, none⟩, mc5, ret_int ?_, ?_, (((((((TFrame.of_bel ((Bel.refl w).alloc _)).trans f1.out).trans f2.out).trans f3.out).trans f4.out).trans (hs2.out.drew)).trans f5.out).trans hs4.out.drew⟩
  · rw [len_tri]; omega
  · have := hs3.out.drew
    rw [tri_list _ _ _ _ _ _ _ _ _ _ (by rw [hil.out, Ex.code_length]) (by rw [Ex.code_length])] at this
    simp only [Ex.code]
    rw [show (is ++ (x.code m ++ [(⟨7, ((m + x.size + 1 + y.size + 1 : Nat) : Int)⟩ : Term)] ++ y.code (m + x.size + 1) ++ [(⟨8, ((m + x.size + 1 + y.size + 1 + z.size : Nat) : Int)⟩ : Term)] ++ z.code (m + x.size + 1 + y.size + 1))).length = m + x.size + 1 + y.size + 1 + z.size by simp [hil.out, Ex.code_length]; omega]
    exact this

theorem expression_any (w0 : World) (B : Nat) (E : Option Addr) (n c : Nat) (es : List Term) (hT : TermsR w0 E n es) (hn : n ≤ 1000000) (x : Ex) : ExprOk w0 B E n c es x := by
  induction x with
  | leaf t => exact expr_leaf w0 B E n c es hT hn t
  | un t a ih => exact expr_un w0 B E n c es hT hn t a ih
  | bin t a b iha ihb => exact expr_bin w0 B E n c es hT hn t a b iha ihb
  | tri t a b c' iha ihb ihc => exact expr_tri w0 B E n c es hT hn t a b c' iha ihb ihc

def codeF (es : List Term) : List Term × Int → Prop := fun r => (validF es 6 = false ∧ r = ([], 7)) ∨ (validF es 6 = true ∧ ∃ x : Ex, x.ok ∧ x.terms = es ∧ r = (x.code 0, 0))

/-- What Compile returns: a row of its own. -/
def RetCode (es : List Term) (w : World) (e : Ending) (w' : World) : Prop :=
  ∃ (A : Option Addr) (c : Nat) (is : List Term) (err : Int), codeF es (is, err) ∧ e = .returned (.tuple #[.slice A is.length c, .int .i64 err]) ∧ w'.ownsRow w.heap.size 40 2 (.slice A is.length c) is.length (is.flatMap termCells) ∧ Bel w w'

set_option maxRecDepth 100000 in
set_option maxHeartbeats 1000000 in
theorem compile_any (A : Option Addr) (n c : Nat) (es : List Term) (w : World) (h : TermsR w A n es) (hl : n ≤ 1000000) :
    Calls Try.prog 10 #[.slice A n c] w (RetCode es w) := by
  have H := Lib.hid h; clear h
  cases hv : validF es 6 with
  | false =>
    have HV := Lib.hid hv
    go_enter Try.func10, Try.ntmps10
    go_wp2_with (go_at_call 21; refine (valid_any _ _ _ es _ _ H.out hl).mono ?_; rintro e w1 ⟨rfl, hb⟩; rw [hv])
    go_ret2
    exact ⟨none, 0, [], 7, .inl ⟨HV.out, rfl⟩, rfl, World.ownsRow_nil _ _ _ _, hb⟩
  | true =>
    have HV := Lib.hid hv
    obtain ⟨x, hx1, hx2, hx3, _⟩ := valid_tree hv
    have hsz : 0 + x.size ≤ 1000000 := by have := x.size_le; have : x.len = es.length := by rw [← hx2]; rfl
                                          omega
    have HX := Lib.hid (At.whole hx1 hx2)
    have HP := Lib.hid (show codeF es (x.code 0, 0) from .inr ⟨hv, x, hx1, hx2, rfl⟩)
    clear hx1 hx2 hx3
    go_enter Try.func10, Try.ntmps10
    go_wp2_with (first
      | (go_at_call 21; refine (valid_any _ _ _ es _ _ H.out hl).mono ?_; rintro e w1 ⟨rfl, hb⟩; rw [hv]))
    have hst : CompSt w1 w1.heap.size (w1.alloc (.cells #[.slice A n c, .slice none 0 0] 44)) A n c none 0 0 [] :=
      ⟨Nat.le_refl _, Blk.new _ _ _, (World.ownsRow_nil _ _ _ _).alloc _, (Bel.refl _).alloc _⟩
    replace hst := Lib.hid hst
    refine (expression_any w1 w1.heap.size A n c es (H.out.keep hb) hl x 0 _ none 0 0 [] HX.out hst.out hsz).mono ?_
    rintro e w2 ⟨C2, mc2, rfl, h2, f2⟩
    have hc := h2.2.1.cell 1 (v := .slice C2 ([] ++ x.code 0).length mc2) rfl
    have hl2 := h2.2.1.lt
    replace h2 := Lib.hid h2
    go_wp2_with fail
    go_ret2
    refine ⟨C2, mc2, x.code 0, 0, HP.out, rfl, own_lower h2.out.2.2.1 hb.size, hb.trans h2.out.2.2.2⟩

end Go.Proofs.Ytnhhedecaejgcaa
