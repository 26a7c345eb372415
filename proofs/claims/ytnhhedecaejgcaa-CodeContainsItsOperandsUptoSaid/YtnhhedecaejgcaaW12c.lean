/- Contracts of size, translate, Compile and Same of the reference of layer 12. -/
import Derived.Test.YtnhhedecaejgcaaW12b
import Derived.Test.YtnhhedecaejgcaaW05g
namespace Go.Proofs.Ytnhhedecaejgcaa
open Go.RowKit

set_option maxHeartbeats 1000000 in
theorem refSize_any (A : Option Addr) (n c : Nat) (es : List Term) (k : Nat) (x : Ex) (w : World) (hat : x.At es k) (h : TermsR w A n es) (hl : n ≤ 100000) :
    Calls Try.prog 42 #[.slice A n c, .int .i64 k] w fun e w' => e = .returned (.int .i64 x.size) ∧ w = w' := by
  obtain rfl := h.1
  have H := Lib.hid h; clear h
  have hsz := Lib.hid (Ex.size_wts hat.1)
  have hend := At.endF hat
  have hbd := At.bound hat
  have hwl := wtsT_le x.terms
  have hxl : x.terms.length ≤ 100000 := by show x.len ≤ 100000; omega
  have HA := Lib.hid hat; clear hat
  have hl' : es.length ≤ 1000000 := by omega
  have HE := Lib.hid hend; clear hend
  go_enter Try.func42, Try.ntmps42
  go_wp2
  go_loopg [5, 6] x.len (fun g nv iv wr => ∃ j : Nat, j + g = x.len ∧ nv = .int .i64 (wtsT (x.terms.take j) : Nat) ∧ iv = .int .i64 ((k + j : Nat) : Int) ∧ w = wr)
  case atStart => exact ⟨0, by omega, rfl, rfl, rfl⟩
  case round =>
    obtain ⟨j, hj, rfl, rfl, rfl⟩ := hrel
    have hwj := wtsT_le (x.terms.take j)
    have hwj2 : wtsT (x.terms.take j) ≤ 300000 := by have : (x.terms.take j).length ≤ x.terms.length := by simp [List.length_take]; omega
                                                     omega
    clear hwj
    by_cases hlt : j < x.len
    · obtain ⟨t, ht⟩ : ∃ t, x.terms[j]? = some t := ⟨_, List.getElem?_eq_getElem hlt⟩
      have hte := At.get HA.out j hlt
      rw [ht] at hte
      obtain ⟨b, o, rfl, hb, hc1, hc2⟩ := terms_get H.out hte
      have HS : Hid (wtsT (x.terms.take (j + 1)) = wtsT (x.terms.take j) + wtT t) := by
        show wtsT (x.terms.take (j + 1)) = _
        rw [List.take_add_one, ht, wtsT_append]; simp [wtsT]
      have hin : k + j < es.length := by omega
      have hdlt : decide ((k : Int) + (j : Int) < endF es (k : Int)) = true := by rw [HE.out]; simp; omega
      clear hte
      cases hag : aggregate t.op with
      | true =>
        have h43 : (t.op == 43) = false := by
          have := agg_arity hag
          simp; rintro h43; rw [h43] at this; revert this; decide
        have hwt : Hid (wtT t = 2) := by show wtT t = 2; have h' : ¬ t.op = 43 := (by simpa using h43); simp [wtT, hag, h']
        go_wp2_with (first
          | (go_at_call 27; refine (refEnd_any _ _ _ es _ _ H.out hl').mono ?_; rintro e w' ⟨rfl, rfl⟩)
          | (go_at_call 18; refine (refAggregate_any _ _).mono ?_; rintro e w' ⟨rfl, rfl⟩; rw [hag]))
        go_roundg (gk - 1)
        case rel => exact ⟨j + 1, by omega, by rw [HS.out, hwt.out]; go_num, by go_num, rfl⟩
        case measure => omega
      | false =>
        by_cases h43 : t.op = 43
        · have hwt : Hid (wtT t = 2) := by show wtT t = 2; simp [wtT, h43]; decide
          have h43' : (t.op == 43) = true := by simpa using h43
          clear h43
          go_wp2_with (first
            | (go_at_call 27; refine (refEnd_any _ _ _ es _ _ H.out hl').mono ?_; rintro e w' ⟨rfl, rfl⟩)
            | (go_at_call 18; refine (refAggregate_any _ _).mono ?_; rintro e w' ⟨rfl, rfl⟩; rw [hag]))
          go_roundg (gk - 1)
          case rel => exact ⟨j + 1, by omega, by rw [HS.out, hwt.out]; go_num, by go_num, rfl⟩
          case measure => omega
        · have hwt : Hid (wtT t = 1) := by show wtT t = 1; simp [wtT, hag, h43]
          have h43' : (t.op == 43) = false := by simpa using h43
          clear h43
          go_wp2_with (first
            | (go_at_call 27; refine (refEnd_any _ _ _ es _ _ H.out hl').mono ?_; rintro e w' ⟨rfl, rfl⟩)
            | (go_at_call 18; refine (refAggregate_any _ _).mono ?_; rintro e w' ⟨rfl, rfl⟩; rw [hag]))
          go_roundg (gk - 1)
          case rel => exact ⟨j + 1, by omega, by rw [HS.out, hwt.out]; go_num, by go_num, rfl⟩
          case measure => omega
    · have hdlt : decide ((k : Int) + (j : Int) < endF es (k : Int)) = false := by rw [HE.out]; simp; omega
      go_wp2_with (first
        | (go_at_call 27; refine (refEnd_any _ _ _ es _ _ H.out hl').mono ?_; rintro e w' ⟨rfl, rfl⟩))
      go_ret
      refine ⟨ret_int ?_, rfl⟩
      rw [hsz.out, List.take_of_length_le (by show x.len ≤ j; omega)]

/-- A row of instructions of the call's own. -/
def RetInstrs (is : List Term) (w : World) (e : Ending) (w' : World) : Prop :=
  ∃ A c, e = .returned (.slice A is.length c) ∧ w'.ownsRow w.heap.size 40 2 (.slice A is.length c) is.length (is.flatMap termCells) ∧ Bel w w'

theorem own_new2 (w : World) (base : Nat) (hb : base ≤ w.heap.size) (t : Term) : (w.alloc (.cells #[.int .i64 t.op, .int .i64 t.arg] 40)).ownsRow base 40 2 (.slice (some ⟨w.heap.size, 0, none⟩) 1 1) 1 ([t].flatMap termCells) :=
  ⟨rfl, .inr ⟨w.heap.size, 1, #[.int .i64 t.op, .int .i64 t.arg], rfl, hb, heap_new w _, Nat.le_refl _, by unfold maxLen; omega, rfl, rfl⟩⟩

def TransOk (es : List Term) (x : Ex) : Prop :=
  ∀ (k : Nat) (w : World) (A : Option Addr) (n c m : Nat), x.At es k → TermsR w A n es → n ≤ 100000 → m + x.size ≤ 1000000 →
    Calls Try.prog 23 #[.slice A n c, .int .i64 k, .int .i64 m] w (RetInstrs (x.code m) w)

set_option maxRecDepth 100000 in
set_option maxHeartbeats 2000000 in
theorem trans_leaf (es : List Term) (t : Term) : TransOk es (.leaf t) := by
  intro k w A n c m hat h hl hm
  obtain ⟨hk, ha⟩ := At.leaf hat
  obtain rfl := h.1
  have hlt := At.lt hat
  obtain ⟨b, o, rfl, hb, hc1, hc2⟩ := terms_get h hk
  clear h hat hk hm
  obtain ⟨op, arg⟩ := t
  simp only at *
  have hfin : ∀ x : Term, leafI ⟨op, arg⟩ = x → RetInstrs ((Ex.leaf ⟨op, arg⟩).code m) w (.returned (.slice (some ⟨w.heap.size, 0, none⟩) 1 1)) (w.alloc (.cells #[.int .i64 x.op, .int .i64 x.arg] 40)) := by
    rintro x rfl
    exact ⟨_, _, rfl, own_new2 w _ (Nat.le_refl _) _, (Bel.refl _).alloc _⟩
  have HF := Lib.hid hfin; clear hfin
  have H0 := Lib.hid ha; clear ha
  go_enter Try.func23, Try.ntmps23
  go_wp2_with (first
    | (go_at_call 41; refine (refArity_any _ _).mono ?_; rintro e w' ⟨rfl, rfl⟩; rw [H0.out]))
  all_goals
    go_ret
    refine HF.out ⟨_, _⟩ ?_
    simp only [beq_iff_eq, beq_eq_false_iff_ne, ne_eq] at *
    simp [leafI, *]

set_option maxRecDepth 100000 in
set_option maxHeartbeats 2000000 in
theorem trans_un (es : List Term) (t : Term) (x : Ex) (ih : TransOk es x) : TransOk es (.un t x) := by
  intro k w A n c m hat h hl hm
  obtain ⟨hk, ha, hx⟩ := At.un hat
  obtain rfl := h.1
  have hlt := At.lt hat
  obtain ⟨b, o, rfl, hb, hc1, hc2⟩ := terms_get h hk
  have H := Lib.hid h
  have HX := Lib.hid hx
  have HI := Lib.hid ih
  obtain ⟨i0, hi0, hz0, hz1, hz2⟩ := info_parts instr_info
  have hne : ∀ q : Int, q ≤ 17 → (t.op == q) = false := by
    intro q hq
    simp; rintro rfl
    unfold arity at ha
    repeat' split at ha <;> omega
  have e1 := hne 1 (by omega)
  have e2 := hne 2 (by omega)
  have e3 := hne 3 (by omega)
  have e4 := hne 4 (by omega)
  have e5 := hne 5 (by omega)
  have e12 := hne 12 (by omega)
  clear hne h hat hk hx ih
  cases hag : aggregate t.op with
  | false =>
    simp only [Ex.size, hag] at hm
    have hm' : m + x.size ≤ 1000000 := by simp at hm; omega
    clear hm
    go_enter Try.func23, Try.ntmps23
    go_wp2_with (first
      | (go_at_call 41; refine (refArity_any _ _).mono ?_; rintro e w' ⟨rfl, rfl⟩; rw [ha])
      | (go_at_call 18; refine (refAggregate_any _ _).mono ?_; rintro e w' ⟨rfl, rfl⟩; rw [hag]))
    refine (HI.out (k + 1) _ _ _ c m HX.out H.out hl hm').mono ?_
    rintro e w2 ⟨A2, c2, rfl, h2, hb2⟩
    rw [Ex.code_length] at h2 ⊢
    replace h2 := Lib.hid h2
    have hbs := hb2.size
    go_wp2_with (at_builtin; refine wpList_push _ rfl (.tmp 105) (.tmp 108) 25 rfl w.heap.size 40 i0 (.agg #[.int .i64 0, .int .i64 0]) 2 16 Try.underlying25 hi0 hz0 hz1 hz2 rfl (by decide) A2 x.size c2 ((x.code m).flatMap termCells) (by simp [Act.eval]) (h2.out.alloc _) w2.heap.size #[.int .i64 5, .int .i64 t.op] 40 (0, 0) (by simp [Act.eval]) (heap_new _ _) rfl (two_ints _ _ _ _) (by unfold maxLen; omega) (by omega) (by simp; omega) ?_; intro A3 c3 w3 hown3 hgr3 hat3; have hb3 := Lib.hid ((hb2.alloc _).push (h2.out.alloc _) hgr3); replace hown3 := Lib.hid hown3; clear hgr3 hat3)
    go_ret
    refine ⟨A3, c3, ?_, ?_, hb3.out⟩
    · simp [Ex.code, hag, Ex.code_length]
    · have := hown3.out
      simpa [Ex.code, hag, Ex.code_length, termCells] using this
  | true =>
    simp only [Ex.size, hag] at hm
    have hm' : m + 1 + x.size ≤ 1000000 := by simp at hm; omega
    clear hm
    go_enter Try.func23, Try.ntmps23
    go_wp2_with (first
      | (go_at_call 41; refine (refArity_any _ _).mono ?_; rintro e w' ⟨rfl, rfl⟩; rw [ha])
      | (go_at_call 18; refine (refAggregate_any _ _).mono ?_; rintro e w' ⟨rfl, rfl⟩; rw [hag])
      | (go_at_call 42; refine (refSize_any _ _ _ es (k + 1) x _ HX.out H.out hl).mono ?_; rintro e w' ⟨rfl, rfl⟩))
    have hb1 := (Bel.refl w).alloc (.cells #[.int .i64 9, .int .i64 ((m : Int) + 1 + x.size)] 40)
    have hw1 := Lib.hid (own_new2 w w.heap.size (Nat.le_refl _) ⟨9, (m : Int) + 1 + x.size⟩)
    refine (HI.out (k + 1) _ _ _ c (m + 1) HX.out (H.out.keep hb1) hl hm').mono ?_
    rintro e w2 ⟨A2, c2, rfl, h2, hb2⟩
    rw [Ex.code_length] at h2 ⊢
    replace h2 := Lib.hid h2
    have hw2 := Lib.hid (hb2.owns hw1.out)
    replace hb2 := hb1.trans hb2
    have hbs2 := hb2.size
    clear hw1 hb1
    go_wp2_with (first
      | (at_builtin; refine wpList_extend _ rfl (.tmp 84) (.tmp 90) 25 rfl w.heap.size 40 i0 (.agg #[.int .i64 0, .int .i64 0]) 2 16 Try.underlying25 hi0 hz0 hz1 hz2 rfl (by decide) (some ⟨w.heap.size, 0, none⟩) 1 1 ([(⟨9, (m : Int) + 1 + x.size⟩ : Term)].flatMap termCells) (by simp [Act.eval]) hw2.out A2 x.size c2 ((x.code (m + 1)).flatMap termCells) (by simp [Act.eval]) (own_terms h2.out).cells (termCells_one _) (by unfold maxLen; omega) (by omega) (by omega) ?_; intro A3 c3 w3 hown' hgr' hat'; have hb3 := hb2.push hw2.out hgr'; have hbsw3 := hb3.size; have own3 := Lib.hid hown'; clear hown' hgr' hat')
      | (at_builtin; refine wpList_push _ rfl (.tmp 92) (.tmp 95) 25 rfl w.heap.size 40 i0 (.agg #[.int .i64 0, .int .i64 0]) 2 16 Try.underlying25 hi0 hz0 hz1 hz2 rfl (by decide) A3 (1 + x.size) c3 ([(⟨9, (m : Int) + 1 + x.size⟩ : Term)].flatMap termCells ++ (x.code (m + 1)).flatMap termCells) (by simp [Act.eval]) (own3.out.alloc _) w3.heap.size #[.int .i64 10, .int .i64 t.op] 40 (0, 0) (by simp [Act.eval]) (heap_new _ _) rfl (two_ints _ _ _ _) (by unfold maxLen; omega) (by omega) (by simp; omega) ?_; intro A4 c4 w4 hown' hgr' hat'; have hb4 := (hb3.alloc _).push (own3.out.alloc _) hgr'; have hbsw4 := hb4.size; have own4 := Lib.hid hown'; clear hown' hgr' hat'))
    go_ret
    refine ⟨A4, c4, ?_, ?_, hb4⟩
    · simp [Ex.code, hag, Ex.code_length]; omega
    · have := own4.out
      simpa [Ex.code, hag, Ex.code_length, termCells, show x.size + 1 + 1 = 1 + x.size + 1 by omega] using this

set_option maxRecDepth 100000 in
set_option maxHeartbeats 4000000 in
theorem trans_bin (es : List Term) (t : Term) (x y : Ex) (ihx : TransOk es x) (ihy : TransOk es y) : TransOk es (.bin t x y) := by
  intro k w A n c m hat h hl hm
  obtain ⟨hk, ha, hx, hy⟩ := At.bin hat
  obtain rfl := h.1
  have hlt := At.lt hat
  have hag := agg_false (op := t.op) (by rw [ha]; omega)
  obtain ⟨b, o, rfl, hb, hc1, hc2⟩ := terms_get h hk
  have H := Lib.hid (fun w' (k : Bel w w') => h.keep k)
  have Hx := Lib.hid hx
  have HIx := Lib.hid ihx
  have Hy := Lib.hid hy
  have HIy := Lib.hid ihy
  have HO1 := Lib.hid (At.operand1 hat hk (by omega) hx)
  obtain ⟨i0, hi0, hz0, hz1, hz2⟩ := info_parts instr_info
  have hne : ∀ q : Int, q ≤ 17 → (t.op == q) = false := by
    intro q hq
    simp; rintro rfl
    unfold arity at ha
    repeat' split at ha <;> omega
  have e1 := hne 1 (by omega)
  have e2 := hne 2 (by omega)
  have e3 := hne 3 (by omega)
  have e4 := hne 4 (by omega)
  have e5 := hne 5 (by omega)
  have e12 := hne 12 (by omega)
  have hl' : es.length ≤ 1000000 := by omega
  clear hne h hat hk hx ihx hy ihy
  have HB := Bel.refl w
  simp only [Ex.size] at hm
  have hm0 : m + x.size ≤ 1000000 := by omega
  have hm2 : m + x.size + y.size ≤ 1000000 := by omega
  clear hm
  go_enter Try.func23, Try.ntmps23
  go_wp2_with (first
    | (go_at_call 41; refine (refArity_any _ _).mono ?_; rintro e w' ⟨rfl, rfl⟩; rw [ha])
    | (go_at_call 18; refine (refAggregate_any _ _).mono ?_; rintro e w' ⟨rfl, rfl⟩; rw [hag])
    | (go_at_call 43; refine (refOperand_any _ _ _ es _ _ _ (H.out _ HB) hl').mono ?_; rintro e w' ⟨rfl, rfl⟩; rw [HO1.out]))
  refine (HIx.out (k + 1) _ _ _ c m Hx.out (H.out _ HB) hl hm0).mono ?_
  rintro e w2 ⟨A2, c2, rfl, h2, hb2⟩
  rw [Ex.code_length] at h2 ⊢
  replace h2 := Lib.hid h2
  have hbs2 := hb2.size
  go_wp2_with fail
  refine (HIy.out (k + 1 + x.len) _ _ _ c (m + x.size) Hy.out (H.out _ hb2) hl hm2).mono ?_
  rintro e w3 ⟨A3, c3, rfl, h3, hb3⟩
  rw [Ex.code_length] at h3 ⊢
  replace h3 := Lib.hid h3
  replace h2 := Lib.hid (hb3.owns h2.out)
  replace hb3 := hb2.trans hb3
  have hbs3 := hb3.size
  go_wp2_with (first
    | (at_builtin; refine wpList_extend _ rfl (.tmp 122) (.tmp 129) 25 rfl w.heap.size 40 i0 (.agg #[.int .i64 0, .int .i64 0]) 2 16 Try.underlying25 hi0 hz0 hz1 hz2 rfl (by decide) A2 x.size c2 ((x.code m).flatMap termCells) (by simp [Act.eval]) h2.out A3 y.size c3 ((y.code (m + x.size)).flatMap termCells) (by simp [Act.eval]) (own_terms h3.out).cells (termCells_one _) (by unfold maxLen; omega) (by omega) (by omega) ?_; intro A4 c4 w4 hown' hgr' hat'; have hb4 := hb3.push h2.out hgr'; have hbsw4 := hb4.size; have own4 := Lib.hid hown'; clear hown' hgr' hat')
    | (at_builtin; refine wpList_push _ rfl (.tmp 131) (.tmp 134) 25 rfl w.heap.size 40 i0 (.agg #[.int .i64 0, .int .i64 0]) 2 16 Try.underlying25 hi0 hz0 hz1 hz2 rfl (by decide) A4 (x.size + y.size) c4 ((x.code m).flatMap termCells ++ (y.code (m + x.size)).flatMap termCells) (by simp [Act.eval]) (own4.out.alloc _) w4.heap.size #[.int .i64 6, .int .i64 t.op] 40 (0, 0) (by simp [Act.eval]) (heap_new _ _) rfl (two_ints _ _ _ _) (by unfold maxLen; omega) (by omega) (by simp; omega) ?_; intro A5 c5 w5 hown' hgr' hat'; have hb5 := (hb4.alloc _).push (own4.out.alloc _) hgr'; have hbsw5 := hb5.size; have own5 := Lib.hid hown'; clear hown' hgr' hat'))
  go_ret
  refine ⟨A5, c5, ?_, ?_, hb5⟩
  · simp [Ex.code, Ex.code_length]; omega
  · have := own5.out
    simpa [Ex.code, Ex.code_length, termCells, show x.size + (y.size + 1) = x.size + y.size + 1 by omega] using this

set_option maxRecDepth 100000 in
set_option maxHeartbeats 4000000 in
theorem trans_tri (es : List Term) (t : Term) (x y z : Ex) (ihx : TransOk es x) (ihy : TransOk es y) (ihz : TransOk es z) : TransOk es (.tri t x y z) := by
  intro k w A n c m hat h hl hm
  obtain ⟨hk, ha, hx, hy, hz⟩ := At.tri hat
  obtain rfl := h.1
  have hlt := At.lt hat
  have hag := agg_false (op := t.op) (by rw [ha]; omega)
  obtain ⟨b, o, rfl, hb, hc1, hc2⟩ := terms_get h hk
  have H := Lib.hid (fun w' (k : Bel w w') => h.keep k)
  have Hx := Lib.hid hx
  have HIx := Lib.hid ihx
  have Hy := Lib.hid hy
  have HIy := Lib.hid ihy
  have Hz := Lib.hid hz
  have HIz := Lib.hid ihz
  have HO1 := Lib.hid (At.operand1 hat hk (by omega) hx)
  have HO2 := Lib.hid (At.operand2 hat hk (by omega) hx hy)
  obtain ⟨i0, hi0, hz0, hz1, hz2⟩ := info_parts instr_info
  have hne : ∀ q : Int, q ≤ 17 → (t.op == q) = false := by
    intro q hq
    simp; rintro rfl
    unfold arity at ha
    repeat' split at ha <;> omega
  have e1 := hne 1 (by omega)
  have e2 := hne 2 (by omega)
  have e3 := hne 3 (by omega)
  have e4 := hne 4 (by omega)
  have e5 := hne 5 (by omega)
  have e12 := hne 12 (by omega)
  have hl' : es.length ≤ 1000000 := by omega
  clear hne h hat hk hx ihx hy ihy hz ihz
  have HB := Bel.refl w
  simp only [Ex.size] at hm
  have hm0 : m + x.size ≤ 1000000 := by omega
  have hm2 : m + x.size + 1 + y.size ≤ 1000000 := by omega
  have hm3 : m + x.size + 1 + y.size + 1 + z.size ≤ 1000000 := by omega
  clear hm
  go_enter Try.func23, Try.ntmps23
  go_wp2_with (first
    | (go_at_call 41; refine (refArity_any _ _).mono ?_; rintro e w' ⟨rfl, rfl⟩; rw [ha])
    | (go_at_call 18; refine (refAggregate_any _ _).mono ?_; rintro e w' ⟨rfl, rfl⟩; rw [hag])
    | (go_at_call 43; refine (refOperand_any _ _ _ es _ _ _ (H.out _ HB) hl').mono ?_; rintro e w' ⟨rfl, rfl⟩; (first | rw [HO1.out] | rw [HO2.out])))
  refine (HIx.out (k + 1) _ _ _ c m Hx.out (H.out _ HB) hl hm0).mono ?_
  rintro e w2 ⟨A2, c2, rfl, h2, hb2⟩
  rw [Ex.code_length] at h2 ⊢
  replace h2 := Lib.hid h2
  have hbs2 := hb2.size
  go_wp2_with (first
    | (go_at_call 42; refine (refSize_any _ _ _ es (k + 1 + x.len) y _ Hy.out (H.out _ hb2) hl).mono ?_; rintro e w' ⟨rfl, rfl⟩)
    | (at_builtin; refine wpList_push _ rfl (.tmp 157) (.tmp 160) 25 rfl w.heap.size 40 i0 (.agg #[.int .i64 0, .int .i64 0]) 2 16 Try.underlying25 hi0 hz0 hz1 hz2 rfl (by decide) A2 x.size c2 ((x.code m).flatMap termCells) (by simp [Act.eval]) (h2.out.alloc _) w2.heap.size #[.int .i64 7, .int .i64 ((m : Int) + x.size + 1 + y.size + 1)] 40 (0, 0) (by simp [Act.eval]) (heap_new _ _) rfl (two_ints _ _ _ _) (by unfold maxLen; omega) (by omega) (by simp; omega) ?_; intro A3 c3 w3 hown' hgr' hat'; have hb3 := (hb2.alloc _).push (h2.out.alloc _) hgr'; have hbsw3 := hb3.size; have own3 := Lib.hid hown'; clear hown' hgr' hat'))
  refine (HIy.out (k + 1 + x.len) _ _ _ c (m + x.size + 1) Hy.out (H.out _ hb3) hl hm2).mono ?_
  rintro e w4 ⟨A4, c4, rfl, h4, hb4⟩
  rw [Ex.code_length] at h4 ⊢
  replace h4 := Lib.hid h4
  replace own3 := Lib.hid (hb4.owns own3.out)
  replace hb4 := hb3.trans hb4
  have hbs4 := hb4.size
  go_wp2_with (first
    | (at_builtin; refine wpList_extend _ rfl (.tmp 162) (.tmp 169) 25 rfl w.heap.size 40 i0 (.agg #[.int .i64 0, .int .i64 0]) 2 16 Try.underlying25 hi0 hz0 hz1 hz2 rfl (by decide) A3 (x.size + 1) c3 ((x.code m).flatMap termCells ++ [.int .i64 7, .int .i64 ((m : Int) + x.size + 1 + y.size + 1)]) (by simp [Act.eval]) own3.out A4 y.size c4 ((y.code (m + x.size + 1)).flatMap termCells) (by simp [Act.eval]) (own_terms h4.out).cells (termCells_one _) (by unfold maxLen; omega) (by omega) (by omega) ?_; intro A5 c5 w5 hown' hgr' hat'; have hb5 := hb4.push own3.out hgr'; have hbsw5 := hb5.size; have own5 := Lib.hid hown'; clear hown' hgr' hat')
    | (go_at_call 42; refine (refSize_any _ _ _ es (k + 1 + x.len + y.len) z _ Hz.out (H.out _ hb5) hl).mono ?_; rintro e w' ⟨rfl, rfl⟩)
    | (at_builtin; refine wpList_push _ rfl (.tmp 171) (.tmp 178) 25 rfl w.heap.size 40 i0 (.agg #[.int .i64 0, .int .i64 0]) 2 16 Try.underlying25 hi0 hz0 hz1 hz2 rfl (by decide) A5 (x.size + 1 + y.size) c5 ((x.code m).flatMap termCells ++ [.int .i64 7, .int .i64 ((m : Int) + x.size + 1 + y.size + 1)] ++ (y.code (m + x.size + 1)).flatMap termCells) (by simp [Act.eval]) (own5.out.alloc _) w5.heap.size #[.int .i64 8, .int .i64 ((m : Int) + x.size + 1 + y.size + 1 + z.size)] 40 (0, 0) (by simp [Act.eval]) (heap_new _ _) rfl (two_ints _ _ _ _) (by unfold maxLen; omega) (by omega) (by simp; omega) ?_; intro A6 c6 w6 hown' hgr' hat'; have hb6 := (hb5.alloc _).push (own5.out.alloc _) hgr'; have hbsw6 := hb6.size; have own6 := Lib.hid hown'; clear hown' hgr' hat'))
  refine (HIz.out (k + 1 + x.len + y.len) _ _ _ c (m + x.size + 1 + y.size + 1) Hz.out (H.out _ hb6) hl hm3).mono ?_
  rintro e w7 ⟨A7, c7, rfl, h7, hb7⟩
  rw [Ex.code_length] at h7 ⊢
  replace h7 := Lib.hid h7
  replace own6 := Lib.hid (hb7.owns own6.out)
  replace hb7 := hb6.trans hb7
  have hbs7 := hb7.size
  go_wp2_with (first
    | (at_builtin; refine wpList_extend _ rfl (.tmp 180) (.tmp 184) 25 rfl w.heap.size 40 i0 (.agg #[.int .i64 0, .int .i64 0]) 2 16 Try.underlying25 hi0 hz0 hz1 hz2 rfl (by decide) A6 (x.size + 1 + y.size + 1) c6 ((x.code m).flatMap termCells ++ [.int .i64 7, .int .i64 ((m : Int) + x.size + 1 + y.size + 1)] ++ (y.code (m + x.size + 1)).flatMap termCells ++ [.int .i64 8, .int .i64 ((m : Int) + x.size + 1 + y.size + 1 + z.size)]) (by simp [Act.eval]) own6.out A7 z.size c7 ((z.code (m + x.size + 1 + y.size + 1)).flatMap termCells) (by simp [Act.eval]) (own_terms h7.out).cells (termCells_one _) (by unfold maxLen; omega) (by omega) (by omega) ?_; intro A8 c8 w8 hown' hgr' hat'; have hb8 := hb7.push own6.out hgr'; have hbsw8 := hb8.size; have own8 := Lib.hid hown'; clear hown' hgr' hat'))
  go_ret
  refine ⟨A8, c8, ?_, ?_, hb8⟩
  · simp [Ex.code, Ex.code_length]; omega
  · have := own8.out
    simpa [Ex.code, Ex.code_length, termCells, show x.size + (y.size + (z.size + 1) + 1) = x.size + 1 + y.size + 1 + z.size by omega] using this

theorem translate_any (es : List Term) (x : Ex) : TransOk es x := by
  induction x with
  | leaf t => exact trans_leaf es t
  | un t a ih => exact trans_un es t a ih
  | bin t a b iha ihb => exact trans_bin es t a b iha ihb
  | tri t a b c iha ihb ihc => exact trans_tri es t a b c iha ihb ihc

end Go.Proofs.Ytnhhedecaejgcaa
