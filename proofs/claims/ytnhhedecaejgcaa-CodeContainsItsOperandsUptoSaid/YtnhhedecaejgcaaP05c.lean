/- Plain laws of layer 5: operands follow one another; parts of an expression. -/
import Derived.Test.YtnhhedecaejgcaaP05b
namespace Go.Proofs.Ytnhhedecaejgcaa

theorem scan_add (l : List Term) : ∀ (m1 m2 : Int), 1 ≤ m1 → 1 ≤ m2 → scan l (m1 + m2) = (match scan l m1 with | none => none | some n => (scan (l.drop n) m2).map (n + ·)) := by
  induction l with
  | nil => intro m1 m2 _ _; rfl
  | cons t ts ih =>
    intro m1 m2 h1 h2
    simp only [scan]
    by_cases ha : arity t.op < 0
    · simp only [if_pos ha]
    · simp only [if_neg ha]
      rw [if_neg (by omega)]
      by_cases h0 : m1 + (arity t.op - 1) = 0
      · rw [if_pos h0]
        simp only [List.drop_succ_cons, List.drop_zero]
        rw [show m1 + m2 + (arity t.op - 1) = m2 by omega]
        congr 1; funext x; omega
      · rw [if_neg h0, show m1 + m2 + (arity t.op - 1) = (m1 + (arity t.op - 1)) + m2 by omega, ih _ _ (by omega) h2]
        cases scan ts (m1 + (arity t.op - 1)) with
        | none => rfl
        | some n =>
          simp only [Option.map_some, List.drop_succ_cons, Option.map_map]
          congr 1; funext x; simp; omega

theorem endF_nat (es : List Term) (k : Nat) (h : k < es.length) : endF es (k : Int) = scanAt es k 1 := by
  unfold endF
  rw [if_neg (by omega), Int.toNat_natCast]

theorem iterEnd_scan (es : List Term) : ∀ (a : Nat) (p n : Nat), 1 ≤ a → scan (es.drop p) (a : Int) = some n → iterEnd es a (p : Int) = ((p + n : Nat) : Int) := by
  intro a
  induction a with
  | zero => intro p n h; omega
  | succ a ih =>
    intro p n _ h
    have hp : p < es.length := by
      rcases Nat.lt_or_ge p es.length with hlt | hge
      · exact hlt
      · rw [List.drop_eq_nil_of_le hge] at h; simp [scan] at h
    rcases Nat.eq_zero_or_pos a with h0 | h0
    · subst h0
      simp only [iterEnd]
      rw [endF_nat es p hp]
      unfold scanAt
      rw [show ((0 + 1 : Nat) : Int) = 1 from rfl] at h
      rw [h]; simp
    · rw [show ((a + 1 : Nat) : Int) = 1 + (a : Int) by omega, scan_add _ 1 a (by omega) (by omega)] at h
      cases hs : scan (es.drop p) 1 with
      | none => rw [hs] at h; cases h
      | some q =>
        rw [hs] at h
        simp only [List.drop_drop] at h
        cases hr : scan (es.drop (p + q)) (a : Int) with
        | none => rw [hr] at h; cases h
        | some r =>
          rw [hr] at h
          simp at h
          simp only [iterEnd]
          have e : endF es (p : Int) = ((p + q : Nat) : Int) := by
            rw [endF_nat es p hp]; unfold scanAt; rw [hs]; simp
          rw [e, ih _ _ h0 hr]; omega

theorem iterEnd_snoc (es : List Term) (k : Nat) (p : Int) : iterEnd es (k + 1) p = endF es (iterEnd es k p) := by
  induction k generalizing p with
  | zero => rfl
  | succ k ih => exact ih (endF es p)

/-- Each place of a whole expression begins one. -/
theorem end_some {es : List Term} (h : Full es 1) {i : Nat} (hi : i < es.length) : ∃ n, scan (es.drop i) 1 = some n := by
  obtain ⟨m, hm⟩ := h.drop i (by omega)
  have hm' := hm
  rw [List.drop_eq_getElem_cons hi] at hm'
  have h1 := hm'.cons.1
  rcases hm with ⟨hn, _⟩ | ⟨_, hs⟩
  · have := congrArg List.length hn; simp at this; omega
  · rcases Int.lt_or_eq_of_le h1 with hlt | heq
    · rw [show m = 1 + (m - 1) by omega, scan_add _ 1 (m - 1) (by omega) (by omega)] at hs
      cases hq : scan (es.drop i) 1 with
      | none => rw [hq] at hs; cases hs
      | some n => exact ⟨n, rfl⟩
    · rw [← heq] at hs; exact ⟨_, hs⟩

theorem end_nonneg {es : List Term} (h : Full es 1) {i : Nat} (hi : i < es.length) : (i : Int) < endF es i ∧ endF es i ≤ es.length := by
  obtain ⟨n, hn⟩ := end_some h hi
  have := scan_le _ _ _ hn
  rw [endF_nat es i hi]
  unfold scanAt
  rw [hn]
  simp at this ⊢; omega

theorem iterEnd_arity {es : List Term} (h : Full es 1) {i : Nat} (hi : i < es.length) : iterEnd es (arity es[i].op).toNat ((i : Int) + 1) = endF es i := by
  obtain ⟨n, hn⟩ := end_some h hi
  have h0 := (lev_at depthNum h hi).1
  rw [endF_nat es i hi]
  unfold scanAt
  rw [hn]
  have hn' := hn
  rw [List.drop_eq_getElem_cons hi] at hn'
  simp only [scan] at hn'
  rw [if_neg (by omega)] at hn'
  by_cases ha : arity es[i].op = 0
  · rw [ha] at hn' ⊢
    simp at hn'
    subst hn'
    rfl
  · rw [if_neg (by omega)] at hn'
    cases hs : scan (es.drop (i + 1)) (1 + (arity es[i].op - 1)) with
    | none => rw [hs] at hn'; cases hn'
    | some q =>
      rw [hs] at hn'
      simp at hn'
      have := iterEnd_scan es (arity es[i].op).toNat (i + 1) q (by omega) (by rw [Int.toNat_of_nonneg h0, ← hs]; congr 1; omega)
      rw [show ((i : Int) + 1) = ((i + 1 : Nat) : Int) by omega, this]
      simp; omega

theorem operand_iter {es : List Term} (h : Full es 1) {i : Nat} (hi : i < es.length) (k : Nat) (hk : (k : Int) < arity es[i].op) : operandF es i k = iterEnd es k ((i : Int) + 1) := by
  unfold operandF
  have := end_nonneg h hi
  rw [if_neg (by rw [opAt_get hi]; omega), Int.toNat_natCast]

theorem operand_none {es : List Term} {i : Nat} (hi : i < es.length) : operandF es i (arity es[i].op) = -1 := by
  unfold operandF
  rw [if_pos (by rw [opAt_get hi]; omega)]

theorem end_of_depth {es : List Term} (h : depthF es ≠ 0) : endF es 0 = es.length := by
  unfold depthF levelsF at h
  by_cases he : endF es 0 = es.length
  · exact he
  · rw [if_neg he] at h; omega

end Go.Proofs.Ytnhhedecaejgcaa
