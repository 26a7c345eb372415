/- Contracts of the small functions of layer 11, of the program and of the reference. -/
import Derived.Test.YtdojkmbgmomghaaW05a
import Derived.Test.YtdojkmbgmomghaaP11
namespace Go.Proofs.Ytdojkmbgmomghaa
open Go.RowKit

theorem ret_pair {a b : Int} {r : Int × Int} (h : r = (a, b)) : Ending.returned (.tuple #[.int .i64 a, .int .i64 b]) = .returned (.tuple #[.int .i64 r.1, .int .i64 r.2]) := by rw [h]

theorem refNumber_any (a : Int) (w : World) : Calls Try.prog 19 #[.int .i64 a] w fun e w' => e = .returned (.bool (numB a)) ∧ w = w' := by
  go_enter Try.func19, Try.ntmps19
  go_wp2
  all_goals
    go_ret
    refine ⟨ret_bool ?_, rfl⟩
    unfold numB
    rw [Bool.eq_iff_iff]; simp; omega

theorem refSaturate_any (a : Int) (w : World) : Calls Try.prog 13 #[.int .i64 a] w fun e w' => e = .returned (.int .i64 (satF a)) ∧ w = w' := by
  go_enter Try.func13, Try.ntmps13
  go_wp2
  all_goals
    go_ret
    refine ⟨ret_int ?_, rfl⟩
    unfold satF
    omega

theorem saturated_any (a : Int) (w : World) : Calls Try.prog 34 #[.int .i64 a] w fun e w' => e = .returned (.int .i64 (satF a)) ∧ w = w' := by
  go_enter Try.func34, Try.ntmps34
  go_wp2
  all_goals
    go_ret
    refine ⟨ret_int ?_, rfl⟩
    unfold satF
    omega

theorem truth_any (b : Bool) (w : World) : Calls Try.prog 29 #[.bool b] w fun e w' => e = .returned (.int .i64 (truthI b)) ∧ w = w' := by
  cases b
  all_goals
    go_enter Try.func29, Try.ntmps29
    go_wp2
    go_ret
    exact ⟨rfl, rfl⟩

theorem refTruth_any (b : Bool) (w : World) : Calls Try.prog 27 #[.bool b] w fun e w' => e = .returned (.int .i64 (truthI b)) ∧ w = w' := by
  cases b
  all_goals
    go_enter Try.func27, Try.ntmps27
    go_wp2
    go_ret
    exact ⟨rfl, rfl⟩

theorem quotient_any (a b : Int) (w : World) (ha : Num a) (hb : Num b) : Calls Try.prog 37 #[.int .i64 a, .int .i64 b] w fun e w' => e = .returned (.int .i64 (quotF a b)) ∧ w = w' := by
  by_cases h0 : b = 0
  · subst h0
    go_enter Try.func37, Try.ntmps37
    go_wp2
    go_ret
    exact ⟨rfl, rfl⟩
  · have hz : (b == 0) = false := by simpa using h0
    have ht := tdiv_bound a b ha
    obtain ⟨ht1, ht2⟩ := ht
    have ha' := ha
    unfold Num at ha hb
    obtain ⟨ha1, ha2⟩ := ha
    obtain ⟨hb1, hb2⟩ := hb
    by_cases hm : a.tmod b = 0
    · have hmb : (a.tmod b != 0) = false := by simpa using hm
      have HF : Hid (quotF a b = a.tdiv b) := by
        show quotF a b = _
        unfold quotF; rw [if_neg h0, if_neg (by simp [hm])]
      clear hm
      go_enter Try.func37, Try.ntmps37
      go_wp2
      go_ret
      exact ⟨ret_int HF.out.symm, rfl⟩
    · have hmb : (a.tmod b != 0) = true := by simpa using hm
      cases hs : (decide (a < 0) != decide (b < 0)) with
      | true =>
        have HF : Hid (quotF a b = a.tdiv b - 1) := by
          show quotF a b = _
          unfold quotF; rw [if_neg h0, if_pos ⟨hm, hs⟩]
        have hs' : (!(decide (a < 0) == decide (b < 0))) = true := hs
        clear hm hs
        go_enter Try.func37, Try.ntmps37
        go_wp2
        go_ret
        exact ⟨ret_int HF.out.symm, rfl⟩
      | false =>
        have HF : Hid (quotF a b = a.tdiv b) := by
          show quotF a b = _
          unfold quotF; rw [if_neg h0, if_neg (by simp [hs])]
        have hs' : (!(decide (a < 0) == decide (b < 0))) = false := hs
        clear hm hs
        go_enter Try.func37, Try.ntmps37
        go_wp2
        go_ret
        exact ⟨ret_int HF.out.symm, rfl⟩

theorem refQuotient_any (a b : Int) (w : World) (ha : Num a) (hb : Num b) : Calls Try.prog 39 #[.int .i64 a, .int .i64 b] w fun e w' => e = .returned (.int .i64 (quotF a b)) ∧ w = w' := by
  by_cases h0 : b = 0
  · subst h0
    go_enter Try.func39, Try.ntmps39
    go_wp2
    go_ret
    exact ⟨rfl, rfl⟩
  · have hz : (b == 0) = false := by simpa using h0
    have ht := tdiv_bound a b ha
    obtain ⟨ht1, ht2⟩ := ht
    have ha' := ha
    unfold Num at ha hb
    obtain ⟨ha1, ha2⟩ := ha
    obtain ⟨hb1, hb2⟩ := hb
    by_cases hm : a.tmod b = 0
    · have hmb : (a.tmod b != 0) = false := by simpa using hm
      have HF : Hid (quotF a b = a.tdiv b) := by
        show quotF a b = _
        unfold quotF; rw [if_neg h0, if_neg (by simp [hm])]
      clear hm
      go_enter Try.func39, Try.ntmps39
      go_wp2
      go_ret
      exact ⟨ret_int HF.out.symm, rfl⟩
    · have hmb : (a.tmod b != 0) = true := by simpa using hm
      cases hs : (decide (a < 0) != decide (b < 0)) with
      | true =>
        have HF : Hid (quotF a b = a.tdiv b - 1) := by
          show quotF a b = _
          unfold quotF; rw [if_neg h0, if_pos ⟨hm, hs⟩]
        have hs' : (!(decide (a < 0) == decide (b < 0))) = true := hs
        clear hm hs
        go_enter Try.func39, Try.ntmps39
        go_wp2
        go_ret
        exact ⟨ret_int HF.out.symm, rfl⟩
      | false =>
        have HF : Hid (quotF a b = a.tdiv b) := by
          show quotF a b = _
          unfold quotF; rw [if_neg h0, if_neg (by simp [hs])]
        have hs' : (!(decide (a < 0) == decide (b < 0))) = false := hs
        clear hm hs
        go_enter Try.func39, Try.ntmps39
        go_wp2
        go_ret
        exact ⟨ret_int HF.out.symm, rfl⟩


theorem unary_any (op a : Int) (w : World) (ha : Num a) : Calls Try.prog 26 #[.int .i64 op, .int .i64 a] w fun e w' => e = .returned (.int .i64 (unaryF op a)) ∧ w = w' := by
  unfold Num at ha
  obtain ⟨ha1, ha2⟩ := ha
  by_cases h : op = 18
  · subst h
    go_enter Try.func26, Try.ntmps26
    go_wp2
    go_ret
    exact ⟨rfl, rfl⟩
  · have HF : Hid (unaryF op a = truthI (a == 0)) := by show unaryF op a = _; unfold unaryF; rw [if_neg h]
    have hb : (op == 18) = false := by simpa using h
    clear h
    go_enter Try.func26, Try.ntmps26
    go_wp2_with (go_at_call 29; refine (truth_any _ _).mono ?_; rintro e w' ⟨rfl, rfl⟩)
    go_ret
    exact ⟨ret_int HF.out.symm, rfl⟩

/-- The comparison that an operation from Eq to Ge stands for. -/
def cmpF (op a b : Int) : Bool :=
  if op = 35 then a == b else if op = 36 then a != b else if op = 37 then decide (a < b) else if op = 38 then decide (a ≤ b) else if op = 39 then decide (b < a) else decide (b ≤ a)
theorem compared_any (op a b : Int) (w : World) : Calls Try.prog 38 #[.int .i64 op, .int .i64 a, .int .i64 b] w fun e w' => e = .returned (.bool (cmpF op a b)) ∧ w = w' := by
  go_enter Try.func38, Try.ntmps38
  go_wp2
  all_goals
    go_ret
    refine ⟨ret_bool ?_, rfl⟩
    simp only [beq_iff_eq, beq_eq_false_iff_ne, ne_eq] at *
    unfold cmpF
    repeat' split
    all_goals first | rfl | omega
theorem applyF_cmp (op a b : Int) (h1 : 35 ≤ op) (h2 : op ≤ 40) : applyF op a b = truthI (cmpF op a b) := by
  have : op = 35 ∨ op = 36 ∨ op = 37 ∨ op = 38 ∨ op = 39 ∨ op = 40 := by omega
  rcases this with h | h | h | h | h | h <;> subst h <;> rfl

set_option maxHeartbeats 1000000 in
theorem binary_any (op a b : Int) (w : World) (h1 : 30 ≤ op) (h2 : op ≤ 42) (ha : Num a) (hb : Num b) : Calls Try.prog 25 #[.int .i64 op, .int .i64 a, .int .i64 b] w fun e w' => e = .returned (.int .i64 (binaryF op a b)) ∧ w = w' := by
  have hq := quotF_bound a b ha
  have hm := mul_bound a b ha (by unfold Num at hb; omega)
  have hm2 := mul_bound b (quotF a b) hb (by omega)
  obtain ⟨hq1, hq2⟩ := hq
  obtain ⟨hm1, hm3⟩ := hm
  obtain ⟨hm4, hm5⟩ := hm2
  have HA := Lib.hid ha
  have HB := Lib.hid hb
  unfold Num at ha hb
  obtain ⟨ha1, ha2⟩ := ha
  obtain ⟨hb1, hb2⟩ := hb
  have hcase : op = 30 ∨ op = 31 ∨ op = 32 ∨ op = 33 ∨ op = 34 ∨ (35 ≤ op ∧ op ≤ 40) ∨ op = 41 ∨ op = 42 := by omega
  rcases hcase with h | h | h | h | h | h | h | h
  · subst h
    go_enter Try.func25, Try.ntmps25
    go_wp2_with (go_at_call 34; refine (saturated_any _ _).mono ?_; rintro e w' ⟨rfl, rfl⟩)
    go_ret
    exact ⟨rfl, rfl⟩
  · subst h
    go_enter Try.func25, Try.ntmps25
    go_wp2_with (first
      | (go_at_call 34; refine (saturated_any _ _).mono ?_; rintro e w' ⟨rfl, rfl⟩)
      | (go_at_call 37; refine (quotient_any _ _ _ HA.out HB.out).mono ?_; rintro e w' ⟨rfl, rfl⟩))
    go_ret
    exact ⟨rfl, rfl⟩
  · subst h
    by_cases h0 : b = 0
    · subst h0
      go_enter Try.func25, Try.ntmps25
      go_wp2
      go_ret
      exact ⟨rfl, rfl⟩
    · have hz : (b == 0) = false := by simpa using h0
      have HF : Hid (binaryF 32 a b = satF (a - b * quotF a b)) := by
        show binaryF 32 a b = _
        unfold binaryF applyF; simp [h0]
      clear h0
      go_enter Try.func25, Try.ntmps25
      go_wp2_with (first
        | (go_at_call 34; refine (saturated_any _ _).mono ?_; rintro e w' ⟨rfl, rfl⟩)
        | (go_at_call 37; refine (quotient_any _ _ _ HA.out HB.out).mono ?_; rintro e w' ⟨rfl, rfl⟩))
      go_ret
      exact ⟨ret_int HF.out.symm, rfl⟩
  · subst h
    go_enter Try.func25, Try.ntmps25
    go_wp2_with (go_at_call 34; refine (saturated_any _ _).mono ?_; rintro e w' ⟨rfl, rfl⟩)
    go_ret
    exact ⟨rfl, rfl⟩
  · subst h
    go_enter Try.func25, Try.ntmps25
    go_wp2_with (go_at_call 34; refine (saturated_any _ _).mono ?_; rintro e w' ⟨rfl, rfl⟩)
    go_ret
    exact ⟨rfl, rfl⟩
  · have HF : Hid (binaryF op a b = truthI (cmpF op a b)) := by
      show binaryF op a b = _
      unfold binaryF; rw [applyF_cmp op a b h.1 h.2, satF_truthI]
    have e1 : (op == 30) = false := by simp; omega
    have e2 : (op == 31) = false := by simp; omega
    have e3 : (op == 32) = false := by simp; omega
    have e4 : (op == 33) = false := by simp; omega
    have e5 : (op == 34) = false := by simp; omega
    have e6 : (op == 41) = false := by simp; omega
    have e7 : (op == 42) = false := by simp; omega
    go_enter Try.func25, Try.ntmps25
    go_wp2_with (first
      | (go_at_call 38; refine (compared_any _ _ _ _).mono ?_; rintro e w' ⟨rfl, rfl⟩)
      | (go_at_call 29; refine (truth_any _ _).mono ?_; rintro e w' ⟨rfl, rfl⟩))
    go_ret
    exact ⟨ret_int HF.out.symm, rfl⟩
  · subst h
    have HF : Hid (binaryF 41 a b = truthI (a != 0 && b != 0)) := by show binaryF 41 a b = _; exact satF_truthI _
    by_cases h0 : a = 0
    · have hz : (a != 0) = false := by simpa using h0
      rw [hz] at HF
      clear h0
      go_enter Try.func25, Try.ntmps25
      go_wp2_with (go_at_call 29; refine (truth_any _ _).mono ?_; rintro e w' ⟨rfl, rfl⟩)
      go_ret
      exact ⟨ret_int HF.out.symm, rfl⟩
    · have hz : (a != 0) = true := by simpa using h0
      rw [hz] at HF
      clear h0
      go_enter Try.func25, Try.ntmps25
      go_wp2_with (go_at_call 29; refine (truth_any _ _).mono ?_; rintro e w' ⟨rfl, rfl⟩)
      go_ret
      exact ⟨ret_int HF.out.symm, rfl⟩
  · subst h
    have HF : Hid (binaryF 42 a b = truthI (a != 0 || b != 0)) := by show binaryF 42 a b = _; exact satF_truthI _
    by_cases h0 : a = 0
    · have hz : (a != 0) = false := by simpa using h0
      rw [hz] at HF
      clear h0
      go_enter Try.func25, Try.ntmps25
      go_wp2_with (go_at_call 29; refine (truth_any _ _).mono ?_; rintro e w' ⟨rfl, rfl⟩)
      go_ret
      exact ⟨ret_int HF.out.symm, rfl⟩
    · have hz : (a != 0) = true := by simpa using h0
      rw [hz] at HF
      clear h0
      go_enter Try.func25, Try.ntmps25
      go_wp2_with (go_at_call 29; refine (truth_any _ _).mono ?_; rintro e w' ⟨rfl, rfl⟩)
      go_ret
      exact ⟨ret_int HF.out.symm, rfl⟩

end Go.Proofs.Ytdojkmbgmomghaa
