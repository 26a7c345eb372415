/- Contracts of argument, one, the numbers' closures and levels. -/
import Derived.Test.YtnhhedecaejgcaaW05b
namespace Go.Proofs.Ytnhhedecaejgcaa
open Go.RowKit

theorem argument_any (t : Term) (vars : Int) (w : World) :
    Calls Try.prog 34 #[.agg #[.int .i64 t.op, .int .i64 t.arg], .int .i64 vars] w fun e w' => e = .returned (.bool (argF t vars)) ∧ Bel w w' := by
  obtain ⟨op, arg⟩ := t
  go_enter Try.func34, Try.ntmps34
  go_wp2
  all_goals
    go_ret
    refine ⟨ret_bool ?_, (Bel.refl _).alloc _⟩
    simp only [beq_iff_eq, beq_eq_false_iff_ne, ne_eq] at *
    unfold argF
    rw [Bool.eq_iff_iff]
    simp only []
    repeat' split
    all_goals first | omega | (simp; done) | (simp; omega)

theorem refArgument_any (t : Term) (vars : Int) (w : World) :
    Calls Try.prog 26 #[.agg #[.int .i64 t.op, .int .i64 t.arg], .int .i64 vars] w fun e w' => e = .returned (.bool (argF t vars)) ∧ Bel w w' := by
  obtain ⟨op, arg⟩ := t
  go_enter Try.func26, Try.ntmps26
  go_wp2
  all_goals
    go_ret
    refine ⟨ret_bool ?_, (Bel.refl _).alloc _⟩
    simp only [beq_iff_eq, beq_eq_false_iff_ne, ne_eq] at *
    unfold argF
    rw [Bool.eq_iff_iff]
    simp only []
    repeat' split
    all_goals first | omega | (simp; done) | (simp; omega)

theorem one_any (A : Option Addr) (n c : Nat) (es : List Term) (w : World) (h : TermsR w A n es) (hl : n ≤ 1000000) :
    Calls Try.prog 24 #[.slice A n c] w fun e w' => e = .returned (.bool (oneF es)) ∧ w = w' := by
  obtain rfl := h.1
  have H := Lib.hid h; clear h
  by_cases h0 : 0 < es.length
  · have hfin : oneF es = (endF es 0 == es.length) := by unfold oneF; rw [Bool.eq_iff_iff]; simp; omega
    have HF := Lib.hid hfin; clear hfin
    go_enter Try.func24, Try.ntmps24
    go_wp2_with (go_at_call 27; refine (refEnd_any _ _ _ es _ _ H.out hl).mono ?_; rintro e w' ⟨rfl, rfl⟩)
    go_ret
    exact ⟨ret_bool HF.out.symm, rfl⟩
  · have hfin : oneF es = false := by unfold oneF; simp; omega
    have HF := Lib.hid hfin; clear hfin
    have hd : decide (0 < es.length) = false := by simpa using h0
    go_enter Try.func24, Try.ntmps24
    go_wp2
    go_ret
    exact ⟨ret_bool HF.out.symm, rfl⟩

theorem depthNum_any (op g : Int) (w : World) (h0 : 0 ≤ g) (h1 : g ≤ 1000000) :
    Calls Try.prog 56 #[.int .i64 op, .int .i64 g] w fun e w' => e = .returned (.int .i64 (depthNum op g)) ∧ w = w' := by
  go_enter Try.func56, Try.ntmps56
  go_wp2
  go_ret
  exact ⟨rfl, rfl⟩

theorem nestNum_any (op g : Int) (w : World) (h0 : 0 ≤ g) (h1 : g ≤ 1000000) :
    Calls Try.prog 57 #[.int .i64 op, .int .i64 g] w fun e w' => e = .returned (.int .i64 (nestNum op g)) ∧ w = w' := by
  unfold nestNum
  cases ha : aggregate op with
  | true =>
    go_enter Try.func57, Try.ntmps57
    go_wp2_with (go_at_call 39; refine (aggregate_any _ _).mono ?_; rintro e w' ⟨rfl, rfl⟩)
    go_ret
    exact ⟨rfl, rfl⟩
  | false =>
    go_enter Try.func57, Try.ntmps57
    go_wp2_with (go_at_call 39; refine (aggregate_any _ _).mono ?_; rintro e w' ⟨rfl, rfl⟩)
    go_ret
    exact ⟨rfl, rfl⟩

end Go.Proofs.Ytnhhedecaejgcaa
