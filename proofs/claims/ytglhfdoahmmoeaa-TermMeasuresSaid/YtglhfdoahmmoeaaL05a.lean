/- The walk of TermMeasures. -/
import Derived.Test.YtglhfdoahmmoeaaW05h
namespace Go.Proofs.Ytglhfdoahmmoeaa
open Go.RowKit

set_option maxRecDepth 100000 in
set_option maxHeartbeats 1000000 in
theorem termMeasures_walk (A : Option Addr) (n c : Nat) (es : List Term) (op p k : Int) (w : World) (h : TermsR w A n es) :
    Calls Try.prog 3 #[.slice A n c, .int .i64 op, .int .i64 p, .int .i64 k] w fun e w' => e = .returned (.bool true) ∧ Bel w w' := by
  have H := Lib.hid h; clear h
  by_cases h250 : n ≤ 250
  · have hd : decide (n ≤ 250) = true := by simpa using h250
    have hl : n ≤ 1000000 := by omega
    go_enter Try.func3, Try.ntmps3
    go_wp2_with (first
      | (go_at_call 10; refine (light_any _ _ _ _).mono ?_; rintro e w' ⟨rfl, rfl⟩)
      | (go_at_call 11; refine (awake_any _).mono ?_; rintro e w1 ⟨rfl, hb1⟩; have H1 := Lib.hid (H.out.keep hb1))
      | (go_at_call 12; refine (arity_any _ _).mono ?_; rintro e w' ⟨rfl, rfl⟩)
      | (go_at_call 13; refine (refArity_any _ _).mono ?_; rintro e w' ⟨rfl, rfl⟩)
      | (go_at_call 14; refine (end_any _ _ _ es _ _ H1.out hl).mono ?_; rintro e w' ⟨rfl, rfl⟩)
      | (go_at_call 15; refine (refEnd_any _ _ _ es _ _ H1.out hl).mono ?_; rintro e w' ⟨rfl, rfl⟩)
      | (go_at_call 16; refine (operand_any _ _ _ es _ _ _ H1.out hl).mono ?_; rintro e w' ⟨rfl, rfl⟩)
      | (go_at_call 17; refine (refOperand_any _ _ _ es _ _ _ H1.out hl).mono ?_; rintro e w' ⟨rfl, rfl⟩)
      | (go_at_call 18; refine (depth_any _ _ _ es _ H1.out hl).mono ?_; rintro e w2 ⟨rfl, hb2⟩; have H2 := Lib.hid (H1.out.keep hb2))
      | (go_at_call 19; refine (refDepth_any _ _ _ es _ H2.out hl).mono ?_; rintro e w3 ⟨rfl, hb3⟩; have H3 := Lib.hid (H2.out.keep hb3))
      | (go_at_call 20; refine (nest_any _ _ _ es _ H3.out hl).mono ?_; rintro e w4 ⟨rfl, hb4⟩; have H4 := Lib.hid (H3.out.keep hb4))
      | (go_at_call 21; refine (refNest_any _ _ _ es _ H4.out hl).mono ?_; rintro e w5 ⟨rfl, hb5⟩))
    go_ret
    exact ⟨by simp, (((hb1.trans hb2).trans hb3).trans hb4).trans hb5⟩
  · have hd : decide (n ≤ 250) = false := by simpa using h250
    go_enter Try.func3, Try.ntmps3
    go_wp2_with (first
      | (go_at_call 10; refine (light_any _ _ _ _).mono ?_; rintro e w' ⟨rfl, rfl⟩)
      | (go_at_call 11; refine (awake_any _).mono ?_; rintro e w1 ⟨rfl, hb1⟩))
    go_ret
    exact ⟨rfl, hb1⟩
end Go.Proofs.Ytglhfdoahmmoeaa
