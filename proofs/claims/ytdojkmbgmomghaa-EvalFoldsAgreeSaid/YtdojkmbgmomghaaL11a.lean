/- The walks of EvalApplies, EvalFolds, EvalDivides, EvalSaturates and EvalCompares. -/
import Derived.Test.YtdojkmbgmomghaaW11d
namespace Go.Proofs.Ytdojkmbgmomghaa
open Go.RowKit

theorem awake11_any (w : World) : Calls Try.prog 10 #[] w fun e w' => e = .returned (.bool true) ∧ Bel w w' := by
  have h1 : binaryR 31 (-7) 2 = (-4, 0) := by decide +kernel
  have h2 : foldR 27 [0, 2, 1, 0] = (3, 0) := by decide +kernel
  have HB := Bel.refl w
  have HI := Lib.hid fun w' => ints_of_block (l := [0, 2, 1, 0]) (heap_new w' (.cells #[.int .i64 0, .int .i64 2, .int .i64 1, .int .i64 0] 3))
  go_enter Try.func10, Try.ntmps10
  go_wp2_with (first
    | (go_at_call 14; refine (evalBinary_any _ _ _ _).mono ?_; rintro e w' ⟨rfl, hb⟩; rw [h1]; replace HB := HB.trans hb; clear hb)
    | (go_at_call 11; refine (evalFold_any _ _ _ [0, 2, 1, 0] _ _ (HI.out _) (by decide)).mono ?_; rintro e w' ⟨rfl, rfl⟩; rw [h2]))
  go_ret
  exact ⟨rfl, HB.alloc _⟩

theorem evalApplies_walk (op a b : Int) (w : World) : Calls Try.prog 7 #[.int .i64 op, .int .i64 a, .int .i64 b] w fun e w' => e = .returned (.bool true) ∧ Bel w w' := by
  have HB := Bel.refl w
  go_enter Try.func7, Try.ntmps7
  go_wp2_with (first
    | (go_at_call 16; refine (evalUnary_any _ _ _).mono ?_; rintro e w' ⟨rfl, hb⟩; replace HB := HB.trans hb; clear hb)
    | (go_at_call 17; refine (refUnary_any _ _ _).mono ?_; rintro e w' ⟨rfl, rfl⟩)
    | (go_at_call 14; refine (evalBinary_any _ _ _ _).mono ?_; rintro e w' ⟨rfl, hb⟩; replace HB := HB.trans hb; clear hb)
    | (go_at_call 18; refine (refBinary_any _ _ _ _).mono ?_; rintro e w' ⟨rfl, rfl⟩)
    | (go_at_call 10; refine (awake11_any _).mono ?_; rintro e w' ⟨rfl, hb⟩; replace HB := HB.trans hb; clear hb))
  go_ret
  exact ⟨by simp, HB⟩

set_option maxHeartbeats 1000000 in
theorem evalFolds_walk (op : Int) (A : Option Addr) (n c : Nat) (l : List Int) (w : World) (h : IntsR w A n l) : Calls Try.prog 3 #[.int .i64 op, .slice A n c] w fun e w' => e = .returned (.bool true) ∧ Bel w w' := by
  have HB := Bel.refl w
  have H := Lib.hid h; clear h
  by_cases h40 : n ≤ 40
  · have hl : n ≤ 1000 := by omega
    go_enter Try.func3, Try.ntmps3
    go_wp2_with (first
      | (go_at_call 11; refine (evalFold_any _ _ _ l _ _ H.out hl).mono ?_; rintro e w' ⟨rfl, rfl⟩)
      | (go_at_call 12; refine (refFoldR_any _ _ _ l _ _ H.out hl).mono ?_; rintro e w' ⟨rfl, rfl⟩)
      | (go_at_call 10; refine (awake11_any _).mono ?_; rintro e w' ⟨rfl, hb⟩; replace HB := HB.trans hb; clear hb))
    go_ret
    exact ⟨by simp, HB⟩
  · go_enter Try.func3, Try.ntmps3
    go_wp2_with (first
      | (go_at_call 10; refine (awake11_any _).mono ?_; rintro e w' ⟨rfl, hb⟩; replace HB := HB.trans hb; clear hb))
    go_ret
    exact ⟨rfl, HB⟩
end Go.Proofs.Ytdojkmbgmomghaa
