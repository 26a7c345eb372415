/- The walk of TermChecks. -/
import Derived.Test.YtglhfdoahmmoeaaW05j
namespace Go.Proofs.Ytglhfdoahmmoeaa
open Go.RowKit

set_option maxRecDepth 100000 in
set_option maxHeartbeats 2000000 in
theorem termChecks_walk (A : Option Addr) (n c : Nat) (es : List Term) (vars : Int) (Am : Option Addr) (nm cm : Nat) (m : List Int) (w : World) (h : TermsR w A n es) (_ : ∀ t ∈ es, GoodT t) (_ : n ≤ c) (_ : c ≤ maxLen) (_ : InI64 vars)
    (hm : IntsR w Am nm m) (_ : ∀ x ∈ m, InI64 x) (_ : nm ≤ cm) (_ : cm ≤ maxLen) :
    Calls Try.prog 8 #[.slice A n c, .int .i64 vars, .slice Am nm cm] w fun e w' => e = .returned (.bool true) ∧ Bel w w' := by
  have H := Lib.hid (fun w' (k : Bel w w') => h.keep k); clear h
  have HM := Lib.hid (fun w' (k : Bel w w') => hm.keep k); clear hm
  have hb0 := Bel.refl w
  by_cases h250 : n ≤ 250
  · have hd : decide (n ≤ 250) = true := by simpa using h250
    have hl : n ≤ 1000000 := by omega
    by_cases h40 : nm ≤ 40
    · have hd2 : decide (40 < nm) = false := by simpa using h40
      have hlm : nm ≤ 1000000 := by omega
      have hrl : (renameF es m).1.length ≤ 1000000 := by
        have hne := (H.out w hb0).1
        unfold renameF
        split
        · simp
        · split
          · simp
          · simp; omega
      generalize hren : renameF es m = rn at *
      have HRN := Lib.hid hren; clear hren
      generalize hrd : readsF es = rd at *
      have HRD := Lib.hid hrd; clear hrd
      go_enter Try.func8, Try.ntmps8
      go_wp2_with (first
        | (go_at_call 10; refine (light_any _ _ _ _).mono ?_; rintro e w' ⟨rfl, rfl⟩)
        | (go_at_call 26; refine (rename_any _ _ _ es _ _ _ m _ (H.out _ (by assumption)) (HM.out _ (by assumption)) hl hlm).mono ?_; rw [HRN.out]; rintro e w1 ⟨A1, c1, rfl, ht1, hb1⟩; have HX := Lib.hid (fun w' (k : Bel w1 w') => ht1.keep k); clear ht1)
        | (go_at_call 27; refine (refRename_any _ _ _ es _ _ _ m _ (H.out _ (by assumption)) (HM.out _ (by assumption)) hl hlm).mono ?_; rw [HRN.out]; rintro e w2 ⟨A2, c2, rfl, ht2, hb2⟩; have HY := Lib.hid (fun w' (k : Bel w2 w') => ht2.keep k); clear ht2; have HX2 := Lib.hid (fun w' (k : Bel w2 w') => HX.out w' (hb2.trans k)); have H2 := Lib.hid (fun w' (k : Bel w2 w') => H.out w' ((hb1.trans hb2).trans k)); have hb3 := Bel.refl w2)
        | (go_at_call 28; refine (Calls.rel (w0 := w2) (by assumption) (reads_any _ _ _ es _ (H2.out _ (by assumption)) hl)).mono ?_; rw [HRD.out]; rintro e wn ⟨rfl, hbn⟩)
        | (go_at_call 29; refine (Calls.rel (w0 := w2) (by assumption) (refReads_any _ _ _ es _ (H2.out _ (by assumption)) hl)).mono ?_; rw [HRD.out]; rintro e wn ⟨rfl, hbn⟩)
        | (go_at_call 11; refine (Calls.rel (w0 := w2) (by assumption) (awake_any _)).mono ?_; rintro e wn ⟨rfl, hbn⟩)
        | (go_at_call 24; refine (Calls.rel (w0 := w2) (by assumption) (valid_any _ _ _ es _ _ (H2.out _ (by assumption)) hl)).mono ?_; rintro e wn ⟨rfl, hbn⟩)
        | (go_at_call 22; refine (Calls.rel (w0 := w2) (by assumption) (refValid_any _ _ _ es _ _ (H2.out _ (by assumption)) hl)).mono ?_; rintro e wn ⟨rfl, hbn⟩)
        | (go_at_call 30; refine (Calls.rel (w0 := w2) (by assumption) (same_any _ _ _ rn.1 _ _ _ _ (HX2.out _ (by assumption)) (HY.out _ (by assumption)) hrl)).mono ?_; rintro e wn ⟨rfl, hbn⟩))
      go_ret
      exact ⟨by simp, (hb1.trans hb2).trans (by assumption)⟩
    · have hd2 : decide (40 < nm) = true := by simpa using h40
      go_enter Try.func8, Try.ntmps8
      go_wp2_with (first
        | (go_at_call 10; refine (light_any _ _ _ _).mono ?_; rintro e w' ⟨rfl, rfl⟩)
        | (go_at_call 11; refine (awake_any _).mono ?_; rintro e w1 ⟨rfl, hb1⟩))
      go_ret
      exact ⟨rfl, hb1⟩
  · have hd : decide (n ≤ 250) = false := by simpa using h250
    go_enter Try.func8, Try.ntmps8
    go_wp2_with (first
      | (go_at_call 10; refine (light_any _ _ _ _).mono ?_; rintro e w' ⟨rfl, rfl⟩)
      | (go_at_call 11; refine (awake_any _).mono ?_; rintro e w1 ⟨rfl, hb1⟩))
    go_ret
    exact ⟨rfl, hb1⟩
end Go.Proofs.Ytglhfdoahmmoeaa
