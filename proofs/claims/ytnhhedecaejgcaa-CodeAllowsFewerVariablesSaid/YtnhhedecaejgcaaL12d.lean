/- The walk of CodeAllowsFewerVariables. -/
import Derived.Test.YtnhhedecaejgcaaW12l
import Derived.Test.YtnhhedecaejgcaaW12o
namespace Go.Proofs.Ytnhhedecaejgcaa
open Go.RowKit

set_option maxRecDepth 100000 in
set_option maxHeartbeats 2000000 in
theorem codeFewer_walk (L : Option Addr) (n c : Nat) (l : List Term) (vars more : Int) (w : World) (h : TermsR w L n l) (hcap : n ≤ c) :
    Calls Try.prog 7 #[.slice L n c, .int .i64 vars, .int .i64 more] w fun e w' => e = .returned (.bool true) ∧ Bel w w' := by
  obtain rfl := h.1
  have H := Lib.hid (fun w' (k : Bel w w') => h.keep k); clear h
  have HB := Bel.refl w
  by_cases h400 : 400 < l.length
  · have hd : decide (400 < (l.length : Int)) = true := by simp; omega
    go_enter Try.func7, Try.ntmps7
    go_wp2_with (go_at_call 9; refine (awake12_any _).mono ?_; rintro e w2 ⟨rfl, hb⟩; replace HB := HB.trans hb; clear hb)
    go_ret
    exact ⟨rfl, HB⟩
  have hd : decide (400 < (l.length : Int)) = false := by simp; omega
  have hm1 : 0 ≤ modF vars 20 := Int.emod_nonneg _ (by omega)
  have hm2 : modF vars 20 < 20 := Int.emod_lt_of_pos _ (by omega)
  have hm3 : 0 ≤ modF more 20 := Int.emod_nonneg _ (by omega)
  have hm4 : modF more 20 < 20 := Int.emod_lt_of_pos _ (by omega)
  generalize hv : modF vars 20 = v at *
  generalize hd' : modF more 20 = d at *
  have Hv := Lib.hid hv; have Hd := Lib.hid hd'
  clear hv hd'
  have hl : l.length ≤ 100000 := by omega
  by_cases he : (verifyF l v).2.2 = 0
  · have hmore := Lib.hid (verify_more hm1 hm3 he)
    have hee : ((verifyF l v).2.2 != 0) = false := by simpa using he
    have HE := Lib.hid he; clear he
    go_enter Try.func7, Try.ntmps7
    go_wp2_with (go_at_call 13; refine (mod_any _ _ _ (by omega) (by omega)).mono ?_; rintro e w' ⟨rfl, rfl⟩; (first | rw [Hv.out] | rw [Hd.out]))
    refine (verify_any _ _ _ l v _ (H.out _ HB) hl hcap hm1 (by omega)).mono ?_
    rintro e w2 ⟨rfl, hb⟩
    replace HB := HB.trans hb
    clear hb
    go_wp2_with fail
    refine (verify_any _ _ _ l (v + d) _ (H.out _ HB) hl hcap (by omega) (by omega)).mono ?_
    rintro e w3 ⟨rfl, hb⟩
    rw [hmore.out]
    replace HB := HB.trans hb
    clear hb
    go_wp2_with (go_at_call 9; refine (awake12_any _).mono ?_; rintro e w2 ⟨rfl, hb⟩; replace HB := HB.trans hb; clear hb)
    all_goals
      go_ret
      first
        | exact absurd HE.out (by assumption)
        | exact ⟨by simp, HB⟩
  · have hzero := Lib.hid (verify_zero he)
    have hee : ((verifyF l v).2.2 != 0) = true := by simpa using he
    clear he
    go_enter Try.func7, Try.ntmps7
    go_wp2_with (go_at_call 13; refine (mod_any _ _ _ (by omega) (by omega)).mono ?_; rintro e w' ⟨rfl, rfl⟩; (first | rw [Hv.out] | rw [Hd.out]))
    refine (verify_any _ _ _ l v _ (H.out _ HB) hl hcap hm1 (by omega)).mono ?_
    rintro e w2 ⟨rfl, hb⟩
    rw [hzero.out]
    replace HB := HB.trans hb
    clear hb
    go_wp2_with fail
    refine (verify_any _ _ _ l (v + d) _ (H.out _ HB) hl hcap (by omega) (by omega)).mono ?_
    rintro e w3 ⟨rfl, hb⟩
    replace HB := HB.trans hb
    clear hb
    go_wp2_with fail
    refine (refVerify_any _ _ _ l v _ (H.out _ HB) hl hm1).mono ?_
    rintro e w4 ⟨a, b, rfl, hb⟩
    replace HB := HB.trans hb
    clear hb
    go_wp2_with (go_at_call 9; refine (awake12_any _).mono ?_; rintro e w2 ⟨rfl, hb⟩; replace HB := HB.trans hb; clear hb)
    all_goals
      go_ret
      exact ⟨by simp, HB⟩

end Go.Proofs.Ytnhhedecaejgcaa
