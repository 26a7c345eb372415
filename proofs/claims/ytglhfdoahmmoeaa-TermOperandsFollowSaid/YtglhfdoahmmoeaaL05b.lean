/- The walk of TermOperandsFollow. -/
import Derived.Test.YtglhfdoahmmoeaaW05h
import Derived.Test.YtglhfdoahmmoeaaP05c
import Derived.Test.YtglhfdoahmmoeaaOpenT
namespace Go.Proofs.Ytglhfdoahmmoeaa
open Go.RowKit

set_option maxRecDepth 100000 in
set_option maxHeartbeats 1000000 in
theorem termOperandsFollow_walk (A : Option Addr) (n c : Nat) (es : List Term) (w : World) (h : TermsR w A n es) (_ : ∀ t ∈ es, GoodT t) (_ : n ≤ c) (_ : c ≤ maxLen) :
    Calls Try.prog 4 #[.slice A n c] w fun e w' => e = .returned (.bool true) ∧ Bel w w' := by
  obtain rfl := h.1
  have H := Lib.hid h; clear h
  by_cases h250 : es.length ≤ 250
  · have hd : decide (es.length ≤ 250) = true := by simpa using h250
    have hl : es.length ≤ 1000000 := by omega
    by_cases hdep : depthF es = 0
    · have hd2 : (depthF es == 0) = true := by simpa using hdep
      go_enter Try.func4, Try.ntmps4
      go_wp2_with (first
        | (go_at_call 10; refine (light_any _ _ _ _).mono ?_; rintro e w' ⟨rfl, rfl⟩)
        | (go_at_call 19; refine (refDepth_any _ _ _ es _ H.out hl).mono ?_; rintro e w1 ⟨rfl, hb1⟩)
        | (go_at_call 11; refine (awake_any _).mono ?_; rintro e w2 ⟨rfl, hb2⟩))
      go_ret
      exact ⟨rfl, hb1.trans hb2⟩
    · have hd2 : (depthF es == 0) = false := by simpa using hdep
      have HFull := Lib.hid (full_of_end (end_of_depth hdep))
      have HE := Lib.hid (end_of_depth hdep)
      clear hdep
      go_enter Try.func4, Try.ntmps4
      go_wp2_with (first
        | (go_at_call 10; refine (light_any _ _ _ _).mono ?_; rintro e w' ⟨rfl, rfl⟩)
        | (go_at_call 19; refine (refDepth_any _ _ _ es _ H.out hl).mono ?_; rintro e w1 ⟨rfl, hb1⟩))
      go_loopg [3] es.length (fun g iv wr => ∃ i : Nat, i + g = es.length ∧ iv = .int .i64 i ∧ w1 = wr)
      case atStart => exact ⟨0, by omega, rfl, rfl⟩
      case round =>
        obtain ⟨i, hi, rfl, rfl⟩ := hrel
        generalize gk = g0 at *
        by_cases hlt : i < es.length
        · have H1 := Lib.hid (H.out.keep hb1)
          obtain ⟨b, o, rfl, hb, hc1, hc2⟩ := H1.out.at_ i hlt
          obtain ⟨ha0, _⟩ := lev_at depthNum HFull.out hlt
          have ha3 := (arity_le es[i].op).2
          obtain ⟨a, ha⟩ := Int.eq_ofNat_of_zero_le ha0
          have HA := Lib.hid ha
          go_wp2_with fail
          go_loopg [4, 5] a (fun g pv kv wr => ∃ k : Nat, k + g = a ∧ kv = .int .i64 k ∧ pv = .int .i64 (iterEnd es k ((i : Int) + 1)) ∧ w1 = wr)
          case atStart => exact ⟨0, by omega, rfl, rfl, rfl⟩
          case round =>
            obtain ⟨k, hk, rfl, rfl, rfl⟩ := hrel
            by_cases hka : k < a
            · have hq : (operandF es (i : Int) (k : Int) != iterEnd es k ((i : Int) + 1)) = false := by
                rw [operand_iter HFull.out hlt k (by rw [HA.out]; omega)]; simp
              go_wp2_with (first
                | (go_at_call 12; refine (arity_any _ _).mono ?_; rintro e w' ⟨rfl, rfl⟩)
                | (go_at_call 16; refine (operand_any _ _ _ es _ _ _ H1.out hl).mono ?_; rintro e w' ⟨rfl, rfl⟩)
                | (go_at_call 14; refine (end_any _ _ _ es _ _ H1.out hl).mono ?_; rintro e w' ⟨rfl, rfl⟩))
              go_roundg (gk - 1)
              case rel => exact ⟨k + 1, by omega, by go_num, by rw [iterEnd_snoc], rfl⟩
              case measure => omega
            · obtain rfl : k = a := by omega
              have hq : (endF es (i : Int) != iterEnd es k ((i : Int) + 1)) = false := by
                have := iterEnd_arity HFull.out hlt
                rw [HA.out, Int.toNat_natCast] at this
                rw [this]; simp
              have hq2 : (operandF es (i : Int) (k : Int) != -1) = false := by
                have := operand_none hlt
                rw [HA.out] at this
                rw [this]; rfl
              go_wp2_with (first
                | (go_at_call 12; refine (arity_any _ _).mono ?_; rintro e w' ⟨rfl, rfl⟩)
                | (go_at_call 16; refine (operand_any _ _ _ es _ _ _ H1.out hl).mono ?_; rintro e w' ⟨rfl, rfl⟩)
                | (go_at_call 14; refine (end_any _ _ _ es _ _ H1.out hl).mono ?_; rintro e w' ⟨rfl, rfl⟩))
              go_roundg (g0 - 1)
              case rel => exact ⟨i + 1, by omega, by go_num, rfl⟩
              case measure => omega
        · have hq : (endF es 0 == (es.length : Int)) = true := by rw [HE.out]; simp
          go_wp2_with (first
            | (go_at_call 11; refine (awake_any _).mono ?_; rintro e w2 ⟨rfl, hb2⟩)
            | (go_at_call 14; refine (end_any _ _ _ es _ _ ((H.out.keep hb1).keep hb2) hl).mono ?_; rintro e w' ⟨rfl, rfl⟩))
          go_ret
          exact ⟨rfl, hb1.trans hb2⟩
  · have hd : decide (es.length ≤ 250) = false := by simpa using h250
    go_enter Try.func4, Try.ntmps4
    go_wp2_with (first
      | (go_at_call 10; refine (light_any _ _ _ _).mono ?_; rintro e w' ⟨rfl, rfl⟩)
      | (go_at_call 11; refine (awake_any _).mono ?_; rintro e w1 ⟨rfl, hb1⟩))
    go_ret
    exact ⟨rfl, hb1⟩
end Go.Proofs.Ytglhfdoahmmoeaa
