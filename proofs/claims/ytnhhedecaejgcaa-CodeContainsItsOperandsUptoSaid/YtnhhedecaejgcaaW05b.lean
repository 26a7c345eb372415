/- Contracts of Operand, of the program and of the reference. -/
import Derived.Test.YtnhhedecaejgcaaW05a
namespace Go.Proofs.Ytnhhedecaejgcaa
open Go.RowKit


set_option maxHeartbeats 400000 in
theorem refOperand_any (A : Option Addr) (n c : Nat) (es : List Term) (p k : Int) (w : World) (h : TermsR w A n es) (hl : n ≤ 1000000) :
    Calls Try.prog 43 #[.slice A n c, .int .i64 p, .int .i64 k] w fun e w' => e = .returned (.int .i64 (operandF es p k)) ∧ w = w' := by
  obtain rfl := h.1
  have H := Lib.hid h; clear h
  have hle := endF_le es p
  by_cases hp : endF es p < 0
  · have hfin : operandF es p k = -1 := by unfold operandF; rw [if_pos (.inl hp)]
    have HF := Lib.hid hfin; clear hfin hle
    have hd : decide (endF es p < 0) = true := by simpa using hp
    go_enter Try.func43, Try.ntmps43
    go_wp2_with (go_at_call 27; refine (refEnd_any _ _ _ es _ _ H.out hl).mono ?_; rintro e w' ⟨rfl, rfl⟩)
    go_ret
    exact ⟨ret_int HF.out.symm, rfl⟩
  · have hd : decide (endF es p < 0) = false := by simpa using hp
    have h1 : 0 ≤ p := by omega
    have h2 : p < es.length := by omega
    clear hle
    obtain ⟨q, rfl⟩ := Int.eq_ofNat_of_zero_le h1
    have hq : q < es.length := by omega
    obtain ⟨b, o, rfl, hb, hc1, hc2⟩ := H.out.at_ q hq
    have hop := opAt_get hq
    by_cases hk : k < 0
    · have hfin : operandF es q k = -1 := by unfold operandF; rw [if_pos (.inr (.inl hk))]
      have HF := Lib.hid hfin; clear hfin hop
      have hd2 : decide (k < 0) = true := by simpa using hk
      go_enter Try.func43, Try.ntmps43
      go_wp2_with (go_at_call 27; refine (refEnd_any _ _ _ es _ _ H.out hl).mono ?_; rintro e w' ⟨rfl, rfl⟩)
      go_ret
      exact ⟨ret_int HF.out.symm, rfl⟩
    · have hd2 : decide (k < 0) = false := by simpa using hk
      by_cases ha : arity es[q].op ≤ k
      · have hfin : operandF es q k = -1 := by unfold operandF; rw [if_pos (.inr (.inr (by rw [hop]; exact ha)))]
        have HF := Lib.hid hfin; clear hfin hop
        have hd3 : decide (arity es[q].op ≤ k) = true := by simpa using ha
        go_enter Try.func43, Try.ntmps43
        go_wp2_with (first
          | (go_at_call 27; refine (refEnd_any _ _ _ es _ _ H.out hl).mono ?_; rintro e w' ⟨rfl, rfl⟩)
          | (go_at_call 41; refine (refArity_any _ _).mono ?_; rintro e w' ⟨rfl, rfl⟩))
        go_ret
        exact ⟨ret_int HF.out.symm, rfl⟩
      · have hd3 : decide (arity es[q].op ≤ k) = false := by simpa using ha
        have hfin : operandF es q k = iterEnd es k.toNat (q + 1) := by unfold operandF; rw [if_neg (by rw [hop]; omega)]
        have hk3 : k ≤ 3 := by have := arity_le es[q].op; omega
        have hk0 : 0 ≤ k := by omega
        obtain ⟨kk, rfl⟩ := Int.eq_ofNat_of_zero_le hk0
        rw [Int.toNat_natCast] at hfin
        have HF := Lib.hid hfin; clear hfin hop
        go_enter Try.func43, Try.ntmps43
        go_wp2_with (first
          | (go_at_call 27; refine (refEnd_any _ _ _ es _ _ H.out hl).mono ?_; rintro e w' ⟨rfl, rfl⟩)
          | (go_at_call 41; refine (refArity_any _ _).mono ?_; rintro e w' ⟨rfl, rfl⟩))
        go_loopg [7, 8] kk (fun g a m wr => ∃ (i : Nat) (z : Int), i + g = kk ∧ Hid (iterEnd es g z = iterEnd es kk (q + 1)) ∧ a = .int .i64 z ∧ m = .int .i64 i ∧ w = wr)
        case atStart => exact ⟨0, q + 1, by omega, rfl, rfl, rfl, rfl⟩
        case round =>
          obtain ⟨i, z, hi, HK, rfl, rfl, rfl⟩ := hrel
          by_cases hlt : i < kk
          · go_wp2_with (go_at_call 27; refine (refEnd_any _ _ _ es _ _ H.out hl).mono ?_; rintro e w' ⟨rfl, rfl⟩)
            obtain ⟨g', rfl⟩ : ∃ g', gk = g' + 1 := ⟨gk - 1, by omega⟩
            go_roundg g'
            case rel => exact ⟨i + 1, endF es z, by omega, HK, rfl, by go_num, rfl⟩
            case measure => omega
          · go_wp2
            go_ret
            obtain rfl : gk = 0 := by omega
            exact ⟨ret_int (by rw [HF.out, ← HK.out]; rfl), rfl⟩

end Go.Proofs.Ytnhhedecaejgcaa
