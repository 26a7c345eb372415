/- Contracts of Reads of the program and of the reference, and of Same. -/
import Derived.Test.YtglhfdoahmmoeaaW05i
namespace Go.Proofs.Ytglhfdoahmmoeaa
open Go.RowKit

theorem u32_pow (q : Nat) (hq : q < 32) : ((2 : Int) ^ q % (4294967296 : Int)) = ((1 <<< q : Nat) : Int) := by
  have h : (2 : Nat) ^ q < 4294967296 := by
    have := Nat.pow_lt_pow_right (a := 2) (by decide) hq
    simpa using this
  have e : (2 : Int) ^ q = ((2 ^ q : Nat) : Int) := by simp
  rw [e, Nat.one_shiftLeft]
  generalize (2 : Nat) ^ q = z at *
  omega
theorem u32_or_bit (o q : Nat) (ho : o < 4294967296) (hq : q < 32) : bits .or .u32 (o : Int) ((2 : Int) ^ q % (4294967296 : Int)) = ((o ||| 1 <<< q : Nat) : Int) := by
  have h : (1 <<< q : Nat) < 4294967296 := by
    rw [Nat.one_shiftLeft]
    have := Nat.pow_lt_pow_right (a := 2) (by decide) hq
    simpa using this
  rw [u32_pow q hq, u32_or_nat o _ ho h]
theorem or_bit_lt (o q : Nat) (ho : o < 64) (hq : q < 6) : (o ||| 1 <<< q) < 64 := by
  have h : (1 <<< q : Nat) < 2 ^ 6 := by rw [Nat.one_shiftLeft]; exact Nat.pow_lt_pow_right (by decide) hq
  exact Nat.or_lt_two_pow (n := 6) (by simpa using ho) h

set_option maxRecDepth 100000 in
set_option maxHeartbeats 1000000 in
theorem reads_any (A : Option Addr) (n c : Nat) (es : List Term) (w : World) (h : TermsR w A n es) (hl : n ≤ 1000000) :
    Calls Try.prog 28 #[.slice A n c] w fun e w' => e = .returned (.tuple #[.int .u32 (readsF es).1, .int .u32 (readsF es).2]) ∧ Bel w w' := by
  obtain rfl := h.1
  have H := Lib.hid (fun w' (k : Bel w w') => h.keep k); clear h
  have hb0 := Bel.refl w
  cases hv : validF es 6 with
  | false =>
    have HF : Hid (readsF es = (0, 0)) := by show readsF es = _; unfold readsF; rw [if_pos hv]
    go_enter Try.func28, Try.ntmps28
    go_wp2_with (go_at_call 24; refine (valid_any _ _ _ es _ _ (H.out _ (by assumption)) hl).mono ?_; rintro e wn ⟨rfl, hbn⟩; rw [hv])
    go_ret2
    rw [HF.out]
    exact ⟨rfl, hbn⟩
  | true =>
    have HF : Hid (readsF es = readGo es 0 0) := by show readsF es = _; unfold readsF; rw [if_neg (by rw [hv]; decide)]
    have HV := Lib.hid ((validF_parts es 6).1 hv)
    go_enter Try.func28, Try.ntmps28
    go_wp2_with (go_at_call 24; refine (valid_any _ _ _ es _ _ (H.out _ (by assumption)) hl).mono ?_; rintro e wn ⟨rfl, hbn⟩; rw [hv])
    clear hv
    go_loopg [2, 3, 11] es.length (fun g ov nv iv wr => ∃ k o n : Nat, k + g = es.length ∧ o < 64 ∧ n < 64 ∧ ov = .int .u32 o ∧ nv = .int .u32 n ∧ iv = .int .i64 k ∧ Hid (readGo (es.drop k) o n = readGo es 0 0) ∧ Bel w wr)
    case atStart => exact ⟨0, 0, 0, by omega, by omega, by omega, rfl, rfl, rfl, rfl, hbn⟩
    case round =>
      obtain ⟨k, o, n, hk, ho, hn, rfl, rfl, rfl, HK, hbel⟩ := hrel
      by_cases hlt : k < es.length
      · obtain ⟨b, off, rfl, hb, hc1, hc2⟩ := (H.out wr hbel).at_ k hlt
        have harg := HV.out.2.2.1 es[k] (List.getElem_mem _)
        have hcons := Lib.hid (List.drop_eq_getElem_cons hlt)
        by_cases h5 : es[k].op = 5
        · obtain ⟨ha1, ha2⟩ := argF_index harg (.inl h5)
          obtain ⟨q, hq⟩ := Int.eq_ofNat_of_zero_le ha1
          have hq6 : q < 6 := by omega
          rw [hq] at hc2
          have HQ := Lib.hid hq
          clear harg ha1 ha2 hq
          go_wp2_with fail
          go_roundg (gk - 1)
          case rel => exact ⟨k + 1, o ||| 1 <<< q, n, by omega, or_bit_lt o q ho hq6, hn, congrArg (Value.int .u32) (u32_or_bit o q (by omega) (by omega)), rfl, by go_num, by
            have hh := HK.out
            rw [hcons.out] at hh
            simp only [readGo] at hh
            rw [if_pos h5, HQ.out, Int.toNat_natCast] at hh
            exact hh, hbel.alloc _⟩
          case measure => omega
        · by_cases h12 : es[k].op = 12
          · obtain ⟨ha1, ha2⟩ := argF_index harg (.inr h12)
            obtain ⟨q, hq⟩ := Int.eq_ofNat_of_zero_le ha1
            have hq6 : q < 6 := by omega
            rw [hq] at hc2
            have HQ := Lib.hid hq
            clear harg ha1 ha2 hq h5
            go_wp2_with fail
            go_roundg (gk - 1)
            case rel => exact ⟨k + 1, o, n ||| 1 <<< q, by omega, ho, or_bit_lt n q hn hq6, rfl, congrArg (Value.int .u32) (u32_or_bit n q (by omega) (by omega)), by go_num, by
              have hh := HK.out
              rw [hcons.out] at hh
              simp only [readGo] at hh
              rw [if_neg (by omega), if_pos h12, HQ.out, Int.toNat_natCast] at hh
              exact hh, hbel.alloc _⟩
            case measure => omega
          · have h5b : (es[k].op == 5) = false := by simpa using h5
            have h12b : (es[k].op == 12) = false := by simpa using h12
            clear harg
            go_wp2_with fail
            go_roundg (gk - 1)
            case rel => exact ⟨k + 1, o, n, by omega, ho, hn, rfl, rfl, by go_num, by
              have hh := HK.out
              rw [hcons.out] at hh
              simp only [readGo] at hh
              rw [if_neg h5, if_neg h12] at hh
              exact hh, hbel.alloc _⟩
            case measure => omega
      · go_wp2_with fail
        go_ret2
        refine ⟨?_, hbel⟩
        have := HK.out
        rw [List.drop_eq_nil_of_le (by omega)] at this
        rw [HF.out, ← this]; rfl
set_option maxRecDepth 100000 in
set_option maxHeartbeats 1000000 in
theorem refReads_any (A : Option Addr) (n c : Nat) (es : List Term) (w : World) (h : TermsR w A n es) (hl : n ≤ 1000000) :
    Calls Try.prog 29 #[.slice A n c] w fun e w' => e = .returned (.tuple #[.int .u32 (readsF es).1, .int .u32 (readsF es).2]) ∧ Bel w w' := by
  obtain rfl := h.1
  have H := Lib.hid (fun w' (k : Bel w w') => h.keep k); clear h
  have hb0 := Bel.refl w
  cases hv : validF es 6 with
  | false =>
    have HF : Hid (readsF es = (0, 0)) := by show readsF es = _; unfold readsF; rw [if_pos hv]
    go_enter Try.func29, Try.ntmps29
    go_wp2_with (go_at_call 22; refine (refValid_any _ _ _ es _ _ (H.out _ (by assumption)) hl).mono ?_; rintro e wn ⟨rfl, hbn⟩; rw [hv])
    go_ret2
    rw [HF.out]
    exact ⟨rfl, hbn⟩
  | true =>
    have HF : Hid (readsF es = readGo es 0 0) := by show readsF es = _; unfold readsF; rw [if_neg (by rw [hv]; decide)]
    have HV := Lib.hid ((validF_parts es 6).1 hv)
    go_enter Try.func29, Try.ntmps29
    go_wp2_with (go_at_call 22; refine (refValid_any _ _ _ es _ _ (H.out _ (by assumption)) hl).mono ?_; rintro e wn ⟨rfl, hbn⟩; rw [hv])
    clear hv
    go_loopg [4, 5, 6] es.length (fun g ov nv iv wr => ∃ k o n : Nat, k + g = es.length ∧ o < 64 ∧ n < 64 ∧ ov = .int .u32 o ∧ nv = .int .u32 n ∧ iv = .int .i64 k ∧ Hid (readGo (es.drop k) o n = readGo es 0 0) ∧ Bel w wr)
    case atStart => exact ⟨0, 0, 0, by omega, by omega, by omega, rfl, rfl, rfl, rfl, hbn⟩
    case round =>
      obtain ⟨k, o, n, hk, ho, hn, rfl, rfl, rfl, HK, hbel⟩ := hrel
      by_cases hlt : k < es.length
      · obtain ⟨b, off, rfl, hb, hc1, hc2⟩ := (H.out wr hbel).at_ k hlt
        have harg := HV.out.2.2.1 es[k] (List.getElem_mem _)
        have hcons := Lib.hid (List.drop_eq_getElem_cons hlt)
        by_cases h5 : es[k].op = 5
        · obtain ⟨ha1, ha2⟩ := argF_index harg (.inl h5)
          obtain ⟨q, hq⟩ := Int.eq_ofNat_of_zero_le ha1
          have hq6 : q < 6 := by omega
          rw [hq] at hc2
          have HQ := Lib.hid hq
          clear harg ha1 ha2 hq
          go_wp2_with fail
          go_roundg (gk - 1)
          case rel => exact ⟨k + 1, o ||| 1 <<< q, n, by omega, or_bit_lt o q ho hq6, hn, congrArg (Value.int .u32) (u32_or_bit o q (by omega) (by omega)), rfl, by go_num, by
            have hh := HK.out
            rw [hcons.out] at hh
            simp only [readGo] at hh
            rw [if_pos h5, HQ.out, Int.toNat_natCast] at hh
            exact hh, hbel⟩
          case measure => omega
        · by_cases h12 : es[k].op = 12
          · obtain ⟨ha1, ha2⟩ := argF_index harg (.inr h12)
            obtain ⟨q, hq⟩ := Int.eq_ofNat_of_zero_le ha1
            have hq6 : q < 6 := by omega
            rw [hq] at hc2
            have HQ := Lib.hid hq
            clear harg ha1 ha2 hq h5
            go_wp2_with fail
            go_roundg (gk - 1)
            case rel => exact ⟨k + 1, o, n ||| 1 <<< q, by omega, ho, or_bit_lt n q hn hq6, rfl, congrArg (Value.int .u32) (u32_or_bit n q (by omega) (by omega)), by go_num, by
              have hh := HK.out
              rw [hcons.out] at hh
              simp only [readGo] at hh
              rw [if_neg (by omega), if_pos h12, HQ.out, Int.toNat_natCast] at hh
              exact hh, hbel⟩
            case measure => omega
          · have h5b : (es[k].op == 5) = false := by simpa using h5
            have h12b : (es[k].op == 12) = false := by simpa using h12
            clear harg
            go_wp2_with fail
            go_roundg (gk - 1)
            case rel => exact ⟨k + 1, o, n, by omega, ho, hn, rfl, rfl, by go_num, by
              have hh := HK.out
              rw [hcons.out] at hh
              simp only [readGo] at hh
              rw [if_neg h5, if_neg h12] at hh
              exact hh, hbel⟩
            case measure => omega
      · go_wp2_with fail
        go_ret2
        refine ⟨?_, hbel⟩
        have := HK.out
        rw [List.drop_eq_nil_of_le (by omega)] at this
        rw [HF.out, ← this]; rfl

set_option maxRecDepth 100000 in
set_option maxHeartbeats 1000000 in
theorem same_any (A : Option Addr) (n c : Nat) (xs : List Term) (B : Option Addr) (m d : Nat) (w : World) (h : TermsR w A n xs) (h2 : TermsR w B m xs) (hl : n ≤ 1000000) :
    Calls Try.prog 30 #[.slice A n c, .slice B m d] w fun e w' => e = .returned (.bool true) ∧ Bel w w' := by
  obtain rfl := h.1
  obtain rfl := h2.1
  have H := Lib.hid (fun w' (k : Bel w w') => h.keep k); clear h
  have H2 := Lib.hid (fun w' (k : Bel w w') => h2.keep k); clear h2
  have hne : ((xs.length : Int) != xs.length) = false := by simp
  go_enter Try.func30, Try.ntmps30
  go_wp2_with fail
  go_loopg [5] xs.length (fun g iv wr => ∃ k : Nat, k + g = xs.length ∧ iv = .int .i64 k ∧ Bel w wr)
  case atStart => exact ⟨0, by omega, rfl, Bel.refl _⟩
  case round =>
    obtain ⟨k, hk, rfl, hbel⟩ := hrel
    by_cases hlt : k < xs.length
    · obtain ⟨b, o, rfl, hb, hc1, hc2⟩ := (H.out wr hbel).at_ k hlt
      obtain ⟨b', o', rfl, hb', hc1', hc2'⟩ := (H2.out wr hbel).at_ k hlt
      have hi1 : (k : Int) < xs.length := by omega
      go_wp2_with fail
      go_quiet (fail)
      go_wp2_with fail
      go_roundg (gk - 1)
      case rel => exact ⟨k + 1, by omega, by go_num, hbel.drewN nq⟩
      case measure => omega
    · go_wp2_with fail
      go_ret
      exact ⟨rfl, hbel⟩
end Go.Proofs.Ytglhfdoahmmoeaa
