/- The walks of CodeCompiles and CodeHasTheLength. -/
import Derived.Test.YtnhhedecaejgcaaW12l
namespace Go.Proofs.Ytnhhedecaejgcaa
open Go.RowKit

set_option maxRecDepth 100000 in
set_option maxHeartbeats 1000000 in
theorem codeCompiles_walk (A : Option Addr) (n c : Nat) (es : List Term) (w : World) (h : TermsR w A n es) :
    Calls Try.prog 3 #[.slice A n c] w fun e w' => e = .returned (.bool true) ∧ Bel w w' := by
  have H := Lib.hid h; clear h
  by_cases h250 : n ≤ 250
  · have hd : decide (n ≤ 250) = true := by simpa using h250
    have hl : n ≤ 100000 := by omega
    go_enter Try.func3, Try.ntmps3
    go_wp2_with (go_at_call 8; refine (light_any _ _ _ _).mono ?_; rintro e w' ⟨rfl, rfl⟩)
    refine (compile_any _ _ _ es _ H.out (by omega)).mono ?_
    rintro e w1 ⟨A1, c1, is, err, hc1, rfl, hown1, hb1⟩
    have HC1 := Lib.hid hc1; clear hc1
    have HO1 := Lib.hid hown1; clear hown1
    go_wp2_with fail
    refine (refCompile_any _ _ _ es _ (H.out.keep hb1) hl).mono ?_
    rintro e w2 ⟨A2, c2, is2, err2, hc2, rfl, hown2, hb2⟩
    obtain ⟨rfl, rfl⟩ : is = is2 ∧ err = err2 := by have := codeF_one HC1.out hc2; simpa using this
    have HO2 := Lib.hid hown2; clear hown2 hc2
    go_wp2_with fail
    refine (awake12_any _).mono ?_
    rintro e w3 ⟨rfl, hb3⟩
    go_wp2_with fail
    have hisl : is.length ≤ 1000000 := by
      rcases HC1.out with ⟨_, h⟩ | ⟨hv, x, _, hx2, h⟩
      · simp at h; rw [h.1]; simp
      · simp at h
        rw [h.1, Ex.code_length]
        have := x.size_le
        have e2 : x.len = es.length := by rw [← hx2]; rfl
        have e3 := H.out.1
        omega
    refine (same_eq _ _ _ _ _ is _ (own_terms (hb3.owns (hb2.owns HO1.out))) (own_terms (hb3.owns HO2.out)) hisl).mono ?_
    rintro e w4 ⟨rfl, hb4⟩
    clear hisl
    go_wp2_with fail
    go_ret
    exact ⟨by simp, ((hb1.trans hb2).trans hb3).trans hb4⟩
  · have hd : decide (n ≤ 250) = false := by simpa using h250
    go_enter Try.func3, Try.ntmps3
    go_wp2_with (first
      | (go_at_call 8; refine (light_any _ _ _ _).mono ?_; rintro e w' ⟨rfl, rfl⟩)
      | (go_at_call 9; refine (awake12_any _).mono ?_; rintro e w1 ⟨rfl, hb1⟩))
    go_ret
    exact ⟨rfl, hb1⟩

set_option maxRecDepth 100000 in
set_option maxHeartbeats 2000000 in
theorem codeLength_walk (A : Option Addr) (n c : Nat) (es : List Term) (w : World) (h : TermsR w A n es) :
    Calls Try.prog 5 #[.slice A n c] w fun e w' => e = .returned (.bool true) ∧ Bel w w' := by
  obtain rfl := h.1
  have H := Lib.hid h; clear h
  by_cases h250 : es.length ≤ 250
  · have hd : decide (es.length ≤ 250) = true := by simpa using h250
    have hl : es.length ≤ 1000000 := by omega
    cases hv : validF es 6 with
    | true =>
      obtain ⟨x, hx1, hx2, hx3, _⟩ := valid_tree hv
      have HP := Lib.hid (show codeF es (x.code 0, 0) from .inr ⟨hv, x, hx1, hx2, rfl⟩)
      have HZ : Hid (x.size = wtsT es) := by show x.size = _; rw [Ex.size_wts hx1, hx2]
      clear hx1 hx2
      go_enter Try.func5, Try.ntmps5
      go_wp2_with (first
        | (go_at_call 8; refine (light_any _ _ _ _).mono ?_; rintro e w' ⟨rfl, rfl⟩)
        | (go_at_call 14; refine (refValid_any _ _ _ es _ _ H.out hl).mono ?_; rintro e w1 ⟨rfl, hb1⟩; rw [hv]))
      go_loopg [3, 4] es.length (fun g nv iv wr => ∃ k : Nat, k + g = es.length ∧ nv = .int .i64 ((wtsT (es.take k) + g : Nat) : Int) ∧ iv = .int .i64 k ∧ w1 = wr)
      case atStart => exact ⟨0, by omega, by simp [wtsT], rfl, rfl⟩
      case round =>
        obtain ⟨k, hk, rfl, rfl, rfl⟩ := hrel
        have hwj := wtsT_le (es.take k)
        have hwj2 : wtsT (es.take k) ≤ 600 := by have : (es.take k).length ≤ es.length := by simp [List.length_take]; omega
                                                 omega
        clear hwj
        by_cases hlt : k < es.length
        · obtain ⟨t, ht⟩ : ∃ t, es[k]? = some t := ⟨_, List.getElem?_eq_getElem hlt⟩
          obtain ⟨b, o, rfl, hb, c1, c2⟩ := terms_get (H.out.keep hb1) ht
          have HS : Hid (wtsT (es.take (k + 1)) = wtsT (es.take k) + wtT t) := by
            show wtsT (es.take (k + 1)) = _
            rw [List.take_add_one, ht, wtsT_append]; simp [wtsT]
          obtain ⟨q, rfl⟩ : ∃ q, gk = q + 1 := ⟨gk - 1, by omega⟩
          cases hag : aggregate t.op with
          | true =>
            have h43 : ¬ t.op = 43 := by rintro h43; rw [h43] at hag; revert hag; decide
            have hwt : Hid (wtT t = 2) := by show wtT t = 2; simp [wtT, hag, h43]
            clear h43 ht
            go_wp2_with (go_at_call 18; refine (refAggregate_any _ _).mono ?_; rintro e w' ⟨rfl, rfl⟩; rw [hag])
            go_roundg q
            case rel => exact ⟨k + 1, by omega, by rw [HS.out, hwt.out]; congr 1; omega, by go_num, rfl⟩
            case measure => omega
          | false =>
            by_cases h43 : t.op = 43
            · have hwt : Hid (wtT t = 2) := by show wtT t = 2; simp [wtT, h43]; decide
              have h43' : (t.op == 43) = true := by simpa using h43
              clear h43 ht
              go_wp2_with (go_at_call 18; refine (refAggregate_any _ _).mono ?_; rintro e w' ⟨rfl, rfl⟩; rw [hag])
              go_roundg q
              case rel => exact ⟨k + 1, by omega, by rw [HS.out, hwt.out]; congr 1; omega, by go_num, rfl⟩
              case measure => omega
            · have hwt : Hid (wtT t = 1) := by show wtT t = 1; simp [wtT, hag, h43]
              have h43' : (t.op == 43) = false := by simpa using h43
              clear h43 ht
              go_wp2_with (go_at_call 18; refine (refAggregate_any _ _).mono ?_; rintro e w' ⟨rfl, rfl⟩; rw [hag])
              go_roundg q
              case rel => exact ⟨k + 1, by omega, by rw [HS.out, hwt.out]; congr 1; omega, by go_num, rfl⟩
              case measure => omega
        · obtain rfl : gk = 0 := by omega
          rw [List.take_of_length_le (by omega)] at hwj2 ⊢
          go_wp2_with fail
          refine (compile_any _ _ _ es _ (H.out.keep hb1) hl).mono ?_
          rintro e w2 ⟨A2, c2, is, err, hc2, rfl, hown2, hb2⟩
          obtain ⟨rfl, rfl⟩ : is = x.code 0 ∧ err = 0 := by have := codeF_one hc2 HP.out; simpa using this
          rw [Ex.code_length, HZ.out]
          clear hc2 hown2
          go_wp2_with fail
          refine (awake12_any _).mono ?_
          rintro e w3 ⟨rfl, hb3⟩
          go_wp2_with fail
          go_ret
          refine ⟨?_, (hb1.trans hb2).trans hb3⟩
          simp; omega
    | false =>
      go_enter Try.func5, Try.ntmps5
      go_wp2_with (first
        | (go_at_call 8; refine (light_any _ _ _ _).mono ?_; rintro e w' ⟨rfl, rfl⟩)
        | (go_at_call 14; refine (refValid_any _ _ _ es _ _ H.out hl).mono ?_; rintro e w1 ⟨rfl, hb1⟩; rw [hv])
        | (go_at_call 9; refine (awake12_any _).mono ?_; rintro e w2 ⟨rfl, hb2⟩))
      go_ret
      exact ⟨rfl, hb1.trans hb2⟩
  · have hd : decide (es.length ≤ 250) = false := by simpa using h250
    go_enter Try.func5, Try.ntmps5
    go_wp2_with (first
      | (go_at_call 8; refine (light_any _ _ _ _).mono ?_; rintro e w' ⟨rfl, rfl⟩)
      | (go_at_call 9; refine (awake12_any _).mono ?_; rintro e w1 ⟨rfl, hb1⟩))
    go_ret
    exact ⟨rfl, hb1⟩

end Go.Proofs.Ytnhhedecaejgcaa
