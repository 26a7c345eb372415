/- The walk of CodeOfExpressionsIsVerified. -/
import Derived.Test.YtnhhedecaejgcaaW12l
import Derived.Test.YtnhhedecaejgcaaP12o
namespace Go.Proofs.Ytnhhedecaejgcaa
open Go.RowKit

set_option maxRecDepth 100000 in
set_option maxHeartbeats 2000000 in
theorem outside_any (A : Option Addr) (n c : Nat) (es : List Term) (w : World) (h : TermsR w A n es) (hl : n ≤ 1000000) :
    Calls Try.prog 15 #[.slice A n c] w fun e w' => e = .returned (.bool (outB es es.length)) ∧ w = w' := by
  obtain rfl := h.1
  have H := Lib.hid h; clear h
  go_enter Try.func15, Try.ntmps15
  go_wp2
  go_loopg [3] es.length (fun g iv wr => ∃ k : Nat, k + g = es.length ∧ iv = .int .i64 k ∧ Hid (outB es k = false) ∧ w = wr)
  case atStart => exact ⟨0, by omega, rfl, outB_zero es, rfl⟩
  case round =>
    obtain ⟨k, hk, rfl, HO, rfl⟩ := hrel
    by_cases hlt : k < es.length
    · obtain ⟨b, o, rfl, hb, c1, c2⟩ := H.out.at_ k hlt
      have HS : Hid (outB es (k + 1) = (nearT es[k] && !insB es k k)) := by
        show outB es (k + 1) = _
        rw [outB_succ, HO.out, List.getD_eq_getElem?_getD, List.getElem?_eq_getElem hlt]; rfl
      obtain ⟨q, rfl⟩ : ∃ q, gk = q + 1 := ⟨gk - 1, by omega⟩
      generalize gq : es[k] = t at *
      have Gq := Lib.hid gq; clear gq
      cases hn : nearT t with
      | false =>
        have hn' : t.op ≠ 11 ∧ (t.op < 12 ∨ 17 < t.op) := by unfold nearT at hn; simp at hn; omega
        have HS2 : Hid (outB es (k + 1) = false) := by show outB es (k + 1) = false; rw [HS.out, hn]; rfl
        have o1 : (t.op != 11) = true := by simpa using hn'.1
        by_cases o2 : t.op < 12
        · have o2' : decide (t.op < 12) = true := by simpa using o2
          go_wp2_with fail
          go_roundg q
          case rel => exact ⟨k + 1, by omega, by go_num, HS2, rfl⟩
          case measure => omega
        · have o2' : decide (t.op < 12) = false := by simpa using o2
          have o3 : decide (17 < t.op) = true := by simp; omega
          go_wp2_with fail
          go_roundg q
          case rel => exact ⟨k + 1, by omega, by go_num, HS2, rfl⟩
          case measure => omega
      | true =>
        have hn' : t.op = 11 ∨ (12 ≤ t.op ∧ t.op ≤ 17) := by unfold nearT at hn; simpa using hn
        have hcase : (t.op != 11) = false ∨ ((t.op != 11) = true ∧ decide (t.op < 12) = false ∧ decide (17 < t.op) = false) := by
          rcases hn' with e | e
          · left; simp [e]
          · right; simp; omega
        have HS2 : Hid (outB es (k + 1) = !insB es k k) := by show outB es (k + 1) = _; rw [HS.out, hn]; rfl
        clear hn hn'
        rcases hcase with o1 | ⟨o1, o2, o3⟩
        all_goals
          go_wp2_with fail
          go_loopg [4, 5] k (fun g sv jv wr => ∃ j : Nat, j + g = k ∧ jv = .int .i64 j ∧ sv = .bool (insB es k j) ∧ w = wr)
          case atStart => exact ⟨0, by omega, rfl, by rw [insB_zero], rfl⟩
          case round =>
            obtain ⟨j, hj, rfl, rfl, rfl⟩ := hrel
            by_cases hjk : j < k
            · have hjl : j < es.length := by omega
              obtain ⟨b', o', e', hb', d1, d2⟩ := H.out.at_ j hjl
              obtain ⟨rfl, rfl⟩ : b = b' ∧ o = o' := by simpa using e'
              have hop := opAt_get hjl
              have HI : Hid (insB es k (j + 1) = (insB es k j || (aggregate es[j].op && decide ((k : Int) < endF es (j : Int))))) := by
                show insB es k (j + 1) = _
                rw [insB_succ]; unfold covB; rw [hop]
              clear e' hop
              cases hi : insB es k j with
              | true =>
                go_wp2_with fail
                go_roundg (gk - 1)
                case rel => exact ⟨j + 1, by omega, by go_num, by rw [HI.out, hi]; rfl, rfl⟩
                case measure => omega
              | false =>
                cases hag : aggregate es[j].op with
                | false =>
                  go_wp2_with (go_at_call 18; refine (refAggregate_any _ _).mono ?_; rintro e w' ⟨rfl, rfl⟩; rw [hag])
                  go_roundg (gk - 1)
                  case rel => exact ⟨j + 1, by omega, by go_num, by rw [HI.out, hi, hag]; rfl, rfl⟩
                  case measure => omega
                | true =>
                  go_wp2_with (first
                    | (go_at_call 18; refine (refAggregate_any _ _).mono ?_; rintro e w' ⟨rfl, rfl⟩; rw [hag])
                    | (go_at_call 27; refine (refEnd_any _ _ _ es _ _ H.out hl).mono ?_; rintro e w' ⟨rfl, rfl⟩))
                  go_roundg (gk - 1)
                  case rel => exact ⟨j + 1, by omega, by go_num, by rw [HI.out, hi, hag]; rfl, rfl⟩
                  case measure => omega
            · obtain rfl : j = k := by omega
              cases hi : insB es j j with
              | true =>
                go_wp2_with fail
                go_roundg q
                case rel => exact ⟨j + 1, by omega, by go_num, by show outB es (j + 1) = false; rw [HS2.out, hi]; rfl, rfl⟩
                case measure => omega
              | false =>
                have HT : Hid (outB es es.length = true) := by
                  show outB es es.length = true
                  refine outB_mono (k := j + 1) ?_ (by omega)
                  rw [HS2.out, hi]; rfl
                go_wp2_with fail
                go_ret
                exact ⟨ret_bool HT.out.symm, rfl⟩
    · obtain rfl : k = es.length := by omega
      go_wp2_with fail
      go_ret
      exact ⟨ret_bool HO.out.symm, rfl⟩

theorem valid_more {es : List Term} {v : Int} (h : validF es v = true) (hv : v ≤ 6) : validF es 6 = true := by
  obtain ⟨h1, h2, h3, h4, h5⟩ := (validF_parts es v).1 h
  refine (validF_parts es 6).2 ⟨h1, h2, fun t ht => ?_, h4, h5⟩
  have := h3 t ht
  unfold argF at this ⊢
  split
  · rename_i e; rw [if_pos e] at this; exact this
  · rename_i e; rw [if_neg e] at this
    split
    · rename_i e2; rw [if_pos e2] at this; simp at this ⊢; omega
    · rename_i e2; rw [if_neg e2] at this; exact this

set_option maxRecDepth 100000 in
set_option maxHeartbeats 2000000 in
theorem codeVerified_walk (A : Option Addr) (n c : Nat) (es : List Term) (vars : Int) (w : World) (h : TermsR w A n es) :
    Calls Try.prog 4 #[.slice A n c, .int .i64 vars] w fun e w' => e = .returned (.bool true) ∧ Bel w w' := by
  obtain rfl := h.1
  have H := Lib.hid (fun w' (k : Bel w w') => h.keep k); clear h
  have hm1 : 0 ≤ modF vars 7 := Int.emod_nonneg _ (by omega)
  have hm2 : modF vars 7 < 7 := Int.emod_lt_of_pos _ (by omega)
  obtain ⟨v, hv⟩ : ∃ x, modF vars 7 = x := ⟨_, rfl⟩
  rw [hv] at hm1 hm2
  have HB := Bel.refl w
  by_cases h250 : es.length ≤ 250
  · have hd : decide (es.length ≤ 250) = true := by simpa using h250
    have hl : es.length ≤ 1000000 := by omega
    cases hva : validF es v with
    | false =>
      go_enter Try.func4, Try.ntmps4
      go_wp2_with (first
        | (go_at_call 13; refine (mod_any _ _ _ (by omega) (by omega)).mono ?_; rintro e w' ⟨rfl, rfl⟩; rw [hv])
        | (go_at_call 8; refine (light_any _ _ _ _).mono ?_; rintro e w' ⟨rfl, rfl⟩)
        | (go_at_call 14; refine (refValid_any _ _ _ es _ _ (H.out _ HB) hl).mono ?_; rintro e w1 ⟨rfl, hb⟩; rw [hva]; replace HB := HB.trans hb; clear hb)
        | (go_at_call 9; refine (awake12_any _).mono ?_; rintro e w2 ⟨rfl, hb⟩; replace HB := HB.trans hb; clear hb))
      go_ret
      exact ⟨rfl, HB⟩
    | true =>
      have h6 := valid_more hva (by omega)
      cases hou : outB es es.length with
      | true =>
        go_enter Try.func4, Try.ntmps4
        go_wp2_with (first
          | (go_at_call 13; refine (mod_any _ _ _ (by omega) (by omega)).mono ?_; rintro e w' ⟨rfl, rfl⟩; rw [hv])
          | (go_at_call 8; refine (light_any _ _ _ _).mono ?_; rintro e w' ⟨rfl, rfl⟩)
          | (go_at_call 14; refine (refValid_any _ _ _ es _ _ (H.out _ HB) hl).mono ?_; rintro e w1 ⟨rfl, hb⟩; (first | rw [hva] | rw [h6]); replace HB := HB.trans hb; clear hb)
          | (go_at_call 15; refine (outside_any _ _ _ es _ (H.out _ HB) hl).mono ?_; rintro e w1 ⟨rfl, rfl⟩; rw [hou])
          | (go_at_call 9; refine (awake12_any _).mono ?_; rintro e w2 ⟨rfl, hb⟩; replace HB := HB.trans hb; clear hb))
        go_ret
        exact ⟨rfl, HB⟩
      | false =>
        obtain ⟨x, hx1, hx2, hx3, hx4, hx5, hx6⟩ := valid_tree hva
        have hsz : x.size ≤ 1024 := by have := x.size_le; have : x.len = es.length := by rw [← hx2]; rfl
                                       omega
        obtain ⟨hh, hver, hlo, hhi⟩ := verify_code hm1 hx1 (by rw [hx2]; exact hx4) (inside_of_out hx1 hx2 hou) hx6 hx5 hsz
        rw [← Ex.levels_depth hx1, hx2] at hhi
        have HV := Lib.hid hver; clear hver
        have HP := Lib.hid (show codeF es (x.code 0, 0) from .inr ⟨h6, x, hx1, hx2, rfl⟩)
        have hd5 : decide (1 ≤ hh) = true := by simpa using hlo
        have hd6 : decide (hh ≤ depthF es) = true := by simpa using hhi
        clear hx1 hx2 hx3 hx4 hx5 hx6
        go_enter Try.func4, Try.ntmps4
        go_wp2_with (first
          | (go_at_call 13; refine (mod_any _ _ _ (by omega) (by omega)).mono ?_; rintro e w' ⟨rfl, rfl⟩; rw [hv])
          | (go_at_call 8; refine (light_any _ _ _ _).mono ?_; rintro e w' ⟨rfl, rfl⟩)
          | (go_at_call 14; refine (refValid_any _ _ _ es _ _ (H.out _ HB) hl).mono ?_; rintro e w1 ⟨rfl, hb⟩; (first | rw [hva] | rw [h6]); replace HB := HB.trans hb; clear hb)
          | (go_at_call 15; refine (outside_any _ _ _ es _ (H.out _ HB) hl).mono ?_; rintro e w1 ⟨rfl, rfl⟩; rw [hou]))
        refine (compile_any _ _ _ es _ (H.out _ HB) hl).mono ?_
        rintro e w2 ⟨A2, c2, is, err, hc2, rfl, hown2, hb2⟩
        obtain ⟨rfl, rfl⟩ : is = x.code 0 ∧ err = 0 := by have := codeF_one hc2 HP.out; simpa using this
        have hT2 := Lib.hid (own_terms hown2)
        have hcap2 := (own_cap hown2).1
        replace HB := HB.trans hb2
        rw [Ex.code_length] at hT2 hcap2 ⊢
        clear hc2 hown2 hb2
        go_wp2_with fail
        refine (verify_any _ _ _ (x.code 0) v _ hT2.out (by omega) hcap2 hm1 (by omega)).mono ?_
        rintro e w3 ⟨rfl, hb3⟩
        rw [HV.out]
        replace HB := HB.trans hb3
        clear hb3
        go_wp2_with fail
        refine (awake12_any _).mono ?_
        rintro e w4 ⟨rfl, hb4⟩
        replace HB := HB.trans hb4
        clear hb4
        go_wp2_with (go_at_call 17; refine (refDepth_any _ _ _ es _ (H.out _ HB) hl).mono ?_; rintro e w5 ⟨rfl, hb⟩; replace HB := HB.trans hb; clear hb)
        go_ret
        exact ⟨by simp, HB⟩
  · have hd : decide (es.length ≤ 250) = false := by simpa using h250
    go_enter Try.func4, Try.ntmps4
    go_wp2_with (first
      | (go_at_call 13; refine (mod_any _ _ _ (by omega) (by omega)).mono ?_; rintro e w' ⟨rfl, rfl⟩; rw [hv])
      | (go_at_call 8; refine (light_any _ _ _ _).mono ?_; rintro e w' ⟨rfl, rfl⟩)
      | (go_at_call 9; refine (awake12_any _).mono ?_; rintro e w2 ⟨rfl, hb⟩; replace HB := HB.trans hb; clear hb))
    go_ret
    exact ⟨rfl, HB⟩

end Go.Proofs.Ytnhhedecaejgcaa
