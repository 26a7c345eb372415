/- Contracts of Depth, Nest and Valid of the reference. -/
import Derived.Test.YtnhhedecaejgcaaW05f
import Derived.Test.YtnhhedecaejgcaaP05b
namespace Go.Proofs.Ytnhhedecaejgcaa
open Go.RowKit

set_option maxHeartbeats 400000 in
theorem refDepth_any (A : Option Addr) (n c : Nat) (es : List Term) (w : World) (h : TermsR w A n es) (hl : n ≤ 1000000) :
    Calls Try.prog 17 #[.slice A n c] w fun e w' => e = .returned (.int .i64 (depthF es)) ∧ Bel w w' := by
  have H := Lib.hid h
  obtain rfl := h.1
  clear h
  by_cases he : endF es 0 = es.length
  · have HG := Lib.hid (refGo_eq es he)
    have HA := Lib.hid (arity_of_end es he)
    have h1 : oneF es = true := by rw [one_iff]; simpa using he
    clear he
    go_enter Try.func17, Try.ntmps17
    go_wp2_with (first
      | (go_at_call 24; refine (one_any _ _ _ es _ H.out hl).mono ?_; rintro e w1 ⟨rfl, rfl⟩)
      | (go_at_call 30; refine (refLevels_any _ _ _ es _ H.out hl HA.out).mono ?_; rintro e w1 ⟨rfl, hb⟩))
    go_ret
    exact ⟨ret_int (by rw [HG.out]), hb⟩
  · have HG : Hid (depthF es = 0) := by
      show depthF es = 0
      unfold depthF levelsF; rw [if_neg he]
    have h1 : oneF es = false := by rw [one_iff]; simpa using he
    clear he
    go_enter Try.func17, Try.ntmps17
    go_wp2_with (go_at_call 24; refine (one_any _ _ _ es _ H.out hl).mono ?_; rintro e w1 ⟨rfl, rfl⟩)
    go_ret
    exact ⟨ret_int HG.out.symm, Bel.refl _⟩

set_option maxHeartbeats 400000 in
theorem refNest_any (A : Option Addr) (n c : Nat) (es : List Term) (w : World) (h : TermsR w A n es) (hl : n ≤ 1000000) :
    Calls Try.prog 25 #[.slice A n c] w fun e w' => e = .returned (.int .i64 (nestF es)) ∧ Bel w w' := by
  have H := Lib.hid h
  obtain rfl := h.1
  clear h
  by_cases he : endF es 0 = es.length
  · have HG := Lib.hid (refGo_eq es he)
    have HA := Lib.hid (arity_of_end es he)
    have h1 : oneF es = true := by rw [one_iff]; simpa using he
    clear he
    go_enter Try.func25, Try.ntmps25
    go_wp2_with (first
      | (go_at_call 24; refine (one_any _ _ _ es _ H.out hl).mono ?_; rintro e w1 ⟨rfl, rfl⟩)
      | (go_at_call 30; refine (refLevels_any _ _ _ es _ H.out hl HA.out).mono ?_; rintro e w1 ⟨rfl, hb⟩))
    go_ret
    exact ⟨ret_int (by rw [HG.out]), hb⟩
  · have HG : Hid (nestF es = 0) := by
      show nestF es = 0
      unfold nestF levelsF; rw [if_neg he]
    have h1 : oneF es = false := by rw [one_iff]; simpa using he
    clear he
    go_enter Try.func25, Try.ntmps25
    go_wp2_with (go_at_call 24; refine (one_any _ _ _ es _ H.out hl).mono ?_; rintro e w1 ⟨rfl, rfl⟩)
    go_ret
    exact ⟨ret_int HG.out.symm, Bel.refl _⟩

set_option maxHeartbeats 1000000 in
theorem refValid_any (A : Option Addr) (n c : Nat) (es : List Term) (vars : Int) (w : World) (h : TermsR w A n es) (hl : n ≤ 1000000) :
    Calls Try.prog 14 #[.slice A n c, .int .i64 vars] w fun e w' => e = .returned (.bool (validF es vars)) ∧ Bel w w' := by
  obtain rfl := h.1
  have H := Lib.hid h; clear h
  by_cases h200 : 200 < es.length
  · have HF : Hid (validF es vars = false) := by
      show validF es vars = false
      unfold validF
      rw [show decide (es.length ≤ 200) = false by simp; omega]; rfl
    have hd : decide (200 < es.length) = true := by simpa using h200
    go_enter Try.func14, Try.ntmps14
    go_wp2
    go_ret
    exact ⟨ret_bool HF.out.symm, Bel.refl _⟩
  · have hd : decide (200 < es.length) = false := by simpa using h200
    cases ho : oneF es with
    | false =>
      have HF : Hid (validF es vars = false) := by
        show validF es vars = false
        unfold validF
        rw [one_iff] at ho
        rw [ho]; simp
      go_enter Try.func14, Try.ntmps14
      go_wp2_with (go_at_call 24; refine (one_any _ _ _ es _ H.out hl).mono ?_; rintro e w' ⟨rfl, rfl⟩)
      go_ret
      exact ⟨ret_bool HF.out.symm, Bel.refl _⟩
    | true =>
      have HF : Hid (validF es vars = (es.all (argF · vars) && decide (depthF es ≤ 24) && decide (nestF es ≤ 2))) := by
        show validF es vars = _
        unfold validF
        rw [one_iff] at ho
        rw [show decide (es.length ≤ 200) = true by simp; omega, ho]
        rfl
      by_cases h24 : depthF es ≤ 24
      · have hd3 : decide (24 < depthF es) = false := by simpa using h24
        by_cases h2 : nestF es ≤ 2
        · have hd4 : decide (2 < nestF es) = false := by simpa using h2
          have HF2 : Hid (validF es vars = es.all (argF · vars)) := by
            show validF es vars = _
            rw [HF.out, show decide (depthF es ≤ 24) = true by simpa using h24, show decide (nestF es ≤ 2) = true by simpa using h2]; simp
          clear HF
          go_enter Try.func14, Try.ntmps14
          go_wp2_with (first
            | (go_at_call 24; refine (one_any _ _ _ es _ H.out hl).mono ?_; rintro e w' ⟨rfl, rfl⟩)
            | (go_at_call 17; refine (refDepth_any _ _ _ es _ H.out hl).mono ?_; rintro e w2 ⟨rfl, hb2⟩)
            | (go_at_call 25; refine (refNest_any _ _ _ es _ (H.out.keep hb2) hl).mono ?_; rintro e w3 ⟨rfl, hb3⟩))
          have hb4 := hb2.trans hb3
          clear hd3 hd4 h24 h2 ho
          go_loopg [5] es.length (fun g iv wr => ∃ k : Nat, k + g = es.length ∧ iv = .int .i64 k ∧ Hid (validF es vars = (es.drop k).all (argF · vars)) ∧ Bel w wr)
          case atStart => exact ⟨0, by omega, rfl, HF2, hb4⟩
          case round =>
            obtain ⟨k, hk, rfl, HK, hbel⟩ := hrel
            by_cases hlt : k < es.length
            · obtain ⟨b, o, rfl, hb, hc1, hc2⟩ := (H.out.keep hbel).at_ k hlt
              have hstep : Hid ((es.drop k).all (argF · vars) = (argF es[k] vars && (es.drop (k + 1)).all (argF · vars))) := by
                show (es.drop k).all (argF · vars) = _
                rw [List.drop_eq_getElem_cons hlt]; rfl
              cases harg : argF es[k] vars with
              | true =>
                go_wp2_with (go_at_call 26; refine (refArgument_any es[k] _ _).mono ?_; rintro e w2 ⟨rfl, hb2⟩; rw [harg])
                go_roundg (gk - 1)
                case rel => exact ⟨k + 1, by omega, by go_num, by show _ = _; rw [HK.out, hstep.out, harg]; rfl, hbel.trans hb2⟩
                case measure => omega
              | false =>
                go_wp2_with (go_at_call 26; refine (refArgument_any es[k] _ _).mono ?_; rintro e w2 ⟨rfl, hb2⟩; rw [harg])
                go_ret
                refine ⟨ret_bool ?_, hbel.trans hb2⟩
                rw [HK.out, hstep.out, harg]; rfl
            · go_wp2_with fail
              go_ret
              refine ⟨ret_bool ?_, hbel⟩
              rw [HK.out, List.drop_eq_nil_of_le (by omega)]; rfl
        · have hd4 : decide (2 < nestF es) = true := by simpa using h2
          have HF2 : Hid (validF es vars = false) := by
            show validF es vars = _
            rw [HF.out, show decide (nestF es ≤ 2) = false by simpa using h2]; simp
          go_enter Try.func14, Try.ntmps14
          go_wp2_with (first
            | (go_at_call 24; refine (one_any _ _ _ es _ H.out hl).mono ?_; rintro e w' ⟨rfl, rfl⟩)
            | (go_at_call 17; refine (refDepth_any _ _ _ es _ H.out hl).mono ?_; rintro e w2 ⟨rfl, hb2⟩)
            | (go_at_call 25; refine (refNest_any _ _ _ es _ (H.out.keep hb2) hl).mono ?_; rintro e w3 ⟨rfl, hb3⟩))
          go_ret
          exact ⟨ret_bool HF2.out.symm, hb2.trans hb3⟩
      · have hd3 : decide (24 < depthF es) = true := by simpa using h24
        have HF2 : Hid (validF es vars = false) := by
          show validF es vars = _
          rw [HF.out, show decide (depthF es ≤ 24) = false by simpa using h24]; simp
        go_enter Try.func14, Try.ntmps14
        go_wp2_with (first
          | (go_at_call 24; refine (one_any _ _ _ es _ H.out hl).mono ?_; rintro e w' ⟨rfl, rfl⟩)
          | (go_at_call 17; refine (refDepth_any _ _ _ es _ H.out hl).mono ?_; rintro e w2 ⟨rfl, hb2⟩))
        go_ret
        exact ⟨ret_bool HF2.out.symm, hb2⟩
end Go.Proofs.Ytnhhedecaejgcaa
