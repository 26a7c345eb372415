/- Contracts of Depth, Nest and Valid of the program. -/
import Derived.Test.YtnhhedecaejgcaaW05d
namespace Go.Proofs.Ytnhhedecaejgcaa
open Go.RowKit

theorem depth_any (A : Option Addr) (n c : Nat) (es : List Term) (w : World) (h : TermsR w A n es) (hl : n ≤ 1000000) :
    Calls Try.prog 35 #[.slice A n c] w fun e w' => e = .returned (.int .i64 (depthF es)) ∧ Bel w w' := by
  have H := Lib.hid h; clear h
  go_enter Try.func35, Try.ntmps35
  go_wp2_with (go_at_call 55; refine (levels_any 56 depthNum (fun op g w h0 h1 => depthNum_any op g w h0 h1) (fun _ _ _ => by kernel_rfl) depthNum_ok _ _ _ es _ H.out hl).mono ?_; rintro e w1 ⟨rfl, hb⟩)
  go_ret
  exact ⟨rfl, hb⟩

theorem nest_any (A : Option Addr) (n c : Nat) (es : List Term) (w : World) (h : TermsR w A n es) (hl : n ≤ 1000000) :
    Calls Try.prog 36 #[.slice A n c] w fun e w' => e = .returned (.int .i64 (nestF es)) ∧ Bel w w' := by
  have H := Lib.hid h; clear h
  go_enter Try.func36, Try.ntmps36
  go_wp2_with (go_at_call 55; refine (levels_any 57 nestNum (fun op g w h0 h1 => nestNum_any op g w h0 h1) (fun _ _ _ => by kernel_rfl) nestNum_ok _ _ _ es _ H.out hl).mono ?_; rintro e w1 ⟨rfl, hb⟩)
  go_ret
  exact ⟨rfl, hb⟩

set_option maxHeartbeats 400000 in
theorem valid_any (A : Option Addr) (n c : Nat) (es : List Term) (vars : Int) (w : World) (h : TermsR w A n es) (hl : n ≤ 1000000) :
    Calls Try.prog 21 #[.slice A n c, .int .i64 vars] w fun e w' => e = .returned (.bool (validF es vars)) ∧ Bel w w' := by
  obtain rfl := h.1
  have H := Lib.hid h; clear h
  by_cases h200 : 200 < es.length
  · have HF : Hid (validF es vars = false) := by
      show validF es vars = false
      unfold validF
      rw [show decide (es.length ≤ 200) = false by simp; omega]; rfl
    have hd : decide (200 < es.length) = true := by simpa using h200
    go_enter Try.func21, Try.ntmps21
    go_wp2
    go_ret
    exact ⟨ret_bool HF.out.symm, Bel.refl _⟩
  · have hd : decide (200 < es.length) = false := by simpa using h200
    by_cases he : endF es 0 = es.length
    · have hd2 : (endF es 0 != (es.length : Int)) = false := by simpa using he
      have HF : Hid (validF es vars = (es.all (argF · vars) && decide (depthF es ≤ 24) && decide (nestF es ≤ 2))) := by
        show validF es vars = _
        unfold validF
        rw [show decide (es.length ≤ 200) = true by simp; omega, show (endF es 0 == (es.length : Int)) = true by simpa using he]
        rfl
      clear he
      go_enter Try.func21, Try.ntmps21
      go_wp2_with (go_at_call 33; refine (end_any _ _ _ es _ _ H.out hl).mono ?_; rintro e w' ⟨rfl, rfl⟩)
      go_loopg [19] es.length (fun g iv wr => ∃ k : Nat, k + g = es.length ∧ iv = .int .i64 k ∧ Hid (es.all (argF · vars) = (es.drop k).all (argF · vars)) ∧ Bel w wr)
      case atStart => exact ⟨0, by omega, rfl, rfl, Bel.refl _⟩
      case round =>
        obtain ⟨k, hk, rfl, HK, hbel⟩ := hrel
        by_cases hlt : k < es.length
        · obtain ⟨b, o, rfl, hb, hc1, hc2⟩ := (H.out.keep hbel).at_ k hlt
          have hstep : Hid ((es.drop k).all (argF · vars) = (argF es[k] vars && (es.drop (k + 1)).all (argF · vars))) := by
            show (es.drop k).all (argF · vars) = _
            rw [List.drop_eq_getElem_cons hlt]; rfl
          cases harg : argF es[k] vars with
          | true =>
            go_wp2_with (go_at_call 34; refine (argument_any es[k] _ _).mono ?_; rintro e w2 ⟨rfl, hb2⟩; rw [harg])
            go_roundg (gk - 1)
            case rel => exact ⟨k + 1, by omega, by go_num, by show _ = _; rw [HK.out, hstep.out, harg]; rfl, (hbel.alloc _).trans hb2⟩
            case measure => omega
          | false =>
            go_wp2_with (go_at_call 34; refine (argument_any es[k] _ _).mono ?_; rintro e w2 ⟨rfl, hb2⟩; rw [harg])
            go_ret
            refine ⟨ret_bool ?_, (hbel.alloc _).trans hb2⟩
            rw [HF.out, HK.out, hstep.out, harg]; rfl
        · have HF2 : Hid (validF es vars = (decide (depthF es ≤ 24) && decide (nestF es ≤ 2))) := by
            show validF es vars = _
            rw [HF.out, HK.out, List.drop_eq_nil_of_le (by omega)]; rfl
          clear HF
          by_cases h24 : depthF es ≤ 24
          · go_wp2_with (first
              | (go_at_call 35; refine (depth_any _ _ _ es _ (H.out.keep hbel) hl).mono ?_; rintro e w2 ⟨rfl, hb2⟩)
              | (go_at_call 36; refine (nest_any _ _ _ es _ (H.out.keep (hbel.trans hb2)) hl).mono ?_; rintro e w3 ⟨rfl, hb3⟩))
            go_ret
            refine ⟨ret_bool ?_, (hbel.trans hb2).trans hb3⟩
            rw [HF2.out, show decide (depthF es ≤ 24) = true by simpa using h24]; rfl
          · have hd3 : decide (depthF es ≤ 24) = false := by simpa using h24
            go_wp2_with (go_at_call 35; refine (depth_any _ _ _ es _ (H.out.keep hbel) hl).mono ?_; rintro e w2 ⟨rfl, hb2⟩)
            go_ret
            refine ⟨ret_bool ?_, hbel.trans hb2⟩
            rw [HF2.out, hd3]; rfl
    · have hd2 : (endF es 0 != (es.length : Int)) = true := by simpa using he
      have HF : Hid (validF es vars = false) := by
        show validF es vars = false
        unfold validF
        rw [show (endF es 0 == (es.length : Int)) = false by simpa using he]; simp
      clear he
      go_enter Try.func21, Try.ntmps21
      go_wp2_with (go_at_call 33; refine (end_any _ _ _ es _ _ H.out hl).mono ?_; rintro e w' ⟨rfl, rfl⟩)
      go_ret
      exact ⟨ret_bool HF.out.symm, Bel.refl _⟩
end Go.Proofs.Ytnhhedecaejgcaa
