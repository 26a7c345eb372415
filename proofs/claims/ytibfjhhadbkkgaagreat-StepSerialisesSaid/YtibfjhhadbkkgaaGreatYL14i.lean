/- Merged of: L14i (see NOTES.md). -/
import Derived.Test.YtibfjhhadbkkgaaGreatYL14g
set_option linter.unusedSimpArgs false
set_option linter.unnecessarySimpa false
set_option linter.unusedVariables false

/- The walk of StepSerialises. -/
namespace Go.Proofs.YtibfjhhadbkkgaaGreat
open Go.RowKit

set_option maxRecDepth 100000 in
set_option maxHeartbeats 8000000 in
theorem stepSerialises_walk (v1 : Value) (p : Prg) (v2 : Value) (g : Graph) (v3 : Value) (c : Config) (S : Nat) (w : World) (h : PrgV w v1 p) (h2 : GraphV w v2 g) (h3 : ConfV w v3 c) (hS : S < 4294967296) :
    Calls Tryz.prog 6 #[v1, v2, v3, .int .u32 (S : Int)] w fun e w' => e = .returned (.bool true) ∧ Bel w w' := by
  have HPV := Lib.hid (fun w' (k : Bel w w') => h.keep k)
  have HGV := Lib.hid (fun w' (k : Bel w w') => h2.keep k)
  have HCV := Lib.hid (fun w' (k : Bel w w') => h3.keep k)
  obtain ⟨A1, k1, A2, k2, rfl, _, _, _, _, _, _⟩ := h
  obtain ⟨A3, k3, A4, k4, rfl, _, _, _, _, _, _⟩ := h2
  obtain ⟨A5, k5, rfl, _, _, _⟩ := h3
  have HW := Bel.refl ((w.alloc (.cells #[.string p.name, .slice A1 p.vars.length k1, .slice A2 p.rules.length k2] 25)).alloc (.cells #[.slice A3 g.ids.length k3, .slice A4 g.ports.length k4] 29))
  cases hq : soundF p g c with
  | false =>
    clear hS
    go_enter Tryz.func6, Tryz.ntmps6
    go_wp2_with (first
      | (go_at_call 30; refine (sound_any _ p _ g _ c _ (HPV.out _ (box2_bel HW)) (HGV.out _ (box2_bel HW)) (HCV.out _ (box2_bel HW))).mono ?_; rintro e w' ⟨rfl, hb⟩; rw [hq]; replace HW := HW.trans hb; clear hb; (try clear p0 p1 p2 g0 g1 gsz); obtain ⟨p0, p1, p2, g0, g1, gsz⟩ := pgbox HW)
      | (go_at_call 26; refine (awake14_any _).mono ?_; rintro e w' ⟨rfl, hb⟩; replace HW := HW.trans hb; clear hb; (try clear p0 p1 p2 g0 g1 gsz); obtain ⟨p0, p1, p2, g0, g1, gsz⟩ := pgbox HW))
    go_ret
    exact ⟨rfl, box2_bel HW⟩
  | true =>
    have HQ := Lib.hid (sound_parts hq)
    have hm := (sound_parts hq).2.2.2
    have HG := Lib.hid (fits_zero (mem_zero hm).1).2.1
    have HEN := Lib.hid (enabledF_ok hm)
    have hle : c.length ≤ 24 := by rw [conf_len hm]; exact (fits_zero (mem_zero hm).1).2.1.le
    have hband := bits_and hS (enabF_lt hm)
    obtain ⟨T, hT⟩ : ∃ T, T = S &&& enabF p g c := ⟨_, rfl⟩
    have HTW : Hid (within32 T (enabF p g c) = true) := by rw [hT]; exact and_within _ _
    have HTL : Hid (T < 4294967296) := by rw [hT]; exact Nat.and_lt_two_pow (n := 32) S (enabF_lt hm)
    rw [← hT] at hband
    clear hT hS
    by_cases h0 : T = 0
    · subst h0
      clear hm
      go_enter Tryz.func6, Tryz.ntmps6
      go_wp2_with (first
        | (go_at_call 30; refine (sound_any _ p _ g _ c _ (HPV.out _ (box2_bel HW)) (HGV.out _ (box2_bel HW)) (HCV.out _ (box2_bel HW))).mono ?_; rintro e w' ⟨rfl, hb⟩; rw [hq]; replace HW := HW.trans hb; clear hb; (try clear p0 p1 p2 g0 g1 gsz); obtain ⟨p0, p1, p2, g0, g1, gsz⟩ := pgbox HW)
        | (go_at_call 31; refine (refEnabled_any _ p _ g _ c _ (HPV.out _ (box2_bel HW)) (HGV.out _ (box2_bel HW)) (HCV.out _ (box2_bel HW)) HQ.out.1 HQ.out.2.1 HQ.out.2.2.1).mono ?_; rintro e w' ⟨rfl, hb⟩; rw [HEN.out]; replace HW := HW.trans hb; clear hb; (try clear p0 p1 p2 g0 g1 gsz); obtain ⟨p0, p1, p2, g0, g1, gsz⟩ := pgbox HW)
        | (go_at_call 26; refine (awake14_any _).mono ?_; rintro e w' ⟨rfl, hb⟩; replace HW := HW.trans hb; clear hb; (try clear p0 p1 p2 g0 g1 gsz); obtain ⟨p0, p1, p2, g0, g1, gsz⟩ := pgbox HW))
      go_ret
      exact ⟨rfl, box2_bel HW⟩
    have hz1 : ((T : Int) == 0) = false := by simpa using h0
    have hz2 : (T == 0) = false := by simpa using h0
    have H0 := Lib.hid h0
    clear h0
    cases hin : indepF g T with
    | false =>
      clear hm
      go_enter Tryz.func6, Tryz.ntmps6
      go_wp2_with (first
        | (go_at_call 30; refine (sound_any _ p _ g _ c _ (HPV.out _ (box2_bel HW)) (HGV.out _ (box2_bel HW)) (HCV.out _ (box2_bel HW))).mono ?_; rintro e w' ⟨rfl, hb⟩; rw [hq]; replace HW := HW.trans hb; clear hb; (try clear p0 p1 p2 g0 g1 gsz); obtain ⟨p0, p1, p2, g0, g1, gsz⟩ := pgbox HW)
        | (go_at_call 31; refine (refEnabled_any _ p _ g _ c _ (HPV.out _ (box2_bel HW)) (HGV.out _ (box2_bel HW)) (HCV.out _ (box2_bel HW)) HQ.out.1 HQ.out.2.1 HQ.out.2.2.1).mono ?_; rintro e w' ⟨rfl, hb⟩; rw [HEN.out]; replace HW := HW.trans hb; clear hb; (try clear p0 p1 p2 g0 g1 gsz); obtain ⟨p0, p1, p2, g0, g1, gsz⟩ := pgbox HW)
        | (go_at_call 32; refine (refIndep_any _ g T _ (HGV.out _ (box2_bel HW)) HG.out HQ.out.2.1 HTL.out).mono ?_; rintro e w' ⟨rfl, hb⟩; rw [hin]; replace HW := HW.trans hb; clear hb; (try clear p0 p1 p2 g0 g1 gsz); obtain ⟨p0, p1, p2, g0, g1, gsz⟩ := pgbox HW)
        | (go_at_call 26; refine (awake14_any _).mono ?_; rintro e w' ⟨rfl, hb⟩; replace HW := HW.trans hb; clear hb; (try clear p0 p1 p2 g0 g1 gsz); obtain ⟨p0, p1, p2, g0, g1, gsz⟩ := pgbox HW))
      go_ret
      exact ⟨rfl, box2_bel HW⟩
    | true =>
      have hI := indepF_ok HTL.out hin
      have hen : ∀ v, T.testBit v = true → 0 ≤ firstF p.rules g c v := fun v hb => by
        have := within32_iff.1 HTW.out v (bit_lt HTL.out hb) hb
        rw [enabF_bit] at this
        simp at this
        exact this.2
      have HUP := Lib.hid (fun (i : Nat) hb => ser_up (i := i) hm hI hen hb)
      have HDN := Lib.hid (fun (k : Nat) hb => ser_down (k := k) hm hI hen hb)
      have HLT := Lib.hid (fun X => stepCF_light (p := p) (g := g) X (sound_parts hq).2.2.1)
      have hn0 : 0 < c.length := mem_pos14 hm
      clear hm
      go_enter Tryz.func6, Tryz.ntmps6
      go_wp2_with (first
        | (go_at_call 30; refine (sound_any _ p _ g _ c _ (HPV.out _ (box2_bel HW)) (HGV.out _ (box2_bel HW)) (HCV.out _ (box2_bel HW))).mono ?_; rintro e w' ⟨rfl, hb⟩; rw [hq]; replace HW := HW.trans hb; clear hb; (try clear p0 p1 p2 g0 g1 gsz); obtain ⟨p0, p1, p2, g0, g1, gsz⟩ := pgbox HW)
        | (go_at_call 31; refine (refEnabled_any _ p _ g _ c _ (HPV.out _ (box2_bel HW)) (HGV.out _ (box2_bel HW)) (HCV.out _ (box2_bel HW)) HQ.out.1 HQ.out.2.1 HQ.out.2.2.1).mono ?_; rintro e w' ⟨rfl, hb⟩; rw [HEN.out]; replace HW := HW.trans hb; clear hb; (try clear p0 p1 p2 g0 g1 gsz); obtain ⟨p0, p1, p2, g0, g1, gsz⟩ := pgbox HW)
        | (go_at_call 32; refine (refIndep_any _ g T _ (HGV.out _ (box2_bel HW)) HG.out HQ.out.2.1 HTL.out).mono ?_; rintro e w' ⟨rfl, hb⟩; rw [hin]; replace HW := HW.trans hb; clear hb; (try clear p0 p1 p2 g0 g1 gsz); obtain ⟨p0, p1, p2, g0, g1, gsz⟩ := pgbox HW)
        | (go_at_call 27; refine (stepOK_any _ p _ g _ c T c.length _ (HPV.out _ (box2_bel HW)) (HGV.out _ (box2_bel HW)) (HCV.out _ (box2_bel HW)) HQ.out.1 HQ.out.2.1 HQ.out.2.2.1 HQ.out.2.2.2 H0.out HTW.out HTL.out rfl).mono ?_; rintro e w5 ⟨AD, cd, rfl, hD, hb⟩; have HDV := Lib.hid (fun w2 (k : Bel w5 w2) => hD.keep k); clear hD; replace HW := HW.trans hb; clear hb; (try clear p0 p1 p2 g0 g1 gsz); obtain ⟨p0, p1, p2, g0, g1, gsz⟩ := pgbox HW; have HW2 := HW))
      have HU0 : Hid (ConfV w5 (.slice A5 c.length k5) (stepCF p g c (lowF T 0))) := by show ConfV _ _ _; rw [low_zero]; exact HCV.out _ (box2_bel HW2)
      have HD0 : Hid (ConfV w5 (.slice A5 c.length k5) (stepCF p g c (hiF T (c.length - 0)))) := by show ConfV _ _ _; rw [Nat.sub_zero, hi_zero]; exact HCV.out _ (box2_bel HW2)
      have HB0 := Bel.refl w5
      clear p0 p1 p2 g0 g1 gsz hband hz1 hz2 HW
      go_loopg [11, 12, 13, 14, 15, 16, 17, 18] c.length (fun m x y z _a _b _c _d _e wr => ∃ (i : Nat) (AU : Option Addr) (cu : Nat) (AW : Option Addr) (cw : Nat), i ≤ c.length ∧ m = c.length - i ∧ x = .slice AU c.length cu ∧ y = .slice AW c.length cw ∧ z = .int .i64 i ∧ Hid (ConfV wr (.slice AU c.length cu) (stepCF p g c (lowF T i))) ∧ Hid (ConfV wr (.slice AW c.length cw) (stepCF p g c (hiF T (c.length - i)))) ∧ Bel w5 wr)
      case atStart => exact ⟨0, A5, k5, A5, k5, by omega, rfl, rfl, rfl, rfl, HU0, HD0, HB0⟩
      case round =>
        clear HU0 HD0 HB0
        obtain ⟨i, AU, cu, AW, cw, hi, rfl, rfl, rfl, rfl, HU, HV, HB⟩ := hrel
        have HW := HW2.trans HB
        obtain ⟨p0, p1, p2, g0, g1, gsz⟩ := pgbox HW
        by_cases hlt : i < c.length
        · have hd0 : decide (i < c.length) = true := by simpa using hlt
          obtain ⟨k, hk⟩ : ∃ k, k = c.length - 1 - i := ⟨_, rfl⟩
          have hki : (c.length : Int) - 1 - (i : Int) = (k : Int) := by omega
          have hk1 : c.length - i = k + 1 := by omega
          have hk2 : c.length - (i + 1) = k := by omega
          have hkn : k < c.length := by omega
          have HK2 := Lib.hid hk2
          rw [hk1] at HV
          have HH1 := Lib.hid (has_node (S := T) (show i < 32 by omega))
          have HH2 := Lib.hid (has_node (S := T) (show k < 32 by omega))
          obtain ⟨B1, hB1⟩ : ∃ B : Nat, B = 2 ^ i := ⟨_, rfl⟩
          obtain ⟨B2, hB2⟩ : ∃ B : Nat, B = 2 ^ k := ⟨_, rfl⟩
          have hE1 : (2 : Int) ^ i % 4294967296 = (B1 : Int) := by rw [hB1]; exact two_pow_mod (by omega)
          have hE2 : (2 : Int) ^ k % 4294967296 = (B2 : Int) := by rw [hB2]; exact two_pow_mod (by omega)
          have HB1L : Hid (B1 < 4294967296) := by rw [hB1]; exact two_lt (by omega)
          have HB2L : Hid (B2 < 4294967296) := by rw [hB2]; exact two_lt (by omega)
          have HB1Z : Hid (B1 ≠ 0) := by rw [hB1]; exact Nat.pos_iff_ne_zero.1 (Nat.two_pow_pos i)
          have HB2Z : Hid (B2 ≠ 0) := by rw [hB2]; exact Nat.pos_iff_ne_zero.1 (Nat.two_pow_pos k)
          have HLN := Lib.hid (fun X => stepCF_length p g c X)
          have hX1 : Hid ((T.testBit i = true ∧ memF p g (stepCF p g c (lowF T i)) = 0 ∧ within32 B1 (enabF p g (stepCF p g c (lowF T i))) = true ∧ stepCF p g (stepCF p g c (lowF T i)) B1 = stepCF p g c (lowF T (i + 1))) ∨ (T.testBit i = false ∧ stepCF p g c (lowF T i) = stepCF p g c (lowF T (i + 1)))) := by
            show _ ∨ _
            cases hb : T.testBit i with
            | true => left; rw [hB1]; exact ⟨rfl, HUP.out i hb⟩
            | false => right; exact ⟨rfl, low_no hb⟩
          have hX2 : Hid ((T.testBit k = true ∧ memF p g (stepCF p g c (hiF T (k + 1))) = 0 ∧ within32 B2 (enabF p g (stepCF p g c (hiF T (k + 1)))) = true ∧ stepCF p g (stepCF p g c (hiF T (k + 1))) B2 = stepCF p g c (hiF T k)) ∨ (T.testBit k = false ∧ stepCF p g c (hiF T (k + 1)) = stepCF p g c (hiF T k))) := by
            show _ ∨ _
            cases hb : T.testBit k with
            | true => left; rw [hB2]; exact ⟨rfl, HDN.out k hb⟩
            | false => right; exact ⟨rfl, hi_no hb⟩
          clear hB1 hB2 hk hk1 hk2
          rcases hX1.out with ⟨b1, x1, x2, x3⟩ | ⟨b1, x3⟩ <;> rcases hX2.out with ⟨b2, y1, y2, y3⟩ | ⟨b2, y3⟩
          · have X1 := Lib.hid x1; have X2 := Lib.hid x2; have X3 := Lib.hid x3
            clear x1 x2 x3
            have Y1 := Lib.hid y1; have Y2 := Lib.hid y2; have Y3 := Lib.hid y3
            clear y1 y2 y3
            rw [b1] at HH1
            rw [b2] at HH2
            clear b1 b2 hX1 hX2
            go_wp2_with (first
              | (go_at_call 21; refine (has_any T _ _ HTL.out).mono ?_; rintro e w6 ⟨rfl, rfl⟩; first | rw [HH1.out] | rw [HH2.out])
              | (go_at_call 27; ((with_reducible refine (stepOK_any _ p _ g (.slice AU c.length cu) (stepCF p g c (lowF T i)) B1 c.length _ (HPV.out _ (box2_bel HW)) (HGV.out _ (box2_bel HW)) HU.out HQ.out.1 HQ.out.2.1 (HLT.out _) X1.out HB1Z.out X2.out HB1L.out (HLN.out _)).mono ?_); rintro e w6 ⟨AU2, cu2, rfl, hD, hb⟩; rw [X3.out] at hD; have HU2 := Lib.hid hD; replace HV := Lib.hid (ConfV.keep HV.out hb); replace HB := HB.trans hb; clear hD; replace HW := HW.trans hb; clear hb; (try clear p0 p1 p2 g0 g1 gsz); obtain ⟨p0, p1, p2, g0, g1, gsz⟩ := pgbox HW))
              | (go_at_call 27; ((with_reducible refine (stepOK_any _ p _ g (.slice AW c.length cw) (stepCF p g c (hiF T (k + 1))) B2 c.length _ (HPV.out _ (box2_bel HW)) (HGV.out _ (box2_bel HW)) HV.out HQ.out.1 HQ.out.2.1 (HLT.out _) Y1.out HB2Z.out Y2.out HB2L.out (HLN.out _)).mono ?_); rintro e w7 ⟨AW2, cw2, rfl, hD, hb⟩; rw [Y3.out] at hD; have HV2 := Lib.hid hD; replace HU2 := Lib.hid (ConfV.keep HU2.out hb); replace HB := HB.trans hb; clear hD; replace HW := HW.trans hb; clear hb; (try clear p0 p1 p2 g0 g1 gsz); obtain ⟨p0, p1, p2, g0, g1, gsz⟩ := pgbox HW)))
            clear p0 p1 p2 g0 g1 gsz
            go_roundg (c.length - (i + 1))
            case rel =>
              refine ⟨i + 1, AU2, cu2, AW2, cw2, by omega, rfl, rfl, rfl, by go_num, ?_, ?_, HB⟩
              · exact HU2
              · show ConfV _ _ _; rw [HK2.out]; exact HV2.out
            case measure => omega
          · have X1 := Lib.hid x1; have X2 := Lib.hid x2; have X3 := Lib.hid x3
            clear x1 x2 x3
            have Y3 := Lib.hid y3
            clear y3
            rw [b1] at HH1
            rw [b2] at HH2
            clear b1 b2 hX1 hX2
            go_wp2_with (first
              | (go_at_call 21; refine (has_any T _ _ HTL.out).mono ?_; rintro e w6 ⟨rfl, rfl⟩; first | rw [HH1.out] | rw [HH2.out])
              | (go_at_call 27; ((with_reducible refine (stepOK_any _ p _ g (.slice AU c.length cu) (stepCF p g c (lowF T i)) B1 c.length _ (HPV.out _ (box2_bel HW)) (HGV.out _ (box2_bel HW)) HU.out HQ.out.1 HQ.out.2.1 (HLT.out _) X1.out HB1Z.out X2.out HB1L.out (HLN.out _)).mono ?_); rintro e w6 ⟨AU2, cu2, rfl, hD, hb⟩; rw [X3.out] at hD; have HU2 := Lib.hid hD; replace HV := Lib.hid (ConfV.keep HV.out hb); replace HB := HB.trans hb; clear hD; replace HW := HW.trans hb; clear hb; (try clear p0 p1 p2 g0 g1 gsz); obtain ⟨p0, p1, p2, g0, g1, gsz⟩ := pgbox HW)))
            clear p0 p1 p2 g0 g1 gsz
            go_roundg (c.length - (i + 1))
            case rel =>
              refine ⟨i + 1, AU2, cu2, AW, cw, by omega, rfl, rfl, rfl, by go_num, ?_, ?_, HB⟩
              · exact HU2
              · show ConfV _ _ _; rw [HK2.out, ← Y3.out]; exact HV.out
            case measure => omega
          · have X3 := Lib.hid x3
            clear x3
            have Y1 := Lib.hid y1; have Y2 := Lib.hid y2; have Y3 := Lib.hid y3
            clear y1 y2 y3
            rw [b1] at HH1
            rw [b2] at HH2
            clear b1 b2 hX1 hX2
            go_wp2_with (first
              | (go_at_call 21; refine (has_any T _ _ HTL.out).mono ?_; rintro e w6 ⟨rfl, rfl⟩; first | rw [HH1.out] | rw [HH2.out])
              | (go_at_call 27; ((with_reducible refine (stepOK_any _ p _ g (.slice AW c.length cw) (stepCF p g c (hiF T (k + 1))) B2 c.length _ (HPV.out _ (box2_bel HW)) (HGV.out _ (box2_bel HW)) HV.out HQ.out.1 HQ.out.2.1 (HLT.out _) Y1.out HB2Z.out Y2.out HB2L.out (HLN.out _)).mono ?_); rintro e w7 ⟨AW2, cw2, rfl, hD, hb⟩; rw [Y3.out] at hD; have HV2 := Lib.hid hD; replace HU := Lib.hid (ConfV.keep HU.out hb); replace HB := HB.trans hb; clear hD; replace HW := HW.trans hb; clear hb; (try clear p0 p1 p2 g0 g1 gsz); obtain ⟨p0, p1, p2, g0, g1, gsz⟩ := pgbox HW)))
            clear p0 p1 p2 g0 g1 gsz
            go_roundg (c.length - (i + 1))
            case rel =>
              refine ⟨i + 1, AU, cu, AW2, cw2, by omega, rfl, rfl, rfl, by go_num, ?_, ?_, HB⟩
              · show ConfV _ _ _; rw [← X3.out]; exact HU.out
              · show ConfV _ _ _; rw [HK2.out]; exact HV2.out
            case measure => omega
          · have X3 := Lib.hid x3
            clear x3
            have Y3 := Lib.hid y3
            clear y3
            rw [b1] at HH1
            rw [b2] at HH2
            clear b1 b2 hX1 hX2
            go_wp2_with (first
              | (go_at_call 21; refine (has_any T _ _ HTL.out).mono ?_; rintro e w6 ⟨rfl, rfl⟩; first | rw [HH1.out] | rw [HH2.out]))
            clear p0 p1 p2 g0 g1 gsz
            go_roundg (c.length - (i + 1))
            case rel =>
              refine ⟨i + 1, AU, cu, AW, cw, by omega, rfl, rfl, rfl, by go_num, ?_, ?_, HB⟩
              · show ConfV _ _ _; rw [← X3.out]; exact HU.out
              · show ConfV _ _ _; rw [HK2.out, ← Y3.out]; exact HV.out
            case measure => omega
        · have hd0 : decide (i < c.length) = false := by simpa using hlt
          obtain rfl : i = c.length := by omega
          have hU := HU.out
          have hV := HV.out
          rw [low_full] at hU
          rw [Nat.sub_self, hi_full] at hV
          have HU2 := Lib.hid (fun w2 (k : Bel wr w2) => ConfV.keep hU k)
          have HV2 := Lib.hid (fun w2 (k : Bel wr w2) => ConfV.keep hV k)
          have HD2 := Lib.hid (fun w2 (k : Bel wr w2) => HDV.out w2 (HB.trans k))
          have HL := Lib.hid (lightC_parts (HLT.out T))
          have HBR := Bel.refl wr
          clear hU hV
          go_wp2_with (first
            | (go_at_call 26; refine (awake14_any _).mono ?_; rintro e w8 ⟨rfl, hb⟩; replace HW := HW.trans hb; replace HBR := HBR.trans hb; clear hb)
            | (go_at_call 29; ((with_reducible refine (refSame_any (.slice AD c.length cd) (.slice AU c.length cu) (stepCF p g c T) (stepCF p g c T) _ (HD2.out _ HBR) (HU2.out _ HBR) (Nat.le_trans HL.out.1 (by omega)) (fun r hr => Nat.le_trans (HL.out.2 r hr) (by omega))).mono ?_); rintro e w8 ⟨rfl, hb⟩; rw [decide_eq_true rfl]; replace HW := HW.trans hb; replace HBR := HBR.trans hb; clear hb))
            | (go_at_call 29; ((with_reducible refine (refSame_any (.slice AD c.length cd) (.slice AW c.length cw) (stepCF p g c T) (stepCF p g c T) _ (HD2.out _ HBR) (HV2.out _ HBR) (Nat.le_trans HL.out.1 (by omega)) (fun r hr => Nat.le_trans (HL.out.2 r hr) (by omega))).mono ?_); rintro e w8 ⟨rfl, hb⟩; rw [decide_eq_true rfl]; replace HW := HW.trans hb; replace HBR := HBR.trans hb; clear hb)))
          go_ret
          exact ⟨rfl, box2_bel HW⟩

end Go.Proofs.YtibfjhhadbkkgaaGreat

