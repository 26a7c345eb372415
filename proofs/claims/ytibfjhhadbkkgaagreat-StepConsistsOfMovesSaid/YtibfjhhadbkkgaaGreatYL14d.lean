/- Merged of: L14d (see NOTES.md). -/
import Derived.Test.YtibfjhhadbkkgaaGreatZ23
set_option linter.unusedSimpArgs false
set_option linter.unnecessarySimpa false
set_option linter.unusedVariables false

/- The walk of StepConsistsOfMoves. -/
namespace Go.Proofs.YtibfjhhadbkkgaaGreat
open Go.RowKit

set_option maxRecDepth 100000 in
set_option maxHeartbeats 8000000 in
theorem stepConsists_walk (v1 : Value) (p : Prg) (v2 : Value) (g : Graph) (v3 : Value) (c : Config) (S : Nat) (w : World) (h : PrgV w v1 p) (h2 : GraphV w v2 g) (h3 : ConfV w v3 c) (hS : S < 4294967296) :
    Calls Tryz.prog 10 #[v1, v2, v3, .int .u32 (S : Int)] w fun e w' => e = .returned (.bool true) ∧ Bel w w' := by
  have hRC : ∃ A k, v3 = .slice A c.length k ∧ RowsR w A c.length c := by
    obtain ⟨A, k, e, hR, _⟩ := h3
    exact ⟨A, k, e, hR⟩
  obtain ⟨A5r, k5r, eC, hRC⟩ := hRC
  have HPV := Lib.hid (fun w' (k : Bel w w') => h.keep k)
  have HGV := Lib.hid (fun w' (k : Bel w w') => h2.keep k)
  have HCV := Lib.hid (fun w' (k : Bel w w') => h3.keep k)
  obtain ⟨A1, k1, A2, k2, rfl, _, _, _, _, _, _⟩ := h
  obtain ⟨A3, k3, A4, k4, rfl, _, _, _, _, _, _⟩ := h2
  obtain ⟨A5, k5, rfl, _, _, _⟩ := h3
  have HW := Bel.refl ((w.alloc (.cells #[.string p.name, .slice A1 p.vars.length k1, .slice A2 p.rules.length k2] 25)).alloc (.cells #[.slice A3 g.ids.length k3, .slice A4 g.ports.length k4] 29))
  obtain ⟨rfl, rfl⟩ : A5 = A5r ∧ k5 = k5r := by simpa using eC
  have HRC := Lib.hid (fun w' (k : Bel w w') => RowsR.keep hRC k)
  clear eC hRC
  cases hq : soundF p g c with
  | false =>
    clear hS
    go_enter Tryz.func10, Tryz.ntmps10
    go_wp2_with (first
      | (go_at_call 30; refine (sound_any _ p _ g _ c _ (HPV.out _ (box2_bel HW)) (HGV.out _ (box2_bel HW)) (HCV.out _ (box2_bel HW))).mono ?_; rintro e w' ⟨rfl, hb⟩; rw [hq]; replace HW := HW.trans hb; clear hb; (try clear p0 p1 p2 g0 g1 gsz); obtain ⟨p0, p1, p2, g0, g1, gsz⟩ := pgbox HW)
      | (go_at_call 26; refine (awake14_any _).mono ?_; rintro e w' ⟨rfl, hb⟩; replace HW := HW.trans hb; clear hb; (try clear p0 p1 p2 g0 g1 gsz); obtain ⟨p0, p1, p2, g0, g1, gsz⟩ := pgbox HW))
    go_ret
    exact ⟨rfl, box2_bel HW⟩
  | true =>
    have HQ := Lib.hid (sound_parts hq)
    have hm := (sound_parts hq).2.2.2
    have HEN := Lib.hid (enabledF_ok hm)
    have hle : c.length ≤ 24 := by rw [conf_len hm]; exact (fits_zero (mem_zero hm).1).2.1.le
    have hband := bits_and hS (enabF_lt hm)
    obtain ⟨T, hT⟩ : ∃ T, T = S &&& enabF p g c := ⟨_, rfl⟩
    have HTW : Hid (within32 T (enabF p g c) = true) := by rw [hT]; exact and_within _ _
    have HTL : Hid (T < 4294967296) := by rw [hT]; exact Nat.and_lt_two_pow (n := 32) S (enabF_lt hm)
    rw [← hT] at hband
    clear hT hS
    by_cases h0 : T = 0
    · subst h0
      clear hm
      go_enter Tryz.func10, Tryz.ntmps10
      go_wp2_with (first
        | (go_at_call 30; refine (sound_any _ p _ g _ c _ (HPV.out _ (box2_bel HW)) (HGV.out _ (box2_bel HW)) (HCV.out _ (box2_bel HW))).mono ?_; rintro e w' ⟨rfl, hb⟩; rw [hq]; replace HW := HW.trans hb; clear hb; (try clear p0 p1 p2 g0 g1 gsz); obtain ⟨p0, p1, p2, g0, g1, gsz⟩ := pgbox HW)
        | (go_at_call 31; refine (refEnabled_any _ p _ g _ c _ (HPV.out _ (box2_bel HW)) (HGV.out _ (box2_bel HW)) (HCV.out _ (box2_bel HW)) HQ.out.1 HQ.out.2.1 HQ.out.2.2.1).mono ?_; rintro e w' ⟨rfl, hb⟩; rw [HEN.out]; replace HW := HW.trans hb; clear hb; (try clear p0 p1 p2 g0 g1 gsz); obtain ⟨p0, p1, p2, g0, g1, gsz⟩ := pgbox HW)
        | (go_at_call 27; refine (stepZero_any _ p _ g _ c _ (HPV.out _ (box2_bel HW)) (HGV.out _ (box2_bel HW)) (HCV.out _ (box2_bel HW)) HQ.out.1 HQ.out.2.1 HQ.out.2.2.1 HQ.out.2.2.2).mono ?_; rintro e w' ⟨⟨R, rc, rfl⟩, hb⟩; replace HW := HW.trans hb; clear hb; (try clear p0 p1 p2 g0 g1 gsz); obtain ⟨p0, p1, p2, g0, g1, gsz⟩ := pgbox HW)
        | (go_at_call 26; refine (awake14_any _).mono ?_; rintro e w' ⟨rfl, hb⟩; replace HW := HW.trans hb; clear hb; (try clear p0 p1 p2 g0 g1 gsz); obtain ⟨p0, p1, p2, g0, g1, gsz⟩ := pgbox HW))
      go_ret
      exact ⟨rfl, box2_bel HW⟩
    · have hz1 : ((T : Int) == 0) = false := by simpa using h0
      have hz2 : (T == 0) = false := by simpa using h0
      have H0 := Lib.hid h0
      have HFI : Hid (∀ v, v < c.length → T.testBit v = true → 0 ≤ firstF p.rules g c v) := fun v hv hb => by
        have := within32_iff.1 HTW.out v (by omega) hb
        rw [enabF_bit] at this
        simp at this
        exact this.2
      have HDM : Hid (decide (memF p g (stepCF p g c T) = 0) = true) := decide_eq_true (step_mem hm HFI.out)
      have HDL := Lib.hid (stepCF_light (p := p) (g := g) T (sound_parts hq).2.2.1)
      have HROW := Lib.hid (fun (v : Nat) (hv : v < c.length) => light_row (sound_parts hq).2.2.1 v)
      have hcc : (c.length != c.length) = false := by simp
      clear h0 hm
      go_enter Tryz.func10, Tryz.ntmps10
      go_wp2_with (first
        | (go_at_call 30; refine (sound_any _ p _ g _ c _ (HPV.out _ (box2_bel HW)) (HGV.out _ (box2_bel HW)) (HCV.out _ (box2_bel HW))).mono ?_; rintro e w' ⟨rfl, hb⟩; rw [hq]; replace HW := HW.trans hb; clear hb; (try clear p0 p1 p2 g0 g1 gsz); obtain ⟨p0, p1, p2, g0, g1, gsz⟩ := pgbox HW)
        | (go_at_call 31; refine (refEnabled_any _ p _ g _ c _ (HPV.out _ (box2_bel HW)) (HGV.out _ (box2_bel HW)) (HCV.out _ (box2_bel HW)) HQ.out.1 HQ.out.2.1 HQ.out.2.2.1).mono ?_; rintro e w' ⟨rfl, hb⟩; rw [HEN.out]; replace HW := HW.trans hb; clear hb; (try clear p0 p1 p2 g0 g1 gsz); obtain ⟨p0, p1, p2, g0, g1, gsz⟩ := pgbox HW)
        | (go_at_call 27; refine (stepOK_any _ p _ g _ c T c.length _ (HPV.out _ (box2_bel HW)) (HGV.out _ (box2_bel HW)) (HCV.out _ (box2_bel HW)) HQ.out.1 HQ.out.2.1 HQ.out.2.2.1 HQ.out.2.2.2 H0.out HTW.out HTL.out rfl).mono ?_; rintro e w' ⟨AD, cd, rfl, hD, hb⟩; have HDV := Lib.hid (fun w2 (k : Bel w' w2) => hD.keep k); clear hD; have HB := Bel.refl w'; replace HW := HW.trans hb; clear hb; (try clear p0 p1 p2 g0 g1 gsz); obtain ⟨p0, p1, p2, g0, g1, gsz⟩ := pgbox HW; have HW2 := HW)
        | (go_at_call 16; refine (refMemValid_any _ p _ g _ (stepCF p g c T) _ (HPV.out _ (box2_bel HW)) (HGV.out _ (box2_bel HW)) (HDV.out _ HB) HQ.out.1 HQ.out.2.1 HDL.out).mono ?_; rintro e w3 ⟨rfl, hb⟩; rw [HDM.out]; replace HB := HB.trans hb; replace HW := HW.trans hb; clear hb; (try clear p0 p1 p2 g0 g1 gsz); obtain ⟨p0, p1, p2, g0, g1, gsz⟩ := pgbox HW))
      clear p0 p1 p2 g0 g1 gsz hcc hz1 hz2 hband
      go_loopg [11, 12, 13] c.length (fun m x _y _z wr => ∃ v : Nat, v ≤ c.length ∧ m = c.length - v ∧ x = .int .i64 v ∧ Bel w' wr)
      case atStart => exact ⟨0, by omega, rfl, rfl, HB⟩
      case round =>
        clear HB HW
        obtain ⟨v, hv, rfl, rfl, HB⟩ := hrel
        have HW := HW2.trans HB
        obtain ⟨p0, p1, p2, g0, g1, gsz⟩ := pgbox HW
        by_cases hlt : v < c.length
        · have hd0 : decide (v < c.length) = true := by simpa using hlt
          have hhas := has_node (S := T) (show v < 32 by omega)
          have HHAS := Lib.hid hhas
          obtain ⟨AD', cd', eD, hRD, _, _⟩ := HDV.out _ (Bel.refl _)
          have eD' : AD = AD' := by simp at eD; exact eD.1
          subst eD'
          have hDv : v < (stepCF p g c T).length := by rw [stepCF_length]; exact hlt
          obtain ⟨bC, oC, RC, rC, eA, hbC, qC, iC, _, _⟩ := (HRC.out _ (Bel.refl w)).at_ v hlt
          subst eA
          have e1 := stepCF_at p g c T hlt
          have hrow := HROW.out v hlt
          have HRL := Lib.hid (getD_eq (d := []) hlt)
          rw [getD_eq hlt] at hrow
          have IC := Lib.hid (fun w2 (k : Bel w w2) => iC.keep k)
          cases hb : T.testBit v with
          | true =>
            rw [hb, if_pos rfl] at e1
            obtain ⟨bD, oD, RD, rD, eA, hbD, qD, iD, _, _⟩ := hRD.get hDv e1
            subst eA
            have HF := Lib.hid (HFI.out v hlt hb)
            rw [hb] at HHAS
            have HML : Hid ((moveF p g c v).length = c[v].length) := by show _ = _; rw [moveF_len, getD_eq hlt]
            have ID := Lib.hid (fun w2 (k : Bel w' w2) => iD.keep k)
            have hQD := Lib.hid (fun w2 (k : Bel w' w2) => (k.cell hbD).trans qD)
            clear e1 qD iD iC qC hb hRD hhas hDv eD
            go_wp2_with (first
              | (go_at_call 37; refine (moveOK_any _ p _ g _ c v c[v].length _ (HPV.out _ (box2_bel HW)) (HGV.out _ (box2_bel HW)) (HCV.out _ (box2_bel HW)) HQ.out.1 HQ.out.2.1 HQ.out.2.2.1 HQ.out.2.2.2 hlt HF.out (by rw [HRL.out])).mono ?_; rintro e w3 ⟨RM, rM, rfl, hM, hb⟩; have HM := Lib.hid hM; replace HB := HB.trans hb; clear hM; replace HW := HW.trans hb; clear hb; (try clear p0 p1 p2 g0 g1 gsz); obtain ⟨p0, p1, p2, g0, g1, gsz⟩ := pgbox HW; have qD2 := hQD.out _ HB; have hbD2 := Nat.lt_of_lt_of_le hbD HB.size)
              | (go_at_call 21; refine (has_any T _ _ HTL.out).mono ?_; rintro e w4 ⟨rfl, rfl⟩; rw [HHAS.out])
              | (go_at_call 39; refine (sameYes_any _ _ (moveF p g c v) _ _ _ _ _ HM.out (ID.out _ HB) (by omega)).mono ?_; rintro e w4 ⟨rfl, hb⟩; replace HB := HB.trans hb; clear qD2 hbD2; replace HW := HW.trans hb; clear hb; (try clear p0 p1 p2 g0 g1 gsz); obtain ⟨p0, p1, p2, g0, g1, gsz⟩ := pgbox HW))
            clear p0 p1 p2 g0 g1 gsz
            go_roundg (c.length - (v + 1))
            case rel => exact ⟨v + 1, by omega, rfl, by go_num, HB⟩
            case measure => omega
          | false =>
            rw [hb, if_neg (by decide), getD_eq hlt] at e1
            obtain ⟨bD, oD, RD, rD, eA, hbD, qD, iD, _, _⟩ := hRD.get hDv e1
            subst eA
            rw [hb] at HHAS
            have ID := Lib.hid (fun w2 (k : Bel w' w2) => iD.keep k)
            have hQD := Lib.hid (fun w2 (k : Bel w' w2) => (k.cell hbD).trans qD)
            clear e1 qD iD iC hb hRD hhas hDv eD
            go_wp2_with (first
              | (go_at_call 37; refine (moveEither_any _ p _ g _ c v _ (HPV.out _ (box2_bel HW)) (HGV.out _ (box2_bel HW)) (HCV.out _ (box2_bel HW)) HQ.out.1 HQ.out.2.1 HQ.out.2.2.1).mono ?_; rintro e w3 ⟨⟨RM, nM, rM, fM, rfl⟩, hb⟩; replace HB := HB.trans hb; replace HW := HW.trans hb; clear hb; (try clear p0 p1 p2 g0 g1 gsz); obtain ⟨p0, p1, p2, g0, g1, gsz⟩ := pgbox HW; have qD2 := hQD.out _ HB; have hbD2 := Nat.lt_of_lt_of_le hbD HB.size; have qC2 := ((box2_bel HW).cell hbC).trans qC; have hbC2 := Nat.lt_of_lt_of_le hbC (box2_bel HW).size)
              | (go_at_call 21; refine (has_any T _ _ HTL.out).mono ?_; rintro e w4 ⟨rfl, rfl⟩; rw [HHAS.out])
              | (go_at_call 39; refine (sameYes_any _ _ c[v] _ _ _ _ _ (IC.out _ (box2_bel HW)) (ID.out _ HB) (by omega)).mono ?_; rintro e w4 ⟨rfl, hb⟩; replace HB := HB.trans hb; clear qD2 hbD2 qC2 hbC2; replace HW := HW.trans hb; clear hb; (try clear p0 p1 p2 g0 g1 gsz); obtain ⟨p0, p1, p2, g0, g1, gsz⟩ := pgbox HW))
            clear p0 p1 p2 g0 g1 gsz
            go_roundg (c.length - (v + 1))
            case rel => exact ⟨v + 1, by omega, rfl, by go_num, HB⟩
            case measure => omega
        · have hd0 : decide (v < c.length) = false := by simpa using hlt
          go_wp2_with (go_at_call 26; refine (awake14_any _).mono ?_; rintro e w' ⟨rfl, hb⟩; replace HW := HW.trans hb; clear hb; (try clear p0 p1 p2 g0 g1 gsz); obtain ⟨p0, p1, p2, g0, g1, gsz⟩ := pgbox HW)
          go_ret
          exact ⟨rfl, box2_bel HW⟩

end Go.Proofs.YtibfjhhadbkkgaaGreat

