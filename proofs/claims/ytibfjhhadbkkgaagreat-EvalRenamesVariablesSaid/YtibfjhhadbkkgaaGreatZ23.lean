/- Merged of: WSh WSj WSi WSk (see NOTES.md). -/
import Derived.Test.YtibfjhhadbkkgaaGreatZ22
import Derived.Test.YtibfjhhadbkkgaaGreatZ18
set_option linter.unusedSimpArgs false
set_option linter.unnecessarySimpa false
set_option linter.unusedVariables false

/- Contracts: the reference's Move and Step. -/
namespace Go.Proofs.YtibfjhhadbkkgaaGreat
open Go.RowKit

set_option maxRecDepth 100000 in
set_option maxHeartbeats 4000000 in
theorem refMove_any (v1 : Value) (p : Prg) (v2 : Value) (g : Graph) (v3 : Value) (c : Config) (v : Int) (w : World) (h : PrgV w v1 p) (h2 : GraphV w v2 g) (h3 : ConfV w v3 c) (hL : lightP p = true) (hG : lightG g = true) (hC : lightC c = true) :
    Calls Tryz.prog 38 #[v1, v2, v3, .int .i64 v] w (RetMove (moveRF p g c v) w) := by
  have HPV := Lib.hid (fun w' (k : Bel w w') => h.keep k)
  have HGV := Lib.hid (fun w' (k : Bel w w') => h2.keep k)
  have HCV := Lib.hid (fun w' (k : Bel w w') => h3.keep k)
  obtain ⟨A1, k1, A2, k2, rfl, _, _, _, _, _, _⟩ := h
  obtain ⟨A3, k3, A4, k4, rfl, _, _, _, _, _, _⟩ := h2
  obtain ⟨A5, k5, rfl, _, _, _⟩ := h3
  have HW := Bel.refl ((w.alloc (.cells #[.string p.name, .slice A1 p.vars.length k1, .slice A2 p.rules.length k2] 25)).alloc (.cells #[.slice A3 g.ids.length k3, .slice A4 g.ports.length k4] 29))
  have HL := Lib.hid hL
  have HGL := Lib.hid hG
  have HCL := Lib.hid hC
  clear hL hG hC
  have HF : Hid (moveRF p g c v = if memF p g c ≠ 0 then ([], memF p g c) else if ¬ (0 ≤ v ∧ v ≤ (c.length : Int) - 1) then ([], 2) else if firstF p.rules g c v.toNat < 0 then ([], 11) else (moveF p g c v.toNat, 0)) := rfl
  have HN : Hid (∀ w', NewI w' w.heap.size none 0 []) := fun w' => NewI.nil _ _
  have hc30 := (lightC_parts HCL.out).1
  by_cases hm : memF p g c = 0
  · rw [if_neg (by simpa using hm)] at HF
    have HM := Lib.hid hm
    have hpos := mem_pos14 hm
    clear hm
    by_cases hv : 0 ≤ v ∧ v ≤ (c.length : Int) - 1
    · have hd : inB v 0 ((c.length : Int) - 1) = true := inB_iff.2 hv
      rw [if_neg (by simpa using hv)] at HF
      obtain ⟨q, rfl⟩ := Int.eq_ofNat_of_zero_le hv.1
      rw [Int.toNat_natCast] at HF
      have HQ := Lib.hid (show q < c.length by omega)
      have HK := Lib.hid (mem_sok HM.out HQ.out)
      clear hv
      by_cases hf : firstF p.rules g c q < 0
      · rw [if_pos hf] at HF
        have hd3 : decide (firstF p.rules g c q < 0) = true := by simpa using hf
        clear hf
        go_enter Tryz.func38, Tryz.ntmps38
        go_wp2_with (first
          | (go_at_call 46; refine (refMemCheck_any _ p _ g _ c _ (HPV.out _ (box2_bel HW)) (HGV.out _ (box2_bel HW)) (HCV.out _ (box2_bel HW)) HL.out HGL.out HCL.out).mono ?_; rintro e w' ⟨rfl, hb⟩; rw [HM.out]; replace HW := HW.trans hb; clear hb; (try clear p0 p1 p2 g0 g1 gsz); obtain ⟨p0, p1, p2, g0, g1, gsz⟩ := pgbox HW)
          | (go_at_call 69; refine (in01_any _ _ _ _).mono ?_; rintro e w' ⟨rfl, rfl⟩; rw [hd])
          | (go_at_call 70; refine (refFirst_any _ p _ g _ c q _ (HPV.out _ (box2_bel HW)) (HGV.out _ (box2_bel HW)) (HCV.out _ (box2_bel HW)) HK.out HL.out).mono ?_; rintro e w' ⟨rfl, hb⟩; replace HW := HW.trans hb; clear hb; (try clear p0 p1 p2 g0 g1 gsz); obtain ⟨p0, p1, p2, g0, g1, gsz⟩ := pgbox HW))
        go_ret2
        rw [HF.out]
        exact ⟨none, 0, rfl, HN.out _, box2_bel HW⟩
      · rw [if_neg hf] at HF
        have hd3 : decide (firstF p.rules g c q < 0) = false := by simpa using hf
        have HEN := Lib.hid (show 0 ≤ firstF p.rules g c q by omega)
        clear hf
        go_enter Tryz.func38, Tryz.ntmps38
        go_wp2_with (first
          | (go_at_call 46; refine (refMemCheck_any _ p _ g _ c _ (HPV.out _ (box2_bel HW)) (HGV.out _ (box2_bel HW)) (HCV.out _ (box2_bel HW)) HL.out HGL.out HCL.out).mono ?_; rintro e w' ⟨rfl, hb⟩; rw [HM.out]; replace HW := HW.trans hb; clear hb; (try clear p0 p1 p2 g0 g1 gsz); obtain ⟨p0, p1, p2, g0, g1, gsz⟩ := pgbox HW)
          | (go_at_call 69; refine (in01_any _ _ _ _).mono ?_; rintro e w' ⟨rfl, rfl⟩; rw [hd])
          | (go_at_call 70; refine (refFirst_any _ p _ g _ c q _ (HPV.out _ (box2_bel HW)) (HGV.out _ (box2_bel HW)) (HCV.out _ (box2_bel HW)) HK.out HL.out).mono ?_; rintro e w' ⟨rfl, hb⟩; replace HW := HW.trans hb; clear hb; (try clear p0 p1 p2 g0 g1 gsz); obtain ⟨p0, p1, p2, g0, g1, gsz⟩ := pgbox HW)
          | (go_at_call 65; refine (refMoveI_any _ p _ g _ c q _ (HPV.out _ (box2_bel HW)) (HGV.out _ (box2_bel HW)) (HCV.out _ (box2_bel HW)) HM.out HQ.out HEN.out HL.out HGL.out HCL.out).mono ?_; rintro e w' ⟨R, rc, rfl, hN, hb⟩; have HNI := Lib.hid (hN.lower (B' := w.heap.size) (by have := (box2_bel HW).size; omega)); clear hN; replace HW := HW.trans hb; clear hb; (try clear p0 p1 p2 g0 g1 gsz); obtain ⟨p0, p1, p2, g0, g1, gsz⟩ := pgbox HW))
        go_ret2
        rw [HF.out]
        exact ⟨R, rc, rfl, HNI.out, box2_bel HW⟩
    · have hd : inB v 0 ((c.length : Int) - 1) = false := inB_false (by omega)
      rw [if_pos hv] at HF
      clear hv
      go_enter Tryz.func38, Tryz.ntmps38
      go_wp2_with (first
        | (go_at_call 46; refine (refMemCheck_any _ p _ g _ c _ (HPV.out _ (box2_bel HW)) (HGV.out _ (box2_bel HW)) (HCV.out _ (box2_bel HW)) HL.out HGL.out HCL.out).mono ?_; rintro e w' ⟨rfl, hb⟩; rw [HM.out]; replace HW := HW.trans hb; clear hb; (try clear p0 p1 p2 g0 g1 gsz); obtain ⟨p0, p1, p2, g0, g1, gsz⟩ := pgbox HW)
        | (go_at_call 69; refine (in01_any _ _ _ _).mono ?_; rintro e w' ⟨rfl, rfl⟩; rw [hd]))
      go_ret2
      rw [HF.out]
      exact ⟨none, 0, rfl, HN.out _, box2_bel HW⟩
  · rw [if_pos hm] at HF
    have hmb : (memF p g c != 0) = true := by simpa using hm
    clear hm
    go_enter Tryz.func38, Tryz.ntmps38
    go_wp2_with (go_at_call 46; refine (refMemCheck_any _ p _ g _ c _ (HPV.out _ (box2_bel HW)) (HGV.out _ (box2_bel HW)) (HCV.out _ (box2_bel HW)) HL.out HGL.out HCL.out).mono ?_; rintro e w' ⟨rfl, hb⟩; replace HW := HW.trans hb; clear hb; (try clear p0 p1 p2 g0 g1 gsz); obtain ⟨p0, p1, p2, g0, g1, gsz⟩ := pgbox HW)
    go_ret2
    rw [HF.out]
    exact ⟨none, 0, rfl, HN.out _, box2_bel HW⟩

set_option maxRecDepth 100000 in
set_option maxHeartbeats 4000000 in
theorem refStep_any (v1 : Value) (p : Prg) (v2 : Value) (g : Graph) (v3 : Value) (c : Config) (S : Nat) (w : World) (h : PrgV w v1 p) (h2 : GraphV w v2 g) (h3 : ConfV w v3 c) (hL : lightP p = true) (hG : lightG g = true) (hC : lightC c = true) (hS : S < 4294967296) :
    Calls Tryz.prog 28 #[v1, v2, v3, .int .u32 (S : Int)] w (RetStep (stepRF p g c S) w) := by
  have HPV := Lib.hid (fun w' (k : Bel w w') => h.keep k)
  have HGV := Lib.hid (fun w' (k : Bel w w') => h2.keep k)
  have HCV := Lib.hid (fun w' (k : Bel w w') => h3.keep k)
  obtain ⟨A1, k1, A2, k2, rfl, _, _, _, _, _, _⟩ := h
  obtain ⟨A3, k3, A4, k4, rfl, _, _, _, _, _, _⟩ := h2
  obtain ⟨A5, k5, rfl, _, _, _⟩ := h3
  have HW := Bel.refl ((w.alloc (.cells #[.string p.name, .slice A1 p.vars.length k1, .slice A2 p.rules.length k2] 25)).alloc (.cells #[.slice A3 g.ids.length k3, .slice A4 g.ports.length k4] 29))
  have HL := Lib.hid hL
  have HGL := Lib.hid hG
  have HCL := Lib.hid hC
  clear hL hG hC
  have HF : Hid (stepRF p g c S = if memF p g c ≠ 0 then ([], memF p g c) else if S = 0 ∨ within32 S (enabF p g c) = false then ([], 11) else (stepCF p g c S, 0)) := rfl
  have HN : Hid (∀ w', ConfV w' (.slice none 0 0) []) := fun w' => ConfV.nil _
  have HS := Lib.hid hS
  clear hS
  by_cases hm : memF p g c = 0
  · rw [if_neg (by simpa using hm)] at HF
    have HM := Lib.hid hm
    have hle : c.length ≤ 24 := by rw [conf_len hm]; exact (fits_zero (mem_zero hm).1).2.1.le
    have HD := Lib.hid (diffF_zero (T := enabF p g c) HS.out)
    have HP := Lib.hid (mem_pos14 hm)
    clear hm
    by_cases h0 : S = 0
    · subst h0
      rw [if_pos (.inl rfl)] at HF
      go_enter Tryz.func28, Tryz.ntmps28
      go_wp2_with (go_at_call 46; refine (refMemCheck_any _ p _ g _ c _ (HPV.out _ (box2_bel HW)) (HGV.out _ (box2_bel HW)) (HCV.out _ (box2_bel HW)) HL.out HGL.out HCL.out).mono ?_; rintro e w' ⟨rfl, hb⟩; rw [HM.out]; replace HW := HW.trans hb; clear hb; (try clear p0 p1 p2 g0 g1 gsz); obtain ⟨p0, p1, p2, g0, g1, gsz⟩ := pgbox HW)
      go_ret2
      rw [HF.out]
      exact ⟨none, 0, rfl, HN.out _, box2_bel HW⟩
    · have hs0 : ((S : Int) == 0) = false := by simpa using h0
      have hs0' : (S == 0) = false := by simpa using h0
      have hbn := bits_andNot S (enabF p g c)
      cases hwi : within32 S (enabF p g c) with
      | false =>
        rw [if_pos (.inr hwi)] at HF
        rw [hwi] at HD
        have hz : ((diffF S (enabF p g c) : Int) != 0) = true := by have := HD.out; simp at this ⊢; omega
        have hz' : (diffF S (enabF p g c) != 0) = true := by have := HD.out; simp at this ⊢; omega
        clear h0 hwi
        go_enter Tryz.func28, Tryz.ntmps28
        go_wp2_with (first
          | (go_at_call 46; refine (refMemCheck_any _ p _ g _ c _ (HPV.out _ (box2_bel HW)) (HGV.out _ (box2_bel HW)) (HCV.out _ (box2_bel HW)) HL.out HGL.out HCL.out).mono ?_; rintro e w' ⟨rfl, hb⟩; rw [HM.out]; replace HW := HW.trans hb; clear hb; (try clear p0 p1 p2 g0 g1 gsz); obtain ⟨p0, p1, p2, g0, g1, gsz⟩ := pgbox HW)
          | (go_at_call 64; refine (refEnab_any _ p _ g _ c _ (HPV.out _ (box2_bel HW)) (HGV.out _ (box2_bel HW)) (HCV.out _ (box2_bel HW)) HM.out HL.out).mono ?_; rintro e w' ⟨rfl, hb⟩; replace HW := HW.trans hb; clear hb; (try clear p0 p1 p2 g0 g1 gsz); obtain ⟨p0, p1, p2, g0, g1, gsz⟩ := pgbox HW))
        go_ret2
        rw [HF.out]
        exact ⟨none, 0, rfl, HN.out _, box2_bel HW⟩
      | true =>
        rw [if_neg (by rw [hwi]; simpa using h0)] at HF
        rw [hwi] at HD
        have hz : ((diffF S (enabF p g c) : Int) != 0) = false := by have := HD.out; simp at this ⊢; omega
        have hz' : (diffF S (enabF p g c) != 0) = false := by have := HD.out; simp at this ⊢; omega
        have HEN : Hid (∀ v, v < c.length → S.testBit v = true → 0 ≤ firstF p.rules g c v) := fun v hv hb => by
          have := within32_iff.1 hwi v (by omega) hb
          rw [enabF_bit] at this
          simp at this
          exact this.2
        clear h0 hwi
        go_enter Tryz.func28, Tryz.ntmps28
        go_wp2_with (first
          | (go_at_call 46; refine (refMemCheck_any _ p _ g _ c _ (HPV.out _ (box2_bel HW)) (HGV.out _ (box2_bel HW)) (HCV.out _ (box2_bel HW)) HL.out HGL.out HCL.out).mono ?_; rintro e w' ⟨rfl, hb⟩; rw [HM.out]; replace HW := HW.trans hb; clear hb; (try clear p0 p1 p2 g0 g1 gsz); obtain ⟨p0, p1, p2, g0, g1, gsz⟩ := pgbox HW)
          | (go_at_call 64; refine (refEnab_any _ p _ g _ c _ (HPV.out _ (box2_bel HW)) (HGV.out _ (box2_bel HW)) (HCV.out _ (box2_bel HW)) HM.out HL.out).mono ?_; rintro e w' ⟨rfl, hb⟩; replace HW := HW.trans hb; clear hb; (try clear p0 p1 p2 g0 g1 gsz); obtain ⟨p0, p1, p2, g0, g1, gsz⟩ := pgbox HW)
          | (go_at_call 20; refine (refCopy_any _ c _ (HCV.out _ (box2_bel HW)) HCL.out HP.out).mono ?_; rintro e w' ⟨gb, cap, hs, rfl, hO, hb⟩; have HO := Lib.hid hO; have HGB := Lib.hid (own_base hO.own).1; have hsz := HW.size; clear hO; replace HW := HW.trans hb; clear hb; (try clear p0 p1 p2 g0 g1 gsz); obtain ⟨p0, p1, p2, g0, g1, gsz⟩ := pgbox HW))
        have hgb := HGB.out
        simp only [World.size_alloc] at hsz
        have hgb2 : w.heap.size + 1 < gb := by omega
        have HO2 : Hid (OwnC w' (w.heap.size + 1 + 1) gb cap c hs) := ⟨own_lower HO.out.own (by omega), HO.out.rows⟩
        clear hbn hz hz' hs0 hs0' hgb hsz p0 p1 p2 g0 g1 gsz HO
        go_loopg [12] c.length (fun m z wr => ∃ (v : Nat) (hs : List Value), v ≤ c.length ∧ m = c.length - v ∧ z = .int .i64 v ∧ Hid (OwnC wr (w.heap.size + 1 + 1) gb cap (partS p g c S v) hs) ∧ Bel ((w.alloc (.cells #[.string p.name, .slice A1 p.vars.length k1, .slice A2 p.rules.length k2] 25)).alloc (.cells #[.slice A3 g.ids.length k3, .slice A4 g.ports.length k4] 29)) wr)
        case atStart => exact ⟨0, hs, by omega, rfl, rfl, by show OwnC _ _ _ _ _ _; rw [partS_zero]; exact HO2.out, HW⟩
        case round =>
          clear HO2 HW
          obtain ⟨v, hs, hv, rfl, rfl, HO, HW⟩ := hrel
          obtain ⟨p0, p1, p2, g0, g1, gsz⟩ := pgbox HW
          by_cases hlt : v < c.length
          · have hd0 : decide (v < c.length) = true := by simpa using hlt
            have hhas : hasB S (v : Int) = S.testBit v := by unfold hasB; rw [decide_eq_true (show (0 : Int) ≤ v by omega), decide_eq_true (show (v : Int) < 32 by omega), Int.toNat_natCast]; simp
            have HHAS := Lib.hid hhas
            clear hhas
            cases hb : S.testBit v with
            | true =>
              have hf := Lib.hid (HEN.out v hlt hb)
              have HPY := Lib.hid (partS_yes (p := p) (g := g) (c := c) hb)
              have HSL : Hid (hs.length = c.length) := by have := HO.out.own.1; rw [partS_length] at this; show _ = _; omega
              rw [hb] at HHAS
              clear hb
              go_wp2_with (first
                | (go_at_call 21; refine (has_any S _ _ HS.out).mono ?_; rintro e w2 ⟨rfl, rfl⟩; rw [HHAS.out])
                | (go_at_call 65; refine (refMoveI_any _ p _ g _ c v _ (HPV.out _ (box2_bel HW)) (HGV.out _ (box2_bel HW)) (HCV.out _ (box2_bel HW)) HM.out hlt hf.out HL.out HGL.out HCL.out).mono ?_; rintro e w2 ⟨R, rc, rfl, hN, hb⟩; have hgb3 := (own_base HO.out.own).2; have HN2 := Lib.hid hN; replace HW := HW.trans hb; replace HO := Lib.hid (HO.out.keep hb); have y1 := own_cell0 HO.out.own v (by rw [HSL.out]; omega); have y2 := HO.out.own.frozenAt v; have ygb := (own_base HO.out.own).2; clear hb hN))
              go_roundg (c.length - (v + 1))
              case rel =>
                refine ⟨v + 1, hs.set v (.slice R (moveF p g c v).length rc), by omega, rfl, by go_num, ?_, HW.setCell (by simp; omega) _⟩
                have h3 := HN2.out
                show OwnC _ _ _ _ _ _
                rw [← HPY.out]
                exact HO.out.set (v := v) (by rw [partS_length]; exact hlt) h3.1 h3.2.1 h3.2.2.1 (h3.off (by omega))
              case measure => omega
            | false =>
              have HPN := Lib.hid (partS_no (p := p) (g := g) (c := c) hb)
              rw [hb] at HHAS
              clear hb
              go_wp2_with (go_at_call 21; refine (has_any S _ _ HS.out).mono ?_; rintro e w2 ⟨rfl, rfl⟩; rw [HHAS.out])
              go_roundg (c.length - (v + 1))
              case rel => exact ⟨v + 1, hs, by omega, rfl, by go_num, by show OwnC _ _ _ _ _ _; rw [← HPN.out]; exact HO.out, HW⟩
              case measure => omega
          · have hd0 : decide (v < c.length) = false := by simpa using hlt
            obtain rfl : v = c.length := by omega
            go_wp2_with fail
            go_ret2
            have hO := HO.out
            rw [partS_full] at hO
            rw [HF.out]
            exact ⟨some ⟨gb, 0, none⟩, cap, by rw [stepCF_length]; rfl, hO.conf, box2_bel HW⟩
  · rw [if_pos hm] at HF
    have hmb : (memF p g c != 0) = true := by simpa using hm
    clear hm
    go_enter Tryz.func28, Tryz.ntmps28
    go_wp2_with (go_at_call 46; refine (refMemCheck_any _ p _ g _ c _ (HPV.out _ (box2_bel HW)) (HGV.out _ (box2_bel HW)) (HCV.out _ (box2_bel HW)) HL.out HGL.out HCL.out).mono ?_; rintro e w' ⟨rfl, hb⟩; replace HW := HW.trans hb; clear hb; (try clear p0 p1 p2 g0 g1 gsz); obtain ⟨p0, p1, p2, g0, g1, gsz⟩ := pgbox HW)
    go_ret2
    rw [HF.out]
    exact ⟨none, 0, rfl, HN.out _, box2_bel HW⟩

end Go.Proofs.YtibfjhhadbkkgaaGreat

/- Contracts: fair and sound of the laws of layer 14; Same of configurations; Clamp. -/
namespace Go.Proofs.YtibfjhhadbkkgaaGreat
open Go.RowKit

def fairF (p : Prg) (g : Graph) (c : Config) : Bool := quickF p g && lightC c
theorem fair_parts {p : Prg} {g : Graph} {c : Config} (h : fairF p g c = true) : lightP p = true ∧ lightG g = true ∧ lightC c = true := by
  unfold fairF at h
  simp at h
  exact ⟨(quick_parts h.1).1, (quick_parts h.1).2, h.2⟩
def soundF (p : Prg) (g : Graph) (c : Config) : Bool := fairF p g c && decide (memF p g c = 0)
theorem sound_parts {p : Prg} {g : Graph} {c : Config} (h : soundF p g c = true) : lightP p = true ∧ lightG g = true ∧ lightC c = true ∧ memF p g c = 0 := by
  unfold soundF at h
  simp at h
  obtain ⟨h1, h2, h3⟩ := fair_parts h.1
  exact ⟨h1, h2, h3, h.2⟩

set_option maxRecDepth 100000 in
set_option maxHeartbeats 2000000 in
theorem fair_any (v1 : Value) (p : Prg) (v2 : Value) (g : Graph) (v3 : Value) (c : Config) (w : World) (h : PrgV w v1 p) (h2 : GraphV w v2 g) (h3 : ConfV w v3 c) : Calls Tryz.prog 25 #[v1, v2, v3] w fun e w' => e = .returned (.bool (fairF p g c)) ∧ Bel w w' := by
  have HPV := Lib.hid (fun w' (k : Bel w w') => h.keep k)
  have HGV := Lib.hid (fun w' (k : Bel w w') => h2.keep k)
  have HCV := Lib.hid (fun w' (k : Bel w w') => h3.keep k)
  obtain ⟨A1, k1, A2, k2, rfl, _, _, _, _, _, _⟩ := h
  obtain ⟨A3, k3, A4, k4, rfl, _, _, _, _, _, _⟩ := h2
  obtain ⟨A5, k5, rfl, _, _, _⟩ := h3
  have HW := Bel.refl ((w.alloc (.cells #[.string p.name, .slice A1 p.vars.length k1, .slice A2 p.rules.length k2] 25)).alloc (.cells #[.slice A3 g.ids.length k3, .slice A4 g.ports.length k4] 29))
  have HF : Hid (fairF p g c = (quickF p g && lightC c)) := rfl
  cases hq : quickF p g with
  | false =>
    rw [hq] at HF
    go_enter Tryz.func25, Tryz.ntmps25
    go_wp2_with (go_at_call 44; refine (quick_any _ p _ g _ (HPV.out _ (box2_bel HW)) (HGV.out _ (box2_bel HW))).mono ?_; rintro e w' ⟨rfl, hb⟩; rw [hq]; replace HW := HW.trans hb; clear hb; (try clear p0 p1 p2 g0 g1 gsz); obtain ⟨p0, p1, p2, g0, g1, gsz⟩ := pgbox HW)
    go_ret
    exact ⟨ret_bool (by rw [HF.out]; rfl), box2_bel HW⟩
  | true =>
    rw [hq] at HF
    go_enter Tryz.func25, Tryz.ntmps25
    go_wp2_with (first
      | (go_at_call 44; refine (quick_any _ p _ g _ (HPV.out _ (box2_bel HW)) (HGV.out _ (box2_bel HW))).mono ?_; rintro e w' ⟨rfl, hb⟩; rw [hq]; replace HW := HW.trans hb; clear hb; (try clear p0 p1 p2 g0 g1 gsz); obtain ⟨p0, p1, p2, g0, g1, gsz⟩ := pgbox HW)
      | (go_at_call 15; refine (lightConfig_any _ c _ (HCV.out _ (box2_bel HW))).mono ?_; rintro e w' ⟨rfl, rfl⟩))
    go_ret
    exact ⟨ret_bool (by rw [HF.out]; simp), box2_bel HW⟩

set_option maxRecDepth 100000 in
set_option maxHeartbeats 2000000 in
theorem sound_any (v1 : Value) (p : Prg) (v2 : Value) (g : Graph) (v3 : Value) (c : Config) (w : World) (h : PrgV w v1 p) (h2 : GraphV w v2 g) (h3 : ConfV w v3 c) : Calls Tryz.prog 30 #[v1, v2, v3] w fun e w' => e = .returned (.bool (soundF p g c)) ∧ Bel w w' := by
  have HPV := Lib.hid (fun w' (k : Bel w w') => h.keep k)
  have HGV := Lib.hid (fun w' (k : Bel w w') => h2.keep k)
  have HCV := Lib.hid (fun w' (k : Bel w w') => h3.keep k)
  obtain ⟨A1, k1, A2, k2, rfl, _, _, _, _, _, _⟩ := h
  obtain ⟨A3, k3, A4, k4, rfl, _, _, _, _, _, _⟩ := h2
  obtain ⟨A5, k5, rfl, _, _, _⟩ := h3
  have HW := Bel.refl ((w.alloc (.cells #[.string p.name, .slice A1 p.vars.length k1, .slice A2 p.rules.length k2] 25)).alloc (.cells #[.slice A3 g.ids.length k3, .slice A4 g.ports.length k4] 29))
  have HF : Hid (soundF p g c = (fairF p g c && decide (memF p g c = 0))) := rfl
  cases hq : fairF p g c with
  | false =>
    rw [hq] at HF
    go_enter Tryz.func30, Tryz.ntmps30
    go_wp2_with (go_at_call 25; refine (fair_any _ p _ g _ c _ (HPV.out _ (box2_bel HW)) (HGV.out _ (box2_bel HW)) (HCV.out _ (box2_bel HW))).mono ?_; rintro e w' ⟨rfl, hb⟩; rw [hq]; replace HW := HW.trans hb; clear hb; (try clear p0 p1 p2 g0 g1 gsz); obtain ⟨p0, p1, p2, g0, g1, gsz⟩ := pgbox HW)
    go_ret
    exact ⟨ret_bool (by rw [HF.out]; rfl), box2_bel HW⟩
  | true =>
    have HL := Lib.hid (fair_parts hq)
    rw [hq] at HF
    go_enter Tryz.func30, Tryz.ntmps30
    go_wp2_with (first
      | (go_at_call 25; refine (fair_any _ p _ g _ c _ (HPV.out _ (box2_bel HW)) (HGV.out _ (box2_bel HW)) (HCV.out _ (box2_bel HW))).mono ?_; rintro e w' ⟨rfl, hb⟩; rw [hq]; replace HW := HW.trans hb; clear hb; (try clear p0 p1 p2 g0 g1 gsz); obtain ⟨p0, p1, p2, g0, g1, gsz⟩ := pgbox HW)
      | (go_at_call 16; refine (refMemValid_any _ p _ g _ c _ (HPV.out _ (box2_bel HW)) (HGV.out _ (box2_bel HW)) (HCV.out _ (box2_bel HW)) HL.out.1 HL.out.2.1 HL.out.2.2).mono ?_; rintro e w' ⟨rfl, hb⟩; replace HW := HW.trans hb; clear hb; (try clear p0 p1 p2 g0 g1 gsz); obtain ⟨p0, p1, p2, g0, g1, gsz⟩ := pgbox HW))
    go_ret
    exact ⟨ret_bool (by rw [HF.out]; simp), box2_bel HW⟩

theorem conf_eq_of_take {c d : Config} {k : Nat} (h1 : c.length ≤ k) (h2 : d.length ≤ k) (h : c.take k = d.take k) : c = d := by rwa [List.take_of_length_le h1, List.take_of_length_le h2] at h
set_option maxRecDepth 100000 in
set_option maxHeartbeats 2000000 in
theorem refSame_any (v1 v2 : Value) (c d : Config) (w : World) (h1 : ConfV w v1 c) (h2 : ConfV w v2 d) (hl : c.length ≤ 100) (hr : ∀ r ∈ c, r.length ≤ 1000) :
    Calls Tryz.prog 29 #[v1, v2] w fun e w' => e = .returned (.bool (decide (c = d))) ∧ Bel w w' := by
  obtain ⟨A, k, rfl, hR1, _, _⟩ := h1
  obtain ⟨A2, k2, rfl, hR2, _, _⟩ := h2
  have H1 := Lib.hid (fun w' (k : Bel w w') => hR1.keep k)
  have H2 := Lib.hid (fun w' (k : Bel w w') => hR2.keep k)
  have HR := Lib.hid hr
  clear hR1 hR2 hr
  by_cases hn : c.length = d.length
  · have HN := Lib.hid hn
    rw [← hn]; clear hn
    have hb : (c.length != c.length) = false := by simp
    go_enter Tryz.func29, Tryz.ntmps29
    go_wp2
    clear hb
    go_loopg [5] c.length (fun q x wr => ∃ j : Nat, j ≤ c.length ∧ q = c.length - j ∧ Hid (c.take j = d.take j) ∧ x = .int .i64 j ∧ Bel w wr)
    case atStart => exact ⟨0, by omega, rfl, rfl, rfl, Bel.refl w⟩
    case round =>
      obtain ⟨j, hj, rfl, HK, rfl, HB⟩ := hrel
      by_cases hlt : j < c.length
      · have hd0 : decide (j < c.length) = true := by simpa using hlt
        have hlt2 : j < d.length := by rw [← HN.out]; exact hlt
        obtain ⟨b, o, R, rc, rfl, hbl, q0, i0, _, _⟩ := (H1.out _ (Bel.refl w)).at_ j hlt
        obtain ⟨b', o', R', rc', rfl, hbl', q0', i0', _, _⟩ := (H2.out _ (Bel.refl w)).at_ j hlt2
        have I0 := Lib.hid (fun w' (k : Bel w w') => i0.keep k)
        have I1 := Lib.hid (fun w' (k : Bel w w') => i0'.keep k)
        have hle := HR.out _ (List.getElem_mem hlt)
        have hcell := Lib.hid (fun w' (kk : Bel w w') => show w'.cell? ⟨b, o + j, none⟩ = some (.slice R c[j].length rc) ∧ w'.cell? ⟨b', o' + j, none⟩ = some (.slice R' d[j].length rc') ∧ b < w'.heap.size ∧ b' < w'.heap.size from ⟨(kk.cell hbl).trans q0, (kk.cell hbl').trans q0', Nat.lt_of_lt_of_le hbl kk.size, Nat.lt_of_lt_of_le hbl' kk.size⟩)
        clear i0 i0' q0 q0'
        cases hs : decide (c[j] = d[j]) with
        | true =>
          have HS := Lib.hid (of_decide_eq_true hs)
          have HSB := Lib.hid hs
          clear hs
          go_wp2_with fail
          replace HB := HB.drew
          go_region_held3 (fun w' => w'.cell? ⟨b, o + j, none⟩ = some (.slice R c[j].length rc) ∧ w'.cell? ⟨b', o' + j, none⟩ = some (.slice R' d[j].length rc') ∧ b < w'.heap.size ∧ b' < w'.heap.size) (exact hcell.out _ HB) (first
            | (go_simp; go_at_call 39; refine (sameInts_any _ _ c[j] _ _ d[j] _ (I0.out _ HB) (I1.out _ HB) (by omega)).mono ?_; rintro e w2 ⟨rfl, hb⟩; rw [HSB.out]; replace HB := HB.trans hb; clear hb))
          go_wp2_with fail
          go_roundg (c.length - (j + 1))
          case rel =>
            refine ⟨j + 1, by omega, rfl, ?_, by go_num, HB⟩
            show c.take (j + 1) = d.take (j + 1)
            rw [List.take_succ_eq_append_getElem hlt, List.take_succ_eq_append_getElem hlt2, HK.out, HS.out]
          case measure => omega
        | false =>
          have HS := Lib.hid (of_decide_eq_false hs)
          have HSB := Lib.hid hs
          clear hs
          go_wp2_with fail
          replace HB := HB.drew
          go_region_held3 (fun w' => w'.cell? ⟨b, o + j, none⟩ = some (.slice R c[j].length rc) ∧ w'.cell? ⟨b', o' + j, none⟩ = some (.slice R' d[j].length rc') ∧ b < w'.heap.size ∧ b' < w'.heap.size) (exact hcell.out _ HB) (first
            | (go_simp; go_at_call 39; refine (sameInts_any _ _ c[j] _ _ d[j] _ (I0.out _ HB) (I1.out _ HB) (by omega)).mono ?_; rintro e w2 ⟨rfl, hb⟩; rw [HSB.out]; replace HB := HB.trans hb; clear hb))
          go_wp2_with fail
          go_ret
          refine ⟨ret_bool ?_, HB⟩
          symm
          simp only [decide_eq_false_iff_not]
          rintro rfl
          exact HS.out rfl
      · have hd0 : decide (j < c.length) = false := by simpa using hlt
        go_wp2_with fail
        go_ret
        exact ⟨ret_bool (by symm; simp only [decide_eq_true_eq]; exact conf_eq_of_take (k := j) (by omega) (by rw [← HN.out]; omega) HK.out), HB⟩
  · have hb : (c.length != d.length) = true := by simpa using hn
    have hb2 : ((c.length : Int) != (d.length : Int)) = true := by simp; omega
    go_enter Tryz.func29, Tryz.ntmps29
    go_wp2
    go_ret
    exact ⟨ret_bool (by symm; simp only [decide_eq_false_iff_not]; rintro rfl; exact hn rfl), Bel.refl w⟩

end Go.Proofs.YtibfjhhadbkkgaaGreat

/- The example of the laws of layer 14, and its sanity check. -/
namespace Go.Proofs.YtibfjhhadbkkgaaGreat
open Go.RowKit

def exP : Prg := ⟨⟨#[97]⟩, [⟨⟨#[98]⟩, 2, 0, 0, 0, 0⟩], [⟨⟨#[114]⟩, [⟨5, 0⟩], [⟨0, [⟨3, 0⟩]⟩]⟩]⟩
def exG : Graph := ⟨[0, 1], [[⟨1, 1⟩], [⟨0, 1⟩]]⟩
theorem SliceR.one {α : Type} {size : Nat} {E : World → Nat → Nat → α → Prop} {w : World} {b : Nat} {x : α} (hb : b < w.heap.size) (h : E w b 0 x) : SliceR size E w (some ⟨b, 0, none⟩) 1 [x] :=
  ⟨rfl, fun i y hy => by
    match i, hy with
    | 0, hy =>
      obtain rfl : x = y := by simpa using hy
      exact ⟨b, 0, rfl, hb, by rw [Nat.zero_mul]; exact h⟩
    | i + 1, hy => simp at hy⟩
theorem SliceR.two {α : Type} {size : Nat} {E : World → Nat → Nat → α → Prop} {w : World} {b : Nat} {x y : α} (hb : b < w.heap.size) (h : E w b 0 x) (h2 : E w b size y) : SliceR size E w (some ⟨b, 0, none⟩) 2 [x, y] :=
  ⟨rfl, fun i z hz => by
    match i, hz with
    | 0, hz =>
      obtain rfl : x = z := by simpa using hz
      exact ⟨b, 0, rfl, hb, by rw [Nat.zero_mul]; exact h⟩
    | 1, hz =>
      obtain rfl : y = z := by simpa using hz
      exact ⟨b, 0, rfl, hb, by rw [Nat.one_mul, Nat.zero_add]; exact h2⟩
    | i + 2, hz => simp at hz⟩
def RetEx (w : World) (e : Ending) (w' : World) : Prop := ∃ vp vg, e = .returned (.tuple #[vp, vg]) ∧ PrgV w' vp exP ∧ GraphV w' vg exG ∧ Bel w w'
set_option maxRecDepth 100000 in
set_option maxHeartbeats 4000000 in
theorem example14_any (w : World) : Calls Tryz.prog 60 #[] w (RetEx w) := by
  go_enter Tryz.func60, Tryz.ntmps60
  go_wp2
  refine bodyPost_ret (v := .tuple #[.agg #[.string ⟨#[97]⟩, .slice (some ⟨w.heap.size + 1 + 1 + 1, 0, none⟩) 1 1, .slice (some ⟨w.heap.size + 1 + 1 + 1 + 1 + 1 + 1, 0, none⟩) 1 1], .agg #[.slice (some ⟨w.heap.size + 1 + 1 + 1 + 1 + 1 + 1 + 1 + 1, 0, none⟩) 2 2, .slice (some ⟨w.heap.size + 1 + 1 + 1 + 1 + 1 + 1 + 1 + 1 + 1 + 1 + 1, 0, none⟩) 2 2]]) (by simp [results, Tryz.results60, go_sem]) rfl ⟨_, _, rfl, ?_, ?_, ?_⟩
  · refine ⟨_, _, _, _, rfl, SliceR.one (by simp) ⟨?_, ?_, ?_, ?_, ?_, ?_⟩, by decide, by decide, SliceR.one (by simp) ⟨?_, ⟨_, 1, ?_, SliceR.one (b := w.heap.size + 1 + 1) (by simp) ⟨?_, ?_⟩, by decide, by decide⟩, ⟨_, 1, ?_, SliceR.one (b := w.heap.size + 1 + 1 + 1 + 1 + 1) (by simp) ⟨?_, _, 1, ?_, SliceR.one (b := w.heap.size + 1 + 1 + 1 + 1) (by simp) ⟨?_, ?_⟩, by decide, by decide⟩, by decide, by decide⟩⟩, by decide, by decide⟩
    all_goals ((try unfold IntAt); go_simp)
  · refine ⟨_, _, _, _, rfl, SliceR.two (by simp) ?_ ?_, by decide, by decide, SliceR.two (by simp) ⟨_, 1, ?_, SliceR.one (b := w.heap.size + 1 + 1 + 1 + 1 + 1 + 1 + 1 + 1 + 1) (by simp) ⟨?_, ?_⟩, by decide, by decide⟩ ⟨_, 1, ?_, SliceR.one (b := w.heap.size + 1 + 1 + 1 + 1 + 1 + 1 + 1 + 1 + 1 + 1) (by simp) ⟨?_, ?_⟩, by decide, by decide⟩, by decide, by decide⟩
    all_goals ((try unfold IntAt); go_simp)
  · repeat' refine Bel.alloc ?_ _
    exact Bel.refl w

def exC : Config := [[1], [1]]
theorem ex_step : stepRF exP exG exC 2 = ([[1], [0]], 0) := by decide +kernel
theorem ex_enabled : enabledF exP exG exC = 3 := by decide +kernel
theorem ex_light : lightP exP = true ∧ lightG exG = true ∧ lightC exC = true := by decide +kernel
def RetExStep (w : World) (e : Ending) (w' : World) : Prop := ∃ b o ca b0 o0 c0 b1 o1 c1, e = .returned (.tuple #[.slice (some ⟨b, o, none⟩) 2 ca, .int .i64 0]) ∧ b < w'.heap.size ∧ b0 < w'.heap.size ∧ b1 < w'.heap.size ∧ w'.cell? ⟨b, o, none⟩ = some (.slice (some ⟨b0, o0, none⟩) 1 c0) ∧ w'.cell? ⟨b, o + 1, none⟩ = some (.slice (some ⟨b1, o1, none⟩) 1 c1) ∧ w'.cell? ⟨b0, o0, none⟩ = some (.int .i64 1) ∧ w'.cell? ⟨b1, o1, none⟩ = some (.int .i64 0) ∧ Bel w w'
theorem exStep_any (v1 v2 v3 : Value) (w : World) (h1 : PrgV w v1 exP) (h2 : GraphV w v2 exG) (h3 : ConfV w v3 exC) : Calls Tryz.prog 27 #[v1, v2, v3, .int .u32 2] w (RetExStep w) := by
  have h := stepStep_any v1 exP v2 exG v3 exC 2 w h1 h2 h3 ex_light.1 ex_light.2.1 ex_light.2.2 (by decide)
  rw [ex_step] at h
  refine h.mono ?_
  rintro e w' ⟨A, ca, rfl, hc, hb⟩
  obtain ⟨A', k, e, hR, _, _⟩ := hc
  obtain ⟨rfl, rfl⟩ : A = A' ∧ ca = k := by simpa using e
  obtain ⟨b, o, R0, c0, rfl, hbl, k0, i0, _, _⟩ := hR.at_ 0 (by decide)
  obtain ⟨b', o', R1, c1, e', _, k1, i1, _, _⟩ := hR.at_ 1 (by decide)
  obtain ⟨rfl, rfl⟩ : b = b' ∧ o = o' := by simpa using e'
  obtain ⟨b0, o0, rfl, hb0, q0⟩ := i0.at_ 0 (by decide)
  obtain ⟨b1, o1, rfl, hb1, q1⟩ := i1.at_ 0 (by decide)
  exact ⟨b, o, ca, b0, o0, c0, b1, o1, c1, rfl, hbl, hb0, hb1, k0, k1, q0, q1, hb⟩
theorem exEnabled_any (v1 v2 v3 : Value) (w : World) (h1 : PrgV w v1 exP) (h2 : GraphV w v2 exG) (h3 : ConfV w v3 exC) : Calls Tryz.prog 35 #[v1, v2, v3] w fun e w' => e = .returned (.int .u32 3) ∧ Bel w w' := by
  have h := stepEnabled_any v1 exP v2 exG v3 exC w h1 h2 h3 ex_light.1 ex_light.2.1 ex_light.2.2
  rw [ex_enabled] at h
  exact h
theorem exC_at {w : World} {b b0 b1 : Nat} (hb : b < w.heap.size) (h0 : b0 < w.heap.size) (h1 : b1 < w.heap.size) (c0 : w.cell? ⟨b, 0, none⟩ = some (.slice (some ⟨b0, 0, none⟩) 1 1)) (c1 : w.cell? ⟨b, 1, none⟩ = some (.slice (some ⟨b1, 0, none⟩) 1 1)) (d0 : w.cell? ⟨b0, 0, none⟩ = some (.int .i64 1)) (d1 : w.cell? ⟨b1, 0, none⟩ = some (.int .i64 1)) : ConfV w (.slice (some ⟨b, 0, none⟩) 2 2) exC :=
  ⟨_, 2, rfl, SliceR.two hb ⟨_, 1, c0, SliceR.one h0 (by simpa [IntAt] using d0), by decide, by decide⟩ ⟨_, 1, c1, SliceR.one h1 (by simpa [IntAt] using d1), by decide, by decide⟩, by decide, by decide⟩
set_option maxRecDepth 100000 in
set_option maxHeartbeats 4000000 in
theorem awake14_any (w : World) : Calls Tryz.prog 26 #[] w fun e w' => e = .returned (.bool true) ∧ Bel w w' := by
  go_enter Tryz.func26, Tryz.ntmps26
  go_wp2_with (first
    | (go_at_call 60; refine (example14_any _).mono ?_; rintro e w1 ⟨vp, vg, rfl, hp, hg, hb1w⟩; have HP := Lib.hid (fun w' (k : Bel w1 w') => hp.keep k); have HG := Lib.hid (fun w' (k : Bel w1 w') => hg.keep k); obtain ⟨A1, k1, A2, k2, rfl, _, _, _, _, _, _⟩ := hp; obtain ⟨A3, k3, A4, k4, rfl, _, _, _, _, _, _⟩ := hg; have HB : Bel w1 w1 := Bel.refl w1)
    | (go_at_call 27; refine (exStep_any _ _ _ _ (HP.out _ (by repeat' (first | exact HB | refine Bel.alloc ?_ _))) (HG.out _ (by repeat' (first | exact HB | refine Bel.alloc ?_ _))) (exC_at (b0 := w1.heap.size + 1 + 1) (b1 := w1.heap.size + 1 + 1 + 1) (by simp) (by simp <;> omega) (by simp <;> omega) (by go_simp) (by go_simp) (by go_simp) (by go_simp))).mono ?_; rintro e w2 ⟨b, o, ca, b0, o0, c0, b1, o1, c1, rfl, hbl, hb0, hb1, q0, q1, q2, q3, hb2⟩; have HB2 : Bel w1 w2 := Bel.trans (by repeat' (first | exact HB | refine Bel.alloc ?_ _)) hb2; have hs2 := hb2.size; simp only [World.size_alloc] at hs2; have y0 : w2.cell? ⟨w1.heap.size, 0, none⟩ = some (.string exP.name) := (hb2.cell (by simp <;> omega)).trans (by go_simp); have y1 : w2.cell? ⟨w1.heap.size, 1, none⟩ = some (.slice A1 exP.vars.length k1) := (hb2.cell (by simp <;> omega)).trans (by go_simp); have y2 : w2.cell? ⟨w1.heap.size, 2, none⟩ = some (.slice A2 exP.rules.length k2) := (hb2.cell (by simp <;> omega)).trans (by go_simp); have y3 : w2.cell? ⟨w1.heap.size + 1, 0, none⟩ = some (.slice A3 exG.ids.length k3) := (hb2.cell (by simp <;> omega)).trans (by go_simp); have y4 : w2.cell? ⟨w1.heap.size + 1, 1, none⟩ = some (.slice A4 exG.ports.length k4) := (hb2.cell (by simp <;> omega)).trans (by go_simp); clear hb2)
    | (go_at_call 35; refine (exEnabled_any _ _ _ _ (HP.out _ (by repeat' (first | exact HB2 | refine Bel.alloc ?_ _))) (HG.out _ (by repeat' (first | exact HB2 | refine Bel.alloc ?_ _))) (exC_at (b0 := w2.heap.size) (b1 := w2.heap.size + 1) (by simp) (by simp <;> omega) (by simp <;> omega) (by go_simp) (by go_simp) (by go_simp) (by go_simp))).mono ?_; rintro e w3 ⟨rfl, hb3⟩; have HB3 : Bel w1 w3 := Bel.trans (by repeat' (first | exact HB2 | refine Bel.alloc ?_ _)) hb3; have HB23 : Bel w2 w3 := Bel.trans (by repeat' (first | exact Bel.refl _ | refine Bel.alloc ?_ _)) hb3; have hs3 := HB23.size; have r0 : w3.cell? ⟨b, o, none⟩ = some (.slice (some ⟨b0, o0, none⟩) 1 c0) := (HB23.cell hbl).trans q0; have r1 : w3.cell? ⟨b, o + 1, none⟩ = some (.slice (some ⟨b1, o1, none⟩) 1 c1) := (HB23.cell hbl).trans q1; have r2 : w3.cell? ⟨b0, o0, none⟩ = some (.int .i64 1) := (HB23.cell hb0).trans q2; have r3 : w3.cell? ⟨b1, o1, none⟩ = some (.int .i64 0) := (HB23.cell hb1).trans q3; clear hb3 HB23 q0 q1 q2 q3 y0 y1 y2 y3 y4))
  go_ret
  exact ⟨rfl, hb1w.trans HB3⟩

end Go.Proofs.YtibfjhhadbkkgaaGreat

/- Contracts of the steps and moves that succeed, as the laws of layer 14 use them. -/
namespace Go.Proofs.YtibfjhhadbkkgaaGreat
open Go.RowKit

theorem RowsR.get {w : World} {A : Option Addr} {n : Nat} {c : Config} (h : RowsR w A n c) {v : Nat} (hv : v < c.length) {l : List Int} (hl : c.getD v [] = l) :
    ∃ b o R rc, A = some ⟨b, o, none⟩ ∧ b < w.heap.size ∧ w.cell? ⟨b, o + v, none⟩ = some (.slice R l.length rc) ∧ IntsR w R l.length l ∧ l.length ≤ rc ∧ rc ≤ maxLen := by
  obtain ⟨b, o, R, rc, h1, h2, h3, h4, h5, h6⟩ := h.at_ v hv
  rw [getD_eq hv] at hl
  subst hl
  exact ⟨b, o, R, rc, h1, h2, h3, h4, h5, h6⟩
def RetConf (D : Config) (n : Nat) (w : World) (e : Ending) (w' : World) : Prop := ∃ A ca, e = .returned (.tuple #[.slice A n ca, .int .i64 0]) ∧ ConfV w' (.slice A n ca) D ∧ Bel w w'
def RetIntsC (l : List Int) (n : Nat) (w : World) (e : Ending) (w' : World) : Prop := ∃ A ca, e = .returned (.tuple #[.slice A n ca, .int .i64 0]) ∧ IntsR w' A n l ∧ Bel w w'
theorem stepRF_ok {p : Prg} {g : Graph} {c : Config} {T : Nat} (hm : memF p g c = 0) (h0 : T ≠ 0) (hw : within32 T (enabF p g c) = true) : stepRF p g c T = (stepCF p g c T, 0) := by
  unfold stepRF
  rw [if_neg (by simpa using hm), if_neg (by rw [hw]; simpa using h0)]
theorem stepRF_zero {p : Prg} {g : Graph} {c : Config} (hm : memF p g c = 0) : stepRF p g c 0 = ([], 11) := by
  unfold stepRF
  rw [if_neg (by simpa using hm), if_pos (.inl rfl)]
theorem moveRF_ok {p : Prg} {g : Graph} {c : Config} {v : Nat} (hm : memF p g c = 0) (hv : v < c.length) (hf : 0 ≤ firstF p.rules g c v) : moveRF p g c (v : Int) = (moveF p g c v, 0) := by
  unfold moveRF
  rw [if_neg (by simpa using hm), if_neg (by omega), Int.toNat_natCast, if_neg (by omega)]
theorem moveRF_no {p : Prg} {g : Graph} {c : Config} {v : Nat} (hm : memF p g c = 0) (hv : v < c.length) (hf : firstF p.rules g c v < 0) : moveRF p g c (v : Int) = ([], 11) := by
  unfold moveRF
  rw [if_neg (by simpa using hm), if_neg (by omega), Int.toNat_natCast, if_pos hf]
theorem ruleF_ok {p : Prg} {g : Graph} {c : Config} {v : Nat} (hm : memF p g c = 0) (hv : v < c.length) : ruleF p g c (v : Int) = firstF p.rules g c v := by
  unfold ruleF
  rw [if_neg (by simpa using hm), if_neg (by omega), Int.toNat_natCast]
theorem enabledF_ok {p : Prg} {g : Graph} {c : Config} (hm : memF p g c = 0) : enabledF p g c = enabF p g c := by
  unfold enabledF
  rw [if_neg (by simpa using hm)]
theorem enabF_lt {p : Prg} {g : Graph} {c : Config} (hm : memF p g c = 0) : enabF p g c < 4294967296 := setF_lt32 _ (by have := conf_len hm; have := (fits_zero (mem_zero hm).1).2.1.le; omega)
theorem and_within (S T : Nat) : within32 (S &&& T) T = true := by
  rw [within32_iff]
  intro v _ h
  rw [Nat.testBit_and] at h
  simp at h
  exact h.2
theorem has_node {S v : Nat} (hv : v < 32) : hasB S (v : Int) = S.testBit v := by
  unfold hasB; rw [decide_eq_true (show (0 : Int) ≤ v by omega), decide_eq_true (show (v : Int) < 32 by omega), Int.toNat_natCast]; simp
theorem moveF_len {p : Prg} {g : Graph} {c : Config} (v : Nat) : (moveF p g c v).length = (c.getD v []).length := by unfold moveF; exact movesF_length _ _ _ _ _

theorem stepOK_any (v1 : Value) (p : Prg) (v2 : Value) (g : Graph) (v3 : Value) (c : Config) (T n : Nat) (w : World) (h : PrgV w v1 p) (h2 : GraphV w v2 g) (h3 : ConfV w v3 c) (hL : lightP p = true) (hG : lightG g = true) (hC : lightC c = true) (hm : memF p g c = 0) (h0 : T ≠ 0) (hw : within32 T (enabF p g c) = true) (hT : T < 4294967296) (hn : c.length = n) :
    Calls Tryz.prog 27 #[v1, v2, v3, .int .u32 (T : Int)] w (RetConf (stepCF p g c T) n w) := by
  have h := stepStep_any v1 p v2 g v3 c T w h h2 h3 hL hG hC hT
  rw [stepRF_ok hm h0 hw] at h
  refine h.mono ?_
  rintro e w' ⟨A, ca, rfl, hc, hb⟩
  dsimp only at hc ⊢
  rw [stepCF_length, hn] at hc ⊢
  exact ⟨A, ca, rfl, hc, hb⟩
theorem stepZero_any (v1 : Value) (p : Prg) (v2 : Value) (g : Graph) (v3 : Value) (c : Config) (w : World) (h : PrgV w v1 p) (h2 : GraphV w v2 g) (h3 : ConfV w v3 c) (hL : lightP p = true) (hG : lightG g = true) (hC : lightC c = true) (hm : memF p g c = 0) :
    Calls Tryz.prog 27 #[v1, v2, v3, .int .u32 0] w fun e w' => (∃ A ca, e = .returned (.tuple #[.slice A 0 ca, .int .i64 11])) ∧ Bel w w' := by
  have h := stepStep_any v1 p v2 g v3 c 0 w h h2 h3 hL hG hC (by decide)
  rw [stepRF_zero hm] at h
  refine h.mono ?_
  rintro e w' ⟨A, ca, rfl, hc, hb⟩
  exact ⟨⟨A, ca, rfl⟩, hb⟩
theorem moveOK_any (v1 : Value) (p : Prg) (v2 : Value) (g : Graph) (v3 : Value) (c : Config) (v n : Nat) (w : World) (h : PrgV w v1 p) (h2 : GraphV w v2 g) (h3 : ConfV w v3 c) (hL : lightP p = true) (hG : lightG g = true) (hC : lightC c = true) (hm : memF p g c = 0) (hv : v < c.length) (hf : 0 ≤ firstF p.rules g c v) (hn : (c.getD v []).length = n) :
    Calls Tryz.prog 37 #[v1, v2, v3, .int .i64 (v : Int)] w (RetIntsC (moveF p g c v) n w) := by
  have h := stepMove_any v1 p v2 g v3 c v w h h2 h3 hL hG hC
  rw [moveRF_ok hm hv hf] at h
  refine h.mono ?_
  rintro e w' ⟨A, ca, rfl, hc, hb⟩
  have hc := hc.1
  dsimp only at hc ⊢
  rw [moveF_len, hn] at hc ⊢
  exact ⟨A, ca, rfl, hc, hb⟩
theorem moveNo_any (v1 : Value) (p : Prg) (v2 : Value) (g : Graph) (v3 : Value) (c : Config) (v : Nat) (w : World) (h : PrgV w v1 p) (h2 : GraphV w v2 g) (h3 : ConfV w v3 c) (hL : lightP p = true) (hG : lightG g = true) (hC : lightC c = true) (hm : memF p g c = 0) (hv : v < c.length) (hf : firstF p.rules g c v < 0) :
    Calls Tryz.prog 37 #[v1, v2, v3, .int .i64 (v : Int)] w fun e w' => (∃ A ca, e = .returned (.tuple #[.slice A 0 ca, .int .i64 11])) ∧ Bel w w' := by
  have h := stepMove_any v1 p v2 g v3 c v w h h2 h3 hL hG hC
  rw [moveRF_no hm hv hf] at h
  refine h.mono ?_
  rintro e w' ⟨A, ca, rfl, hc, hb⟩
  exact ⟨⟨A, ca, rfl⟩, hb⟩
theorem moveEither_any (v1 : Value) (p : Prg) (v2 : Value) (g : Graph) (v3 : Value) (c : Config) (v : Nat) (w : World) (h : PrgV w v1 p) (h2 : GraphV w v2 g) (h3 : ConfV w v3 c) (hL : lightP p = true) (hG : lightG g = true) (hC : lightC c = true) :
    Calls Tryz.prog 37 #[v1, v2, v3, .int .i64 (v : Int)] w fun e w' => (∃ A n ca f, e = .returned (.tuple #[.slice A n ca, .int .i64 f])) ∧ Bel w w' := by
  refine (stepMove_any v1 p v2 g v3 c v w h h2 h3 hL hG hC).mono ?_
  rintro e w' ⟨A, ca, rfl, hc, hb⟩
  exact ⟨⟨A, _, ca, _, rfl⟩, hb⟩
theorem ints_len {w : World} {A : Option Addr} {n : Nat} {l : List Int} (h : IntsR w A n l) : l.length = n := h.1
/-- Two slices that read as the same list. -/
theorem sameYes_any (A : Option Addr) (c : Nat) (l : List Int) (A2 : Option Addr) (n n2 c2 : Nat) (w : World) (h1 : IntsR w A n l) (h2 : IntsR w A2 n2 l) (hl : n ≤ 1000000) :
    Calls Tryz.prog 39 #[.slice A n c, .slice A2 n2 c2] w fun e w' => e = .returned (.bool true) ∧ Bel w w' := by
  obtain rfl := h1.1
  obtain rfl := h2.1
  have := sameInts_any A c l A2 c2 l w h1 h2 (by omega)
  rwa [decide_eq_true rfl] at this

end Go.Proofs.YtibfjhhadbkkgaaGreat

