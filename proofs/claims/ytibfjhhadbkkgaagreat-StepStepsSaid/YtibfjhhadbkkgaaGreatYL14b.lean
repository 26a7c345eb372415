/- Merged of: L14b (see NOTES.md). -/
import Derived.Test.YtibfjhhadbkkgaaGreatZ23
set_option linter.unusedSimpArgs false
set_option linter.unnecessarySimpa false
set_option linter.unusedVariables false

/- The walks of StepMoves and StepSteps. -/
namespace Go.Proofs.YtibfjhhadbkkgaaGreat
open Go.RowKit

set_option maxRecDepth 100000 in
set_option maxHeartbeats 4000000 in
theorem stepMoves_walk (v1 : Value) (p : Prg) (v2 : Value) (g : Graph) (v3 : Value) (c : Config) (v : Int) (w : World) (h : PrgV w v1 p) (h2 : GraphV w v2 g) (h3 : ConfV w v3 c) :
    Calls Tryz.prog 9 #[v1, v2, v3, .int .i64 v] w fun e w' => e = .returned (.bool true) ∧ Bel w w' := by
  have HPV := Lib.hid (fun w' (k : Bel w w') => h.keep k)
  have HGV := Lib.hid (fun w' (k : Bel w w') => h2.keep k)
  have HCV := Lib.hid (fun w' (k : Bel w w') => h3.keep k)
  obtain ⟨A1, k1, A2, k2, rfl, _, _, _, _, _, _⟩ := h
  obtain ⟨A3, k3, A4, k4, rfl, _, _, _, _, _, _⟩ := h2
  obtain ⟨A5, k5, rfl, _, _, _⟩ := h3
  have HW := Bel.refl ((w.alloc (.cells #[.string p.name, .slice A1 p.vars.length k1, .slice A2 p.rules.length k2] 25)).alloc (.cells #[.slice A3 g.ids.length k3, .slice A4 g.ports.length k4] 29))
  cases hq : fairF p g c with
  | false =>
    go_enter Tryz.func9, Tryz.ntmps9
    go_wp2_with (first
      | (go_at_call 25; refine (fair_any _ p _ g _ c _ (HPV.out _ (box2_bel HW)) (HGV.out _ (box2_bel HW)) (HCV.out _ (box2_bel HW))).mono ?_; rintro e w' ⟨rfl, hb⟩; rw [hq]; replace HW := HW.trans hb; clear hb; (try clear p0 p1 p2 g0 g1 gsz); obtain ⟨p0, p1, p2, g0, g1, gsz⟩ := pgbox HW)
      | (go_at_call 26; refine (awake14_any _).mono ?_; rintro e w' ⟨rfl, hb⟩; replace HW := HW.trans hb; clear hb; (try clear p0 p1 p2 g0 g1 gsz); obtain ⟨p0, p1, p2, g0, g1, gsz⟩ := pgbox HW))
    go_ret
    exact ⟨rfl, box2_bel HW⟩
  | true =>
    have HQ := Lib.hid (fair_parts hq)
    have HLen := Lib.hid (moveRF_len (p := p) (g := g) (c := c) (v := v) (fair_parts hq).2.2)
    go_enter Tryz.func9, Tryz.ntmps9
    go_wp2_with (first
      | (go_at_call 25; refine (fair_any _ p _ g _ c _ (HPV.out _ (box2_bel HW)) (HGV.out _ (box2_bel HW)) (HCV.out _ (box2_bel HW))).mono ?_; rintro e w' ⟨rfl, hb⟩; rw [hq]; replace HW := HW.trans hb; clear hb; (try clear p0 p1 p2 g0 g1 gsz); obtain ⟨p0, p1, p2, g0, g1, gsz⟩ := pgbox HW)
      | (go_at_call 37; refine (stepMove_any _ p _ g _ c _ _ (HPV.out _ (box2_bel HW)) (HGV.out _ (box2_bel HW)) (HCV.out _ (box2_bel HW)) HQ.out.1 HQ.out.2.1 HQ.out.2.2).mono ?_; rintro e w' ⟨R1, c1, rfl, hN, hb⟩; have HN1 := Lib.hid (fun w2 (k : Bel w' w2) => hN.1.keep k); clear hN; replace HW := HW.trans hb; clear hb; (try clear p0 p1 p2 g0 g1 gsz); obtain ⟨p0, p1, p2, g0, g1, gsz⟩ := pgbox HW; have HB1 := Bel.refl w')
      | (go_at_call 38; refine (refMove_any _ p _ g _ c _ _ (HPV.out _ (box2_bel HW)) (HGV.out _ (box2_bel HW)) (HCV.out _ (box2_bel HW)) HQ.out.1 HQ.out.2.1 HQ.out.2.2).mono ?_; rintro e w' ⟨R2, c2, rfl, hN, hb⟩; have HN2 := Lib.hid (fun w2 (k : Bel w' w2) => hN.1.keep k); clear hN; replace HB1 := HB1.trans hb; have HB2 := Bel.refl w'; replace HW := HW.trans hb; clear hb; (try clear p0 p1 p2 g0 g1 gsz); obtain ⟨p0, p1, p2, g0, g1, gsz⟩ := pgbox HW)
      | (go_at_call 26; refine (awake14_any _).mono ?_; rintro e w' ⟨rfl, hb⟩; replace HB1 := HB1.trans hb; replace HB2 := HB2.trans hb; replace HW := HW.trans hb; clear hb; (try clear p0 p1 p2 g0 g1 gsz); obtain ⟨p0, p1, p2, g0, g1, gsz⟩ := pgbox HW)
      | (go_at_call 39; refine (sameInts_any _ _ (moveRF p g c v).1 _ _ (moveRF p g c v).1 _ (HN1.out _ HB1) (HN2.out _ HB2) HLen.out).mono ?_; rintro e w' ⟨rfl, hb⟩; rw [decide_eq_true rfl]; replace HW := HW.trans hb; clear hb; (try clear p0 p1 p2 g0 g1 gsz); obtain ⟨p0, p1, p2, g0, g1, gsz⟩ := pgbox HW))
    go_ret
    exact ⟨by simp, box2_bel HW⟩

set_option maxRecDepth 100000 in
set_option maxHeartbeats 4000000 in
theorem stepSteps_walk (v1 : Value) (p : Prg) (v2 : Value) (g : Graph) (v3 : Value) (c : Config) (S : Nat) (w : World) (h : PrgV w v1 p) (h2 : GraphV w v2 g) (h3 : ConfV w v3 c) (hS : S < 4294967296) :
    Calls Tryz.prog 5 #[v1, v2, v3, .int .u32 (S : Int)] w fun e w' => e = .returned (.bool true) ∧ Bel w w' := by
  have HPV := Lib.hid (fun w' (k : Bel w w') => h.keep k)
  have HGV := Lib.hid (fun w' (k : Bel w w') => h2.keep k)
  have HCV := Lib.hid (fun w' (k : Bel w w') => h3.keep k)
  obtain ⟨A1, k1, A2, k2, rfl, _, _, _, _, _, _⟩ := h
  obtain ⟨A3, k3, A4, k4, rfl, _, _, _, _, _, _⟩ := h2
  obtain ⟨A5, k5, rfl, _, _, _⟩ := h3
  have HW := Bel.refl ((w.alloc (.cells #[.string p.name, .slice A1 p.vars.length k1, .slice A2 p.rules.length k2] 25)).alloc (.cells #[.slice A3 g.ids.length k3, .slice A4 g.ports.length k4] 29))
  have HS := Lib.hid hS
  clear hS
  cases hq : fairF p g c with
  | false =>
    go_enter Tryz.func5, Tryz.ntmps5
    go_wp2_with (first
      | (go_at_call 25; refine (fair_any _ p _ g _ c _ (HPV.out _ (box2_bel HW)) (HGV.out _ (box2_bel HW)) (HCV.out _ (box2_bel HW))).mono ?_; rintro e w' ⟨rfl, hb⟩; rw [hq]; replace HW := HW.trans hb; clear hb; (try clear p0 p1 p2 g0 g1 gsz); obtain ⟨p0, p1, p2, g0, g1, gsz⟩ := pgbox HW)
      | (go_at_call 26; refine (awake14_any _).mono ?_; rintro e w' ⟨rfl, hb⟩; replace HW := HW.trans hb; clear hb; (try clear p0 p1 p2 g0 g1 gsz); obtain ⟨p0, p1, p2, g0, g1, gsz⟩ := pgbox HW))
    go_ret
    exact ⟨rfl, box2_bel HW⟩
  | true =>
    have HQ := Lib.hid (fair_parts hq)
    have HLen := Lib.hid (stepRF_len (p := p) (g := g) (c := c) (S := S) (fair_parts hq).2.2)
    go_enter Tryz.func5, Tryz.ntmps5
    go_wp2_with (first
      | (go_at_call 25; refine (fair_any _ p _ g _ c _ (HPV.out _ (box2_bel HW)) (HGV.out _ (box2_bel HW)) (HCV.out _ (box2_bel HW))).mono ?_; rintro e w' ⟨rfl, hb⟩; rw [hq]; replace HW := HW.trans hb; clear hb; (try clear p0 p1 p2 g0 g1 gsz); obtain ⟨p0, p1, p2, g0, g1, gsz⟩ := pgbox HW)
      | (go_at_call 27; refine (stepStep_any _ p _ g _ c _ _ (HPV.out _ (box2_bel HW)) (HGV.out _ (box2_bel HW)) (HCV.out _ (box2_bel HW)) HQ.out.1 HQ.out.2.1 HQ.out.2.2 HS.out).mono ?_; rintro e w' ⟨R1, c1, rfl, hN, hb⟩; have HN1 := Lib.hid (fun w2 (k : Bel w' w2) => hN.keep k); clear hN; replace HW := HW.trans hb; clear hb; (try clear p0 p1 p2 g0 g1 gsz); obtain ⟨p0, p1, p2, g0, g1, gsz⟩ := pgbox HW; have HB1 := Bel.refl w')
      | (go_at_call 28; refine (refStep_any _ p _ g _ c _ _ (HPV.out _ (box2_bel HW)) (HGV.out _ (box2_bel HW)) (HCV.out _ (box2_bel HW)) HQ.out.1 HQ.out.2.1 HQ.out.2.2 HS.out).mono ?_; rintro e w' ⟨R2, c2, rfl, hN, hb⟩; have HN2 := Lib.hid (fun w2 (k : Bel w' w2) => hN.keep k); clear hN; replace HB1 := HB1.trans hb; have HB2 := Bel.refl w'; replace HW := HW.trans hb; clear hb; (try clear p0 p1 p2 g0 g1 gsz); obtain ⟨p0, p1, p2, g0, g1, gsz⟩ := pgbox HW)
      | (go_at_call 26; refine (awake14_any _).mono ?_; rintro e w' ⟨rfl, hb⟩; replace HB1 := HB1.trans hb; replace HB2 := HB2.trans hb; replace HW := HW.trans hb; clear hb; (try clear p0 p1 p2 g0 g1 gsz); obtain ⟨p0, p1, p2, g0, g1, gsz⟩ := pgbox HW)
      | (go_at_call 29; refine (refSame_any _ _ (stepRF p g c S).1 (stepRF p g c S).1 _ (HN1.out _ HB1) (HN2.out _ HB2) HLen.out.1 HLen.out.2).mono ?_; rintro e w' ⟨rfl, hb⟩; rw [decide_eq_true rfl]; replace HW := HW.trans hb; clear hb; (try clear p0 p1 p2 g0 g1 gsz); obtain ⟨p0, p1, p2, g0, g1, gsz⟩ := pgbox HW))
    go_ret
    exact ⟨by simp, box2_bel HW⟩

end Go.Proofs.YtibfjhhadbkkgaaGreat

