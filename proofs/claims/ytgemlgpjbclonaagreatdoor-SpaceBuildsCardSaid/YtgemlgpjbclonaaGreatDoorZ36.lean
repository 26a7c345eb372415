/- Merged of: L18c (see NOTES.md). -/
import Derived.Test.YtgemlgpjbclonaaGreatDoorZ32
import Derived.Test.YtgemlgpjbclonaaGreatDoorZ35
set_option linter.unusedSimpArgs false
set_option linter.unnecessarySimpa false
set_option linter.unusedVariables false

/- The walk of SpaceBuilds. -/
namespace Go.Proofs.YtgemlgpjbclonaaGreatDoor
open Go.RowKit

set_option maxRecDepth 100000 in
set_option maxHeartbeats 4000000 in
theorem spaceBuilds_walk (v1 : Value) (p : Prg) (v2 : Value) (g : Graph) (kind : Int) (w : World) (h : PrgV w v1 p) (h2 : GraphV w v2 g) (hT : Tab32 w) :
  Calls Tryz.prog 3 #[v1, v2, .int .i64 kind] w fun e w' => e = .returned (.bool true) ∧ Bel w w' := by
 have HPV := Lib.hid (fun w' (k : Bel w w') => h.keep k)
 have HGV := Lib.hid (fun w' (k : Bel w w') => h2.keep k)
 have HT := Lib.hid (fun w' (k : Bel w w') => hT.keep k)
 obtain ⟨A1, k1, A2, k2, rfl, _, _, _, _, _, _⟩ := h
 obtain ⟨A3, k3, A4, k4, rfl, _, _, _, _, _, _⟩ := h2
 have HW := Bel.refl ((w.alloc (.cells #[.string p.name, .slice A1 p.vars.length k1, .slice A2 p.rules.length k2] 25)).alloc (.cells #[.slice A3 g.ids.length k3, .slice A4 g.ports.length k4] 29))
 clear hT
 cases hs : smallP p g 200 with
 | false =>
  go_enter Tryz.func3, Tryz.ntmps3
  go_wp2_with (first
   | (go_at_call 9; refine (small_any _ p _ g 200 _ (HPV.out _ (box2_bel HW)) (HGV.out _ (box2_bel HW))).mono ?_; rintro e w' ⟨rfl, hb⟩; rw [hs]; replace HW := HW.trans hb; clear hb; (try clear p0 p1 p2 g0 g1 gsz); obtain ⟨p0, p1, p2, g0, g1, gsz⟩ := pgbox HW)
   | (go_at_call 10; refine (awake18_any _ (HT.out _ (box2_bel HW))).mono ?_; rintro e w' ⟨rfl, hb⟩; replace HW := HW.trans hb; clear hb; (try clear p0 p1 p2 g0 g1 gsz); obtain ⟨p0, p1, p2, g0, g1, gsz⟩ := pgbox HW))
  go_ret
  exact ⟨rfl, box2_bel HW⟩
 | true =>
  have HSM := Lib.hid hs
  obtain ⟨hL, hG, hsz, _⟩ := smallP_parts hs
  by_cases h5 : g.ports.length ≤ 5
  ·have HL := Lib.hid hL
   have HGL := Lib.hid hG
   have HFW : Hid ((totalF p g).2 = 0 → sizeF p g ≤ 200 ∧ g.ports.length ≤ 5) := fun h => ⟨hsz h, h5⟩
   have d5 : decide (5 < g.ports.length) = false := by simp; omega
   have d5I : decide ((5 : Int) < (g.ports.length : Int)) = false := by simp; omega
   have HFEW := Lib.hid (build_few (kind := kind) HFW.out)
   obtain ⟨bd, hbd0⟩ : ∃ bd, buildF p g kind = bd := ⟨_, rfl⟩
   obtain ⟨s, ee⟩ := bd
   rw [hbd0] at HFEW
   have HBF := Lib.hid hbd0
   have hee : (ee == ee) = true := by simp
   clear hs hL hG hsz h5 hbd0
   go_enter Tryz.func3, Tryz.ntmps3
   go_wp2_with (first
    | (go_at_call 9; refine (small_any _ p _ g 200 _ (HPV.out _ (box2_bel HW)) (HGV.out _ (box2_bel HW))).mono ?_; rintro e w' ⟨rfl, hb⟩; rw [HSM.out]; replace HW := HW.trans hb; clear hb; (try clear p0 p1 p2 g0 g1 gsz); obtain ⟨p0, p1, p2, g0, g1, gsz⟩ := pgbox HW)
    | (go_at_call 11; have hbd := spaceBuild_any _ p _ g kind _ (HPV.out _ (box2_bel HW)) (HGV.out _ (box2_bel HW)) (HT.out _ (box2_bel HW)) HL.out HGL.out HFW.out; rw [HBF.out] at hbd; refine hbd.mono ?_; rintro e w1 ⟨vS, rfl, hS, hb⟩; obtain ⟨AE, cE, AA, cA, rfl, _⟩ := (id hS : SpaceV _ _ _); have HS1 := Lib.hid (fun w3 (kk : Bel w1 w3) => hS.keep kk); have HN1 := Lib.hid (Blk.new w1 #[.slice AE s.enabled.length cE, .slice AA s.arcs.length cA] 35); replace HW := (HW.trans hb).alloc (.cells #[.slice AE s.enabled.length cE, .slice AA s.arcs.length cA] 35); have HB1 := Lib.hid ((Bel.refl w1).alloc (.cells #[.slice AE s.enabled.length cE, .slice AA s.arcs.length cA] 35)); clear hb hS p0 p1 p2 g0 g1 gsz hbd; obtain ⟨p0, p1, p2, g0, g1, gsz⟩ := pgbox HW)
    | (go_at_call 12; have hbd := refBuild_any _ p _ g kind _ (HPV.out _ (box2_bel HW)) (HGV.out _ (box2_bel HW)) HL.out HGL.out HFW.out; rw [HBF.out] at hbd; refine hbd.mono ?_; rintro e w2 ⟨vT, rfl, hS, hb⟩; obtain ⟨BE, dE, BA, dA, rfl, _⟩ := (id hS : SpaceV _ _ _); have HS2 := Lib.hid (fun w3 (kk : Bel w2 w3) => hS.keep kk); have HN2 := Lib.hid (Blk.new w2 #[.slice BE s.enabled.length dE, .slice BA s.arcs.length dA] 35); have HB2 := Lib.hid ((HB1.out.trans hb).alloc (.cells #[.slice BE s.enabled.length dE, .slice BA s.arcs.length dA] 35)); have HN12 := Lib.hid ((HN1.out.keep hb).alloc (.cells #[.slice BE s.enabled.length dE, .slice BA s.arcs.length dA] 35)); have HC2 := Lib.hid ((Bel.refl w2).alloc (.cells #[.slice BE s.enabled.length dE, .slice BA s.arcs.length dA] 35)); replace HW := (HW.trans hb).alloc (.cells #[.slice BE s.enabled.length dE, .slice BA s.arcs.length dA] 35); clear hb hS p0 p1 p2 g0 g1 gsz hbd)
    | (go_at_call 10; refine (awake18_any _ (HT.out _ (box2_bel HW))).mono ?_; rintro e w3 ⟨rfl, hb⟩; have M1 := HN12.out.keep hb; have M2 := HN2.out.keep hb; have m0 := M1.cell 0 (v := .slice AE s.enabled.length cE) rfl; have m1 := M1.cell 1 (v := .slice AA s.arcs.length cA) rfl; have ml := M1.lt; have r0 := M2.cell 0 (v := .slice BE s.enabled.length dE) rfl; have r1 := M2.cell 1 (v := .slice BA s.arcs.length dA) rfl; have rl := M2.lt; have HB3 := Lib.hid (HB2.out.trans hb); have HC3 := Lib.hid (HC2.out.trans hb); replace HW := HW.trans hb; clear M1 M2 hb)
    | (go_at_call 13; refine (refSameSpace_any _ _ s _ (HS1.out _ HB3.out) (HS2.out _ HC3.out) (by have := HFEW.out.1; omega) (by have := HFEW.out.2.1; omega) (fun l hl => by have := HFEW.out.2.2 l hl; omega)).mono ?_; rintro e w4 ⟨rfl, hb⟩; replace HW := HW.trans hb; clear hb))
   go_ret
   exact ⟨by simp, box2_bel HW⟩
  ·have d5 : decide (5 < g.ports.length) = true := by simp; omega
   have d5I : decide ((5 : Int) < (g.ports.length : Int)) = true := by simp; omega
   go_enter Tryz.func3, Tryz.ntmps3
   go_wp2_with (first
    | (go_at_call 9; refine (small_any _ p _ g 200 _ (HPV.out _ (box2_bel HW)) (HGV.out _ (box2_bel HW))).mono ?_; rintro e w' ⟨rfl, hb⟩; rw [hs]; replace HW := HW.trans hb; clear hb; (try clear p0 p1 p2 g0 g1 gsz); obtain ⟨p0, p1, p2, g0, g1, gsz⟩ := pgbox HW)
    | (go_at_call 10; refine (awake18_any _ (HT.out _ (box2_bel HW))).mono ?_; rintro e w' ⟨rfl, hb⟩; replace HW := HW.trans hb; clear hb; (try clear p0 p1 p2 g0 g1 gsz); obtain ⟨p0, p1, p2, g0, g1, gsz⟩ := pgbox HW))
   go_ret
   exact ⟨rfl, box2_bel HW⟩

end Go.Proofs.YtgemlgpjbclonaaGreatDoor

