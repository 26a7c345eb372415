/- Merged of: R18g (see NOTES.md). -/
import Derived.Test.YtgemlgpjbclonaaGreatDoorZ42
import Derived.Test.YtgemlgpjbclonaaGreatDoorZ43
import Derived.Test.YtgemlgpjbclonaaGreatDoorZ44
import Derived.Test.YtgemlgpjbclonaaGreatDoorTie
import Derived.Test.YtgemlgpjbclonaaGreatDoorCards
import Derived.SevenTiedAt

/- SpaceSplitsIndependentSteps: the walk lifted to the row, and the card. -/
namespace Go.Proofs.YtgemlgpjbclonaaGreatDoor.spaceSplitsIndependentSteps
open Go.ChangeShapes Go.WideShapes Go.ChangeAt Go.WideMaps Go.WideElems Go.RowKit Go.Deep

set_option maxRecDepth 100000 in
theorem contract (H : Type) (enc : TypeId × Value → H) (W : World) (base : Nat) (args : Array Value) (ds gs : List (DataW H)) (before : List MemPlace)
  (hval : ∀ (j : Nat) t v, Tryz.f8.params[j]? = some t → args[j]? = some v → Value.okWide Tryz.prog W .any base t v)
  (hW : DataW.Whole enc Tryz.prog Tryz.f8.params.toList Rows.spaceSplitsIndependentStepsSpec.vars false W args.toList ds gs before) (hL : laidMetH Tryz.prog laidL W) :
  Calls Tryz.prog 8 args W fun e W' => ∃ v, e = .returned v ∧ Rows.spaceSplitsIndependentStepsSpec.post enc Tryz.prog Tryz.f8 false true false false W args v W' := by
 have hW' := hW
 obtain ⟨p, q, hA0, hV, rfl, hfz, hnd⟩ := hW
 have hA : DataW.TrodAll enc Tryz.prog W 0 (fun _ => true) true Tryz.f8.params.toList args.toList ds p := hA0
 rw [Tryz.params8] at hA hval
 obtain ⟨v0, vs0, d0, ds0, p0, q0, hargs, rfl, rfl, h0, r0⟩ := trodAll_cons hA
 obtain ⟨v1, vs1, d1, ds1, p1, q1, rfl, rfl, rfl, h1, r1⟩ := trodAll_cons r0
 obtain ⟨v2, vs2, d2, ds2, p2, q2, rfl, rfl, rfl, h2, r2⟩ := trodAll_cons r1
 obtain ⟨v3, vs3, d3, ds3, p3, q3, rfl, rfl, rfl, h3, r3⟩ := trodAll_cons r2
 obtain ⟨v4, vs4, d4, ds4, p4, q4, rfl, rfl, rfl, h4, r4⟩ := trodAll_cons r3
 obtain ⟨rfl, rfl, rfl⟩ := trodAll_nil r4
 obtain rfl : args = #[v0, v1, v2, v3, v4] := by cases args; simp_all
 obtain ⟨rfl, rfl⟩ := trodVars_none hV
 obtain ⟨P0, hP0⟩ := open_prgV h0 (hval 0 _ v0 rfl rfl)
 obtain ⟨P1, hP1⟩ := open_graphV h1 (hval 1 _ v1 rfl rfl)
 obtain ⟨a2, rfl, rfl, rfl, wf2⟩ := open_int Tryz.underlying3 (hval 2 _ v2 rfl rfl) h2
 obtain ⟨a3, rfl, rfl, rfl, wf3⟩ := open_int Tryz.underlying3 (hval 3 _ v3 rfl rfl) h3
 obtain ⟨a4, rfl, rfl, rfl, wf4⟩ := open_int Tryz.underlying45 (hval 4 _ v4 rfl rfl) h4
 obtain ⟨S4, rfl, hS4⟩ := u32_of_wf wf4
 refine (spaceSplits_walk v0 P0 v1 P1 a2 a3 S4 W hP0 hP1 hS4 (tab32_of hL)).mono fun e W' ⟨he, hb⟩ => ?_
 exact ⟨_, he, law_post Tryz.laidOut rfl (by kernel_rfl) (by kernel_rfl) Tryz.underlying4 hW' ⟨rfl, rfl, rfl⟩ hb⟩

set_option maxRecDepth 100000 in
theorem lifted (os : Os) (started : os.Started) (H : Type) (enc : TypeId × Value → H) :
  ReturnsInHanded {} Tryz.checked os 8 .any (fun w args => (Rows.spaceSplitsIndependentStepsSpec.pre enc Tryz.prog Tryz.f8 [] false w args ∧ laidMetH Tryz.prog laidL w) ∧ sizedMet enc Tryz.prog Tryz.f8 (OpenSpec.ofChange Rows.spaceSplitsIndependentStepsSpec) false w args) (Rows.spaceSplitsIndependentStepsSpec.post enc Tryz.prog Tryz.f8 false true false false) := by
 refine returnsInHanded_of_change_and (C := Tryz.checked) (X := fun w _ => laidMetH Tryz.prog laidL w) (fun _ _ _ hh h => h.of_heap hh) Tryz.own started (by kernel_rfl) Tryz.func8
  (ChangeSpec.witness_shaped (enc := enc) (C := Tryz.checked) (os := os) (X := fun w _ => laidMetH Tryz.prog laidL w) false (World.doorLaid Tryz.prog 400 os) #[.agg #[.string default, .slice none 0 0, .slice none 0 0], .agg #[.slice none 0 0, .slice none 0 0], .int .i64 0, .int .i64 0, .int .u32 0] 8 rfl (World.shaped_of_RefB (by kernel_rfl) (by kernel_rfl)) (by kernel_rfl) (by kernel_rfl) (by kernel_rfl) (door_met os _)) ?_
 intro W base args ds gs before hval hW _ _ hL _
 exact contract H enc W base args ds gs before hval hW hL

theorem row : Rows.SpaceSplitsIndependentStepsSaid :=
 OpenClaim.holds_of_wide 8 Tryz.f8 rfl rfl rfl rfl rfl rfl rfl ⟨rfl, rfl, rfl, rfl, rfl⟩ rfl rfl rfl rfl rfl (by kernel_rfl) Tryz.func8 (by kernel_rfl)
  (of_decide_eq_true (by kernel_rfl)) (by unfold Func.isWrapper; first | (rw [if_pos (by decide +kernel)]; kernel_rfl) | (rw [if_neg (by decide +kernel)]; exact ⟨rfl, rfl⟩))
  (fun os started H enc _ => lifted os started H enc)

theorem proved : Rows.SpaceSplitsIndependentStepsCardSaid :=
 Claim7.holds_tied_plain_at .later [] [.data] true Rows.spaceSplitsIndependentStepsCard.stood.harness false
  row (fun _ h => by cases h) (by kernel_rfl) (fun _ h => by cases h) spaceSplitsIndependentSteps_row_tie rfl ⟨rfl, rfl⟩ (by kernel_rfl) rfl
  (fun f fn hf hfn => by
   obtain rfl : f = 8 := Option.some.inj ((show Tryz.prog.funcNamed "selfstab/selfstablaw18.SpaceSplitsIndependentSteps" = some 8 by kernel_rfl).symm.trans hf) |>.symm
   obtain rfl : fn = Tryz.f8 := (Option.some.inj (Tryz.func8.symm.trans hfn)).symm
   exact ⟨by kernel_rfl, fun j t ht => by
    rw [Tryz.params8] at ht
    have hall : ∀ t ∈ (Tryz.f8.params.toList), Tryz.prog.wantsStandIn t = false := by
     rw [Tryz.params8]; decide +kernel
    rw [Tryz.params8] at hall
    exact hall t (by
     have h2 := Array.getElem?_toList ▸ ht
     exact List.mem_of_getElem? h2)⟩)
  (by kernel_rfl)

end Go.Proofs.YtgemlgpjbclonaaGreatDoor.spaceSplitsIndependentSteps

