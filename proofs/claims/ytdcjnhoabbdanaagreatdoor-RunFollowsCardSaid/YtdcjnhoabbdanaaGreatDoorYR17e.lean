/- RunFollows holds for every input: Follow and Watch return the specified results. No condition. -/
import Derived.Test.YtdcjnhoabbdanaaGreatDoorZ47
import Derived.Test.YtdcjnhoabbdanaaGreatDoorTie
import Derived.Test.YtdcjnhoabbdanaaGreatDoorCards
import Derived.SevenTiedAt
set_option maxRecDepth 100000
open Go.Proofs.Tryz

namespace Go.Proofs.YtdcjnhoabbdanaaGreatDoor.runFollows
open Go.ChangeShapes Go.WideShapes Go.ChangeAt Go.WideMaps Go.WideElems Go.RowKit Go.Deep
theorem contract (H:Type) (enc:TypeId × Value→H) (W:World) (base:Nat) (args:Array Value) (ds gs:List (DataW H)) (before:List MemPlace)
  (hval:∀ (j:Nat) t v,Tryz.f7.params[j]?=some t→args[j]?=some v→Value.okWide prog W .any base t v)
  (hW:DataW.Whole enc prog Tryz.f7.params.toList Rows.runFollowsSpec.vars false W args.toList ds gs before) (hL:laidMetH prog aVc W) :
  Calls prog 7 args W fun e W'=>∃ v,e = .returned v∧Rows.runFollowsSpec.post enc prog Tryz.f7 false true false false W args v W':=by
 have hW':=hW;obtain ⟨p,q,hA0,hV,rfl,hfz,hnd⟩:=hW;have hA:DataW.TrodAll enc prog W 0 (fun _=>true) true Tryz.f7.params.toList args.toList ds p:=hA0;rw [Tryz.params7] at hA hval;obtain ⟨v0,vs0,d0,ds0,p0,q0,hargs,rfl,rfl,h0,r0⟩:=trodAll_cons hA;obtain ⟨v1,vs1,d1,ds1,p1,q1,rfl,rfl,rfl,h1,r1⟩:=trodAll_cons r0;obtain ⟨v2,vs2,d2,ds2,p2,q2,rfl,rfl,rfl,h2,r2⟩:=trodAll_cons r1;obtain ⟨v3,vs3,d3,ds3,p3,q3,rfl,rfl,rfl,h3,r3⟩:=trodAll_cons r2;obtain ⟨v4,vs4,d4,ds4,p4,q4,rfl,rfl,rfl,h4,r4⟩:=trodAll_cons r3;obtain ⟨rfl,rfl,rfl⟩:=trodAll_nil r4;obtain rfl:args=#[v0,v1,v2,v3,v4]:=by cases args;simp_all
 obtain ⟨rfl,rfl⟩:=trodVars_none hV;obtain ⟨P0,hP0⟩:=aXn h0 (hval 0 _ v0 rfl rfl);obtain ⟨P1,hP1⟩:=aTe h1 (hval 1 _ v1 rfl rfl);obtain ⟨a2,rfl,rfl,rfl,wf2⟩:=open_int underlying3 (hval 2 _ v2 rfl rfl) h2;obtain ⟨P3,hP3⟩:=aVj h3 (hval 3 _ v3 rfl rfl);obtain ⟨A4,c4,l4,rfl,hR4,hg4,hc4,hm4⟩:=aVk h4 (hval 4 _ v4 rfl rfl);refine (aNs v0 P0 v1 P1 a2 v3 P3 A4 c4 l4 W hP0 hP1 hP3 hR4 hg4 (aZv hL)).mono fun e W' ⟨he,hb⟩=>?_
 exact ⟨_,he,aZ7 Tryz.laidOut rfl (by kernel_rfl) (by kernel_rfl) underlying4 hW' ⟨rfl,rfl,rfl⟩ hb⟩
theorem lifted (os:Os) (started:os.Started) (H:Type) (enc:TypeId × Value→H) :
  ReturnsInHanded {} Tryz.checked os 7 .any (fun w args=>(Rows.runFollowsSpec.pre enc prog Tryz.f7 [] false w args∧laidMetH prog aVc w)∧sizedMet enc prog Tryz.f7 (OpenSpec.ofChange Rows.runFollowsSpec) false w args) (Rows.runFollowsSpec.post enc prog Tryz.f7 false true false false):=by
 refine returnsInHanded_of_change_and (C:=Tryz.checked) (X:=fun w _=>laidMetH prog aVc w) (fun _ _ _ hh h=>h.of_heap hh) Tryz.own started (by kernel_rfl) func7
  (ChangeSpec.witness_shaped (enc:=enc) (C:=Tryz.checked) (os:=os) (X:=fun w _=>laidMetH prog aVc w) false (World.doorLaid prog 400 os) #[.agg #[.string default,.slice none 0 0,.slice none 0 0],.agg #[.slice none 0 0,.slice none 0 0],.int .i64 0,.slice none 0 0,.slice none 0 0] 8 rfl (World.shaped_of_RefB (by kernel_rfl) (by kernel_rfl)) (by kernel_rfl) (by kernel_rfl) (by kernel_rfl) (aYv os _)) ?_
 intro W base args ds gs before hval hW _ _ hL _
 exact contract H enc W base args ds gs before hval hW hL
theorem q0:jc0 prog 7 Tryz.f7 Rows.runFollowsSpec Rows.runFollowsRow=true:=by kernel_rfl
theorem q1:jc1 prog 7 Tryz.f7 Rows.runFollowsSpec Rows.runFollowsRow=true:=jp1
theorem q2:jc2 prog 7 Tryz.f7 Rows.runFollowsSpec Rows.runFollowsRow=true:=jp2
theorem q3:jc3 prog 7 Tryz.f7 Rows.runFollowsSpec Rows.runFollowsRow=true:=by kernel_rfl
theorem q4:jc4 prog 7 Tryz.f7 Rows.runFollowsSpec Rows.runFollowsRow=true:=by kernel_rfl
theorem q5:jc5 prog 7 Tryz.f7 Rows.runFollowsSpec Rows.runFollowsRow=true:=by kernel_rfl
theorem q6:jc6 prog 7 Tryz.f7 Rows.runFollowsSpec Rows.runFollowsRow=true:=jp6
theorem q7:jc7 prog 7 Tryz.f7 Rows.runFollowsSpec Rows.runFollowsRow=true:=by kernel_rfl
theorem q8:jc8 prog 7 Tryz.f7 Rows.runFollowsSpec Rows.runFollowsRow=true:=jp8
theorem q9:jc9 prog 7 Tryz.f7 Rows.runFollowsSpec Rows.runFollowsRow=true:=by kernel_rfl
theorem q10:jc10 prog 7 Tryz.f7 Rows.runFollowsSpec Rows.runFollowsRow=true:=by kernel_rfl
theorem q11:jc11 prog 7 Tryz.f7 Rows.runFollowsSpec Rows.runFollowsRow=true:=by kernel_rfl
theorem q12:jc12 prog 7 Tryz.f7 Rows.runFollowsSpec Rows.runFollowsRow=true:=by kernel_rfl
theorem q13:jc13 prog 7 Tryz.f7 Rows.runFollowsSpec Rows.runFollowsRow=true:=by kernel_rfl
theorem q14:jc14 prog 7 Tryz.f7 Rows.runFollowsSpec Rows.runFollowsRow=true:=by kernel_rfl
theorem q15:jc15 prog 7 Tryz.f7 Rows.runFollowsSpec Rows.runFollowsRow=true:=by kernel_rfl
theorem q16:jc16 prog 7 Tryz.f7 Rows.runFollowsSpec Rows.runFollowsRow=true:=by kernel_rfl
theorem q17:jc17 prog 7 Tryz.f7 Rows.runFollowsSpec Rows.runFollowsRow=true:=by kernel_rfl
theorem q18:jc18 prog 7 Tryz.f7 Rows.runFollowsSpec Rows.runFollowsRow=true:=by kernel_rfl
theorem q19:jc19 prog 7 Tryz.f7 Rows.runFollowsSpec Rows.runFollowsRow=true:=by kernel_rfl
theorem q20:jc20 prog 7 Tryz.f7 Rows.runFollowsSpec Rows.runFollowsRow=true:=by kernel_rfl
theorem q21:jc21 prog 7 Tryz.f7 Rows.runFollowsSpec Rows.runFollowsRow=true:=by kernel_rfl
theorem q22:jc22 prog 7 Tryz.f7 Rows.runFollowsSpec Rows.runFollowsRow=true:=jp22
theorem q23:jc23 prog 7 Tryz.f7 Rows.runFollowsSpec Rows.runFollowsRow=true:=by kernel_rfl
theorem q24:jc24 prog 7 Tryz.f7 Rows.runFollowsSpec Rows.runFollowsRow=true:=jp24
theorem q25:jc25 prog 7 Tryz.f7 Rows.runFollowsSpec Rows.runFollowsRow=true:=jp25
theorem q26:jc26 prog 7 Tryz.f7 Rows.runFollowsSpec Rows.runFollowsRow=true:=jp26
theorem q27:jc27 prog 7 Tryz.f7 Rows.runFollowsSpec Rows.runFollowsRow=true:=jp27
theorem q28:jc28 prog 7 Tryz.f7 Rows.runFollowsSpec Rows.runFollowsRow=true:=by kernel_rfl
theorem q29:jc29 prog 7 Tryz.f7 Rows.runFollowsSpec Rows.runFollowsRow=true:=by kernel_rfl
theorem q30:jc30 prog 7 Tryz.f7 Rows.runFollowsSpec Rows.runFollowsRow=true:=by kernel_rfl
theorem q31:jc31 prog 7 Tryz.f7 Rows.runFollowsSpec Rows.runFollowsRow=true:=by kernel_rfl
theorem closed:joinedFacts prog 7 Tryz.f7 Rows.runFollowsSpec Rows.runFollowsRow=true:=aJa (aJa (aJa (aJa (aJa (aJa (aJa (aJa (aJa (aJa (aJa (aJa (aJa (aJa (aJa (aJa (aJa (aJa (aJa (aJa (aJa (aJa (aJa (aJa (aJa (aJa (aJa (aJa (aJa (aJa (aJa (q0) q1) q2) q3) q4) q5) q6) q7) q8) q9) q10) q11) q12) q13) q14) q15) q16) q17) q18) q19) q20) q21) q22) q23) q24) q25) q26) q27) q28) q29) q30) q31
theorem row:Rows.RunFollowsSaid :=
 OpenClaim.holds_of_wide 7 Tryz.f7 rfl rfl rfl rfl rfl rfl rfl ⟨rfl,rfl,rfl,rfl,rfl⟩ rfl rfl rfl rfl rfl (by kernel_rfl) func7 closed
  (of_decide_eq_true (by kernel_rfl)) (by unfold Func.isWrapper;first | (rw [if_pos (by decide +kernel)];kernel_rfl) | (rw [if_neg (by decide +kernel)];exact ⟨rfl,rfl⟩))
  (fun os started H enc _=>lifted os started H enc)
theorem pw:Rows.runFollowsRow.wfByText (OpenSpec.ofChange Rows.runFollowsSpec)=true:=by kernel_rfl
theorem pg:false=Rows.runFollowsRow.goesBy prog:=by kernel_rfl
theorem pf : prog.funcNamed "selfstab/selfstablaw17.RunFollows" = some 7 := by kernel_rfl
theorem ps:∀ t∈(Tryz.f7.params.toList),prog.wantsStandIn t=false:=by rw [Tryz.params7];decide +kernel
theorem proved:Rows.RunFollowsCardSaid :=
 Claim7.holds_tied_plain_at .later [] [.data] true Rows.runFollowsCard.stood.harness false
  row (fun _ h=>by cases h) pw (fun _ h=>by cases h) runFollows_row_tie rfl ⟨rfl,rfl⟩ jmain rfl
  (fun f fn hf hfn=>by
   obtain rfl:f=7:=Option.some.inj (pf.symm.trans hf) |>.symm;obtain rfl:fn=Tryz.f7:=(Option.some.inj (func7.symm.trans hfn)).symm
   exact ⟨jlook,fun j t ht=>ps t (List.mem_of_getElem? (Array.getElem?_toList ▸ ht))⟩)
  pg
end Go.Proofs.YtdcjnhoabbdanaaGreatDoor.runFollows

