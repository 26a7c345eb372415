/- RunOfSynchronousLassosIsFair holds for every input: a lasso under the synchronous daemon is fair, a fair schedule is a lasso, and a loop that is repeated is a lasso again. No condition. -/
import Derived.Test.YtdcjnhoabbdanaaGreatDoorZ47
import Derived.Test.YtdcjnhoabbdanaaGreatDoorTie
import Derived.Test.YtdcjnhoabbdanaaGreatDoorCards
import Derived.SevenTiedAt
set_option maxRecDepth 100000
open Go.Proofs.Tryz

namespace Go.Proofs.YtdcjnhoabbdanaaGreatDoor.runOfSynchronousLassosIsFair
open Go.ChangeShapes Go.WideShapes Go.ChangeAt Go.WideMaps Go.WideElems Go.RowKit Go.Deep
theorem contract (H:Type) (enc:TypeId × Value→H) (W:World) (base:Nat) (args:Array Value) (ds gs:List (DataW H)) (before:List MemPlace)
  (hval:∀ (j:Nat) t v,Tryz.f10.params[j]?=some t→args[j]?=some v→Value.okWide prog W .any base t v)
  (hW:DataW.Whole enc prog Tryz.f10.params.toList Rows.runOfSynchronousLassosIsFairSpec.vars false W args.toList ds gs before) (hL:laidMetH prog aOq W) :
  Calls prog 10 args W fun e W'=>∃ v,e = .returned v∧Rows.runOfSynchronousLassosIsFairSpec.post enc prog Tryz.f10 false true false false W args v W':=by
 have hW':=hW;obtain ⟨p,q,hA0,hV,rfl,hfz,hnd⟩:=hW;have hA:DataW.TrodAll enc prog W 0 (fun _=>true) true Tryz.f10.params.toList args.toList ds p:=hA0;rw [Tryz.params10] at hA hval;obtain ⟨v0,vs0,d0,ds0,p0,q0,hargs,rfl,rfl,h0,r0⟩:=trodAll_cons hA;obtain ⟨v1,vs1,d1,ds1,p1,q1,rfl,rfl,rfl,h1,r1⟩:=trodAll_cons r0;obtain ⟨v2,vs2,d2,ds2,p2,q2,rfl,rfl,rfl,h2,r2⟩:=trodAll_cons r1;obtain ⟨v3,vs3,d3,ds3,p3,q3,rfl,rfl,rfl,h3,r3⟩:=trodAll_cons r2;obtain ⟨v4,vs4,d4,ds4,p4,q4,rfl,rfl,rfl,h4,r4⟩:=trodAll_cons r3;obtain ⟨v5,vs5,d5,ds5,p5,q5,rfl,rfl,rfl,h5,r5⟩:=trodAll_cons r4;obtain ⟨rfl,rfl,rfl⟩:=trodAll_nil r5;obtain rfl:args=#[v0,v1,v2,v3,v4,v5]:=by cases args;simp_all
 obtain ⟨rfl,rfl⟩:=trodVars_none hV;obtain ⟨P0,hP0⟩:=aS4 h0 (hval 0 _ v0 rfl rfl);obtain ⟨P1,hP1⟩:=aO0 h1 (hval 1 _ v1 rfl rfl);obtain ⟨a2,rfl,rfl,rfl,wf2⟩:=open_int underlying3 (hval 2 _ v2 rfl rfl) h2;obtain ⟨P3,hP3⟩:=aPg h3 (hval 3 _ v3 rfl rfl);obtain ⟨A4,c4,l4,rfl,hR4,hg4,hc4,hm4⟩:=aIt h4 (hval 4 _ v4 rfl rfl);obtain ⟨A5,c5,l5,rfl,hR5,hg5,hc5,hm5⟩:=aIt h5 (hval 5 _ v5 rfl rfl);refine (aOx v0 P0 v1 P1 a2 v3 P3 A4 c4 l4 A5 c5 l5 W hP0 hP1 hP3 hR4 hg4 hR5 hg5 (aVe hL)).mono fun e W' ⟨he,hb⟩=>?_
 exact ⟨_,he,aUw Tryz.laidOut rfl (by kernel_rfl) (by kernel_rfl) underlying4 hW' ⟨rfl,rfl,rfl⟩ hb⟩
theorem lifted (os:Os) (started:os.Started) (H:Type) (enc:TypeId × Value→H) :
  ReturnsInHanded {} Tryz.checked os 10 .any (fun w args=>(Rows.runOfSynchronousLassosIsFairSpec.pre enc prog Tryz.f10 [] false w args∧laidMetH prog aOq w)∧sizedMet enc prog Tryz.f10 (OpenSpec.ofChange Rows.runOfSynchronousLassosIsFairSpec) false w args) (Rows.runOfSynchronousLassosIsFairSpec.post enc prog Tryz.f10 false true false false):=by
 refine returnsInHanded_of_change_and (C:=Tryz.checked) (X:=fun w _=>laidMetH prog aOq w) (fun _ _ _ hh h=>h.of_heap hh) Tryz.own started (by kernel_rfl) func10
  (ChangeSpec.witness_shaped (enc:=enc) (C:=Tryz.checked) (os:=os) (X:=fun w _=>laidMetH prog aOq w) false (World.doorLaid prog 400 os) #[.agg #[.string default,.slice none 0 0,.slice none 0 0],.agg #[.slice none 0 0,.slice none 0 0],.int .i64 0,.slice none 0 0,.slice none 0 0,.slice none 0 0] 8 rfl (World.shaped_of_RefB (by kernel_rfl) (by kernel_rfl)) (by kernel_rfl) (by kernel_rfl) (by kernel_rfl) (aUq os _)) ?_
 intro W base args ds gs before hval hW _ _ hL _
 exact contract H enc W base args ds gs before hval hW hL
theorem q0:jc0 prog 10 Tryz.f10 Rows.runOfSynchronousLassosIsFairSpec Rows.runOfSynchronousLassosIsFairRow=true:=by kernel_rfl
theorem q1:jc1 prog 10 Tryz.f10 Rows.runOfSynchronousLassosIsFairSpec Rows.runOfSynchronousLassosIsFairRow=true:=jp1
theorem q2:jc2 prog 10 Tryz.f10 Rows.runOfSynchronousLassosIsFairSpec Rows.runOfSynchronousLassosIsFairRow=true:=jp2
theorem q3:jc3 prog 10 Tryz.f10 Rows.runOfSynchronousLassosIsFairSpec Rows.runOfSynchronousLassosIsFairRow=true:=by kernel_rfl
theorem q4:jc4 prog 10 Tryz.f10 Rows.runOfSynchronousLassosIsFairSpec Rows.runOfSynchronousLassosIsFairRow=true:=by kernel_rfl
theorem q5:jc5 prog 10 Tryz.f10 Rows.runOfSynchronousLassosIsFairSpec Rows.runOfSynchronousLassosIsFairRow=true:=by kernel_rfl
theorem q6:jc6 prog 10 Tryz.f10 Rows.runOfSynchronousLassosIsFairSpec Rows.runOfSynchronousLassosIsFairRow=true:=jp6
theorem q7:jc7 prog 10 Tryz.f10 Rows.runOfSynchronousLassosIsFairSpec Rows.runOfSynchronousLassosIsFairRow=true:=by kernel_rfl
theorem q8:jc8 prog 10 Tryz.f10 Rows.runOfSynchronousLassosIsFairSpec Rows.runOfSynchronousLassosIsFairRow=true:=jp8
theorem q9:jc9 prog 10 Tryz.f10 Rows.runOfSynchronousLassosIsFairSpec Rows.runOfSynchronousLassosIsFairRow=true:=by kernel_rfl
theorem q10:jc10 prog 10 Tryz.f10 Rows.runOfSynchronousLassosIsFairSpec Rows.runOfSynchronousLassosIsFairRow=true:=by kernel_rfl
theorem q11:jc11 prog 10 Tryz.f10 Rows.runOfSynchronousLassosIsFairSpec Rows.runOfSynchronousLassosIsFairRow=true:=by kernel_rfl
theorem q12:jc12 prog 10 Tryz.f10 Rows.runOfSynchronousLassosIsFairSpec Rows.runOfSynchronousLassosIsFairRow=true:=by kernel_rfl
theorem q13:jc13 prog 10 Tryz.f10 Rows.runOfSynchronousLassosIsFairSpec Rows.runOfSynchronousLassosIsFairRow=true:=by kernel_rfl
theorem q14:jc14 prog 10 Tryz.f10 Rows.runOfSynchronousLassosIsFairSpec Rows.runOfSynchronousLassosIsFairRow=true:=by kernel_rfl
theorem q15:jc15 prog 10 Tryz.f10 Rows.runOfSynchronousLassosIsFairSpec Rows.runOfSynchronousLassosIsFairRow=true:=by kernel_rfl
theorem q16:jc16 prog 10 Tryz.f10 Rows.runOfSynchronousLassosIsFairSpec Rows.runOfSynchronousLassosIsFairRow=true:=by kernel_rfl
theorem q17:jc17 prog 10 Tryz.f10 Rows.runOfSynchronousLassosIsFairSpec Rows.runOfSynchronousLassosIsFairRow=true:=by kernel_rfl
theorem q18:jc18 prog 10 Tryz.f10 Rows.runOfSynchronousLassosIsFairSpec Rows.runOfSynchronousLassosIsFairRow=true:=by kernel_rfl
theorem q19:jc19 prog 10 Tryz.f10 Rows.runOfSynchronousLassosIsFairSpec Rows.runOfSynchronousLassosIsFairRow=true:=by kernel_rfl
theorem q20:jc20 prog 10 Tryz.f10 Rows.runOfSynchronousLassosIsFairSpec Rows.runOfSynchronousLassosIsFairRow=true:=by kernel_rfl
theorem q21:jc21 prog 10 Tryz.f10 Rows.runOfSynchronousLassosIsFairSpec Rows.runOfSynchronousLassosIsFairRow=true:=by kernel_rfl
theorem q22:jc22 prog 10 Tryz.f10 Rows.runOfSynchronousLassosIsFairSpec Rows.runOfSynchronousLassosIsFairRow=true:=jp22
theorem q23:jc23 prog 10 Tryz.f10 Rows.runOfSynchronousLassosIsFairSpec Rows.runOfSynchronousLassosIsFairRow=true:=by kernel_rfl
theorem q24:jc24 prog 10 Tryz.f10 Rows.runOfSynchronousLassosIsFairSpec Rows.runOfSynchronousLassosIsFairRow=true:=jp24
theorem q25:jc25 prog 10 Tryz.f10 Rows.runOfSynchronousLassosIsFairSpec Rows.runOfSynchronousLassosIsFairRow=true:=jp25
theorem q26:jc26 prog 10 Tryz.f10 Rows.runOfSynchronousLassosIsFairSpec Rows.runOfSynchronousLassosIsFairRow=true:=jp26
theorem q27:jc27 prog 10 Tryz.f10 Rows.runOfSynchronousLassosIsFairSpec Rows.runOfSynchronousLassosIsFairRow=true:=jp27
theorem q28:jc28 prog 10 Tryz.f10 Rows.runOfSynchronousLassosIsFairSpec Rows.runOfSynchronousLassosIsFairRow=true:=by kernel_rfl
theorem q29:jc29 prog 10 Tryz.f10 Rows.runOfSynchronousLassosIsFairSpec Rows.runOfSynchronousLassosIsFairRow=true:=by kernel_rfl
theorem q30:jc30 prog 10 Tryz.f10 Rows.runOfSynchronousLassosIsFairSpec Rows.runOfSynchronousLassosIsFairRow=true:=by kernel_rfl
theorem q31:jc31 prog 10 Tryz.f10 Rows.runOfSynchronousLassosIsFairSpec Rows.runOfSynchronousLassosIsFairRow=true:=by kernel_rfl
theorem closed:joinedFacts prog 10 Tryz.f10 Rows.runOfSynchronousLassosIsFairSpec Rows.runOfSynchronousLassosIsFairRow=true:=aE2 (aE2 (aE2 (aE2 (aE2 (aE2 (aE2 (aE2 (aE2 (aE2 (aE2 (aE2 (aE2 (aE2 (aE2 (aE2 (aE2 (aE2 (aE2 (aE2 (aE2 (aE2 (aE2 (aE2 (aE2 (aE2 (aE2 (aE2 (aE2 (aE2 (aE2 (q0) q1) q2) q3) q4) q5) q6) q7) q8) q9) q10) q11) q12) q13) q14) q15) q16) q17) q18) q19) q20) q21) q22) q23) q24) q25) q26) q27) q28) q29) q30) q31
theorem row:Rows.RunOfSynchronousLassosIsFairSaid :=
 OpenClaim.holds_of_wide 10 Tryz.f10 rfl rfl rfl rfl rfl rfl rfl ⟨rfl,rfl,rfl,rfl,rfl⟩ rfl rfl rfl rfl rfl (by kernel_rfl) func10 closed
  (of_decide_eq_true (by kernel_rfl)) (by unfold Func.isWrapper;first | (rw [if_pos (by decide +kernel)];kernel_rfl) | (rw [if_neg (by decide +kernel)];exact ⟨rfl,rfl⟩))
  (fun os started H enc _=>lifted os started H enc)
theorem pw:Rows.runOfSynchronousLassosIsFairRow.wfByText (OpenSpec.ofChange Rows.runOfSynchronousLassosIsFairSpec)=true:=by kernel_rfl
theorem pg:false=Rows.runOfSynchronousLassosIsFairRow.goesBy prog:=by kernel_rfl
theorem pf : prog.funcNamed "selfstab/selfstablaw17.RunOfSynchronousLassosIsFair" = some 10 := by kernel_rfl
theorem ps:∀ t∈(Tryz.f10.params.toList),prog.wantsStandIn t=false:=by rw [Tryz.params10];decide +kernel
theorem proved:Rows.RunOfSynchronousLassosIsFairCardSaid :=
 Claim7.holds_tied_plain_at .later [] [.data] true Rows.runOfSynchronousLassosIsFairCard.stood.harness false
  row (fun _ h=>by cases h) pw (fun _ h=>by cases h) runOfSynchronousLassosIsFair_row_tie rfl ⟨rfl,rfl⟩ bCb rfl
  (fun f fn hf hfn=>by
   obtain rfl:f=10:=Option.some.inj (pf.symm.trans hf) |>.symm;obtain rfl:fn=Tryz.f10:=(Option.some.inj (func10.symm.trans hfn)).symm
   exact ⟨bCa,fun j t ht=>ps t (List.mem_of_getElem? (Array.getElem?_toList ▸ ht))⟩)
  pg
end Go.Proofs.YtdcjnhoabbdanaaGreatDoor.runOfSynchronousLassosIsFair

