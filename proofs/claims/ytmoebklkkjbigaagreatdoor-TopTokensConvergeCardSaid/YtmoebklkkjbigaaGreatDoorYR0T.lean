/- TopTokensConverge holds for every input: the analysis finds the certified bounds of the token ring. No condition. -/
import Derived.Test.YtmoebklkkjbigaaGreatDoorZ53
import Derived.Test.YtmoebklkkjbigaaGreatDoorTie
import Derived.Test.YtmoebklkkjbigaaGreatDoorCards
import Derived.SevenTiedAt
set_option maxRecDepth 100000
open Go.Proofs.Tryz

namespace Go.Proofs.YtmoebklkkjbigaaGreatDoor.topTokensConverge
open Go.ChangeShapes Go.WideShapes Go.ChangeAt Go.WideMaps Go.WideElems Go.RowKit Go.Deep
theorem contract (H:Type) (enc:TypeId × Value→H) (W:World) (base:Nat) (args:Array Value) (ds gs:List (DataW H)) (before:List MemPlace)
  (hval:∀ (j:Nat) t v,Tryz.f5.params[j]?=some t→args[j]?=some v→Value.okWide prog W .any base t v)
  (hW:DataW.Whole enc prog Tryz.f5.params.toList Rows.topTokensConvergeSpec.vars false W args.toList ds gs before) (hL:laidMetH prog aSa W) :
  Calls prog 5 args W fun e W'=>∃ v,e = .returned v∧Rows.topTokensConvergeSpec.post enc prog Tryz.f5 false true false false W args v W':=by
 have hW':=hW;obtain ⟨p,q,hA0,hV,rfl,hfz,hnd⟩:=hW;have hA:DataW.TrodAll enc prog W 0 (fun _=>true) true Tryz.f5.params.toList args.toList ds p:=hA0;rw [Tryz.params5] at hA hval;obtain ⟨v0,vs0,d0,ds0,p0,q0,hargs,rfl,rfl,h0,r0⟩:=trodAll_cons hA;obtain ⟨v1,vs1,d1,ds1,p1,q1,rfl,rfl,rfl,h1,r1⟩:=trodAll_cons r0;obtain ⟨rfl,rfl,rfl⟩:=trodAll_nil r1;obtain rfl:args=#[v0,v1]:=by cases args;simp_all
 obtain ⟨rfl,rfl⟩:=trodVars_none hV;obtain ⟨a0,rfl,rfl,rfl⟩:=open_bool underlying4 (hval 0 _ v0 rfl rfl) h0;obtain ⟨a1,rfl,rfl,rfl,wf1⟩:=open_int underlying3 (hval 1 _ v1 rfl rfl) h1;refine (aJ2 a0 a1 W (bDp hL)).mono fun e W' ⟨he,hb⟩=>?_
 exact ⟨_,he,bCr Tryz.laidOut rfl (by kernel_rfl) (by kernel_rfl) underlying4 hW' ⟨rfl,rfl,rfl⟩ hb⟩
theorem lifted (os:Os) (started:os.Started) (H:Type) (enc:TypeId × Value→H) :
  ReturnsInHanded {} Tryz.checked os 5 .any (fun w args=>(Rows.topTokensConvergeSpec.pre enc prog Tryz.f5 [] false w args∧laidMetH prog aSa w)∧sizedMet enc prog Tryz.f5 (OpenSpec.ofChange Rows.topTokensConvergeSpec) false w args) (Rows.topTokensConvergeSpec.post enc prog Tryz.f5 false true false false):=by
 refine returnsInHanded_of_change_and (C:=Tryz.checked) (X:=fun w _=>laidMetH prog aSa w) (fun _ _ _ hh h=>h.of_heap hh) Tryz.own started (by kernel_rfl) func5
  (ChangeSpec.witness_shaped (enc:=enc) (C:=Tryz.checked) (os:=os) (X:=fun w _=>laidMetH prog aSa w) false (World.doorLaid prog 400 os) #[.bool false,.int .i64 0] 8 rfl (World.shaped_of_RefB (by kernel_rfl) (by kernel_rfl)) (by kernel_rfl) (by kernel_rfl) (by kernel_rfl) (bCd os _)) ?_
 intro W base args ds gs before hval hW _ _ hL _
 exact contract H enc W base args ds gs before hval hW hL
theorem q0:jc0 prog 5 Tryz.f5 Rows.topTokensConvergeSpec Rows.topTokensConvergeRow=true:=by kernel_rfl
theorem q1:jc1 prog 5 Tryz.f5 Rows.topTokensConvergeSpec Rows.topTokensConvergeRow=true:=jp1
theorem q2:jc2 prog 5 Tryz.f5 Rows.topTokensConvergeSpec Rows.topTokensConvergeRow=true:=jp2
theorem q3:jc3 prog 5 Tryz.f5 Rows.topTokensConvergeSpec Rows.topTokensConvergeRow=true:=by kernel_rfl
theorem q4:jc4 prog 5 Tryz.f5 Rows.topTokensConvergeSpec Rows.topTokensConvergeRow=true:=by kernel_rfl
theorem q5:jc5 prog 5 Tryz.f5 Rows.topTokensConvergeSpec Rows.topTokensConvergeRow=true:=by kernel_rfl
theorem q6:jc6 prog 5 Tryz.f5 Rows.topTokensConvergeSpec Rows.topTokensConvergeRow=true:=jp6
theorem q7:jc7 prog 5 Tryz.f5 Rows.topTokensConvergeSpec Rows.topTokensConvergeRow=true:=by kernel_rfl
theorem q8:jc8 prog 5 Tryz.f5 Rows.topTokensConvergeSpec Rows.topTokensConvergeRow=true:=jp8
theorem q9:jc9 prog 5 Tryz.f5 Rows.topTokensConvergeSpec Rows.topTokensConvergeRow=true:=by kernel_rfl
theorem q10:jc10 prog 5 Tryz.f5 Rows.topTokensConvergeSpec Rows.topTokensConvergeRow=true:=by kernel_rfl
theorem q11:jc11 prog 5 Tryz.f5 Rows.topTokensConvergeSpec Rows.topTokensConvergeRow=true:=by kernel_rfl
theorem q12:jc12 prog 5 Tryz.f5 Rows.topTokensConvergeSpec Rows.topTokensConvergeRow=true:=by kernel_rfl
theorem q13:jc13 prog 5 Tryz.f5 Rows.topTokensConvergeSpec Rows.topTokensConvergeRow=true:=by kernel_rfl
theorem q14:jc14 prog 5 Tryz.f5 Rows.topTokensConvergeSpec Rows.topTokensConvergeRow=true:=by kernel_rfl
theorem q15:jc15 prog 5 Tryz.f5 Rows.topTokensConvergeSpec Rows.topTokensConvergeRow=true:=by kernel_rfl
theorem q16:jc16 prog 5 Tryz.f5 Rows.topTokensConvergeSpec Rows.topTokensConvergeRow=true:=by kernel_rfl
theorem q17:jc17 prog 5 Tryz.f5 Rows.topTokensConvergeSpec Rows.topTokensConvergeRow=true:=by kernel_rfl
theorem q18:jc18 prog 5 Tryz.f5 Rows.topTokensConvergeSpec Rows.topTokensConvergeRow=true:=by kernel_rfl
theorem q19:jc19 prog 5 Tryz.f5 Rows.topTokensConvergeSpec Rows.topTokensConvergeRow=true:=by kernel_rfl
theorem q20:jc20 prog 5 Tryz.f5 Rows.topTokensConvergeSpec Rows.topTokensConvergeRow=true:=by kernel_rfl
theorem q21:jc21 prog 5 Tryz.f5 Rows.topTokensConvergeSpec Rows.topTokensConvergeRow=true:=by kernel_rfl
theorem q22:jc22 prog 5 Tryz.f5 Rows.topTokensConvergeSpec Rows.topTokensConvergeRow=true:=jp22
theorem q23:jc23 prog 5 Tryz.f5 Rows.topTokensConvergeSpec Rows.topTokensConvergeRow=true:=by kernel_rfl
theorem q24:jc24 prog 5 Tryz.f5 Rows.topTokensConvergeSpec Rows.topTokensConvergeRow=true:=jp24
theorem q25:jc25 prog 5 Tryz.f5 Rows.topTokensConvergeSpec Rows.topTokensConvergeRow=true:=jp25
theorem q26:jc26 prog 5 Tryz.f5 Rows.topTokensConvergeSpec Rows.topTokensConvergeRow=true:=jp26
theorem q27:jc27 prog 5 Tryz.f5 Rows.topTokensConvergeSpec Rows.topTokensConvergeRow=true:=jp27
theorem q28:jc28 prog 5 Tryz.f5 Rows.topTokensConvergeSpec Rows.topTokensConvergeRow=true:=by kernel_rfl
theorem q29:jc29 prog 5 Tryz.f5 Rows.topTokensConvergeSpec Rows.topTokensConvergeRow=true:=by kernel_rfl
theorem q30:jc30 prog 5 Tryz.f5 Rows.topTokensConvergeSpec Rows.topTokensConvergeRow=true:=by kernel_rfl
theorem q31:jc31 prog 5 Tryz.f5 Rows.topTokensConvergeSpec Rows.topTokensConvergeRow=true:=by kernel_rfl
theorem closed:joinedFacts prog 5 Tryz.f5 Rows.topTokensConvergeSpec Rows.topTokensConvergeRow=true:=aEq (aEq (aEq (aEq (aEq (aEq (aEq (aEq (aEq (aEq (aEq (aEq (aEq (aEq (aEq (aEq (aEq (aEq (aEq (aEq (aEq (aEq (aEq (aEq (aEq (aEq (aEq (aEq (aEq (aEq (aEq (q0) q1) q2) q3) q4) q5) q6) q7) q8) q9) q10) q11) q12) q13) q14) q15) q16) q17) q18) q19) q20) q21) q22) q23) q24) q25) q26) q27) q28) q29) q30) q31
theorem row:Rows.TopTokensConvergeSaid :=
 OpenClaim.holds_of_wide 5 Tryz.f5 rfl rfl rfl rfl rfl rfl rfl ⟨rfl,rfl,rfl,rfl,rfl⟩ rfl rfl rfl rfl rfl (by kernel_rfl) func5 closed
  (of_decide_eq_true (by kernel_rfl)) (by unfold Func.isWrapper;first | (rw [if_pos (by decide +kernel)];kernel_rfl) | (rw [if_neg (by decide +kernel)];exact ⟨rfl,rfl⟩))
  (fun os started H enc _=>lifted os started H enc)
theorem pw:Rows.topTokensConvergeRow.wfByText (OpenSpec.ofChange Rows.topTokensConvergeSpec)=true:=by kernel_rfl
theorem pg:false=Rows.topTokensConvergeRow.goesBy prog:=by kernel_rfl
theorem pf : prog.funcNamed "selfstab/selfstabtop.TopTokensConverge" = some 5 := by kernel_rfl
theorem ps:∀ t∈(Tryz.f5.params.toList),prog.wantsStandIn t=false:=by rw [Tryz.params5];decide +kernel
theorem proved:Rows.TopTokensConvergeCardSaid :=
 Claim7.holds_tied_plain_at .later [] [.data] true Rows.topTokensConvergeCard.stood.harness true
  row (fun _ h=>by cases h) pw (fun _ h=>by cases h) topTokensConverge_row_tie rfl ⟨rfl,rfl⟩ bPh rfl
  (fun f fn hf hfn=>by
   obtain rfl:f=5:=Option.some.inj (pf.symm.trans hf) |>.symm;obtain rfl:fn=Tryz.f5:=(Option.some.inj (func5.symm.trans hfn)).symm
   exact ⟨bPg,fun j t ht=>ps t (List.mem_of_getElem? (Array.getElem?_toList ▸ ht))⟩)
  pg
end Go.Proofs.YtmoebklkkjbigaaGreatDoor.topTokensConverge

