/- TopMembersConverge holds for every input: the analysis finds the certified bounds of the program. No condition. -/
import Derived.Test.YtmoebklkkjbigaaGreatDoorZ52
import Derived.Test.YtmoebklkkjbigaaGreatDoorTie
import Derived.Test.YtmoebklkkjbigaaGreatDoorCards
import Derived.SevenTiedAt
set_option maxRecDepth 100000
open Go.Proofs.Tryz

namespace Go.Proofs.YtmoebklkkjbigaaGreatDoor.topMembersConverge
open Go.ChangeShapes Go.WideShapes Go.ChangeAt Go.WideMaps Go.WideElems Go.RowKit Go.Deep
theorem contract (H:Type) (enc:TypeId × Value→H) (W:World) (base:Nat) (args:Array Value) (ds gs:List (DataW H)) (before:List MemPlace)
  (hval:∀ (j:Nat) t v,Tryz.f4.params[j]?=some t→args[j]?=some v→Value.okWide prog W .any base t v)
  (hW:DataW.Whole enc prog Tryz.f4.params.toList Rows.topMembersConvergeSpec.vars false W args.toList ds gs before) (hL:laidMetH prog aSa W) :
  Calls prog 4 args W fun e W'=>∃ v,e = .returned v∧Rows.topMembersConvergeSpec.post enc prog Tryz.f4 false true false false W args v W':=by
 have hW':=hW;obtain ⟨p,q,hA0,hV,rfl,hfz,hnd⟩:=hW;have hA:DataW.TrodAll enc prog W 0 (fun _=>true) true Tryz.f4.params.toList args.toList ds p:=hA0;rw [Tryz.params4] at hA hval;obtain ⟨v0,vs0,d0,ds0,p0,q0,hargs,rfl,rfl,h0,r0⟩:=trodAll_cons hA;obtain ⟨v1,vs1,d1,ds1,p1,q1,rfl,rfl,rfl,h1,r1⟩:=trodAll_cons r0;obtain ⟨rfl,rfl,rfl⟩:=trodAll_nil r1;obtain rfl:args=#[v0,v1]:=by cases args;simp_all
 obtain ⟨rfl,rfl⟩:=trodVars_none hV;obtain ⟨P0,hP0⟩:=bB1 h0 (hval 0 _ v0 rfl rfl);obtain ⟨a1,rfl,rfl,rfl⟩:=open_bool underlying4 (hval 1 _ v1 rfl rfl) h1;refine (aIk v0 P0 a1 W hP0 (bDp hL)).mono fun e W' ⟨he,hb⟩=>?_
 exact ⟨_,he,bCr Tryz.laidOut rfl (by kernel_rfl) (by kernel_rfl) underlying4 hW' ⟨rfl,rfl,rfl⟩ hb⟩
theorem lifted (os:Os) (started:os.Started) (H:Type) (enc:TypeId × Value→H) :
  ReturnsInHanded {} Tryz.checked os 4 .any (fun w args=>(Rows.topMembersConvergeSpec.pre enc prog Tryz.f4 [] false w args∧laidMetH prog aSa w)∧sizedMet enc prog Tryz.f4 (OpenSpec.ofChange Rows.topMembersConvergeSpec) false w args) (Rows.topMembersConvergeSpec.post enc prog Tryz.f4 false true false false):=by
 refine returnsInHanded_of_change_and (C:=Tryz.checked) (X:=fun w _=>laidMetH prog aSa w) (fun _ _ _ hh h=>h.of_heap hh) Tryz.own started (by kernel_rfl) func4
  (ChangeSpec.witness_shaped (enc:=enc) (C:=Tryz.checked) (os:=os) (X:=fun w _=>laidMetH prog aSa w) false (World.doorLaid prog 400 os) #[.agg #[.slice none 0 0,.slice none 0 0],.bool false] 8 rfl (World.shaped_of_RefB (by kernel_rfl) (by kernel_rfl)) (by kernel_rfl) (by kernel_rfl) (by kernel_rfl) (bCd os _)) ?_
 intro W base args ds gs before hval hW _ _ hL _
 exact contract H enc W base args ds gs before hval hW hL
theorem q0:jc0 prog 4 Tryz.f4 Rows.topMembersConvergeSpec Rows.topMembersConvergeRow=true:=by kernel_rfl
theorem q1:jc1 prog 4 Tryz.f4 Rows.topMembersConvergeSpec Rows.topMembersConvergeRow=true:=jp1
theorem q2:jc2 prog 4 Tryz.f4 Rows.topMembersConvergeSpec Rows.topMembersConvergeRow=true:=jp2
theorem q3:jc3 prog 4 Tryz.f4 Rows.topMembersConvergeSpec Rows.topMembersConvergeRow=true:=by kernel_rfl
theorem q4:jc4 prog 4 Tryz.f4 Rows.topMembersConvergeSpec Rows.topMembersConvergeRow=true:=by kernel_rfl
theorem q5:jc5 prog 4 Tryz.f4 Rows.topMembersConvergeSpec Rows.topMembersConvergeRow=true:=by kernel_rfl
theorem q6:jc6 prog 4 Tryz.f4 Rows.topMembersConvergeSpec Rows.topMembersConvergeRow=true:=jp6
theorem q7:jc7 prog 4 Tryz.f4 Rows.topMembersConvergeSpec Rows.topMembersConvergeRow=true:=by kernel_rfl
theorem q8:jc8 prog 4 Tryz.f4 Rows.topMembersConvergeSpec Rows.topMembersConvergeRow=true:=jp8
theorem q9:jc9 prog 4 Tryz.f4 Rows.topMembersConvergeSpec Rows.topMembersConvergeRow=true:=by kernel_rfl
theorem q10:jc10 prog 4 Tryz.f4 Rows.topMembersConvergeSpec Rows.topMembersConvergeRow=true:=by kernel_rfl
theorem q11:jc11 prog 4 Tryz.f4 Rows.topMembersConvergeSpec Rows.topMembersConvergeRow=true:=by kernel_rfl
theorem q12:jc12 prog 4 Tryz.f4 Rows.topMembersConvergeSpec Rows.topMembersConvergeRow=true:=by kernel_rfl
theorem q13:jc13 prog 4 Tryz.f4 Rows.topMembersConvergeSpec Rows.topMembersConvergeRow=true:=by kernel_rfl
theorem q14:jc14 prog 4 Tryz.f4 Rows.topMembersConvergeSpec Rows.topMembersConvergeRow=true:=by kernel_rfl
theorem q15:jc15 prog 4 Tryz.f4 Rows.topMembersConvergeSpec Rows.topMembersConvergeRow=true:=by kernel_rfl
theorem q16:jc16 prog 4 Tryz.f4 Rows.topMembersConvergeSpec Rows.topMembersConvergeRow=true:=by kernel_rfl
theorem q17:jc17 prog 4 Tryz.f4 Rows.topMembersConvergeSpec Rows.topMembersConvergeRow=true:=by kernel_rfl
theorem q18:jc18 prog 4 Tryz.f4 Rows.topMembersConvergeSpec Rows.topMembersConvergeRow=true:=by kernel_rfl
theorem q19:jc19 prog 4 Tryz.f4 Rows.topMembersConvergeSpec Rows.topMembersConvergeRow=true:=by kernel_rfl
theorem q20:jc20 prog 4 Tryz.f4 Rows.topMembersConvergeSpec Rows.topMembersConvergeRow=true:=by kernel_rfl
theorem q21:jc21 prog 4 Tryz.f4 Rows.topMembersConvergeSpec Rows.topMembersConvergeRow=true:=by kernel_rfl
theorem q22:jc22 prog 4 Tryz.f4 Rows.topMembersConvergeSpec Rows.topMembersConvergeRow=true:=jp22
theorem q23:jc23 prog 4 Tryz.f4 Rows.topMembersConvergeSpec Rows.topMembersConvergeRow=true:=by kernel_rfl
theorem q24:jc24 prog 4 Tryz.f4 Rows.topMembersConvergeSpec Rows.topMembersConvergeRow=true:=jp24
theorem q25:jc25 prog 4 Tryz.f4 Rows.topMembersConvergeSpec Rows.topMembersConvergeRow=true:=jp25
theorem q26:jc26 prog 4 Tryz.f4 Rows.topMembersConvergeSpec Rows.topMembersConvergeRow=true:=jp26
theorem q27:jc27 prog 4 Tryz.f4 Rows.topMembersConvergeSpec Rows.topMembersConvergeRow=true:=jp27
theorem q28:jc28 prog 4 Tryz.f4 Rows.topMembersConvergeSpec Rows.topMembersConvergeRow=true:=by kernel_rfl
theorem q29:jc29 prog 4 Tryz.f4 Rows.topMembersConvergeSpec Rows.topMembersConvergeRow=true:=by kernel_rfl
theorem q30:jc30 prog 4 Tryz.f4 Rows.topMembersConvergeSpec Rows.topMembersConvergeRow=true:=by kernel_rfl
theorem q31:jc31 prog 4 Tryz.f4 Rows.topMembersConvergeSpec Rows.topMembersConvergeRow=true:=by kernel_rfl
theorem closed:joinedFacts prog 4 Tryz.f4 Rows.topMembersConvergeSpec Rows.topMembersConvergeRow=true:=aEq (aEq (aEq (aEq (aEq (aEq (aEq (aEq (aEq (aEq (aEq (aEq (aEq (aEq (aEq (aEq (aEq (aEq (aEq (aEq (aEq (aEq (aEq (aEq (aEq (aEq (aEq (aEq (aEq (aEq (aEq (q0) q1) q2) q3) q4) q5) q6) q7) q8) q9) q10) q11) q12) q13) q14) q15) q16) q17) q18) q19) q20) q21) q22) q23) q24) q25) q26) q27) q28) q29) q30) q31
theorem row:Rows.TopMembersConvergeSaid :=
 OpenClaim.holds_of_wide 4 Tryz.f4 rfl rfl rfl rfl rfl rfl rfl ⟨rfl,rfl,rfl,rfl,rfl⟩ rfl rfl rfl rfl rfl (by kernel_rfl) func4 closed
  (of_decide_eq_true (by kernel_rfl)) (by unfold Func.isWrapper;first | (rw [if_pos (by decide +kernel)];kernel_rfl) | (rw [if_neg (by decide +kernel)];exact ⟨rfl,rfl⟩))
  (fun os started H enc _=>lifted os started H enc)
theorem pw:Rows.topMembersConvergeRow.wfByText (OpenSpec.ofChange Rows.topMembersConvergeSpec)=true:=by kernel_rfl
theorem pg:false=Rows.topMembersConvergeRow.goesBy prog:=by kernel_rfl
theorem pf : prog.funcNamed "selfstab/selfstabtop.TopMembersConverge" = some 4 := by kernel_rfl
theorem ps:∀ t∈(Tryz.f4.params.toList),prog.wantsStandIn t=false:=by rw [Tryz.params4];decide +kernel
theorem proved:Rows.TopMembersConvergeCardSaid :=
 Claim7.holds_tied_plain_at .later [] [.data] true Rows.topMembersConvergeCard.stood.harness true
  row (fun _ h=>by cases h) pw (fun _ h=>by cases h) topMembersConverge_row_tie rfl ⟨rfl,rfl⟩ bPh rfl
  (fun f fn hf hfn=>by
   obtain rfl:f=4:=Option.some.inj (pf.symm.trans hf) |>.symm;obtain rfl:fn=Tryz.f4:=(Option.some.inj (func4.symm.trans hfn)).symm
   exact ⟨bPg,fun j t ht=>ps t (List.mem_of_getElem? (Array.getElem?_toList ▸ ht))⟩)
  pg
end Go.Proofs.YtmoebklkkjbigaaGreatDoor.topMembersConverge

