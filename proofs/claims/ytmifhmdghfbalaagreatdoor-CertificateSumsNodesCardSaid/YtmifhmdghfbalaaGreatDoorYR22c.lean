/- Merged. -/
import Derived.Test.YtmifhmdghfbalaaGreatDoorZ49
import Derived.Test.YtmifhmdghfbalaaGreatDoorZ15
import Derived.Test.YtmifhmdghfbalaaGreatDoorTie
import Derived.Test.YtmifhmdghfbalaaGreatDoorCards
import Derived.SevenTiedAt
set_option maxRecDepth 100000

/- CertificateSumsNodes holds for every input: the vector is the sum of the values of the expressions at all nodes. No condition. -/
namespace Go.Proofs.YtmifhmdghfbalaaGreatDoor.certificateSumsNodes
open Go.ChangeShapes Go.WideShapes Go.ChangeAt Go.WideMaps Go.WideElems Go.RowKit Go.Deep

theorem contract (H:Type) (enc:TypeId × Value→H) (W:World) (base:Nat) (args:Array Value) (ds gs:List (DataW H)) (before:List MemPlace)
  (hval:∀ (j:Nat) t v,Tryz.f16.params[j]?=some t→args[j]?=some v→Value.okWide Tryz.prog W .any base t v)
  (hW:DataW.Whole enc Tryz.prog Tryz.f16.params.toList Rows.certificateSumsNodesSpec.vars false W args.toList ds gs before) (hL:laidMetH Tryz.prog aGp W) :
  Calls Tryz.prog 16 args W fun e W'=>∃ v,e = .returned v∧Rows.certificateSumsNodesSpec.post enc Tryz.prog Tryz.f16 false true false false W args v W':=by
 have hW':=hW
 obtain ⟨p,q,hA0,hV,rfl,hfz,hnd⟩:=hW
 have hA:DataW.TrodAll enc Tryz.prog W 0 (fun _=>true) true Tryz.f16.params.toList args.toList ds p:=hA0
 rw [Tryz.params16] at hA hval
 obtain ⟨v0,vs0,d0,ds0,p0,q0,hargs,rfl,rfl,h0,r0⟩:=trodAll_cons hA
 obtain ⟨v1,vs1,d1,ds1,p1,q1,rfl,rfl,rfl,h1,r1⟩:=trodAll_cons r0
 obtain ⟨v2,vs2,d2,ds2,p2,q2,rfl,rfl,rfl,h2,r2⟩:=trodAll_cons r1
 obtain ⟨v3,vs3,d3,ds3,p3,q3,rfl,rfl,rfl,h3,r3⟩:=trodAll_cons r2
 obtain ⟨rfl,rfl,rfl⟩:=trodAll_nil r3
 obtain rfl:args=#[v0,v1,v2,v3]:=by cases args;simp_all
 obtain ⟨rfl,rfl⟩:=trodVars_none hV
 obtain ⟨P0,hP0⟩:=aKu h0 (hval 0 _ v0 rfl rfl)
 obtain ⟨P1,hP1⟩:=aHu h1 (hval 1 _ v1 rfl rfl)
 obtain ⟨P2,hP2⟩:=aTy h2 (hval 2 _ v2 rfl rfl)
 obtain ⟨A3,c3,l3,rfl,hR3,hc3,hm3⟩:=aGa h3 (hval 3 _ v3 rfl rfl)
 refine (aUv v0 P0 v1 P1 v2 P2 A3 c3 l3 W hP0 hP1 hP2 hR3 (aLq hL)).mono fun e W' ⟨he,hb⟩=>?_
 exact ⟨_,he,aLj Tryz.laidOut rfl (by kernel_rfl) (by kernel_rfl) Tryz.underlying4 hW' ⟨rfl,rfl,rfl⟩ hb⟩

theorem lifted (os:Os) (started:os.Started) (H:Type) (enc:TypeId × Value→H) :
  ReturnsInHanded {} Tryz.checked os 16 .any (fun w args=>(Rows.certificateSumsNodesSpec.pre enc Tryz.prog Tryz.f16 [] false w args∧laidMetH Tryz.prog aGp w)∧sizedMet enc Tryz.prog Tryz.f16 (OpenSpec.ofChange Rows.certificateSumsNodesSpec) false w args) (Rows.certificateSumsNodesSpec.post enc Tryz.prog Tryz.f16 false true false false):=by
 refine returnsInHanded_of_change_and (C:=Tryz.checked) (X:=fun w _=>laidMetH Tryz.prog aGp w) (fun _ _ _ hh h=>h.of_heap hh) Tryz.own started (by kernel_rfl) Tryz.func16
  (ChangeSpec.witness_shaped (enc:=enc) (C:=Tryz.checked) (os:=os) (X:=fun w _=>laidMetH Tryz.prog aGp w) false (World.doorLaid Tryz.prog 400 os) #[.agg #[.string default,.slice none 0 0,.slice none 0 0],.agg #[.slice none 0 0,.slice none 0 0],.slice none 0 0,.slice none 0 0] 8 rfl (World.shaped_of_RefB (by kernel_rfl) (by kernel_rfl)) (by kernel_rfl) (by kernel_rfl) (by kernel_rfl) (aLd os _)) ?_
 intro W base args ds gs before hval hW _ _ hL _
 exact contract H enc W base args ds gs before hval hW hL

theorem q0:jc0 Tryz.prog 16 Tryz.f16 Rows.certificateSumsNodesSpec Rows.certificateSumsNodesRow=true:=by kernel_rfl
theorem q1:jc1 Tryz.prog 16 Tryz.f16 Rows.certificateSumsNodesSpec Rows.certificateSumsNodesRow=true:=jp1
theorem q2:jc2 Tryz.prog 16 Tryz.f16 Rows.certificateSumsNodesSpec Rows.certificateSumsNodesRow=true:=jp2
theorem q3:jc3 Tryz.prog 16 Tryz.f16 Rows.certificateSumsNodesSpec Rows.certificateSumsNodesRow=true:=by kernel_rfl
theorem q4:jc4 Tryz.prog 16 Tryz.f16 Rows.certificateSumsNodesSpec Rows.certificateSumsNodesRow=true:=by kernel_rfl
theorem q5:jc5 Tryz.prog 16 Tryz.f16 Rows.certificateSumsNodesSpec Rows.certificateSumsNodesRow=true:=by kernel_rfl
theorem q6:jc6 Tryz.prog 16 Tryz.f16 Rows.certificateSumsNodesSpec Rows.certificateSumsNodesRow=true:=jp6
theorem q7:jc7 Tryz.prog 16 Tryz.f16 Rows.certificateSumsNodesSpec Rows.certificateSumsNodesRow=true:=by kernel_rfl
theorem q8:jc8 Tryz.prog 16 Tryz.f16 Rows.certificateSumsNodesSpec Rows.certificateSumsNodesRow=true:=jp8
theorem q9:jc9 Tryz.prog 16 Tryz.f16 Rows.certificateSumsNodesSpec Rows.certificateSumsNodesRow=true:=by kernel_rfl
theorem q10:bLh Tryz.prog 16 Tryz.f16 Rows.certificateSumsNodesSpec Rows.certificateSumsNodesRow=true:=by kernel_rfl
theorem q11:bLi Tryz.prog 16 Tryz.f16 Rows.certificateSumsNodesSpec Rows.certificateSumsNodesRow=true:=by kernel_rfl
theorem q12:bLj Tryz.prog 16 Tryz.f16 Rows.certificateSumsNodesSpec Rows.certificateSumsNodesRow=true:=by kernel_rfl
theorem q13:bLk Tryz.prog 16 Tryz.f16 Rows.certificateSumsNodesSpec Rows.certificateSumsNodesRow=true:=by kernel_rfl
theorem q14:bLl Tryz.prog 16 Tryz.f16 Rows.certificateSumsNodesSpec Rows.certificateSumsNodesRow=true:=by kernel_rfl
theorem q15:bLm Tryz.prog 16 Tryz.f16 Rows.certificateSumsNodesSpec Rows.certificateSumsNodesRow=true:=by kernel_rfl
theorem q16:bLn Tryz.prog 16 Tryz.f16 Rows.certificateSumsNodesSpec Rows.certificateSumsNodesRow=true:=by kernel_rfl
theorem q17:bLo Tryz.prog 16 Tryz.f16 Rows.certificateSumsNodesSpec Rows.certificateSumsNodesRow=true:=by kernel_rfl
theorem q18:bLp Tryz.prog 16 Tryz.f16 Rows.certificateSumsNodesSpec Rows.certificateSumsNodesRow=true:=by kernel_rfl
theorem q19:bLq Tryz.prog 16 Tryz.f16 Rows.certificateSumsNodesSpec Rows.certificateSumsNodesRow=true:=by kernel_rfl
theorem q20:bLr Tryz.prog 16 Tryz.f16 Rows.certificateSumsNodesSpec Rows.certificateSumsNodesRow=true:=by kernel_rfl
theorem q21:bLs Tryz.prog 16 Tryz.f16 Rows.certificateSumsNodesSpec Rows.certificateSumsNodesRow=true:=by kernel_rfl
theorem q22:bKr Tryz.prog 16 Tryz.f16 Rows.certificateSumsNodesSpec Rows.certificateSumsNodesRow=true:=bLy
theorem q23:bLt Tryz.prog 16 Tryz.f16 Rows.certificateSumsNodesSpec Rows.certificateSumsNodesRow=true:=by kernel_rfl
theorem q24:bKs Tryz.prog 16 Tryz.f16 Rows.certificateSumsNodesSpec Rows.certificateSumsNodesRow=true:=bLz
theorem q25:bKt Tryz.prog 16 Tryz.f16 Rows.certificateSumsNodesSpec Rows.certificateSumsNodesRow=true:=bM0
theorem q26:bKu Tryz.prog 16 Tryz.f16 Rows.certificateSumsNodesSpec Rows.certificateSumsNodesRow=true:=bM1
theorem q27:bKv Tryz.prog 16 Tryz.f16 Rows.certificateSumsNodesSpec Rows.certificateSumsNodesRow=true:=bM2
theorem q28:bLu Tryz.prog 16 Tryz.f16 Rows.certificateSumsNodesSpec Rows.certificateSumsNodesRow=true:=by kernel_rfl
theorem q29:bLv Tryz.prog 16 Tryz.f16 Rows.certificateSumsNodesSpec Rows.certificateSumsNodesRow=true:=by kernel_rfl
theorem q30:bLw Tryz.prog 16 Tryz.f16 Rows.certificateSumsNodesSpec Rows.certificateSumsNodesRow=true:=by kernel_rfl
theorem q31:bLx Tryz.prog 16 Tryz.f16 Rows.certificateSumsNodesSpec Rows.certificateSumsNodesRow=true:=by kernel_rfl
theorem closed:joinedFacts Tryz.prog 16 Tryz.f16 Rows.certificateSumsNodesSpec Rows.certificateSumsNodesRow=true:=aB0 (aB0 (aB0 (aB0 (aB0 (aB0 (aB0 (aB0 (aB0 (aB0 (aB0 (aB0 (aB0 (aB0 (aB0 (aB0 (aB0 (aB0 (aB0 (aB0 (aB0 (aB0 (aB0 (aB0 (aB0 (aB0 (aB0 (aB0 (aB0 (aB0 (aB0 (q0) q1) q2) q3) q4) q5) q6) q7) q8) q9) q10) q11) q12) q13) q14) q15) q16) q17) q18) q19) q20) q21) q22) q23) q24) q25) q26) q27) q28) q29) q30) q31

theorem row:Rows.CertificateSumsNodesSaid :=
 OpenClaim.holds_of_wide 16 Tryz.f16 rfl rfl rfl rfl rfl rfl rfl ⟨rfl,rfl,rfl,rfl,rfl⟩ rfl rfl rfl rfl rfl (by kernel_rfl) Tryz.func16 closed
  (of_decide_eq_true (by kernel_rfl)) (by unfold Func.isWrapper;first | (rw [if_pos (by decide +kernel)];kernel_rfl) | (rw [if_neg (by decide +kernel)];exact ⟨rfl,rfl⟩))
  (fun os started H enc _=>lifted os started H enc)

theorem pw:Rows.certificateSumsNodesRow.wfByText (OpenSpec.ofChange Rows.certificateSumsNodesSpec)=true:=by kernel_rfl
theorem pg:false=Rows.certificateSumsNodesRow.goesBy Tryz.prog:=by kernel_rfl
theorem pf : Tryz.prog.funcNamed "selfstab/selfstablaw22.CertificateSumsNodes" = some 16 := by kernel_rfl
theorem ps:∀ t∈(Tryz.f16.params.toList),Tryz.prog.wantsStandIn t=false:=by rw [Tryz.params16];decide +kernel

theorem proved:Rows.CertificateSumsNodesCardSaid :=
 Claim7.holds_tied_plain_at .later [] [.data] true Rows.certificateSumsNodesCard.stood.harness false
  row (fun _ h=>by cases h) pw (fun _ h=>by cases h) certificateSumsNodes_row_tie rfl ⟨rfl,rfl⟩ bDl rfl
  (fun f fn hf hfn=>by
   obtain rfl:f=16:=Option.some.inj (pf.symm.trans hf) |>.symm
   obtain rfl:fn=Tryz.f16:=(Option.some.inj (Tryz.func16.symm.trans hfn)).symm
   exact ⟨bDk,fun j t ht=>ps t (List.mem_of_getElem? (Array.getElem?_toList ▸ ht))⟩)
  pg

end Go.Proofs.YtmifhmdghfbalaaGreatDoor.certificateSumsNodes

