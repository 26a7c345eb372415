/- Merged. -/
import Derived.Test.YtmifhmdghfbalaaGreatDoorZ45
import Derived.Test.YtmifhmdghfbalaaGreatDoorZ15
import Derived.Test.YtmifhmdghfbalaaGreatDoorTie
import Derived.Test.YtmifhmdghfbalaaGreatDoorCards
import Derived.SevenTiedAt
set_option maxRecDepth 100000

/- CertificateOrders holds for every input: Less is the strict lexicographic order of vectors of one length. No condition. -/
namespace Go.Proofs.YtmifhmdghfbalaaGreatDoor.certificateOrders
open Go.ChangeShapes Go.WideShapes Go.ChangeAt Go.WideMaps Go.WideElems Go.RowKit Go.Deep

theorem contract (H:Type) (enc:TypeId × Value→H) (W:World) (base:Nat) (args:Array Value) (ds gs:List (DataW H)) (before:List MemPlace)
  (hval:∀ (j:Nat) t v,Tryz.f12.params[j]?=some t→args[j]?=some v→Value.okWide Tryz.prog W .any base t v)
  (hW:DataW.Whole enc Tryz.prog Tryz.f12.params.toList Rows.certificateOrdersSpec.vars false W args.toList ds gs before) (hL:laidMetH Tryz.prog aGp W) :
  Calls Tryz.prog 12 args W fun e W'=>∃ v,e = .returned v∧Rows.certificateOrdersSpec.post enc Tryz.prog Tryz.f12 false true false false W args v W':=by
 have hW':=hW
 obtain ⟨p,q,hA0,hV,rfl,hfz,hnd⟩:=hW
 have hA:DataW.TrodAll enc Tryz.prog W 0 (fun _=>true) true Tryz.f12.params.toList args.toList ds p:=hA0
 rw [Tryz.params12] at hA hval
 obtain ⟨v0,vs0,d0,ds0,p0,q0,hargs,rfl,rfl,h0,r0⟩:=trodAll_cons hA
 obtain ⟨v1,vs1,d1,ds1,p1,q1,rfl,rfl,rfl,h1,r1⟩:=trodAll_cons r0
 obtain ⟨v2,vs2,d2,ds2,p2,q2,rfl,rfl,rfl,h2,r2⟩:=trodAll_cons r1
 obtain ⟨rfl,rfl,rfl⟩:=trodAll_nil r2
 obtain rfl:args=#[v0,v1,v2]:=by cases args;simp_all
 obtain ⟨rfl,rfl⟩:=trodVars_none hV
 obtain ⟨A0,n0,c0,xs0,rfl,hR0,hG0,hc0,hm0⟩:=aOp Tryz.underlying26 Tryz.cells_int Tryz.underlying3 h0 (hval 0 _ v0 rfl rfl)
 have hn0:=hR0.1
 subst hn0
 obtain ⟨A1,n1,c1,xs1,rfl,hR1,hG1,hc1,hm1⟩:=aOp Tryz.underlying26 Tryz.cells_int Tryz.underlying3 h1 (hval 1 _ v1 rfl rfl)
 have hn1:=hR1.1
 subst hn1
 obtain ⟨A2,n2,c2,xs2,rfl,hR2,hG2,hc2,hm2⟩:=aOp Tryz.underlying26 Tryz.cells_int Tryz.underlying3 h2 (hval 2 _ v2 rfl rfl)
 have hn2:=hR2.1
 subst hn2
 refine (aQj A0 c0 xs0 A1 c1 xs1 A2 c2 xs2 W hR0 hR1 hR2 (aLq hL)).mono fun e W' ⟨he,hb⟩=>?_
 exact ⟨_,he,aLj Tryz.laidOut rfl (by kernel_rfl) (by kernel_rfl) Tryz.underlying4 hW' ⟨rfl,rfl,rfl⟩ hb⟩

theorem lifted (os:Os) (started:os.Started) (H:Type) (enc:TypeId × Value→H) :
  ReturnsInHanded {} Tryz.checked os 12 .any (fun w args=>(Rows.certificateOrdersSpec.pre enc Tryz.prog Tryz.f12 [] false w args∧laidMetH Tryz.prog aGp w)∧sizedMet enc Tryz.prog Tryz.f12 (OpenSpec.ofChange Rows.certificateOrdersSpec) false w args) (Rows.certificateOrdersSpec.post enc Tryz.prog Tryz.f12 false true false false):=by
 refine returnsInHanded_of_change_and (C:=Tryz.checked) (X:=fun w _=>laidMetH Tryz.prog aGp w) (fun _ _ _ hh h=>h.of_heap hh) Tryz.own started (by kernel_rfl) Tryz.func12
  (ChangeSpec.witness_shaped (enc:=enc) (C:=Tryz.checked) (os:=os) (X:=fun w _=>laidMetH Tryz.prog aGp w) false (World.doorLaid Tryz.prog 400 os) #[.slice none 0 0,.slice none 0 0,.slice none 0 0] 8 rfl (World.shaped_of_RefB (by kernel_rfl) (by kernel_rfl)) (by kernel_rfl) (by kernel_rfl) (by kernel_rfl) (aLd os _)) ?_
 intro W base args ds gs before hval hW _ _ hL _
 exact contract H enc W base args ds gs before hval hW hL

theorem q0:jc0 Tryz.prog 12 Tryz.f12 Rows.certificateOrdersSpec Rows.certificateOrdersRow=true:=by kernel_rfl
theorem q1:jc1 Tryz.prog 12 Tryz.f12 Rows.certificateOrdersSpec Rows.certificateOrdersRow=true:=jp1
theorem q2:jc2 Tryz.prog 12 Tryz.f12 Rows.certificateOrdersSpec Rows.certificateOrdersRow=true:=jp2
theorem q3:jc3 Tryz.prog 12 Tryz.f12 Rows.certificateOrdersSpec Rows.certificateOrdersRow=true:=by kernel_rfl
theorem q4:jc4 Tryz.prog 12 Tryz.f12 Rows.certificateOrdersSpec Rows.certificateOrdersRow=true:=by kernel_rfl
theorem q5:jc5 Tryz.prog 12 Tryz.f12 Rows.certificateOrdersSpec Rows.certificateOrdersRow=true:=by kernel_rfl
theorem q6:jc6 Tryz.prog 12 Tryz.f12 Rows.certificateOrdersSpec Rows.certificateOrdersRow=true:=jp6
theorem q7:jc7 Tryz.prog 12 Tryz.f12 Rows.certificateOrdersSpec Rows.certificateOrdersRow=true:=by kernel_rfl
theorem q8:jc8 Tryz.prog 12 Tryz.f12 Rows.certificateOrdersSpec Rows.certificateOrdersRow=true:=jp8
theorem q9:jc9 Tryz.prog 12 Tryz.f12 Rows.certificateOrdersSpec Rows.certificateOrdersRow=true:=by kernel_rfl
theorem q10:bLh Tryz.prog 12 Tryz.f12 Rows.certificateOrdersSpec Rows.certificateOrdersRow=true:=by kernel_rfl
theorem q11:bLi Tryz.prog 12 Tryz.f12 Rows.certificateOrdersSpec Rows.certificateOrdersRow=true:=by kernel_rfl
theorem q12:bLj Tryz.prog 12 Tryz.f12 Rows.certificateOrdersSpec Rows.certificateOrdersRow=true:=by kernel_rfl
theorem q13:bLk Tryz.prog 12 Tryz.f12 Rows.certificateOrdersSpec Rows.certificateOrdersRow=true:=by kernel_rfl
theorem q14:bLl Tryz.prog 12 Tryz.f12 Rows.certificateOrdersSpec Rows.certificateOrdersRow=true:=by kernel_rfl
theorem q15:bLm Tryz.prog 12 Tryz.f12 Rows.certificateOrdersSpec Rows.certificateOrdersRow=true:=by kernel_rfl
theorem q16:bLn Tryz.prog 12 Tryz.f12 Rows.certificateOrdersSpec Rows.certificateOrdersRow=true:=by kernel_rfl
theorem q17:bLo Tryz.prog 12 Tryz.f12 Rows.certificateOrdersSpec Rows.certificateOrdersRow=true:=by kernel_rfl
theorem q18:bLp Tryz.prog 12 Tryz.f12 Rows.certificateOrdersSpec Rows.certificateOrdersRow=true:=by kernel_rfl
theorem q19:bLq Tryz.prog 12 Tryz.f12 Rows.certificateOrdersSpec Rows.certificateOrdersRow=true:=by kernel_rfl
theorem q20:bLr Tryz.prog 12 Tryz.f12 Rows.certificateOrdersSpec Rows.certificateOrdersRow=true:=by kernel_rfl
theorem q21:bLs Tryz.prog 12 Tryz.f12 Rows.certificateOrdersSpec Rows.certificateOrdersRow=true:=by kernel_rfl
theorem q22:bKr Tryz.prog 12 Tryz.f12 Rows.certificateOrdersSpec Rows.certificateOrdersRow=true:=bLy
theorem q23:bLt Tryz.prog 12 Tryz.f12 Rows.certificateOrdersSpec Rows.certificateOrdersRow=true:=by kernel_rfl
theorem q24:bKs Tryz.prog 12 Tryz.f12 Rows.certificateOrdersSpec Rows.certificateOrdersRow=true:=bLz
theorem q25:bKt Tryz.prog 12 Tryz.f12 Rows.certificateOrdersSpec Rows.certificateOrdersRow=true:=bM0
theorem q26:bKu Tryz.prog 12 Tryz.f12 Rows.certificateOrdersSpec Rows.certificateOrdersRow=true:=bM1
theorem q27:bKv Tryz.prog 12 Tryz.f12 Rows.certificateOrdersSpec Rows.certificateOrdersRow=true:=bM2
theorem q28:bLu Tryz.prog 12 Tryz.f12 Rows.certificateOrdersSpec Rows.certificateOrdersRow=true:=by kernel_rfl
theorem q29:bLv Tryz.prog 12 Tryz.f12 Rows.certificateOrdersSpec Rows.certificateOrdersRow=true:=by kernel_rfl
theorem q30:bLw Tryz.prog 12 Tryz.f12 Rows.certificateOrdersSpec Rows.certificateOrdersRow=true:=by kernel_rfl
theorem q31:bLx Tryz.prog 12 Tryz.f12 Rows.certificateOrdersSpec Rows.certificateOrdersRow=true:=by kernel_rfl
theorem closed:joinedFacts Tryz.prog 12 Tryz.f12 Rows.certificateOrdersSpec Rows.certificateOrdersRow=true:=aB0 (aB0 (aB0 (aB0 (aB0 (aB0 (aB0 (aB0 (aB0 (aB0 (aB0 (aB0 (aB0 (aB0 (aB0 (aB0 (aB0 (aB0 (aB0 (aB0 (aB0 (aB0 (aB0 (aB0 (aB0 (aB0 (aB0 (aB0 (aB0 (aB0 (aB0 (q0) q1) q2) q3) q4) q5) q6) q7) q8) q9) q10) q11) q12) q13) q14) q15) q16) q17) q18) q19) q20) q21) q22) q23) q24) q25) q26) q27) q28) q29) q30) q31

theorem row:Rows.CertificateOrdersSaid :=
 OpenClaim.holds_of_wide 12 Tryz.f12 rfl rfl rfl rfl rfl rfl rfl ⟨rfl,rfl,rfl,rfl,rfl⟩ rfl rfl rfl rfl rfl (by kernel_rfl) Tryz.func12 closed
  (of_decide_eq_true (by kernel_rfl)) (by unfold Func.isWrapper;first | (rw [if_pos (by decide +kernel)];kernel_rfl) | (rw [if_neg (by decide +kernel)];exact ⟨rfl,rfl⟩))
  (fun os started H enc _=>lifted os started H enc)

theorem pw:Rows.certificateOrdersRow.wfByText (OpenSpec.ofChange Rows.certificateOrdersSpec)=true:=by kernel_rfl
theorem pg:false=Rows.certificateOrdersRow.goesBy Tryz.prog:=by kernel_rfl
theorem pf : Tryz.prog.funcNamed "selfstab/selfstablaw22.CertificateOrders" = some 12 := by kernel_rfl
theorem ps:∀ t∈(Tryz.f12.params.toList),Tryz.prog.wantsStandIn t=false:=by rw [Tryz.params12];decide +kernel

theorem proved:Rows.CertificateOrdersCardSaid :=
 Claim7.holds_tied_plain_at .later [] [.data] true Rows.certificateOrdersCard.stood.harness false
  row (fun _ h=>by cases h) pw (fun _ h=>by cases h) certificateOrders_row_tie rfl ⟨rfl,rfl⟩ bDl rfl
  (fun f fn hf hfn=>by
   obtain rfl:f=12:=Option.some.inj (pf.symm.trans hf) |>.symm
   obtain rfl:fn=Tryz.f12:=(Option.some.inj (Tryz.func12.symm.trans hfn)).symm
   exact ⟨bDk,fun j t ht=>ps t (List.mem_of_getElem? (Array.getElem?_toList ▸ ht))⟩)
  pg

end Go.Proofs.YtmifhmdghfbalaaGreatDoor.certificateOrders

