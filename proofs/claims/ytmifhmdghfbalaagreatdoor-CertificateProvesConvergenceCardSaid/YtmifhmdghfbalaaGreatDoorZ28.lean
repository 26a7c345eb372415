/- Merged. -/
import Derived.Test.YtmifhmdghfbalaaGreatDoorZ23
set_option linter.unusedSimpArgs false
set_option linter.unnecessarySimpa false
set_option linter.unusedVariables false
set_option maxRecDepth 100000
set_option maxHeartbeats 8000000
open Go.Proofs.Tryz

namespace Go.Proofs.YtmifhmdghfbalaaGreatDoor
open Go.RowKit
theorem bGc {p:Prg} {g:Graph} {c:aA8} (hm:aCp p g c=0):0<c.length:=by
 obtain ⟨f1,f2⟩:=aBn hm;rw [(aCy.1 f2).1,aAj,(aAe f1).2.1.ids];exact (aAe f1).2.1.pos
theorem aYh (v1:Value) (p:Prg) (v2:Value) (g:Graph) (i q:Nat) (x:Int) (w:World) (h:aE0 w v1 p) (h2:aAl w v2 g) (hf:aCf p g=0) (hi:i<g.ports.length) (hq:q<p.vars.length) (hG:aB3 g=true) :
  Calls prog 188 #[v1,v2,.int .i64 i,.int .i64 q,.int .i64 x] w fun e w'=>e = .returned (.int .i64 (aHj p.vars[q].kind (aAg p.vars[q] g i) x))/\Bel w w':=by
 have HPV:=aA1 (fun w' (k:Bel w w')=>h.keep k);have HGV:=aA1 (fun w' (k:Bel w w')=>h2.keep k);obtain ⟨A1,k1,A2,k2,rfl,hV,_,_,_,_,_⟩:=h;obtain ⟨A3,k3,A4,k4,rfl,_,_,_,_,_,_⟩:=h2;have HV:=aA1 (fun w' (k:Bel w w')=>aKh.keep hV k);have HW:=Bel.refl ((w.alloc (.cells #[.string p.name,.slice A1 p.vars.length k1,.slice A2 p.rules.length k2] 25)).alloc (.cells #[.slice A3 g.ids.length k3,.slice A4 g.ports.length k4] 29));obtain ⟨f1,f2⟩:=aJh hf (List.getElem_mem hq) i;have HN:=aA1 (List.all_eq_true.1 (aB6 (aAe hf).1).1 _ (List.getElem_mem hq));have HGO:=aA1 (aAe hf).2.1;have HGL:=aA1 hG;have HF:=aA1 (bCu (kind:=p.vars[q].kind) f1 x);have hdq:decide (q<p.vars.length)=true:=by simpa using hq
 obtain ⟨bV,oV,rfl,hbV,_,cV,_⟩:=hV.at_ q hq;have hbV':bV<((w.alloc (.cells #[.string p.name,.slice (some ⟨bV,oV,none⟩) p.vars.length k1,.slice A2 p.rules.length k2] 25)).alloc (.cells #[.slice A3 g.ids.length k3,.slice A4 g.ports.length k4] 29)).heap.size:=by simp;omega
 obtain ⟨lo,hlo⟩:∃ lo,(aAg p.vars[q] g i).1=lo:=⟨_,rfl⟩;obtain ⟨hi',hhi⟩:∃ hi',(aAg p.vars[q] g i).2=hi':=⟨_,rfl⟩;have HLO:=aA1 hlo;have HHI:=aA1 hhi;rw [hlo,hhi] at HF;clear hV hf hG f1 f2 hlo hhi
 by_cases hk:p.vars[q].kind=3
 .have hkb:(p.vars[q].kind==3)=true:=by simpa using hk
  by_cases hr:lo<=x/\x<=hi'
  .rw [if_neg (by intro h;exact h.2 hr)] at HF
   have hdr:inB x lo hi'=true:=aIn.2 hr;obtain ⟨m,hm,hm'⟩:=aJk x lo;obtain ⟨m2,hm2,hm2'⟩:=aKo m hi';have HFV:Hid (aHj p.vars[q].kind (aAg p.vars[q] g i) x=m2):=by show _=_;rw [HF.out];omega
   clear hm' hm2' hk hr;go_enter func188,ntmps188
   go_wp2_with (first
    | (go_at_call 139;refine (aH4 _ p _ g i q _ (HPV.out _ (aA0 HW)) (HGV.out _ (aA0 HW)) hq HN.out HGO.out hi HGL.out).mono ?_;rintro e w' ⟨rfl,hb⟩;rw [HLO.out,HHI.out];replace HW:=HW.trans hb;have cV':=((aA0 HW).cell hbV).trans cV;clear hb;obtain ⟨p0,p1,p2,g0,g1,gsz⟩:=aA6 HW)
    | (go_at_call 110;refine (aBs _ _ _ _).mono ?_;rintro e w' ⟨rfl,rfl⟩))
   go_ret;exact ⟨aA4 HFV.out.symm,aA0 HW⟩
  .rw [if_pos ⟨hk,hr⟩] at HF
   have hdr:inB x lo hi'=false:=aHr (by omega)
   clear hk hr;go_enter func188,ntmps188
   go_wp2_with (first
    | (go_at_call 139;refine (aH4 _ p _ g i q _ (HPV.out _ (aA0 HW)) (HGV.out _ (aA0 HW)) hq HN.out HGO.out hi HGL.out).mono ?_;rintro e w' ⟨rfl,hb⟩;rw [HLO.out,HHI.out];replace HW:=HW.trans hb;have cV':=((aA0 HW).cell hbV).trans cV;clear hb;obtain ⟨p0,p1,p2,g0,g1,gsz⟩:=aA6 HW)
    | (go_at_call 110;refine (aBs _ _ _ _).mono ?_;rintro e w' ⟨rfl,rfl⟩))
   go_ret;exact ⟨aA4 HF.out.symm,aA0 HW⟩
 .have hkb:(p.vars[q].kind==3)=false:=by simpa using hk
  rw [if_neg (fun h=>hk h.1)] at HF;obtain ⟨m,hm,hm'⟩:=aJk x lo;obtain ⟨m2,hm2,hm2'⟩:=aKo m hi';have HFV:Hid (aHj p.vars[q].kind (aAg p.vars[q] g i) x=m2):=by show _=_;rw [HF.out];omega
  clear hm' hm2' hk;go_enter func188,ntmps188
  go_wp2_with (first
   | (go_at_call 139;refine (aH4 _ p _ g i q _ (HPV.out _ (aA0 HW)) (HGV.out _ (aA0 HW)) hq HN.out HGO.out hi HGL.out).mono ?_;rintro e w' ⟨rfl,hb⟩;rw [HLO.out,HHI.out];replace HW:=HW.trans hb;have cV':=((aA0 HW).cell hbV).trans cV;clear hb;obtain ⟨p0,p1,p2,g0,g1,gsz⟩:=aA6 HW)
   | (go_at_call 110;refine (aBs _ _ _ _).mono ?_;rintro e w' ⟨rfl,rfl⟩))
  go_ret;exact ⟨aA4 HFV.out.symm,aA0 HW⟩
theorem aL1 (v1:Value) (p:Prg) (v2:Value) (g:Graph) (v3:Value) (c:aA8) (v:Nat) (w:World) (h:aE0 w v1 p) (h2:aAl w v2 g) (h3:aDf w v3 c) (hs:SOK p g c v) (hL:aAt p=true) :
  Calls prog 187 #[v1,v2,v3,.int .i64 v] w fun e w'=>e = .returned (.int .i64 (aBy p.rules g c v))/\Bel w w':=by
 have hR:∃ A1 k1 A2 k2,v1 = .agg #[.string p.name,.slice A1 p.vars.length k1,.slice A2 p.rules.length k2]/\aHg w A2 p.rules.length p.rules:=by
  obtain ⟨A1,k1,A2,k2,e,_,_,_,hR,_,_⟩:=h;exact ⟨A1,k1,A2,k2,e,hR⟩
 obtain ⟨A1r,k1r,A2r,k2r,eR,hR⟩:=hR;have HPV:=aA1 (fun w' (k:Bel w w')=>h.keep k);have HGV:=aA1 (fun w' (k:Bel w w')=>h2.keep k);have HCV:=aA1 (fun w' (k:Bel w w')=>h3.keep k);obtain ⟨A1,k1,A2,k2,rfl,_,_,_,_,_,_⟩:=h;obtain ⟨A3,k3,A4,k4,rfl,_,_,_,_,_,_⟩:=h2;obtain ⟨A5,k5,rfl,_,_,_⟩:=h3;have HW:=Bel.refl ((w.alloc (.cells #[.string p.name,.slice A1 p.vars.length k1,.slice A2 p.rules.length k2] 25)).alloc (.cells #[.slice A3 g.ids.length k3,.slice A4 g.ports.length k4] 29));obtain ⟨⟨rfl,rfl⟩,rfl,rfl⟩:(A1=A1r/\k1=k1r)/\A2=A2r/\k2=k2r:=by simpa using eR
 have HR:=aA1 (fun w' (k:Bel w w')=>aHg.keep hR k);have HK:=aA1 hs;have HE:=aA1 (fun (i:Nat) (hi:i<p.rules.length)=>aXi (aAe hs.fits).1 hL hi);have hr16:=(aAi hL).2.2.1;have hcell:=aA1 (fun w' (kk:Bel ((w.alloc (.cells #[.string p.name,.slice A1 p.vars.length k1,.slice A2 p.rules.length k2] 25)).alloc (.cells #[.slice A3 g.ids.length k3,.slice A4 g.ports.length k4] 29)) w')=>aA6 kk);clear hs hL hR eR;go_enter func187,ntmps187;go_wp2
 go_loopg [9] p.rules.length (fun m z wr=>∃ i:Nat,i<=p.rules.length/\m=p.rules.length-i/\z = .int .i64 i/\Hid ((p.rules.take i).all (fun r => !(aIg g c v r.guard))=true)/\Bel ((w.alloc (.cells #[.string p.name,.slice A1 p.vars.length k1,.slice A2 p.rules.length k2] 25)).alloc (.cells #[.slice A3 g.ids.length k3,.slice A4 g.ports.length k4] 29)) wr)
 case atStart=>exact ⟨0,by omega,rfl,rfl,rfl,HW⟩
 case round =>
  clear HW;obtain ⟨i,hi,rfl,rfl,HI,HW⟩:=hrel;obtain ⟨p0,p1,p2,g0,g1,gsz⟩:=aA6 HW
  by_cases hlt:i<p.rules.length
  .have hd0:decide (i<p.rules.length)=true:=by simpa using hlt
   obtain ⟨bR,oR,G,gc,SS,sc,rfl,hbR,_,cg,_,hTG,_,_,_,_,_⟩:=(HR.out _ (Bel.refl w)).at_ i hlt;have HTG:=aA1 (fun w' (k:Bel w w')=>aAr.keep hTG k)
   have hcell2:=aA1 (fun w' (kk:Bel ((w.alloc (.cells #[.string p.name,.slice A1 p.vars.length k1,.slice (some ⟨bR,oR,none⟩) p.rules.length k2] 25)).alloc (.cells #[.slice A3 g.ids.length k3,.slice A4 g.ports.length k4] 29)) w')=>show w'.cell? ⟨w.heap.size,2,none⟩=some (.slice (some ⟨bR,oR,none⟩) p.rules.length k2)/\w'.cell? ⟨w.heap.size+1,0,none⟩=some (.slice A3 g.ids.length k3)/\w'.cell? ⟨w.heap.size+1,1,none⟩=some (.slice A4 g.ports.length k4)/\w'.cell? ⟨bR,oR+i*3+1,none⟩=some (.slice G p.rules[i].guard.length gc)/\w.heap.size+1<w'.heap.size/\bR<w'.heap.size from by
    obtain ⟨_,_,q2,q3,q4,q5⟩:=aA6 kk;have hb:=aA0 kk
    exact ⟨q2,q3,q4,(hb.cell hbR).trans cg,q5,Nat.lt_of_lt_of_le hbR hb.size⟩)
   clear hTG cg;have hE:=HE.out i hlt;cases hq:aIg g c v p.rules[i].guard with
   | true =>
    have HF:=aA1 (aP5 hlt HI.out hq);have HQ:Hid ((aAw g c v (-1) (aAm p.rules[i].guard) != 0)=true):=hq;have HEI:=aA1 hE;clear hq hE
    go_wp2_with fail
    replace HW:=HW.drew
    go_region_held3 (fun w'=>w'.cell? ⟨w.heap.size,2,none⟩=some (.slice (some ⟨bR,oR,none⟩) p.rules.length k2)/\w'.cell? ⟨w.heap.size+1,0,none⟩=some (.slice A3 g.ids.length k3)/\w'.cell? ⟨w.heap.size+1,1,none⟩=some (.slice A4 g.ports.length k4)/\w'.cell? ⟨bR,oR+i*3+1,none⟩=some (.slice G p.rules[i].guard.length gc)/\w.heap.size+1<w'.heap.size/\bR<w'.heap.size) (exact hcell2.out _ HW) (first
     | (go_simp;go_at_call 111;refine (aWi p g c v HK.out (aAm p.rules[i].guard) false (-1) _ _ _ _ p.rules[i].guard 0 _ (HGV.out _ (aA0 HW)) (HCV.out _ (aA0 HW)) (HTG.out _ (aA0 HW)) (At.whole HEI.out.ok HEI.out.terms) HEI.out.arg HEI.out.len HEI.out.bound aE6).mono ?_;rintro e w' ⟨rfl,hb⟩;replace HW:=HW.trans hb;clear hb))
    rw [HQ.out]
    go_wp2_with fail
    go_ret;exact ⟨aA4 HF.out.symm,aA0 HW⟩
   | false =>
    have HI2:=aA1 (aAb hlt HI.out (by rw [hq];rfl))
    have HQ:Hid ((aAw g c v (-1) (aAm p.rules[i].guard) != 0)=false):=hq;have HEI:=aA1 hE;clear hq hE
    go_wp2_with fail
    replace HW:=HW.drew
    go_region_held3 (fun w'=>w'.cell? ⟨w.heap.size,2,none⟩=some (.slice (some ⟨bR,oR,none⟩) p.rules.length k2)/\w'.cell? ⟨w.heap.size+1,0,none⟩=some (.slice A3 g.ids.length k3)/\w'.cell? ⟨w.heap.size+1,1,none⟩=some (.slice A4 g.ports.length k4)/\w'.cell? ⟨bR,oR+i*3+1,none⟩=some (.slice G p.rules[i].guard.length gc)/\w.heap.size+1<w'.heap.size/\bR<w'.heap.size) (exact hcell2.out _ HW) (first
     | (go_simp;go_at_call 111;refine (aWi p g c v HK.out (aAm p.rules[i].guard) false (-1) _ _ _ _ p.rules[i].guard 0 _ (HGV.out _ (aA0 HW)) (HCV.out _ (aA0 HW)) (HTG.out _ (aA0 HW)) (At.whole HEI.out.ok HEI.out.terms) HEI.out.arg HEI.out.len HEI.out.bound aE6).mono ?_;rintro e w' ⟨rfl,hb⟩;replace HW:=HW.trans hb;clear hb))
    rw [HQ.out]
    go_wp2_with fail
    go_roundg (p.rules.length-(i+1))
    case rel=>exact ⟨i+1,by omega,rfl,by go_num,HI2,HW⟩
    case measure=>omega
  .have hd0:decide (i<p.rules.length)=false:=by simpa using hlt
   have HF:Hid (aBy p.rules g c v = -1):=by
    refine aQz ?_
    have:=HI.out
    rwa [List.take_of_length_le (by omega)] at this
   go_wp2_with fail
   go_ret;exact ⟨aA4 HF.out.symm,aA0 HW⟩
theorem aMs (v1:Value) (p:Prg) (v2:Value) (g:Graph) (v3:Value) (c:aA8) (w:World) (h:aE0 w v1 p) (h2:aAl w v2 g) (h3:aDf w v3 c) (hm:aCp p g c=0) (hL:aAt p=true) :
  Calls prog 140 #[v1,v2,v3] w fun e w'=>e = .returned (.int .u32 (aCm p g c:Nat))/\Bel w w':=by
 have HPV:=aA1 (fun w' (k:Bel w w')=>h.keep k);have HGV:=aA1 (fun w' (k:Bel w w')=>h2.keep k);have HCV:=aA1 (fun w' (k:Bel w w')=>h3.keep k);obtain ⟨A1,k1,A2,k2,rfl,_,_,_,_,_,_⟩:=h;obtain ⟨A3,k3,A4,k4,rfl,_,_,_,_,_,_⟩:=h2;obtain ⟨A5,k5,rfl,_,_,_⟩:=h3;have HW:=Bel.refl ((w.alloc (.cells #[.string p.name,.slice A1 p.vars.length k1,.slice A2 p.rules.length k2] 25)).alloc (.cells #[.slice A3 g.ids.length k3,.slice A4 g.ports.length k4] 29));have hle:c.length<=24:=by rw [aCa hm];exact (aAe (aBn hm).1).2.1.le
 have HK:=aA1 (fun v (hv:v<c.length)=>aKr hm hv);have HL:=aA1 hL;have HE:Hid (aCm p g c=aPp c.length fun v=>decide (0<=aBy p.rules g c v)):=rfl;clear hm hL;go_enter func140,ntmps140;go_wp2
 go_loopg [7,8] c.length (fun m s z wr=>∃ v:Nat,v<=c.length/\m=c.length-v/\z = .int .i64 v/\s = .int .u32 (aPp v fun v=>decide (0<=aBy p.rules g c v):Nat)/\Bel ((w.alloc (.cells #[.string p.name,.slice A1 p.vars.length k1,.slice A2 p.rules.length k2] 25)).alloc (.cells #[.slice A3 g.ids.length k3,.slice A4 g.ports.length k4] 29)) wr)
 case atStart=>exact ⟨0,by omega,rfl,rfl,rfl,HW⟩
 case round =>
  clear HW;obtain ⟨v,hv,rfl,rfl,rfl,HW⟩:=hrel;obtain ⟨p0,p1,p2,g0,g1,gsz⟩:=aA6 HW;have hsl:=aJ4 (fun v=>decide (0<=aBy p.rules g c v)) (show v<=32 by omega)
  by_cases hlt:v<c.length
  .have hd0:decide (v<c.length)=true:=by simpa using hlt
   cases hb:decide (0<=aBy p.rules g c v) with
   | true =>
    go_wp2_with (go_at_call 187;refine (aL1 _ p _ g _ c v _ (HPV.out _ (aA0 HW)) (HGV.out _ (aA0 HW)) (HCV.out _ (aA0 HW)) (HK.out v hlt) HL.out).mono ?_;rintro e w' ⟨rfl,hbb⟩;replace HW:=HW.trans hbb;clear hbb)
    go_roundg (c.length-(v+1))
    case rel=>exact ⟨v+1,by omega,rfl,by go_num,by rw [aHw,hb,if_pos rfl,aN6 hsl (by omega)],HW⟩
    case measure=>omega
   | false =>
    go_wp2_with (go_at_call 187;refine (aL1 _ p _ g _ c v _ (HPV.out _ (aA0 HW)) (HGV.out _ (aA0 HW)) (HCV.out _ (aA0 HW)) (HK.out v hlt) HL.out).mono ?_;rintro e w' ⟨rfl,hbb⟩;replace HW:=HW.trans hbb;clear hbb)
    go_roundg (c.length-(v+1))
    case rel=>exact ⟨v+1,by omega,rfl,by go_num,by rw [aHw,hb];rfl,HW⟩
    case measure=>omega
  .have hd0:decide (v<c.length)=false:=by simpa using hlt
   obtain rfl:v=c.length:=by omega
   go_wp2_with fail
   go_ret;exact ⟨aA4 (by rw [HE.out]),aA0 HW⟩
theorem aT6 (v1:Value) (p:Prg) (v2:Value) (g:Graph) (v3:Value) (c:aA8) (w:World) (h:aE0 w v1 p) (h2:aAl w v2 g) (h3:aDf w v3 c) (hL:aAt p=true) (hG:aB3 g=true) (hC:aE1 c=true) :
  Calls prog 89 #[v1,v2,v3] w fun e w'=>e = .returned (.int .u32 (aPy p g c:Nat))/\Bel w w':=by
 have HPV:=aA1 (fun w' (k:Bel w w')=>h.keep k);have HGV:=aA1 (fun w' (k:Bel w w')=>h2.keep k);have HCV:=aA1 (fun w' (k:Bel w w')=>h3.keep k);obtain ⟨A1,k1,A2,k2,rfl,_,_,_,_,_,_⟩:=h;obtain ⟨A3,k3,A4,k4,rfl,_,_,_,_,_,_⟩:=h2;obtain ⟨A5,k5,rfl,_,_,_⟩:=h3;have HW:=Bel.refl ((w.alloc (.cells #[.string p.name,.slice A1 p.vars.length k1,.slice A2 p.rules.length k2] 25)).alloc (.cells #[.slice A3 g.ids.length k3,.slice A4 g.ports.length k4] 29));have HL:=aA1 hL;have HGL:=aA1 hG;have HCL:=aA1 hC;clear hL hG hC;have HF:Hid (aPy p g c=if aCp p g c≠0 then 0 else aCm p g c):=rfl
 cases hm:decide (aCp p g c=0) with
 | false =>
  rw [if_pos (of_decide_eq_false hm)] at HF;go_enter func89,ntmps89
  go_wp2_with (go_at_call 55;refine (aE9 _ p _ g _ c _ (HPV.out _ (aA0 HW)) (HGV.out _ (aA0 HW)) (HCV.out _ (aA0 HW)) HL.out HGL.out HCL.out).mono ?_;rintro e w' ⟨rfl,hb⟩;rw [hm];replace HW:=HW.trans hb;clear hb;(try clear p0 p1 p2 g0 g1 gsz);obtain ⟨p0,p1,p2,g0,g1,gsz⟩:=aA6 HW)
  go_ret;exact ⟨aA4 (by rw [HF.out];rfl),aA0 HW⟩
 | true =>
  have hm0:=of_decide_eq_true hm;rw [if_neg (by simpa using hm0)] at HF
  have HM:=aA1 hm0;clear hm0;go_enter func89,ntmps89
  go_wp2_with (first
   | (go_at_call 55;refine (aE9 _ p _ g _ c _ (HPV.out _ (aA0 HW)) (HGV.out _ (aA0 HW)) (HCV.out _ (aA0 HW)) HL.out HGL.out HCL.out).mono ?_;rintro e w' ⟨rfl,hb⟩;rw [hm];replace HW:=HW.trans hb;clear hb;(try clear p0 p1 p2 g0 g1 gsz);obtain ⟨p0,p1,p2,g0,g1,gsz⟩:=aA6 HW)
   | (go_at_call 140;refine (aMs _ p _ g _ c _ (HPV.out _ (aA0 HW)) (HGV.out _ (aA0 HW)) (HCV.out _ (aA0 HW)) HM.out HL.out).mono ?_;rintro e w' ⟨rfl,hb⟩;replace HW:=HW.trans hb;clear hb;(try clear p0 p1 p2 g0 g1 gsz);obtain ⟨p0,p1,p2,g0,g1,gsz⟩:=aA6 HW))
  go_ret;exact ⟨aA4 (by rw [HF.out]),aA0 HW⟩
theorem aYl (v1:Value) (p:Prg) (v2:Value) (g:Graph) (v3:Value) (c:aA8) (v:Nat) (w:World) (h:aE0 w v1 p) (h2:aAl w v2 g) (h3:aDf w v3 c) (hm:aCp p g c=0) (hv:v<c.length) (hen:0<=aBy p.rules g c v) (hL:aAt p=true) (hGL:aB3 g=true) (hCL:aE1 c=true) :
  Calls prog 142 #[v1,v2,v3,.int .i64 v] w (bEq (aLv p g c v) w):=by
 have hR:∃ A1 k1 A2 k2,v1 = .agg #[.string p.name,.slice A1 p.vars.length k1,.slice A2 p.rules.length k2]/\aHg w A2 p.rules.length p.rules:=by
  obtain ⟨A1,k1,A2,k2,e,_,_,_,hR,_,_⟩:=h;exact ⟨A1,k1,A2,k2,e,hR⟩
 have hRC:∃ A k,v3 = .slice A c.length k/\aMd w A c.length c:=by
  obtain ⟨A,k,e,hR,_⟩:=h3;exact ⟨A,k,e,hR⟩
 obtain ⟨A1r,k1r,A2r,k2r,eR,hR⟩:=hR;obtain ⟨A5r,k5r,eC,hRC⟩:=hRC;obtain ⟨k,hk⟩:=Int.eq_ofNat_of_zero_le hen;have hkl:k<p.rules.length:=by have:=(aP6 p.rules g c v).2;omega
 obtain ⟨bR,oR,G,gc,SS,sc,eA,hbR,_,_,cs,_,_,_,hSets,_,_⟩:=hR.at_ k hkl;subst eA;obtain ⟨b0,o0,R,rc,eA5,hb0,cell0,hI,_,_⟩:=hRC.at_ v hv;subst eA5;have HPV:=aA1 (fun w' (k:Bel w w')=>h.keep k);have HGV:=aA1 (fun w' (k:Bel w w')=>h2.keep k);have HCV:=aA1 (fun w' (k:Bel w w')=>h3.keep k);obtain ⟨A1,k1,A2,k2,rfl,_,_,_,_,_,_⟩:=h;obtain ⟨A3,k3,A4,k4,rfl,_,_,_,_,_,_⟩:=h2;obtain ⟨A5,k5,rfl,_,_,_⟩:=h3;have HW:=Bel.refl ((w.alloc (.cells #[.string p.name,.slice A1 p.vars.length k1,.slice A2 p.rules.length k2] 25)).alloc (.cells #[.slice A3 g.ids.length k3,.slice A4 g.ports.length k4] 29));obtain ⟨⟨e1,e2⟩,e3,e4⟩:(A1=A1r/\k1=k1r)/\A2=some ⟨bR,oR,none⟩/\k2=k2r:=by simpa using eR
 subst e1 e2 e3 e4;obtain ⟨e5,e6⟩:A5=some ⟨b0,o0,none⟩/\k5=k5r:=by simpa using eC
 subst e5 e6;have HMF:Hid (aLv p g c v=aD0 p g c v p.rules[k].sets):=by show _=_;unfold aLv;rw [hk,aS7 hkl]
 have HFK:=aA1 hk;have HI:=aA1 hI;have HSets:=aA1 (fun w' (k:Bel w w')=>aO5.keep hSets k);have hle10:=(aFg hCL).2 _ (List.getElem_mem hv);have HK:=aA1 (aKr hm hv);have HF0:=aA1 (aBn hm).1;have HL:=aA1 hL;have HGL:=aA1 hGL;have hcl:c[v].length=p.vars.length:=by have:=bGy hm hv;rwa [aA7 hv] at this
 have HCL:=aA1 hcl;have HST:=aA1 (fun (s:SetT) hs=>aVy (aAe (aBn hm).1).1 (List.getElem_mem hkl) (s:=s) hs);have HSL:=aA1 (fun (s:SetT) hs=>aRf ((aAi hL).2.2.2.2 _ (List.getElem_mem hkl)) (s:=s) hs);have hls:=aTs ((aAi hL).2.2.2.2 _ (List.getElem_mem hkl));have HMV:Hid (∀ j (hj:j<p.rules[k].sets.length),aD0 p g c v (p.rules[k].sets.take (j+1))=(aD0 p g c v (p.rules[k].sets.take j)).set p.rules[k].sets[j].var.toNat (aL5 p g c v p.rules[k].sets[j])):=fun j hj=>aRj _ _ _ _ _ _ hj;have HML:Hid (∀ j,(aD0 p g c v (p.rules[k].sets.take j)).length=c[v].length):=fun j=>by rw [aNi,aA7 hv]
 have hpv:0<p.vars.length:=by have:=(aB6 (aAe (aBn hm).1).1).2.1;omega
 have hgp:v<g.ports.length:=by rw [<- aCa hm];exact hv
 have hdv:decide (v<c.length)=true:=by simpa using hv
 have hdk:decide (k<p.rules.length)=true:=by simpa using hkl
 obtain ⟨j0,hj0,hy0,hy1,hy2⟩:=info_parts aR4
 have hcell2:=aA1 (fun w' (kk:Bel ((w.alloc (.cells #[.string p.name,.slice A1 p.vars.length k1,.slice (some ⟨bR,oR,none⟩) p.rules.length k2] 25)).alloc (.cells #[.slice A3 g.ids.length k3,.slice A4 g.ports.length k4] 29)) w')=>show w'.cell? ⟨w.heap.size,0,none⟩=some (.string p.name)/\w'.cell? ⟨w.heap.size,1,none⟩=some (.slice A1 p.vars.length k1)/\w'.cell? ⟨w.heap.size,2,none⟩=some (.slice (some ⟨bR,oR,none⟩) p.rules.length k2)/\w'.cell? ⟨w.heap.size+1,0,none⟩=some (.slice A3 g.ids.length k3)/\w'.cell? ⟨w.heap.size+1,1,none⟩=some (.slice A4 g.ports.length k4)/\w'.cell? ⟨bR,oR+k*3+2,none⟩=some (.slice SS p.rules[k].sets.length sc)/\w.heap.size+1<w'.heap.size/\bR<w'.heap.size from by
  obtain ⟨q0,q1,q2,q3,q4,q5⟩:=aA6 kk;have hb:=aA0 kk
  exact ⟨q0,q1,q2,q3,q4,(hb.cell hbR).trans cs,q5,Nat.lt_of_lt_of_le hbR hb.size⟩)
 clear hI hR hSets cs hm hen hk hL hGL hCL eR eC hRC hcl;go_enter func142,ntmps142
 go_wp2_with (at_builtin;go_must (refine aDr _ rfl (.const (.slice none 0 0)) (.tmp 15) 26 rfl (w.heap.size+1+1) 3 j0 (.int .i64 0) 1 8 underlying26 hj0 hy0 hy1 hy2 rfl (by decide) none 0 0 [] rfl (World.ownsRow_nil _ _ _ _) R c[v].length rc (c[v].map (Value.int .i64)) rfl (HI.out.keep (aA0 HW)).cells (aJj _) (by unfold maxLen;omega) (by omega) (by simp) ?_);intro A6 c6 w3 hown3 hgr3 _;rw [List.nil_append,Nat.zero_add] at hown3;replace HW:=HW.grown hgr3 (fun k hk=>by cases hk);obtain ⟨hn1,hn2⟩:=aDp hown3;have HO:=aA1 hown3;clear hown3 hgr3)
 have HO0:Hid (w3.ownsRow (w.heap.size+1+1) 3 1 (.slice A6 c[v].length c6) c[v].length ((aD0 p g c v (p.rules[k].sets.take 0)).map (Value.int .i64))):=by
  have:=HO.out;show World.ownsRow _ _ _ _ _ _ _
  rw [List.take_zero];unfold aD0;rw [aA7 hv];exact this
 obtain ⟨ga,hga⟩:∃ ga,A6=some ⟨ga,0,none⟩:=by
  obtain ⟨ga,cap,hv',_⟩:=HO.out.form (by rw [HCL.out];exact hpv)
  injection hv' with hA
  exact ⟨ga,hA⟩
 subst hga;clear HO
 go_wp2_with fail
 replace HW:=HW.drew;replace HO0:=aA1 (HO0.out.drew)
 go_region_held3 (fun w'=>w'.cell? ⟨w.heap.size,0,none⟩=some (.string p.name)/\w'.cell? ⟨w.heap.size,1,none⟩=some (.slice A1 p.vars.length k1)/\w'.cell? ⟨w.heap.size,2,none⟩=some (.slice (some ⟨bR,oR,none⟩) p.rules.length k2)/\w'.cell? ⟨w.heap.size+1,0,none⟩=some (.slice A3 g.ids.length k3)/\w'.cell? ⟨w.heap.size+1,1,none⟩=some (.slice A4 g.ports.length k4)/\w'.cell? ⟨bR,oR+k*3+2,none⟩=some (.slice SS p.rules[k].sets.length sc)/\w.heap.size+1<w'.heap.size/\bR<w'.heap.size) (exact hcell2.out _ HW) (first
  | (go_simp;go_at_call 187;refine (aL1 _ p _ g _ c v _ (HPV.out _ (aA0 HW)) (HGV.out _ (aA0 HW)) (HCV.out _ (aA0 HW)) HK.out HL.out).mono ?_;rintro e w' ⟨rfl,hb⟩;rw [HFK.out];replace HW:=HW.trans hb;replace HO0:=aA1 (hb.owns HO0.out);clear hb))
 go_wp2_with fail
 go_loopg [11] p.rules[k].sets.length (fun m z wr=>∃ j:Nat,j<=p.rules[k].sets.length/\m=p.rules[k].sets.length-j/\z = .int .i64 j/\Hid (wr.ownsRow (w.heap.size+1+1) 3 1 (.slice (some ⟨ga,0,none⟩) c[v].length c6) c[v].length ((aD0 p g c v (p.rules[k].sets.take j)).map (Value.int .i64)))/\Bel ((w.alloc (.cells #[.string p.name,.slice A1 p.vars.length k1,.slice (some ⟨bR,oR,none⟩) p.rules.length k2] 25)).alloc (.cells #[.slice A3 g.ids.length k3,.slice A4 g.ports.length k4] 29)) wr)
 case atStart=>exact ⟨0,by omega,rfl,rfl,HO0,HW⟩
 case round =>
  clear HO0 HW hcell2;obtain ⟨j,hj,rfl,rfl,HO,HW⟩:=hrel
  by_cases hlt:j<p.rules[k].sets.length
  .have hd0:decide (j<p.rules[k].sets.length)=true:=by simpa using hlt
   obtain ⟨t1,t2,t4,t5,hx0,hx1⟩:=HST.out _ (List.getElem_mem hlt);obtain ⟨x,hx⟩:=Int.eq_ofNat_of_zero_le hx0;have hxl:x<p.vars.length:=by omega
   have hsl:=HSL.out _ (List.getElem_mem hlt);have HE:Hid (EOK p p.rules[k].sets[j].value):=⟨t1,t2,t4,t5,by omega⟩
   obtain ⟨bs,os,V,vc,rfl,hbs,s0,s1,hVT,_,_⟩:=(HSets.out _ (Bel.refl w)).at_ j hlt;have HVT:=aA1 (fun w' (kk:Bel w w')=>aAr.keep hVT kk);rw [hx] at s0;have HX:=aA1 hx
   have HSV:Hid (aL5 p g c v p.rules[k].sets[j]=aHj p.vars[x].kind (aAg p.vars[x] g v) (aAw g c v (-1) (aAm p.rules[k].sets[j].value))):=by
    show _=_
    unfold aL5 bEj;rw [hx,Int.toNat_natCast,aA7 hxl]
   have hxc:x<c[v].length:=by rw [HCL.out];exact hxl
   have hdc:decide (x<c[v].length)=true:=by simpa using hxc
   have hmx:x<(aD0 p g c v (p.rules[k].sets.take j)).length:=by rw [HML.out];exact hxc
   have HY:Hid (((aD0 p g c v (p.rules[k].sets.take j)).map (Value.int .i64))[x]?=some (.int .i64 (aD0 p g c v (p.rules[k].sets.take j))[x])):=by
    show _=_
    rw [List.getElem?_map,List.getElem?_eq_getElem hmx];rfl
   obtain ⟨hga1,hga2⟩:=aAf HO.out
   have hcell:=aA1 (fun w' (kk:Fr ga wr w')=>show w'.cell? ⟨w.heap.size,0,none⟩=some (.string p.name)/\w'.cell? ⟨w.heap.size,1,none⟩=some (.slice A1 p.vars.length k1)/\w'.cell? ⟨w.heap.size,2,none⟩=some (.slice (some ⟨bR,oR,none⟩) p.rules.length k2)/\w'.cell? ⟨w.heap.size+1,0,none⟩=some (.slice A3 g.ids.length k3)/\w'.cell? ⟨w.heap.size+1,1,none⟩=some (.slice A4 g.ports.length k4)/\w'.cell? ⟨bs,os+j*2,none⟩=some (.int .i64 (x:Int))/\w'.cell? ⟨bs,os+j*2+1,none⟩=some (.slice V p.rules[k].sets[j].value.length vc)/\w.heap.size+1<w'.heap.size/\bs<w'.heap.size/\ga<w'.heap.size from by
    obtain ⟨q0,q1,q2,q3,q4,q5⟩:=aA6 HW;have hb:=aA0 HW;have hsz:=hb.size;have hk1:=kk.1
    exact ⟨(kk.cell (by omega) (by omega)).trans q0,(kk.cell (by omega) (by omega)).trans q1,(kk.cell (by omega) (by omega)).trans q2,(kk.cell q5 (by omega)).trans q3,(kk.cell q5 (by omega)).trans q4,(kk.cell (by omega) (by omega)).trans ((hb.cell hbs).trans s0),(kk.cell (by omega) (by omega)).trans ((hb.cell hbs).trans s1),by omega,by omega,by omega⟩)
   have HG:=Fr.refl ga wr;clear hVT t1 t2 t4 t5 hx hx0 hx1 hsl s0 s1
   go_wp2_with fail
   replace HW:=HW.drew;replace HG:=HG.drew;replace HO:=aA1 (HO.out.drew)
   go_region_held3 (fun w'=>w'.cell? ⟨w.heap.size,0,none⟩=some (.string p.name)/\w'.cell? ⟨w.heap.size,1,none⟩=some (.slice A1 p.vars.length k1)/\w'.cell? ⟨w.heap.size,2,none⟩=some (.slice (some ⟨bR,oR,none⟩) p.rules.length k2)/\w'.cell? ⟨w.heap.size+1,0,none⟩=some (.slice A3 g.ids.length k3)/\w'.cell? ⟨w.heap.size+1,1,none⟩=some (.slice A4 g.ports.length k4)/\w'.cell? ⟨bs,os+j*2,none⟩=some (.int .i64 (x:Int))/\w'.cell? ⟨bs,os+j*2+1,none⟩=some (.slice V p.rules[k].sets[j].value.length vc)/\w.heap.size+1<w'.heap.size/\bs<w'.heap.size/\ga<w'.heap.size) (first | exact hcell.out _ HG | exact hcell.out _ (HG.set _ _)) (first
    | (go_simp;go_at_call 111;refine (aWi p g c v HK.out (aAm p.rules[k].sets[j].value) false (-1) _ _ _ _ p.rules[k].sets[j].value 0 _ (HGV.out _ (aA0 HW)) (HCV.out _ (aA0 HW)) (HVT.out _ (aA0 HW)) (At.whole HE.out.ok HE.out.terms) HE.out.arg HE.out.len HE.out.bound aE6).mono ?_;rintro e w4 ⟨rfl,hbb⟩;replace HW:=HW.trans hbb;replace HG:=HG.trans (Fr.of_bel hbb);replace HO:=aA1 (hbb.owns HO.out);clear hbb)
    | (go_simp;go_at_call 188;refine (aYh _ p _ g v x _ _ (HPV.out _ (aA0 HW)) (HGV.out _ (aA0 HW)) HF0.out hgp hxl HGL.out).mono ?_;rintro e w5 ⟨rfl,hbb⟩;replace HW:=HW.trans hbb;replace HG:=HG.trans (Fr.of_bel hbb);replace HO:=aA1 (hbb.owns HO.out);clear hbb;have y1:=(aBv HO.out HY.out);obtain ⟨q1,e1,_,_,y1,z1⟩:=y1;obtain rfl:ga=q1:=(by simpa using e1);clear e1))
   go_wp2_with fail
   go_roundg (p.rules[k].sets.length-(j+1))
   case rel =>
    refine ⟨j+1,by omega,rfl,by go_num,?_,HW.setCell (by simp;omega) _⟩
    have hst:=(HO.out.stored x (.int .i64 (aHj p.vars[x].kind (aAg p.vars[x] g v) (aAw g c v (-1) (aAm p.rules[k].sets[j].value))))).1;show World.ownsRow _ _ _ _ _ _ _
    rw [HMV.out j hlt,HX.out,Int.toNat_natCast,HSV.out,List.map_set];exact hst
   case measure=>omega
  .have hd0:decide (j<p.rules[k].sets.length)=false:=by simpa using hlt
   obtain rfl:j=p.rules[k].sets.length:=by omega
   go_wp2_with fail
   go_ret;have hO:=HO.out;rw [List.take_of_length_le (Nat.le_refl _)] at hO;obtain ⟨hn,hN⟩:=aNo hO;rw [HMF.out];exact ⟨_,c6,by rw [<- hn];rfl,hN.lower (by omega),aA0 HW⟩
theorem bAx (v1:Value) (p:Prg) (v2:Value) (g:Graph) (v3:Value) (c:aA8) (S:Nat) (w:World) (h:aE0 w v1 p) (h2:aAl w v2 g) (h3:aDf w v3 c) (hL:aAt p=true) (hG:aB3 g=true) (hC:aE1 c=true) (hS:S<4294967296) :
  Calls prog 91 #[v1,v2,v3,.int .u32 (S:Int)] w (bKg (aUd p g c S) w):=by
 have HPV:=aA1 (fun w' (k:Bel w w')=>h.keep k);have HGV:=aA1 (fun w' (k:Bel w w')=>h2.keep k);have HCV:=aA1 (fun w' (k:Bel w w')=>h3.keep k);obtain ⟨A1,k1,A2,k2,rfl,_,_,_,_,_,_⟩:=h;obtain ⟨A3,k3,A4,k4,rfl,_,_,_,_,_,_⟩:=h2;obtain ⟨A5,k5,rfl,_,_,_⟩:=h3;have HW:=Bel.refl ((w.alloc (.cells #[.string p.name,.slice A1 p.vars.length k1,.slice A2 p.rules.length k2] 25)).alloc (.cells #[.slice A3 g.ids.length k3,.slice A4 g.ports.length k4] 29));have HL:=aA1 hL;have HGL:=aA1 hG;have HCL:=aA1 hC;clear hL hG hC;have HF:Hid (aUd p g c S=if aCp p g c≠0 then ([],aCp p g c) else if S=0∨aBh S (aCm p g c)=false then ([],11) else (aEy p g c S,0)):=rfl
 have HN:Hid (∀ w',aDf w' (.slice none 0 0) []):=fun w'=>aDf.nil _;have HS:=aA1 hS;clear hS
 by_cases hm:aCp p g c=0
 .rw [if_neg (by simpa using hm)] at HF
  have HM:=aA1 hm;have hle:c.length<=24:=by rw [aCa hm];exact (aAe (aBn hm).1).2.1.le
  have HD:=aA1 (aIx (T:=aCm p g c) HS.out);have HP:=aA1 (bGc hm);clear hm
  by_cases h0:S=0
  .subst h0
   rw [if_pos (.inl rfl)] at HF;go_enter func91,ntmps91
   go_wp2_with (go_at_call 104;refine (aBb _ p _ g _ c _ (HPV.out _ (aA0 HW)) (HGV.out _ (aA0 HW)) (HCV.out _ (aA0 HW)) HL.out HGL.out HCL.out).mono ?_;rintro e w' ⟨rfl,hb⟩;rw [HM.out];replace HW:=HW.trans hb;clear hb;(try clear p0 p1 p2 g0 g1 gsz);obtain ⟨p0,p1,p2,g0,g1,gsz⟩:=aA6 HW)
   go_ret2
   rw [HF.out];exact ⟨none,0,rfl,HN.out _,aA0 HW⟩
  .have hs0:((S:Int)==0)=false:=by simpa using h0
   have hs0':(S==0)=false:=by simpa using h0
   have hbn:=aHi S (aCm p g c);cases hwi:aBh S (aCm p g c) with
   | false =>
    rw [if_pos (.inr hwi)] at HF;rw [hwi] at HD;have hz:((aHo S (aCm p g c):Int) != 0)=true:=by have:=HD.out;simp at this ⊢;omega
    have hz':(aHo S (aCm p g c) != 0)=true:=by have:=HD.out;simp at this ⊢;omega
    clear h0 hwi;go_enter func91,ntmps91
    go_wp2_with (first
     | (go_at_call 104;refine (aBb _ p _ g _ c _ (HPV.out _ (aA0 HW)) (HGV.out _ (aA0 HW)) (HCV.out _ (aA0 HW)) HL.out HGL.out HCL.out).mono ?_;rintro e w' ⟨rfl,hb⟩;rw [HM.out];replace HW:=HW.trans hb;clear hb;(try clear p0 p1 p2 g0 g1 gsz);obtain ⟨p0,p1,p2,g0,g1,gsz⟩:=aA6 HW)
     | (go_at_call 140;refine (aMs _ p _ g _ c _ (HPV.out _ (aA0 HW)) (HGV.out _ (aA0 HW)) (HCV.out _ (aA0 HW)) HM.out HL.out).mono ?_;rintro e w' ⟨rfl,hb⟩;replace HW:=HW.trans hb;clear hb;(try clear p0 p1 p2 g0 g1 gsz);obtain ⟨p0,p1,p2,g0,g1,gsz⟩:=aA6 HW))
    go_ret2
    rw [HF.out];exact ⟨none,0,rfl,HN.out _,aA0 HW⟩
   | true =>
    rw [if_neg (by rw [hwi];simpa using h0)] at HF
    rw [hwi] at HD;have hz:((aHo S (aCm p g c):Int) != 0)=false:=by have:=HD.out;simp at this ⊢;omega
    have hz':(aHo S (aCm p g c) != 0)=false:=by have:=HD.out;simp at this ⊢;omega
    have HEN:Hid (∀ v,v<c.length->S.testBit v=true->0<=aBy p.rules g c v):=fun v hv hb=>by
     have:=aB5.1 hwi v (by omega) hb
     rw [aKn] at this;simp at this
     exact this.2
    clear h0 hwi;go_enter func91,ntmps91
    go_wp2_with (first
     | (go_at_call 104;refine (aBb _ p _ g _ c _ (HPV.out _ (aA0 HW)) (HGV.out _ (aA0 HW)) (HCV.out _ (aA0 HW)) HL.out HGL.out HCL.out).mono ?_;rintro e w' ⟨rfl,hb⟩;rw [HM.out];replace HW:=HW.trans hb;clear hb;(try clear p0 p1 p2 g0 g1 gsz);obtain ⟨p0,p1,p2,g0,g1,gsz⟩:=aA6 HW)
     | (go_at_call 140;refine (aMs _ p _ g _ c _ (HPV.out _ (aA0 HW)) (HGV.out _ (aA0 HW)) (HCV.out _ (aA0 HW)) HM.out HL.out).mono ?_;rintro e w' ⟨rfl,hb⟩;replace HW:=HW.trans hb;clear hb;(try clear p0 p1 p2 g0 g1 gsz);obtain ⟨p0,p1,p2,g0,g1,gsz⟩:=aA6 HW)
     | (go_at_call 119;refine (bAu _ c _ (HCV.out _ (aA0 HW)) HCL.out HP.out).mono ?_;rintro e w' ⟨gb,cap,hs,rfl,hO,hb⟩;have HO:=aA1 hO;have HGB:=aA1 (aAf hO.own).1;have hsz:=HW.size;clear hO;replace HW:=HW.trans hb;clear hb;(try clear p0 p1 p2 g0 g1 gsz);obtain ⟨p0,p1,p2,g0,g1,gsz⟩:=aA6 HW))
    have hgb:=HGB.out;simp only [World.size_alloc] at hsz
    have hgb2:w.heap.size+1<gb:=by omega
    have HO2:Hid (OwnC w' (w.heap.size+1+1) gb cap c hs):=⟨aGr HO.out.own (by omega),HO.out.rows⟩
    clear hbn hz hz' hs0 hs0' hgb hsz p0 p1 p2 g0 g1 gsz HO
    go_loopg [12] c.length (fun m z wr=>∃ (v:Nat) (hs:List Value),v<=c.length/\m=c.length-v/\z = .int .i64 v/\Hid (OwnC wr (w.heap.size+1+1) gb cap (aPn p g c S v) hs)/\Bel ((w.alloc (.cells #[.string p.name,.slice A1 p.vars.length k1,.slice A2 p.rules.length k2] 25)).alloc (.cells #[.slice A3 g.ids.length k3,.slice A4 g.ports.length k4] 29)) wr)
    case atStart=>exact ⟨0,hs,by omega,rfl,rfl,by show OwnC _ _ _ _ _ _;rw [bDz];exact HO2.out,HW⟩
    case round =>
     clear HO2 HW;obtain ⟨v,hs,hv,rfl,rfl,HO,HW⟩:=hrel;obtain ⟨p0,p1,p2,g0,g1,gsz⟩:=aA6 HW
     by_cases hlt:v<c.length
     .have hd0:decide (v<c.length)=true:=by simpa using hlt
      have hhas:aR0 S (v:Int)=S.testBit v:=by unfold aR0;rw [decide_eq_true (show (0:Int)<=v by omega),decide_eq_true (show (v:Int)<32 by omega),Int.toNat_natCast];simp
      have HHAS:=aA1 hhas;clear hhas;cases hb:S.testBit v with
      | true =>
       have hf:=aA1 (HEN.out v hlt hb);have HPY:=aA1 (bGs (p:=p) (g:=g) (c:=c) hb);have HSL:Hid (hs.length=c.length):=by have:=HO.out.own.1;rw [aKw] at this;show _=_;omega
       rw [hb] at HHAS;clear hb
       go_wp2_with (first
        | (go_at_call 79;refine (aIm S _ _ HS.out).mono ?_;rintro e w2 ⟨rfl,rfl⟩;rw [HHAS.out])
        | (go_at_call 142;refine (aYl _ p _ g _ c v _ (HPV.out _ (aA0 HW)) (HGV.out _ (aA0 HW)) (HCV.out _ (aA0 HW)) HM.out hlt hf.out HL.out HGL.out HCL.out).mono ?_;rintro e w2 ⟨R,rc,rfl,hN,hb⟩;have hgb3:=(aAf HO.out.own).2;have HN2:=aA1 hN;replace HW:=HW.trans hb;replace HO:=aA1 (HO.out.keep hb);have y1:=aC8 HO.out.own v (by rw [HSL.out];omega);have y2:=HO.out.own.frozenAt v;have ygb:=(aAf HO.out.own).2;clear hb hN))
       go_roundg (c.length-(v+1))
       case rel =>
        refine ⟨v+1,hs.set v (.slice R (aLv p g c v).length rc),by omega,rfl,by go_num,?_,HW.setCell (by simp;omega) _⟩
        have h3:=HN2.out;show OwnC _ _ _ _ _ _
        rw [<- HPY.out];exact HO.out.set (v:=v) (by rw [aKw];exact hlt) h3.1 h3.2.1 h3.2.2.1 (h3.off (by omega))
       case measure=>omega
      | false =>
       have HPN:=aA1 (bJl (p:=p) (g:=g) (c:=c) hb);rw [hb] at HHAS;clear hb
       go_wp2_with (go_at_call 79;refine (aIm S _ _ HS.out).mono ?_;rintro e w2 ⟨rfl,rfl⟩;rw [HHAS.out])
       go_roundg (c.length-(v+1))
       case rel=>exact ⟨v+1,hs,by omega,rfl,by go_num,by show OwnC _ _ _ _ _ _;rw [<- HPN.out];exact HO.out,HW⟩
       case measure=>omega
     .have hd0:decide (v<c.length)=false:=by simpa using hlt
      obtain rfl:v=c.length:=by omega
      go_wp2_with fail
      go_ret2
      have hO:=HO.out;rw [bDy] at hO;rw [HF.out];exact ⟨some ⟨gb,0,none⟩,cap,by rw [aFv];rfl,hO.conf,aA0 HW⟩
 .rw [if_pos hm] at HF
  have hmb:(aCp p g c != 0)=true:=by simpa using hm
  clear hm;go_enter func91,ntmps91
  go_wp2_with (go_at_call 104;refine (aBb _ p _ g _ c _ (HPV.out _ (aA0 HW)) (HGV.out _ (aA0 HW)) (HCV.out _ (aA0 HW)) HL.out HGL.out HCL.out).mono ?_;rintro e w' ⟨rfl,hb⟩;replace HW:=HW.trans hb;clear hb;(try clear p0 p1 p2 g0 g1 gsz);obtain ⟨p0,p1,p2,g0,g1,gsz⟩:=aA6 HW)
  go_ret2
  rw [HF.out];exact ⟨none,0,rfl,HN.out _,aA0 HW⟩
end Go.Proofs.YtmifhmdghfbalaaGreatDoor

