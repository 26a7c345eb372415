/- Merged. -/
import Derived.Test.YtdcjnhoabbdanaaGreatDoorZ17
set_option linter.unusedSimpArgs false
set_option linter.unnecessarySimpa false
set_option linter.unusedVariables false
set_option maxRecDepth 100000
set_option maxHeartbeats 4000000
open Go.Proofs.Tryz

namespace Go.Proofs.YtdcjnhoabbdanaaGreatDoor
open Go.RowKit
theorem aRu {p:Prg} {g:Graph} {c:aA6} (hm:aD1 p g c=0):0<c.length:=by
 obtain ⟨f1,f2⟩:=aB8 hm;rw [(aCd.1 f2).1,aCj,(aAp f1).2.1.ids];exact (aAp f1).2.1.pos
theorem aS9 (v1:Value) (p:Prg) (v2:Value) (g:Graph) (i q:Nat) (x:Int) (w:World) (h:aEi w v1 p) (h2:aAn w v2 g) (hf:aHs p g=0) (hi:i<g.ports.length) (hq:q<p.vars.length) (hG:aB3 g=true) :
  Calls prog 117 #[v1,v2,.int .i64 i,.int .i64 q,.int .i64 x] w fun e w'=>e = .returned (.int .i64 (aFp p.vars[q].kind (aAo p.vars[q] g i) x))/\Bel w w':=by
 have HPV:=aA0 (fun w' (k:Bel w w')=>h.keep k);have HGV:=aA0 (fun w' (k:Bel w w')=>h2.keep k);obtain ⟨A1,k1,A2,k2,rfl,hV,_,_,_,_,_⟩:=h;obtain ⟨A3,k3,A4,k4,rfl,_,_,_,_,_,_⟩:=h2;have HV:=aA0 (fun w' (k:Bel w w')=>aHw.keep hV k);have HW:=Bel.refl ((w.alloc (.cells #[.string p.name,.slice A1 p.vars.length k1,.slice A2 p.rules.length k2] 25)).alloc (.cells #[.slice A3 g.ids.length k3,.slice A4 g.ports.length k4] 29));obtain ⟨f1,f2⟩:=aNe hf (List.getElem_mem hq) i;have HN:=aA0 (List.all_eq_true.1 (aBl (aAp hf).1).1 _ (List.getElem_mem hq));have HGO:=aA0 (aAp hf).2.1;have HGL:=aA0 hG;have HF:=aA0 (aVo (kind:=p.vars[q].kind) f1 x);have hdq:decide (q<p.vars.length)=true:=by simpa using hq
 obtain ⟨bV,oV,rfl,hbV,_,cV,_⟩:=hV.at_ q hq;have hbV':bV<((w.alloc (.cells #[.string p.name,.slice (some ⟨bV,oV,none⟩) p.vars.length k1,.slice A2 p.rules.length k2] 25)).alloc (.cells #[.slice A3 g.ids.length k3,.slice A4 g.ports.length k4] 29)).heap.size:=by simp;omega
 obtain ⟨lo,hlo⟩:∃ lo,(aAo p.vars[q] g i).1=lo:=⟨_,rfl⟩;obtain ⟨hi',hhi⟩:∃ hi',(aAo p.vars[q] g i).2=hi':=⟨_,rfl⟩;have HLO:=aA0 hlo;have HHI:=aA0 hhi;rw [hlo,hhi] at HF;clear hV hf hG f1 f2 hlo hhi
 by_cases hk:p.vars[q].kind=3
 .have hkb:(p.vars[q].kind==3)=true:=by simpa using hk
  by_cases hr:lo<=x/\x<=hi'
  .rw [if_neg (by intro h;exact h.2 hr)] at HF
   have hdr:inB x lo hi'=true:=aL7.2 hr;obtain ⟨m,hm,hm'⟩:=aJo x lo;obtain ⟨m2,hm2,hm2'⟩:=aNj m hi';have HFV:Hid (aFp p.vars[q].kind (aAo p.vars[q] g i) x=m2):=by show _=_;rw [HF.out];omega
   clear hm' hm2' hk hr;go_enter func117,ntmps117
   go_wp2_with (first
    | (go_at_call 91;refine (aK7 _ p _ g i q _ (HPV.out _ (aA1 HW)) (HGV.out _ (aA1 HW)) hq HN.out HGO.out hi HGL.out).mono ?_;rintro e w' ⟨rfl,hb⟩;rw [HLO.out,HHI.out];replace HW:=HW.trans hb;have cV':=((aA1 HW).cell hbV).trans cV;clear hb;obtain ⟨p0,p1,p2,g0,g1,gsz⟩:=aAd HW)
    | (go_at_call 92;refine (aCo _ _ _ _).mono ?_;rintro e w' ⟨rfl,rfl⟩))
   go_ret;exact ⟨aA5 HFV.out.symm,aA1 HW⟩
  .rw [if_pos ⟨hk,hr⟩] at HF
   have hdr:inB x lo hi'=false:=aI6 (by omega)
   clear hk hr;go_enter func117,ntmps117
   go_wp2_with (first
    | (go_at_call 91;refine (aK7 _ p _ g i q _ (HPV.out _ (aA1 HW)) (HGV.out _ (aA1 HW)) hq HN.out HGO.out hi HGL.out).mono ?_;rintro e w' ⟨rfl,hb⟩;rw [HLO.out,HHI.out];replace HW:=HW.trans hb;have cV':=((aA1 HW).cell hbV).trans cV;clear hb;obtain ⟨p0,p1,p2,g0,g1,gsz⟩:=aAd HW)
    | (go_at_call 92;refine (aCo _ _ _ _).mono ?_;rintro e w' ⟨rfl,rfl⟩))
   go_ret;exact ⟨aA5 HF.out.symm,aA1 HW⟩
 .have hkb:(p.vars[q].kind==3)=false:=by simpa using hk
  rw [if_neg (fun h=>hk h.1)] at HF;obtain ⟨m,hm,hm'⟩:=aJo x lo;obtain ⟨m2,hm2,hm2'⟩:=aNj m hi';have HFV:Hid (aFp p.vars[q].kind (aAo p.vars[q] g i) x=m2):=by show _=_;rw [HF.out];omega
  clear hm' hm2' hk;go_enter func117,ntmps117
  go_wp2_with (first
   | (go_at_call 91;refine (aK7 _ p _ g i q _ (HPV.out _ (aA1 HW)) (HGV.out _ (aA1 HW)) hq HN.out HGO.out hi HGL.out).mono ?_;rintro e w' ⟨rfl,hb⟩;rw [HLO.out,HHI.out];replace HW:=HW.trans hb;have cV':=((aA1 HW).cell hbV).trans cV;clear hb;obtain ⟨p0,p1,p2,g0,g1,gsz⟩:=aAd HW)
   | (go_at_call 92;refine (aCo _ _ _ _).mono ?_;rintro e w' ⟨rfl,rfl⟩))
  go_ret;exact ⟨aA5 HFV.out.symm,aA1 HW⟩
theorem aIg (v1:Value) (p:Prg) (v2:Value) (g:Graph) (v3:Value) (c:aA6) (v:Nat) (w:World) (h:aEi w v1 p) (h2:aAn w v2 g) (h3:aAw w v3 c) (hs:SOK p g c v) (hL:aAu p=true) :
  Calls prog 116 #[v1,v2,v3,.int .i64 v] w fun e w'=>e = .returned (.int .i64 (aCe p.rules g c v))/\Bel w w':=by
 have hR:∃ A1 k1 A2 k2,v1 = .agg #[.string p.name,.slice A1 p.vars.length k1,.slice A2 p.rules.length k2]/\aFo w A2 p.rules.length p.rules:=by
  obtain ⟨A1,k1,A2,k2,e,_,_,_,hR,_,_⟩:=h;exact ⟨A1,k1,A2,k2,e,hR⟩
 obtain ⟨A1r,k1r,A2r,k2r,eR,hR⟩:=hR;have HPV:=aA0 (fun w' (k:Bel w w')=>h.keep k);have HGV:=aA0 (fun w' (k:Bel w w')=>h2.keep k);have HCV:=aA0 (fun w' (k:Bel w w')=>h3.keep k);obtain ⟨A1,k1,A2,k2,rfl,_,_,_,_,_,_⟩:=h;obtain ⟨A3,k3,A4,k4,rfl,_,_,_,_,_,_⟩:=h2;obtain ⟨A5,k5,rfl,_,_,_⟩:=h3;have HW:=Bel.refl ((w.alloc (.cells #[.string p.name,.slice A1 p.vars.length k1,.slice A2 p.rules.length k2] 25)).alloc (.cells #[.slice A3 g.ids.length k3,.slice A4 g.ports.length k4] 29));obtain ⟨⟨rfl,rfl⟩,rfl,rfl⟩:(A1=A1r/\k1=k1r)/\A2=A2r/\k2=k2r:=by simpa using eR
 have HR:=aA0 (fun w' (k:Bel w w')=>aFo.keep hR k);have HK:=aA0 hs;have HE:=aA0 (fun (i:Nat) (hi:i<p.rules.length)=>aRp (aAp hs.fits).1 hL hi);have hr16:=(aBc hL).2.2.1;have hcell:=aA0 (fun w' (kk:Bel ((w.alloc (.cells #[.string p.name,.slice A1 p.vars.length k1,.slice A2 p.rules.length k2] 25)).alloc (.cells #[.slice A3 g.ids.length k3,.slice A4 g.ports.length k4] 29)) w')=>aAd kk);clear hs hL hR eR;go_enter func116,ntmps116;go_wp2
 go_loopg [9] p.rules.length (fun m z wr=>∃ i:Nat,i<=p.rules.length/\m=p.rules.length-i/\z = .int .i64 i/\Hid ((p.rules.take i).all (fun r => !(aGh g c v r.guard))=true)/\Bel ((w.alloc (.cells #[.string p.name,.slice A1 p.vars.length k1,.slice A2 p.rules.length k2] 25)).alloc (.cells #[.slice A3 g.ids.length k3,.slice A4 g.ports.length k4] 29)) wr)
 case atStart=>exact ⟨0,by omega,rfl,rfl,rfl,HW⟩
 case round =>
  clear HW;obtain ⟨i,hi,rfl,rfl,HI,HW⟩:=hrel;obtain ⟨p0,p1,p2,g0,g1,gsz⟩:=aAd HW
  by_cases hlt:i<p.rules.length
  .have hd0:decide (i<p.rules.length)=true:=by simpa using hlt
   obtain ⟨bR,oR,G,gc,SS,sc,rfl,hbR,_,cg,_,hTG,_,_,_,_,_⟩:=(HR.out _ (Bel.refl w)).at_ i hlt;have HTG:=aA0 (fun w' (k:Bel w w')=>aB2.keep hTG k)
   have hcell2:=aA0 (fun w' (kk:Bel ((w.alloc (.cells #[.string p.name,.slice A1 p.vars.length k1,.slice (some ⟨bR,oR,none⟩) p.rules.length k2] 25)).alloc (.cells #[.slice A3 g.ids.length k3,.slice A4 g.ports.length k4] 29)) w')=>show w'.cell? ⟨w.heap.size,2,none⟩=some (.slice (some ⟨bR,oR,none⟩) p.rules.length k2)/\w'.cell? ⟨w.heap.size+1,0,none⟩=some (.slice A3 g.ids.length k3)/\w'.cell? ⟨w.heap.size+1,1,none⟩=some (.slice A4 g.ports.length k4)/\w'.cell? ⟨bR,oR+i*3+1,none⟩=some (.slice G p.rules[i].guard.length gc)/\w.heap.size+1<w'.heap.size/\bR<w'.heap.size from by
    obtain ⟨_,_,q2,q3,q4,q5⟩:=aAd kk;have hb:=aA1 kk
    exact ⟨q2,q3,q4,(hb.cell hbR).trans cg,q5,Nat.lt_of_lt_of_le hbR hb.size⟩)
   clear hTG cg;have hE:=HE.out i hlt;cases hq:aGh g c v p.rules[i].guard with
   | true =>
    have HF:=aA0 (aLq hlt HI.out hq);have HQ:Hid ((aAt g c v (-1) (aAv p.rules[i].guard) != 0)=true):=hq;have HEI:=aA0 hE;clear hq hE
    go_wp2_with fail
    replace HW:=HW.drew
    go_region_held3 (fun w'=>w'.cell? ⟨w.heap.size,2,none⟩=some (.slice (some ⟨bR,oR,none⟩) p.rules.length k2)/\w'.cell? ⟨w.heap.size+1,0,none⟩=some (.slice A3 g.ids.length k3)/\w'.cell? ⟨w.heap.size+1,1,none⟩=some (.slice A4 g.ports.length k4)/\w'.cell? ⟨bR,oR+i*3+1,none⟩=some (.slice G p.rules[i].guard.length gc)/\w.heap.size+1<w'.heap.size/\bR<w'.heap.size) (exact hcell2.out _ HW) (first
     | (go_simp;go_at_call 118;refine (aXb p g c v HK.out (aAv p.rules[i].guard) false (-1) _ _ _ _ p.rules[i].guard 0 _ (HGV.out _ (aA1 HW)) (HCV.out _ (aA1 HW)) (HTG.out _ (aA1 HW)) (At.whole HEI.out.ok HEI.out.terms) HEI.out.arg HEI.out.len HEI.out.bound aGd).mono ?_;rintro e w' ⟨rfl,hb⟩;replace HW:=HW.trans hb;clear hb))
    rw [HQ.out]
    go_wp2_with fail
    go_ret;exact ⟨aA5 HF.out.symm,aA1 HW⟩
   | false =>
    have HI2:=aA0 (aAb hlt HI.out (by rw [hq];rfl))
    have HQ:Hid ((aAt g c v (-1) (aAv p.rules[i].guard) != 0)=false):=hq;have HEI:=aA0 hE;clear hq hE
    go_wp2_with fail
    replace HW:=HW.drew
    go_region_held3 (fun w'=>w'.cell? ⟨w.heap.size,2,none⟩=some (.slice (some ⟨bR,oR,none⟩) p.rules.length k2)/\w'.cell? ⟨w.heap.size+1,0,none⟩=some (.slice A3 g.ids.length k3)/\w'.cell? ⟨w.heap.size+1,1,none⟩=some (.slice A4 g.ports.length k4)/\w'.cell? ⟨bR,oR+i*3+1,none⟩=some (.slice G p.rules[i].guard.length gc)/\w.heap.size+1<w'.heap.size/\bR<w'.heap.size) (exact hcell2.out _ HW) (first
     | (go_simp;go_at_call 118;refine (aXb p g c v HK.out (aAv p.rules[i].guard) false (-1) _ _ _ _ p.rules[i].guard 0 _ (HGV.out _ (aA1 HW)) (HCV.out _ (aA1 HW)) (HTG.out _ (aA1 HW)) (At.whole HEI.out.ok HEI.out.terms) HEI.out.arg HEI.out.len HEI.out.bound aGd).mono ?_;rintro e w' ⟨rfl,hb⟩;replace HW:=HW.trans hb;clear hb))
    rw [HQ.out]
    go_wp2_with fail
    go_roundg (p.rules.length-(i+1))
    case rel=>exact ⟨i+1,by omega,rfl,by go_num,HI2,HW⟩
    case measure=>omega
  .have hd0:decide (i<p.rules.length)=false:=by simpa using hlt
   have HF:Hid (aCe p.rules g c v = -1):=by
    refine aNd ?_
    have:=HI.out
    rwa [List.take_of_length_le (by omega)] at this
   go_wp2_with fail
   go_ret;exact ⟨aA5 HF.out.symm,aA1 HW⟩
theorem aOa (v1:Value) (p:Prg) (v2:Value) (g:Graph) (v3:Value) (c:aA6) (w:World) (h:aEi w v1 p) (h2:aAn w v2 g) (h3:aAw w v3 c) (hm:aD1 p g c=0) (hL:aAu p=true) :
  Calls prog 93 #[v1,v2,v3] w fun e w'=>e = .returned (.int .u32 (aAk p g c:Nat))/\Bel w w':=by
 have HPV:=aA0 (fun w' (k:Bel w w')=>h.keep k);have HGV:=aA0 (fun w' (k:Bel w w')=>h2.keep k);have HCV:=aA0 (fun w' (k:Bel w w')=>h3.keep k);obtain ⟨A1,k1,A2,k2,rfl,_,_,_,_,_,_⟩:=h;obtain ⟨A3,k3,A4,k4,rfl,_,_,_,_,_,_⟩:=h2;obtain ⟨A5,k5,rfl,_,_,_⟩:=h3;have HW:=Bel.refl ((w.alloc (.cells #[.string p.name,.slice A1 p.vars.length k1,.slice A2 p.rules.length k2] 25)).alloc (.cells #[.slice A3 g.ids.length k3,.slice A4 g.ports.length k4] 29));have hle:c.length<=24:=by rw [aDg hm];exact (aAp (aB8 hm).1).2.1.le
 have HK:=aA0 (fun v (hv:v<c.length)=>aNs hm hv);have HL:=aA0 hL;have HE:Hid (aAk p g c=aBw c.length fun v=>decide (0<=aCe p.rules g c v)):=rfl;clear hm hL;go_enter func93,ntmps93;go_wp2
 go_loopg [7,8] c.length (fun m s z wr=>∃ v:Nat,v<=c.length/\m=c.length-v/\z = .int .i64 v/\s = .int .u32 (aBw v fun v=>decide (0<=aCe p.rules g c v):Nat)/\Bel ((w.alloc (.cells #[.string p.name,.slice A1 p.vars.length k1,.slice A2 p.rules.length k2] 25)).alloc (.cells #[.slice A3 g.ids.length k3,.slice A4 g.ports.length k4] 29)) wr)
 case atStart=>exact ⟨0,by omega,rfl,rfl,rfl,HW⟩
 case round =>
  clear HW;obtain ⟨v,hv,rfl,rfl,rfl,HW⟩:=hrel;obtain ⟨p0,p1,p2,g0,g1,gsz⟩:=aAd HW;have hsl:=aEf (fun v=>decide (0<=aCe p.rules g c v)) (show v<=32 by omega)
  by_cases hlt:v<c.length
  .have hd0:decide (v<c.length)=true:=by simpa using hlt
   cases hb:decide (0<=aCe p.rules g c v) with
   | true =>
    go_wp2_with (go_at_call 116;refine (aIg _ p _ g _ c v _ (HPV.out _ (aA1 HW)) (HGV.out _ (aA1 HW)) (HCV.out _ (aA1 HW)) (HK.out v hlt) HL.out).mono ?_;rintro e w' ⟨rfl,hbb⟩;replace HW:=HW.trans hbb;clear hbb)
    go_roundg (c.length-(v+1))
    case rel=>exact ⟨v+1,by omega,rfl,by go_num,by rw [aF4,hb,if_pos rfl,aG6 hsl (by omega)],HW⟩
    case measure=>omega
   | false =>
    go_wp2_with (go_at_call 116;refine (aIg _ p _ g _ c v _ (HPV.out _ (aA1 HW)) (HGV.out _ (aA1 HW)) (HCV.out _ (aA1 HW)) (HK.out v hlt) HL.out).mono ?_;rintro e w' ⟨rfl,hbb⟩;replace HW:=HW.trans hbb;clear hbb)
    go_roundg (c.length-(v+1))
    case rel=>exact ⟨v+1,by omega,rfl,by go_num,by rw [aF4,hb];rfl,HW⟩
    case measure=>omega
  .have hd0:decide (v<c.length)=false:=by simpa using hlt
   obtain rfl:v=c.length:=by omega
   go_wp2_with fail
   go_ret;exact ⟨aA5 (by rw [HE.out]),aA1 HW⟩
theorem aJc (v1:Value) (p:Prg) (v2:Value) (g:Graph) (v3:Value) (c:aA6) (w:World) (h:aEi w v1 p) (h2:aAn w v2 g) (h3:aAw w v3 c) (hL:aAu p=true) (hG:aB3 g=true) (hC:aBs c=true) :
  Calls prog 65 #[v1,v2,v3] w fun e w'=>e = .returned (.int .u32 (aMi p g c:Nat))/\Bel w w':=by
 have HPV:=aA0 (fun w' (k:Bel w w')=>h.keep k);have HGV:=aA0 (fun w' (k:Bel w w')=>h2.keep k);have HCV:=aA0 (fun w' (k:Bel w w')=>h3.keep k);obtain ⟨A1,k1,A2,k2,rfl,_,_,_,_,_,_⟩:=h;obtain ⟨A3,k3,A4,k4,rfl,_,_,_,_,_,_⟩:=h2;obtain ⟨A5,k5,rfl,_,_,_⟩:=h3;have HW:=Bel.refl ((w.alloc (.cells #[.string p.name,.slice A1 p.vars.length k1,.slice A2 p.rules.length k2] 25)).alloc (.cells #[.slice A3 g.ids.length k3,.slice A4 g.ports.length k4] 29));have HL:=aA0 hL;have HGL:=aA0 hG;have HCL:=aA0 hC;clear hL hG hC;have HF:Hid (aMi p g c=if aD1 p g c≠0 then 0 else aAk p g c):=rfl
 cases hm:decide (aD1 p g c=0) with
 | false =>
  rw [if_pos (of_decide_eq_false hm)] at HF;go_enter func65,ntmps65
  go_wp2_with (go_at_call 42;refine (aG0 _ p _ g _ c _ (HPV.out _ (aA1 HW)) (HGV.out _ (aA1 HW)) (HCV.out _ (aA1 HW)) HL.out HGL.out HCL.out).mono ?_;rintro e w' ⟨rfl,hb⟩;rw [hm];replace HW:=HW.trans hb;clear hb;(try clear p0 p1 p2 g0 g1 gsz);obtain ⟨p0,p1,p2,g0,g1,gsz⟩:=aAd HW)
  go_ret;exact ⟨aA5 (by rw [HF.out];rfl),aA1 HW⟩
 | true =>
  have hm0:=of_decide_eq_true hm;rw [if_neg (by simpa using hm0)] at HF
  have HM:=aA0 hm0;clear hm0;go_enter func65,ntmps65
  go_wp2_with (first
   | (go_at_call 42;refine (aG0 _ p _ g _ c _ (HPV.out _ (aA1 HW)) (HGV.out _ (aA1 HW)) (HCV.out _ (aA1 HW)) HL.out HGL.out HCL.out).mono ?_;rintro e w' ⟨rfl,hb⟩;rw [hm];replace HW:=HW.trans hb;clear hb;(try clear p0 p1 p2 g0 g1 gsz);obtain ⟨p0,p1,p2,g0,g1,gsz⟩:=aAd HW)
   | (go_at_call 93;refine (aOa _ p _ g _ c _ (HPV.out _ (aA1 HW)) (HGV.out _ (aA1 HW)) (HCV.out _ (aA1 HW)) HM.out HL.out).mono ?_;rintro e w' ⟨rfl,hb⟩;replace HW:=HW.trans hb;clear hb;(try clear p0 p1 p2 g0 g1 gsz);obtain ⟨p0,p1,p2,g0,g1,gsz⟩:=aAd HW))
  go_ret;exact ⟨aA5 (by rw [HF.out]),aA1 HW⟩
end Go.Proofs.YtdcjnhoabbdanaaGreatDoor

