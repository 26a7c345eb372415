/- Merged. -/
import Derived.Test.YtdcjnhoabbdanaaGreatDoorZ24
set_option linter.unusedSimpArgs false
set_option linter.unnecessarySimpa false
set_option linter.unusedVariables false
set_option maxRecDepth 100000
set_option maxHeartbeats 4000000
open Go.Proofs.Tryz

namespace Go.Proofs.YtdcjnhoabbdanaaGreatDoor
open Go.RowKit
theorem aR9 {p:Prg} {g:Graph} {c:aA7} (hm:aCv p g c=0):0<c.length:=by
 obtain ⟨f1,f2⟩:=aB8 hm;rw [(aCa.1 f2).1,aCf,(aAp f1).2.1.ids];exact (aAp f1).2.1.pos
theorem aRo (v1:Value) (p:Prg) (v2:Value) (g:Graph) (i q:Nat) (x:Int) (w:World) (h:aEm w v1 p) (h2:aAn w v2 g) (hf:aHo p g=0) (hi:i<g.ports.length) (hq:q<p.vars.length) (hG:aB3 g=true) :
  Calls prog 117 #[v1,v2,.int .i64 i,.int .i64 q,.int .i64 x] w fun e w'=>e = .returned (.int .i64 (aFf p.vars[q].kind (aAk p.vars[q] g i) x))/\Bel w w':=by
 have HPV:=aA0 (fun w' (k:Bel w w')=>h.keep k);have HGV:=aA0 (fun w' (k:Bel w w')=>h2.keep k);obtain ⟨A1,k1,A2,k2,rfl,hV,_,_,_,_,_⟩:=h;obtain ⟨A3,k3,A4,k4,rfl,_,_,_,_,_,_⟩:=h2;have HV:=aA0 (fun w' (k:Bel w w')=>aHs.keep hV k);have HW:=Bel.refl ((w.alloc (.cells #[.string p.name,.slice A1 p.vars.length k1,.slice A2 p.rules.length k2] 25)).alloc (.cells #[.slice A3 g.ids.length k3,.slice A4 g.ports.length k4] 29));obtain ⟨f1,f2⟩:=aMu hf (List.getElem_mem hq) i;have HN:=aA0 (List.all_eq_true.1 (aBi (aAp hf).1).1 _ (List.getElem_mem hq));have HGO:=aA0 (aAp hf).2.1;have HGL:=aA0 hG;have HF:=aA0 (aUs (kind:=p.vars[q].kind) f1 x);have hdq:decide (q<p.vars.length)=true:=by simpa using hq
 obtain ⟨bV,oV,rfl,hbV,_,cV,_⟩:=hV.at_ q hq;have hbV':bV<((w.alloc (.cells #[.string p.name,.slice (some ⟨bV,oV,none⟩) p.vars.length k1,.slice A2 p.rules.length k2] 25)).alloc (.cells #[.slice A3 g.ids.length k3,.slice A4 g.ports.length k4] 29)).heap.size:=by simp;omega
 obtain ⟨lo,hlo⟩:∃ lo,(aAk p.vars[q] g i).1=lo:=⟨_,rfl⟩;obtain ⟨hi',hhi⟩:∃ hi',(aAk p.vars[q] g i).2=hi':=⟨_,rfl⟩;have HLO:=aA0 hlo;have HHI:=aA0 hhi;rw [hlo,hhi] at HF;clear hV hf hG f1 f2 hlo hhi
 by_cases hk:p.vars[q].kind=3
 .have hkb:(p.vars[q].kind==3)=true:=by simpa using hk
  by_cases hr:lo<=x/\x<=hi'
  .rw [if_neg (by intro h;exact h.2 hr)] at HF
   have hdr:inB x lo hi'=true:=aKu.2 hr;obtain ⟨m,hm,hm'⟩:=aJf x lo;obtain ⟨m2,hm2,hm2'⟩:=aMz m hi';have HFV:Hid (aFf p.vars[q].kind (aAk p.vars[q] g i) x=m2):=by show _=_;rw [HF.out];omega
   clear hm' hm2' hk hr;go_enter func117,ntmps117
   go_wp2_with (first
    | (go_at_call 91;refine (aJy _ p _ g i q _ (HPV.out _ (aA1 HW)) (HGV.out _ (aA1 HW)) hq HN.out HGO.out hi HGL.out).mono ?_;rintro e w' ⟨rfl,hb⟩;rw [HLO.out,HHI.out];replace HW:=HW.trans hb;have cV':=((aA1 HW).cell hbV).trans cV;clear hb;obtain ⟨p0,p1,p2,g0,g1,gsz⟩:=aAi HW)
    | (go_at_call 92;refine (aCk _ _ _ _).mono ?_;rintro e w' ⟨rfl,rfl⟩))
   go_ret;exact ⟨aA5 HFV.out.symm,aA1 HW⟩
  .rw [if_pos ⟨hk,hr⟩] at HF
   have hdr:inB x lo hi'=false:=aHz (by omega)
   clear hk hr;go_enter func117,ntmps117
   go_wp2_with (first
    | (go_at_call 91;refine (aJy _ p _ g i q _ (HPV.out _ (aA1 HW)) (HGV.out _ (aA1 HW)) hq HN.out HGO.out hi HGL.out).mono ?_;rintro e w' ⟨rfl,hb⟩;rw [HLO.out,HHI.out];replace HW:=HW.trans hb;have cV':=((aA1 HW).cell hbV).trans cV;clear hb;obtain ⟨p0,p1,p2,g0,g1,gsz⟩:=aAi HW)
    | (go_at_call 92;refine (aCk _ _ _ _).mono ?_;rintro e w' ⟨rfl,rfl⟩))
   go_ret;exact ⟨aA5 HF.out.symm,aA1 HW⟩
 .have hkb:(p.vars[q].kind==3)=false:=by simpa using hk
  rw [if_neg (fun h=>hk h.1)] at HF;obtain ⟨m,hm,hm'⟩:=aJf x lo;obtain ⟨m2,hm2,hm2'⟩:=aMz m hi';have HFV:Hid (aFf p.vars[q].kind (aAk p.vars[q] g i) x=m2):=by show _=_;rw [HF.out];omega
  clear hm' hm2' hk;go_enter func117,ntmps117
  go_wp2_with (first
   | (go_at_call 91;refine (aJy _ p _ g i q _ (HPV.out _ (aA1 HW)) (HGV.out _ (aA1 HW)) hq HN.out HGO.out hi HGL.out).mono ?_;rintro e w' ⟨rfl,hb⟩;rw [HLO.out,HHI.out];replace HW:=HW.trans hb;have cV':=((aA1 HW).cell hbV).trans cV;clear hb;obtain ⟨p0,p1,p2,g0,g1,gsz⟩:=aAi HW)
   | (go_at_call 92;refine (aCk _ _ _ _).mono ?_;rintro e w' ⟨rfl,rfl⟩))
  go_ret;exact ⟨aA5 HFV.out.symm,aA1 HW⟩
theorem aI7 (v1:Value) (p:Prg) (v2:Value) (g:Graph) (v3:Value) (c:aA7) (v:Nat) (w:World) (h:aEm w v1 p) (h2:aAn w v2 g) (h3:aAy w v3 c) (hs:SOK p g c v) (hL:aAw p=true) :
  Calls prog 116 #[v1,v2,v3,.int .i64 v] w fun e w'=>e = .returned (.int .i64 (aCb p.rules g c v))/\Bel w w':=by
 have hR:∃ A1 k1 A2 k2,v1 = .agg #[.string p.name,.slice A1 p.vars.length k1,.slice A2 p.rules.length k2]/\aFe w A2 p.rules.length p.rules:=by
  obtain ⟨A1,k1,A2,k2,e,_,_,_,hR,_,_⟩:=h;exact ⟨A1,k1,A2,k2,e,hR⟩
 obtain ⟨A1r,k1r,A2r,k2r,eR,hR⟩:=hR;have HPV:=aA0 (fun w' (k:Bel w w')=>h.keep k);have HGV:=aA0 (fun w' (k:Bel w w')=>h2.keep k);have HCV:=aA0 (fun w' (k:Bel w w')=>h3.keep k);obtain ⟨A1,k1,A2,k2,rfl,_,_,_,_,_,_⟩:=h;obtain ⟨A3,k3,A4,k4,rfl,_,_,_,_,_,_⟩:=h2;obtain ⟨A5,k5,rfl,_,_,_⟩:=h3;have HW:=Bel.refl ((w.alloc (.cells #[.string p.name,.slice A1 p.vars.length k1,.slice A2 p.rules.length k2] 25)).alloc (.cells #[.slice A3 g.ids.length k3,.slice A4 g.ports.length k4] 29));obtain ⟨⟨rfl,rfl⟩,rfl,rfl⟩:(A1=A1r/\k1=k1r)/\A2=A2r/\k2=k2r:=by simpa using eR
 have HR:=aA0 (fun w' (k:Bel w w')=>aFe.keep hR k);have HK:=aA0 hs;have HE:=aA0 (fun (i:Nat) (hi:i<p.rules.length)=>aR3 (aAp hs.fits).1 hL hi);have hr16:=(aB7 hL).2.2.1;have hcell:=aA0 (fun w' (kk:Bel ((w.alloc (.cells #[.string p.name,.slice A1 p.vars.length k1,.slice A2 p.rules.length k2] 25)).alloc (.cells #[.slice A3 g.ids.length k3,.slice A4 g.ports.length k4] 29)) w')=>aAi kk);clear hs hL hR eR;go_enter func116,ntmps116;go_wp2
 go_loopg [9] p.rules.length (fun m z wr=>∃ i:Nat,i<=p.rules.length/\m=p.rules.length-i/\z = .int .i64 i/\Hid ((p.rules.take i).all (fun r => !(aGb g c v r.guard))=true)/\Bel ((w.alloc (.cells #[.string p.name,.slice A1 p.vars.length k1,.slice A2 p.rules.length k2] 25)).alloc (.cells #[.slice A3 g.ids.length k3,.slice A4 g.ports.length k4] 29)) wr)
 case atStart=>exact ⟨0,by omega,rfl,rfl,rfl,HW⟩
 case round =>
  clear HW;obtain ⟨i,hi,rfl,rfl,HI,HW⟩:=hrel;obtain ⟨p0,p1,p2,g0,g1,gsz⟩:=aAi HW
  by_cases hlt:i<p.rules.length
  .have hd0:decide (i<p.rules.length)=true:=by simpa using hlt
   obtain ⟨bR,oR,G,gc,SS,sc,rfl,hbR,_,cg,_,hTG,_,_,_,_,_⟩:=(HR.out _ (Bel.refl w)).at_ i hlt;have HTG:=aA0 (fun w' (k:Bel w w')=>aB0.keep hTG k)
   have hcell2:=aA0 (fun w' (kk:Bel ((w.alloc (.cells #[.string p.name,.slice A1 p.vars.length k1,.slice (some ⟨bR,oR,none⟩) p.rules.length k2] 25)).alloc (.cells #[.slice A3 g.ids.length k3,.slice A4 g.ports.length k4] 29)) w')=>show w'.cell? ⟨w.heap.size,2,none⟩=some (.slice (some ⟨bR,oR,none⟩) p.rules.length k2)/\w'.cell? ⟨w.heap.size+1,0,none⟩=some (.slice A3 g.ids.length k3)/\w'.cell? ⟨w.heap.size+1,1,none⟩=some (.slice A4 g.ports.length k4)/\w'.cell? ⟨bR,oR+i*3+1,none⟩=some (.slice G p.rules[i].guard.length gc)/\w.heap.size+1<w'.heap.size/\bR<w'.heap.size from by
    obtain ⟨_,_,q2,q3,q4,q5⟩:=aAi kk;have hb:=aA1 kk
    exact ⟨q2,q3,q4,(hb.cell hbR).trans cg,q5,Nat.lt_of_lt_of_le hbR hb.size⟩)
   clear hTG cg;have hE:=HE.out i hlt;cases hq:aGb g c v p.rules[i].guard with
   | true =>
    have HF:=aA0 (aLa hlt HI.out hq);have HQ:Hid ((aAs g c v (-1) (aAt p.rules[i].guard) != 0)=true):=hq;have HEI:=aA0 hE;clear hq hE
    go_wp2_with fail
    replace HW:=HW.drew
    go_region_held3 (fun w'=>w'.cell? ⟨w.heap.size,2,none⟩=some (.slice (some ⟨bR,oR,none⟩) p.rules.length k2)/\w'.cell? ⟨w.heap.size+1,0,none⟩=some (.slice A3 g.ids.length k3)/\w'.cell? ⟨w.heap.size+1,1,none⟩=some (.slice A4 g.ports.length k4)/\w'.cell? ⟨bR,oR+i*3+1,none⟩=some (.slice G p.rules[i].guard.length gc)/\w.heap.size+1<w'.heap.size/\bR<w'.heap.size) (exact hcell2.out _ HW) (first
     | (go_simp;go_at_call 118;refine (aWi p g c v HK.out (aAt p.rules[i].guard) false (-1) _ _ _ _ p.rules[i].guard 0 _ (HGV.out _ (aA1 HW)) (HCV.out _ (aA1 HW)) (HTG.out _ (aA1 HW)) (At.whole HEI.out.ok HEI.out.terms) HEI.out.arg HEI.out.len HEI.out.bound aG7).mono ?_;rintro e w' ⟨rfl,hb⟩;replace HW:=HW.trans hb;clear hb))
    rw [HQ.out]
    go_wp2_with fail
    go_ret;exact ⟨aA5 HF.out.symm,aA1 HW⟩
   | false =>
    have HI2:=aA0 (aAb hlt HI.out (by rw [hq];rfl))
    have HQ:Hid ((aAs g c v (-1) (aAt p.rules[i].guard) != 0)=false):=hq;have HEI:=aA0 hE;clear hq hE
    go_wp2_with fail
    replace HW:=HW.drew
    go_region_held3 (fun w'=>w'.cell? ⟨w.heap.size,2,none⟩=some (.slice (some ⟨bR,oR,none⟩) p.rules.length k2)/\w'.cell? ⟨w.heap.size+1,0,none⟩=some (.slice A3 g.ids.length k3)/\w'.cell? ⟨w.heap.size+1,1,none⟩=some (.slice A4 g.ports.length k4)/\w'.cell? ⟨bR,oR+i*3+1,none⟩=some (.slice G p.rules[i].guard.length gc)/\w.heap.size+1<w'.heap.size/\bR<w'.heap.size) (exact hcell2.out _ HW) (first
     | (go_simp;go_at_call 118;refine (aWi p g c v HK.out (aAt p.rules[i].guard) false (-1) _ _ _ _ p.rules[i].guard 0 _ (HGV.out _ (aA1 HW)) (HCV.out _ (aA1 HW)) (HTG.out _ (aA1 HW)) (At.whole HEI.out.ok HEI.out.terms) HEI.out.arg HEI.out.len HEI.out.bound aG7).mono ?_;rintro e w' ⟨rfl,hb⟩;replace HW:=HW.trans hb;clear hb))
    rw [HQ.out]
    go_wp2_with fail
    go_roundg (p.rules.length-(i+1))
    case rel=>exact ⟨i+1,by omega,rfl,by go_num,HI2,HW⟩
    case measure=>omega
  .have hd0:decide (i<p.rules.length)=false:=by simpa using hlt
   have HF:Hid (aCb p.rules g c v = -1):=by
    refine aMt ?_
    have:=HI.out
    rwa [List.take_of_length_le (by omega)] at this
   go_wp2_with fail
   go_ret;exact ⟨aA5 HF.out.symm,aA1 HW⟩
theorem aNl (v1:Value) (p:Prg) (v2:Value) (g:Graph) (v3:Value) (c:aA7) (w:World) (h:aEm w v1 p) (h2:aAn w v2 g) (h3:aAy w v3 c) (hm:aCv p g c=0) (hL:aAw p=true) :
  Calls prog 93 #[v1,v2,v3] w fun e w'=>e = .returned (.int .u32 (aAj p g c:Nat))/\Bel w w':=by
 have HPV:=aA0 (fun w' (k:Bel w w')=>h.keep k);have HGV:=aA0 (fun w' (k:Bel w w')=>h2.keep k);have HCV:=aA0 (fun w' (k:Bel w w')=>h3.keep k);obtain ⟨A1,k1,A2,k2,rfl,_,_,_,_,_,_⟩:=h;obtain ⟨A3,k3,A4,k4,rfl,_,_,_,_,_,_⟩:=h2;obtain ⟨A5,k5,rfl,_,_,_⟩:=h3;have HW:=Bel.refl ((w.alloc (.cells #[.string p.name,.slice A1 p.vars.length k1,.slice A2 p.rules.length k2] 25)).alloc (.cells #[.slice A3 g.ids.length k3,.slice A4 g.ports.length k4] 29));have hle:c.length<=24:=by rw [aG0 hm];exact (aAp (aB8 hm).1).2.1.le
 have HK:=aA0 (fun v (hv:v<c.length)=>aN7 hm hv);have HL:=aA0 hL;have HE:Hid (aAj p g c=aFr c.length fun v=>decide (0<=aCb p.rules g c v)):=rfl;clear hm hL;go_enter func93,ntmps93;go_wp2
 go_loopg [7,8] c.length (fun m s z wr=>∃ v:Nat,v<=c.length/\m=c.length-v/\z = .int .i64 v/\s = .int .u32 (aFr v fun v=>decide (0<=aCb p.rules g c v):Nat)/\Bel ((w.alloc (.cells #[.string p.name,.slice A1 p.vars.length k1,.slice A2 p.rules.length k2] 25)).alloc (.cells #[.slice A3 g.ids.length k3,.slice A4 g.ports.length k4] 29)) wr)
 case atStart=>exact ⟨0,by omega,rfl,rfl,rfl,HW⟩
 case round =>
  clear HW;obtain ⟨v,hv,rfl,rfl,rfl,HW⟩:=hrel;obtain ⟨p0,p1,p2,g0,g1,gsz⟩:=aAi HW;have hsl:=aGq (fun v=>decide (0<=aCb p.rules g c v)) (show v<=32 by omega)
  by_cases hlt:v<c.length
  .have hd0:decide (v<c.length)=true:=by simpa using hlt
   cases hb:decide (0<=aCb p.rules g c v) with
   | true =>
    go_wp2_with (go_at_call 116;refine (aI7 _ p _ g _ c v _ (HPV.out _ (aA1 HW)) (HGV.out _ (aA1 HW)) (HCV.out _ (aA1 HW)) (HK.out v hlt) HL.out).mono ?_;rintro e w' ⟨rfl,hbb⟩;replace HW:=HW.trans hbb;clear hbb)
    go_roundg (c.length-(v+1))
    case rel=>exact ⟨v+1,by omega,rfl,by go_num,by rw [aFs,hb,if_pos rfl,aFz hsl (by omega)],HW⟩
    case measure=>omega
   | false =>
    go_wp2_with (go_at_call 116;refine (aI7 _ p _ g _ c v _ (HPV.out _ (aA1 HW)) (HGV.out _ (aA1 HW)) (HCV.out _ (aA1 HW)) (HK.out v hlt) HL.out).mono ?_;rintro e w' ⟨rfl,hbb⟩;replace HW:=HW.trans hbb;clear hbb)
    go_roundg (c.length-(v+1))
    case rel=>exact ⟨v+1,by omega,rfl,by go_num,by rw [aFs,hb];rfl,HW⟩
    case measure=>omega
  .have hd0:decide (v<c.length)=false:=by simpa using hlt
   obtain rfl:v=c.length:=by omega
   go_wp2_with fail
   go_ret;exact ⟨aA5 (by rw [HE.out]),aA1 HW⟩
theorem aJ4 (v1:Value) (p:Prg) (v2:Value) (g:Graph) (v3:Value) (c:aA7) (w:World) (h:aEm w v1 p) (h2:aAn w v2 g) (h3:aAy w v3 c) (hL:aAw p=true) (hG:aB3 g=true) (hC:aBl c=true) :
  Calls prog 65 #[v1,v2,v3] w fun e w'=>e = .returned (.int .u32 (aM4 p g c:Nat))/\Bel w w':=by
 have HPV:=aA0 (fun w' (k:Bel w w')=>h.keep k);have HGV:=aA0 (fun w' (k:Bel w w')=>h2.keep k);have HCV:=aA0 (fun w' (k:Bel w w')=>h3.keep k);obtain ⟨A1,k1,A2,k2,rfl,_,_,_,_,_,_⟩:=h;obtain ⟨A3,k3,A4,k4,rfl,_,_,_,_,_,_⟩:=h2;obtain ⟨A5,k5,rfl,_,_,_⟩:=h3;have HW:=Bel.refl ((w.alloc (.cells #[.string p.name,.slice A1 p.vars.length k1,.slice A2 p.rules.length k2] 25)).alloc (.cells #[.slice A3 g.ids.length k3,.slice A4 g.ports.length k4] 29));have HL:=aA0 hL;have HGL:=aA0 hG;have HCL:=aA0 hC;clear hL hG hC;have HF:Hid (aM4 p g c=if aCv p g c≠0 then 0 else aAj p g c):=rfl
 cases hm:decide (aCv p g c=0) with
 | false =>
  rw [if_pos (of_decide_eq_false hm)] at HF;go_enter func65,ntmps65
  go_wp2_with (go_at_call 42;refine (aI8 _ p _ g _ c _ (HPV.out _ (aA1 HW)) (HGV.out _ (aA1 HW)) (HCV.out _ (aA1 HW)) HL.out HGL.out HCL.out).mono ?_;rintro e w' ⟨rfl,hb⟩;rw [hm];replace HW:=HW.trans hb;clear hb;(try clear p0 p1 p2 g0 g1 gsz);obtain ⟨p0,p1,p2,g0,g1,gsz⟩:=aAi HW)
  go_ret;exact ⟨aA5 (by rw [HF.out];rfl),aA1 HW⟩
 | true =>
  have hm0:=of_decide_eq_true hm;rw [if_neg (by simpa using hm0)] at HF
  have HM:=aA0 hm0;clear hm0;go_enter func65,ntmps65
  go_wp2_with (first
   | (go_at_call 42;refine (aI8 _ p _ g _ c _ (HPV.out _ (aA1 HW)) (HGV.out _ (aA1 HW)) (HCV.out _ (aA1 HW)) HL.out HGL.out HCL.out).mono ?_;rintro e w' ⟨rfl,hb⟩;rw [hm];replace HW:=HW.trans hb;clear hb;(try clear p0 p1 p2 g0 g1 gsz);obtain ⟨p0,p1,p2,g0,g1,gsz⟩:=aAi HW)
   | (go_at_call 93;refine (aNl _ p _ g _ c _ (HPV.out _ (aA1 HW)) (HGV.out _ (aA1 HW)) (HCV.out _ (aA1 HW)) HM.out HL.out).mono ?_;rintro e w' ⟨rfl,hb⟩;replace HW:=HW.trans hb;clear hb;(try clear p0 p1 p2 g0 g1 gsz);obtain ⟨p0,p1,p2,g0,g1,gsz⟩:=aAi HW))
  go_ret;exact ⟨aA5 (by rw [HF.out]),aA1 HW⟩
end Go.Proofs.YtdcjnhoabbdanaaGreatDoor

