/- Merged. -/
import Derived.Test.YtdcjnhoabbdanaaGreatDoorZ45
set_option linter.unusedSimpArgs false
set_option linter.unnecessarySimpa false
set_option linter.unusedVariables false
set_option maxRecDepth 100000
set_option maxHeartbeats 8000000
open Go.Proofs.Tryz

namespace Go.Proofs.YtdcjnhoabbdanaaGreatDoor
open Go.RowKit
section
variable {p:Prg} {g:Graph} {k:Int} {c:aA6} {l m:List Nat}
theorem aZx (h:aH0 p g k c l m=0) (hl:aPa p g k c l m=false):aNa p g k c l m=false:=by
 obtain ⟨a,b,hr⟩:=aIw h;rw [aJq h hr] at hl;rw [aMj h hr];unfold aOn;rw [hl];rfl
theorem bAr (h:aH0 p g k c l m=0) (hl:aPa p g k c l m=true) (hl32:∀ S∈l,S<4294967296) (hm32:∀ S∈m,S<4294967296) (hln:l.length<=60) (hmn:m.length<=20):aH0 p g k c l (m++m)=0/\aPa p g k c l (m++m)=true:=by
 obtain ⟨a,b,hr⟩:=aIw h;have hk:=aKt h hl32 hm32 hr;rw [aJq h hr] at hl;have hab:=of_decide_eq_true hl;obtain ⟨b',h1,h2⟩:=aWf hk.2.2.2.2.2.2.1 hab.symm
 have hr2:aD0 p g k c l (m++m)=some (a,b'):=by
  unfold aD0;rw [hk.2.2.2.2.2.1];show (match aB1 p g k (aAe p g a.last) (m++m) with | none=>none | some b=>some (a,b))=_
  rw [h1]
 have he:aH0 p g k c l (m++m)=0:=by
  unfold aH0;have hb:aI0 p g k c ((l.length:Int)+((m++m).length:Int))=0:=aXd hk.1 hk.2.1 (by rw [List.length_append];omega)
  rw [if_neg (by simpa using hb),if_neg (by simp [hk.2.2.1]),if_neg (by rw [hr2];simp)]
 exact ⟨he,by rw [aJq he hr2];exact decide_eq_true h2.symm⟩
theorem bAq (h:aH0 p g 4 c l m=0) (hl:aPa p g 4 c l m=true) (hl32:∀ S∈l,S<4294967296) (hm32:∀ S∈m,S<4294967296):aNa p g 4 c l m=true:=by
 obtain ⟨a,b,hr⟩:=aIw h;have hk:=aKt h hl32 hm32 hr;rw [aJq h hr] at hl;rw [aMj h hr];unfold aOn;rw [hl,Bool.true_and];cases ht:aB1 p g 4 a m with
 | none =>
  have:=aPk.1 ht;rw [hk.2.2.2.2.2.2.1] at this;cases this
 | some t =>
  have h2:aB1 p g 4 (aAe p g c) (l++m)=some t:=by rw [aQr,hk.2.2.2.2.2.1];exact ht
  obtain ⟨a',b',hP⟩:=aL9 hk.1 hl32 hm32 h2;have he:=hP.round;rw [hr] at he;obtain ⟨rfl,rfl⟩:a=a'/\b=b':=by simpa using he
  exact aYz hP hk.2.2.1 _
end
theorem aOx (v1:Value) (p:Prg) (v2:Value) (g:Graph) (kind:Int) (v3:Value) (c:aA6) (Ap:Option Addr) (cp:Nat) (l:List Nat) (Al:Option Addr) (cl:Nat) (m:List Nat) (w:World) (h:aEi w v1 p) (h2:aAn w v2 g) (h3:aAw w v3 c) (hM:aAa w Ap l.length l) (hl32:∀ y∈l,y<4294967296) (hM2:aAa w Al m.length m) (hm32:∀ y∈m,y<4294967296) (hT:aCt w) :
  Calls prog 10 #[v1,v2,.int .i64 kind,v3,.slice Ap l.length cp,.slice Al m.length cl] w fun e w'=>e = .returned (.bool true)/\Bel w w':=by
 have HMK:=aA0 (fun w' (k:Bel w w')=>And.intro (aAa.keep hM k) (And.intro (aAa.keep hM2 k) (hT.keep k)));have H32:=aA0 hl32;have H322:=aA0 hm32;clear hM hM2 hl32 hm32 hT;have HPV:=aA0 (fun w' (k:Bel w w')=>h.keep k);have HGV:=aA0 (fun w' (k:Bel w w')=>h2.keep k);have HCV:=aA0 (fun w' (k:Bel w w')=>h3.keep k);obtain ⟨A1,k1,A2,k2,rfl,_,_,_,_,_,_⟩:=h;obtain ⟨A3,k3,A4,k4,rfl,_,_,_,_,_,_⟩:=h2;obtain ⟨A5,k5,rfl,_,_,_⟩:=h3;have HW:=Bel.refl ((w.alloc (.cells #[.string p.name,.slice A1 p.vars.length k1,.slice A2 p.rules.length k2] 25)).alloc (.cells #[.slice A3 g.ids.length k3,.slice A4 g.ports.length k4] 29));cases hs0:aOi p g c (l.length:Int) with
 | false =>
  have HS0:=aA0 hs0;clear hs0;go_enter func10,ntmps10
  go_wp2_with (first
   | (go_at_call 16;refine (aDf _ p _ g _ c _ _ (HPV.out _ (aA1 HW)) (HGV.out _ (aA1 HW)) (HCV.out _ (aA1 HW))).mono ?_;rintro e w' ⟨rfl,hb⟩;rw [HS0.out];replace HW:=HW.trans hb;clear hb;(try clear p0 p1 p2 g0 g1 gsz);obtain ⟨p0,p1,p2,g0,g1,gsz⟩:=aAd HW)
   | (go_at_call 12;refine (aC3 _ (HMK.out _ (aA1 HW)).2.2).mono ?_;rintro e w' ⟨rfl,hb⟩;replace HW:=HW.trans hb;clear hb;(try clear p0 p1 p2 g0 g1 gsz);obtain ⟨p0,p1,p2,g0,g1,gsz⟩:=aAd HW))
  go_ret;exact ⟨rfl,aA1 HW⟩
 | true =>
  obtain ⟨hL,hG,hC,hn,hm⟩:=aR3 hs0;have HS0:=aA0 hs0
  by_cases hz:m.length=0
  .have d0:((m.length:Int)==0)=true:=by simp [hz]
   have d0':(m.length==0)=true:=by simp [hz]
   clear hs0 hL hG hC hn hm hz;go_enter func10,ntmps10
   go_wp2_with (first
    | (go_at_call 16;refine (aDf _ p _ g _ c _ _ (HPV.out _ (aA1 HW)) (HGV.out _ (aA1 HW)) (HCV.out _ (aA1 HW))).mono ?_;rintro e w' ⟨rfl,hb⟩;rw [HS0.out];replace HW:=HW.trans hb;clear hb;(try clear p0 p1 p2 g0 g1 gsz);obtain ⟨p0,p1,p2,g0,g1,gsz⟩:=aAd HW)
    | (go_at_call 12;refine (aC3 _ (HMK.out _ (aA1 HW)).2.2).mono ?_;rintro e w' ⟨rfl,hb⟩;replace HW:=HW.trans hb;clear hb;(try clear p0 p1 p2 g0 g1 gsz);obtain ⟨p0,p1,p2,g0,g1,gsz⟩:=aAd HW))
   go_ret;exact ⟨rfl,aA1 HW⟩
  .have d0:((m.length:Int)==0)=false:=beq_eq_false_iff_ne.2 (by omega)
   have d0':(m.length==0)=false:=by simpa using hz
   by_cases h20:m.length<=20
   .have d1:decide (20<m.length)=false:=by simp;omega
    have d1I:decide ((20:Int)<(m.length:Int))=false:=by simp;omega
    have hln:l.length<=60:=by omega
    have hmn:m.length<=60:=by omega
    obtain ⟨mk,hmk⟩:∃ mk,modF kind 4=mk:=⟨_,rfl⟩;have rk:0<=mk/\mk<4:=by rw [<- hmk];exact ⟨Int.emod_nonneg kind (by omega),Int.emod_lt_of_pos kind (by omega)⟩
    have HMKK:=aA0 hmk;have HL:=aA0 hL;have HGL:=aA0 hG;have HCL:=aA0 hC;obtain ⟨mm,hmm⟩:∃ mm,mm=m++m:=⟨_,rfl⟩;have HMME:=aA0 hmm;have HMML:Hid (mm.length=m.length+m.length):=by rw [hmm];exact List.length_append
    have HM32:Hid (∀ y∈mm,y<4294967296):=by rw [hmm];exact fun y hy=>(List.mem_append.1 hy).elim (H322.out y) (H322.out y)
    obtain ⟨i0,hi0,hz0,hz1,hz2⟩:=info_parts aIz;obtain ⟨la,hla⟩:∃ la,aPa p g (1+mk) c l m=la:=⟨_,rfl⟩;obtain ⟨fa,hfa⟩:∃ fa,aNa p g (1+mk) c l m=fa:=⟨_,rfl⟩;obtain ⟨er,her⟩:∃ er,aH0 p g (1+mk) c l m=er:=⟨_,rfl⟩;have HLA:=aA0 hla;have HFA:=aA0 hfa;have HER:=aA0 her;obtain ⟨la9,hla9⟩:∃ la,aPa p g (1+mk) c l mm=la:=⟨_,rfl⟩;obtain ⟨er9,her9⟩:∃ er,aH0 p g (1+mk) c l mm=er:=⟨_,rfl⟩;have HLA9:=aA0 hla9;have HER9:=aA0 her9
    by_cases h0:er=0
    .have hTW:la=true->er9=0/\la9=true:=fun h=>by
      have:=bAr (her.trans h0) (hla.trans h) H32.out H322.out hln h20;rw [<- hmm] at this;exact ⟨her9.symm.trans this.1,hla9.symm.trans this.2⟩
     have hFL:la=false->fa=false:=fun h=>hfa.symm.trans (aZx (her.trans h0) (hla.trans h))
     have hSY:mk=3->la=true->fa=true:=fun h3 h=>by
      subst h3;exact hfa.symm.trans (bAq (her.trans h0) (hla.trans h) H32.out H322.out)
     subst h0;clear hs0 hL hG hC hn hm hz hmk hmm hla hfa her hla9 her9;cases la with
     | false =>
      obtain rfl:=hFL rfl;clear hTW hFL hSY;go_enter func10,ntmps10
      go_upto_region 11 with (first
       | (go_at_call 16;refine (aDf _ p _ g _ c _ _ (HPV.out _ (aA1 HW)) (HGV.out _ (aA1 HW)) (HCV.out _ (aA1 HW))).mono ?_;rintro e w' ⟨rfl,hb⟩;rw [HS0.out];replace HW:=HW.trans hb;clear hb;(try clear p0 p1 p2 g0 g1 gsz);obtain ⟨p0,p1,p2,g0,g1,gsz⟩:=aAd HW)
       | (go_at_call 17;refine (aNt _ _ _ (by omega) (by omega)).mono ?_;rintro e w' ⟨rfl,rfl⟩;rw [HMKK.out])
       | (go_at_call 26;refine (aBz _ p _ g _ c (1+mk) Ap cp l Al cl m _ (HPV.out _ (aA1 HW)) (HGV.out _ (aA1 HW)) (HCV.out _ (aA1 HW)) HL.out HGL.out HCL.out (HMK.out _ (aA1 HW)).1 (HMK.out _ (aA1 HW)).2.1 (HMK.out _ (aA1 HW)).2.2 H32.out H322.out hln hmn).mono ?_;rintro e w2 ⟨rfl,hb⟩;rw [HLA.out,HER.out];replace HW:=HW.trans hb;clear hb;(try clear p0 p1 p2 g0 g1 gsz);obtain ⟨p0,p1,p2,g0,g1,gsz⟩:=aAd HW)
       | (go_at_call 28;refine (aEs _ p _ g _ c (1+mk) Ap cp l Al cl m _ (HPV.out _ (aA1 HW)) (HGV.out _ (aA1 HW)) (HCV.out _ (aA1 HW)) HL.out HGL.out HCL.out (HMK.out _ (aA1 HW)).1 (HMK.out _ (aA1 HW)).2.1 (HMK.out _ (aA1 HW)).2.2 H32.out H322.out hln hmn).mono ?_;rintro e w2 ⟨rfl,hb⟩;rw [HFA.out,HER.out];replace HW:=HW.trans hb;clear hb;(try clear p0 p1 p2 g0 g1 gsz);obtain ⟨p0,p1,p2,g0,g1,gsz⟩:=aAd HW))
      go_upto_region 12 with (first | (at_builtin;(refine aB4 _ rfl (.const (.slice none 0 0)) (.tmp 114) 31 rfl _ 34 i0 (.int .u32 0) 1 4 underlying31 hi0 hz0 hz1 hz2 rfl (by decide) none 0 0 [] rfl (World.ownsRow_nil _ _ _ _) Al m.length cl (m.map aB0) rfl (aAm (HMK.out _ (aA1 HW)).2.1) (aAg _) (by unfold maxLen;omega) (by omega) (Nat.le_refl _) ?_);intro A8 c8 w8 hown8 hgr8 _;rw [List.nil_append,Nat.zero_add] at hown8;have hwo:=HW.size;have hsz8:=hgr8.size;have hb:=(Bel.refl _).grown hgr8 (fun k hk=>by cases hk);have HO8:=aA0 hown8;have HWO:=aA0 hwo;have HSZ8:=aA0 hsz8;clear hown8 hgr8 hwo hsz8;replace HW:=HW.trans hb;clear hb;(try clear p0 p1 p2 g0 g1 gsz);obtain ⟨p0,p1,p2,g0,g1,gsz⟩:=aAd HW) | (at_builtin;(refine aB4 _ rfl (.tmp 115) (.tmp 116) 31 rfl _ 34 i0 (.int .u32 0) 1 4 underlying31 hi0 hz0 hz1 hz2 rfl (by decide) A8 m.length c8 (m.map aB0) rfl HO8.out Al m.length cl (m.map aB0) rfl (aAm (HMK.out _ (aA1 HW)).2.1) (aAg _) (by unfold maxLen;omega) (by omega) HSZ8.out ?_);intro A9 c9 w9 hown9 hgr9 _;replace HW:=HW.grown hgr9 (fun k hk=>by have:=(aAf HO8.out k hk.symm).1;have:=HWO.out;omega);have HMM9:Hid (aAa w9 A9 mm.length mm):=aDt (by rw [HMML.out,HMME.out,List.map_append];exact hown9);clear hown9 hgr9;(try clear p0 p1 p2 g0 g1 gsz);obtain ⟨p0,p1,p2,g0,g1,gsz⟩:=aAd HW))
      go_wp2_with (first
       | (go_at_call 26;have hc:=aBz _ p _ g _ c (1+mk) Ap cp l A9 c9 mm _ (HPV.out _ (aA1 HW)) (HGV.out _ (aA1 HW)) (HCV.out _ (aA1 HW)) HL.out HGL.out HCL.out (HMK.out _ (aA1 HW)).1 HMM9.out (HMK.out _ (aA1 HW)).2.2 H32.out HM32.out hln (by rw [HMML.out];omega);rw [HMML.out,HLA9.out,HER9.out] at hc;refine hc.mono ?_;clear hc;rintro e w5 ⟨rfl,hb⟩;replace HW:=HW.trans hb;clear hb;(try clear p0 p1 p2 g0 g1 gsz);obtain ⟨p0,p1,p2,g0,g1,gsz⟩:=aAd HW)
       | (go_at_call 12;refine (aC3 _ (HMK.out _ (aA1 HW)).2.2).mono ?_;rintro e w' ⟨rfl,hb⟩;replace HW:=HW.trans hb;clear hb;(try clear p0 p1 p2 g0 g1 gsz);obtain ⟨p0,p1,p2,g0,g1,gsz⟩:=aAd HW))
      go_ret;exact ⟨rfl,aA1 HW⟩
     | true =>
      obtain ⟨rfl,rfl⟩:=hTW rfl
      by_cases h3:mk=3
      .obtain rfl:=hSY h3 rfl
       have e3:((1:Int)+mk==4)=true:=by subst h3;rfl
       clear hTW hFL hSY h3;go_enter func10,ntmps10
       go_upto_region 11 with (first
        | (go_at_call 16;refine (aDf _ p _ g _ c _ _ (HPV.out _ (aA1 HW)) (HGV.out _ (aA1 HW)) (HCV.out _ (aA1 HW))).mono ?_;rintro e w' ⟨rfl,hb⟩;rw [HS0.out];replace HW:=HW.trans hb;clear hb;(try clear p0 p1 p2 g0 g1 gsz);obtain ⟨p0,p1,p2,g0,g1,gsz⟩:=aAd HW)
        | (go_at_call 17;refine (aNt _ _ _ (by omega) (by omega)).mono ?_;rintro e w' ⟨rfl,rfl⟩;rw [HMKK.out])
        | (go_at_call 26;refine (aBz _ p _ g _ c (1+mk) Ap cp l Al cl m _ (HPV.out _ (aA1 HW)) (HGV.out _ (aA1 HW)) (HCV.out _ (aA1 HW)) HL.out HGL.out HCL.out (HMK.out _ (aA1 HW)).1 (HMK.out _ (aA1 HW)).2.1 (HMK.out _ (aA1 HW)).2.2 H32.out H322.out hln hmn).mono ?_;rintro e w2 ⟨rfl,hb⟩;rw [HLA.out,HER.out];replace HW:=HW.trans hb;clear hb;(try clear p0 p1 p2 g0 g1 gsz);obtain ⟨p0,p1,p2,g0,g1,gsz⟩:=aAd HW)
        | (go_at_call 28;refine (aEs _ p _ g _ c (1+mk) Ap cp l Al cl m _ (HPV.out _ (aA1 HW)) (HGV.out _ (aA1 HW)) (HCV.out _ (aA1 HW)) HL.out HGL.out HCL.out (HMK.out _ (aA1 HW)).1 (HMK.out _ (aA1 HW)).2.1 (HMK.out _ (aA1 HW)).2.2 H32.out H322.out hln hmn).mono ?_;rintro e w2 ⟨rfl,hb⟩;rw [HFA.out,HER.out];replace HW:=HW.trans hb;clear hb;(try clear p0 p1 p2 g0 g1 gsz);obtain ⟨p0,p1,p2,g0,g1,gsz⟩:=aAd HW))
       go_upto_region 12 with (first | (at_builtin;(refine aB4 _ rfl (.const (.slice none 0 0)) (.tmp 114) 31 rfl _ 34 i0 (.int .u32 0) 1 4 underlying31 hi0 hz0 hz1 hz2 rfl (by decide) none 0 0 [] rfl (World.ownsRow_nil _ _ _ _) Al m.length cl (m.map aB0) rfl (aAm (HMK.out _ (aA1 HW)).2.1) (aAg _) (by unfold maxLen;omega) (by omega) (Nat.le_refl _) ?_);intro A8 c8 w8 hown8 hgr8 _;rw [List.nil_append,Nat.zero_add] at hown8;have hwo:=HW.size;have hsz8:=hgr8.size;have hb:=(Bel.refl _).grown hgr8 (fun k hk=>by cases hk);have HO8:=aA0 hown8;have HWO:=aA0 hwo;have HSZ8:=aA0 hsz8;clear hown8 hgr8 hwo hsz8;replace HW:=HW.trans hb;clear hb;(try clear p0 p1 p2 g0 g1 gsz);obtain ⟨p0,p1,p2,g0,g1,gsz⟩:=aAd HW) | (at_builtin;(refine aB4 _ rfl (.tmp 115) (.tmp 116) 31 rfl _ 34 i0 (.int .u32 0) 1 4 underlying31 hi0 hz0 hz1 hz2 rfl (by decide) A8 m.length c8 (m.map aB0) rfl HO8.out Al m.length cl (m.map aB0) rfl (aAm (HMK.out _ (aA1 HW)).2.1) (aAg _) (by unfold maxLen;omega) (by omega) HSZ8.out ?_);intro A9 c9 w9 hown9 hgr9 _;replace HW:=HW.grown hgr9 (fun k hk=>by have:=(aAf HO8.out k hk.symm).1;have:=HWO.out;omega);have HMM9:Hid (aAa w9 A9 mm.length mm):=aDt (by rw [HMML.out,HMME.out,List.map_append];exact hown9);clear hown9 hgr9;(try clear p0 p1 p2 g0 g1 gsz);obtain ⟨p0,p1,p2,g0,g1,gsz⟩:=aAd HW))
       go_wp2_with (first
        | (go_at_call 26;have hc:=aBz _ p _ g _ c (1+mk) Ap cp l A9 c9 mm _ (HPV.out _ (aA1 HW)) (HGV.out _ (aA1 HW)) (HCV.out _ (aA1 HW)) HL.out HGL.out HCL.out (HMK.out _ (aA1 HW)).1 HMM9.out (HMK.out _ (aA1 HW)).2.2 H32.out HM32.out hln (by rw [HMML.out];omega);rw [HMML.out,HLA9.out,HER9.out] at hc;refine hc.mono ?_;clear hc;rintro e w5 ⟨rfl,hb⟩;replace HW:=HW.trans hb;clear hb;(try clear p0 p1 p2 g0 g1 gsz);obtain ⟨p0,p1,p2,g0,g1,gsz⟩:=aAd HW)
        | (go_at_call 12;refine (aC3 _ (HMK.out _ (aA1 HW)).2.2).mono ?_;rintro e w' ⟨rfl,hb⟩;replace HW:=HW.trans hb;clear hb;(try clear p0 p1 p2 g0 g1 gsz);obtain ⟨p0,p1,p2,g0,g1,gsz⟩:=aAd HW))
       go_ret;exact ⟨rfl,aA1 HW⟩
      .have e3:((1:Int)+mk==4)=false:=by simp;omega
       clear hTW hFL hSY h3;cases fa with
       | true =>
        go_enter func10,ntmps10
        go_upto_region 11 with (first
         | (go_at_call 16;refine (aDf _ p _ g _ c _ _ (HPV.out _ (aA1 HW)) (HGV.out _ (aA1 HW)) (HCV.out _ (aA1 HW))).mono ?_;rintro e w' ⟨rfl,hb⟩;rw [HS0.out];replace HW:=HW.trans hb;clear hb;(try clear p0 p1 p2 g0 g1 gsz);obtain ⟨p0,p1,p2,g0,g1,gsz⟩:=aAd HW)
         | (go_at_call 17;refine (aNt _ _ _ (by omega) (by omega)).mono ?_;rintro e w' ⟨rfl,rfl⟩;rw [HMKK.out])
         | (go_at_call 26;refine (aBz _ p _ g _ c (1+mk) Ap cp l Al cl m _ (HPV.out _ (aA1 HW)) (HGV.out _ (aA1 HW)) (HCV.out _ (aA1 HW)) HL.out HGL.out HCL.out (HMK.out _ (aA1 HW)).1 (HMK.out _ (aA1 HW)).2.1 (HMK.out _ (aA1 HW)).2.2 H32.out H322.out hln hmn).mono ?_;rintro e w2 ⟨rfl,hb⟩;rw [HLA.out,HER.out];replace HW:=HW.trans hb;clear hb;(try clear p0 p1 p2 g0 g1 gsz);obtain ⟨p0,p1,p2,g0,g1,gsz⟩:=aAd HW)
         | (go_at_call 28;refine (aEs _ p _ g _ c (1+mk) Ap cp l Al cl m _ (HPV.out _ (aA1 HW)) (HGV.out _ (aA1 HW)) (HCV.out _ (aA1 HW)) HL.out HGL.out HCL.out (HMK.out _ (aA1 HW)).1 (HMK.out _ (aA1 HW)).2.1 (HMK.out _ (aA1 HW)).2.2 H32.out H322.out hln hmn).mono ?_;rintro e w2 ⟨rfl,hb⟩;rw [HFA.out,HER.out];replace HW:=HW.trans hb;clear hb;(try clear p0 p1 p2 g0 g1 gsz);obtain ⟨p0,p1,p2,g0,g1,gsz⟩:=aAd HW))
        go_upto_region 12 with (first | (at_builtin;(refine aB4 _ rfl (.const (.slice none 0 0)) (.tmp 114) 31 rfl _ 34 i0 (.int .u32 0) 1 4 underlying31 hi0 hz0 hz1 hz2 rfl (by decide) none 0 0 [] rfl (World.ownsRow_nil _ _ _ _) Al m.length cl (m.map aB0) rfl (aAm (HMK.out _ (aA1 HW)).2.1) (aAg _) (by unfold maxLen;omega) (by omega) (Nat.le_refl _) ?_);intro A8 c8 w8 hown8 hgr8 _;rw [List.nil_append,Nat.zero_add] at hown8;have hwo:=HW.size;have hsz8:=hgr8.size;have hb:=(Bel.refl _).grown hgr8 (fun k hk=>by cases hk);have HO8:=aA0 hown8;have HWO:=aA0 hwo;have HSZ8:=aA0 hsz8;clear hown8 hgr8 hwo hsz8;replace HW:=HW.trans hb;clear hb;(try clear p0 p1 p2 g0 g1 gsz);obtain ⟨p0,p1,p2,g0,g1,gsz⟩:=aAd HW) | (at_builtin;(refine aB4 _ rfl (.tmp 115) (.tmp 116) 31 rfl _ 34 i0 (.int .u32 0) 1 4 underlying31 hi0 hz0 hz1 hz2 rfl (by decide) A8 m.length c8 (m.map aB0) rfl HO8.out Al m.length cl (m.map aB0) rfl (aAm (HMK.out _ (aA1 HW)).2.1) (aAg _) (by unfold maxLen;omega) (by omega) HSZ8.out ?_);intro A9 c9 w9 hown9 hgr9 _;replace HW:=HW.grown hgr9 (fun k hk=>by have:=(aAf HO8.out k hk.symm).1;have:=HWO.out;omega);have HMM9:Hid (aAa w9 A9 mm.length mm):=aDt (by rw [HMML.out,HMME.out,List.map_append];exact hown9);clear hown9 hgr9;(try clear p0 p1 p2 g0 g1 gsz);obtain ⟨p0,p1,p2,g0,g1,gsz⟩:=aAd HW))
        go_wp2_with (first
         | (go_at_call 26;have hc:=aBz _ p _ g _ c (1+mk) Ap cp l A9 c9 mm _ (HPV.out _ (aA1 HW)) (HGV.out _ (aA1 HW)) (HCV.out _ (aA1 HW)) HL.out HGL.out HCL.out (HMK.out _ (aA1 HW)).1 HMM9.out (HMK.out _ (aA1 HW)).2.2 H32.out HM32.out hln (by rw [HMML.out];omega);rw [HMML.out,HLA9.out,HER9.out] at hc;refine hc.mono ?_;clear hc;rintro e w5 ⟨rfl,hb⟩;replace HW:=HW.trans hb;clear hb;(try clear p0 p1 p2 g0 g1 gsz);obtain ⟨p0,p1,p2,g0,g1,gsz⟩:=aAd HW)
         | (go_at_call 12;refine (aC3 _ (HMK.out _ (aA1 HW)).2.2).mono ?_;rintro e w' ⟨rfl,hb⟩;replace HW:=HW.trans hb;clear hb;(try clear p0 p1 p2 g0 g1 gsz);obtain ⟨p0,p1,p2,g0,g1,gsz⟩:=aAd HW))
        go_ret;exact ⟨rfl,aA1 HW⟩
       | false =>
        go_enter func10,ntmps10
        go_upto_region 11 with (first
         | (go_at_call 16;refine (aDf _ p _ g _ c _ _ (HPV.out _ (aA1 HW)) (HGV.out _ (aA1 HW)) (HCV.out _ (aA1 HW))).mono ?_;rintro e w' ⟨rfl,hb⟩;rw [HS0.out];replace HW:=HW.trans hb;clear hb;(try clear p0 p1 p2 g0 g1 gsz);obtain ⟨p0,p1,p2,g0,g1,gsz⟩:=aAd HW)
         | (go_at_call 17;refine (aNt _ _ _ (by omega) (by omega)).mono ?_;rintro e w' ⟨rfl,rfl⟩;rw [HMKK.out])
         | (go_at_call 26;refine (aBz _ p _ g _ c (1+mk) Ap cp l Al cl m _ (HPV.out _ (aA1 HW)) (HGV.out _ (aA1 HW)) (HCV.out _ (aA1 HW)) HL.out HGL.out HCL.out (HMK.out _ (aA1 HW)).1 (HMK.out _ (aA1 HW)).2.1 (HMK.out _ (aA1 HW)).2.2 H32.out H322.out hln hmn).mono ?_;rintro e w2 ⟨rfl,hb⟩;rw [HLA.out,HER.out];replace HW:=HW.trans hb;clear hb;(try clear p0 p1 p2 g0 g1 gsz);obtain ⟨p0,p1,p2,g0,g1,gsz⟩:=aAd HW)
         | (go_at_call 28;refine (aEs _ p _ g _ c (1+mk) Ap cp l Al cl m _ (HPV.out _ (aA1 HW)) (HGV.out _ (aA1 HW)) (HCV.out _ (aA1 HW)) HL.out HGL.out HCL.out (HMK.out _ (aA1 HW)).1 (HMK.out _ (aA1 HW)).2.1 (HMK.out _ (aA1 HW)).2.2 H32.out H322.out hln hmn).mono ?_;rintro e w2 ⟨rfl,hb⟩;rw [HFA.out,HER.out];replace HW:=HW.trans hb;clear hb;(try clear p0 p1 p2 g0 g1 gsz);obtain ⟨p0,p1,p2,g0,g1,gsz⟩:=aAd HW))
        go_upto_region 12 with (first | (at_builtin;(refine aB4 _ rfl (.const (.slice none 0 0)) (.tmp 114) 31 rfl _ 34 i0 (.int .u32 0) 1 4 underlying31 hi0 hz0 hz1 hz2 rfl (by decide) none 0 0 [] rfl (World.ownsRow_nil _ _ _ _) Al m.length cl (m.map aB0) rfl (aAm (HMK.out _ (aA1 HW)).2.1) (aAg _) (by unfold maxLen;omega) (by omega) (Nat.le_refl _) ?_);intro A8 c8 w8 hown8 hgr8 _;rw [List.nil_append,Nat.zero_add] at hown8;have hwo:=HW.size;have hsz8:=hgr8.size;have hb:=(Bel.refl _).grown hgr8 (fun k hk=>by cases hk);have HO8:=aA0 hown8;have HWO:=aA0 hwo;have HSZ8:=aA0 hsz8;clear hown8 hgr8 hwo hsz8;replace HW:=HW.trans hb;clear hb;(try clear p0 p1 p2 g0 g1 gsz);obtain ⟨p0,p1,p2,g0,g1,gsz⟩:=aAd HW) | (at_builtin;(refine aB4 _ rfl (.tmp 115) (.tmp 116) 31 rfl _ 34 i0 (.int .u32 0) 1 4 underlying31 hi0 hz0 hz1 hz2 rfl (by decide) A8 m.length c8 (m.map aB0) rfl HO8.out Al m.length cl (m.map aB0) rfl (aAm (HMK.out _ (aA1 HW)).2.1) (aAg _) (by unfold maxLen;omega) (by omega) HSZ8.out ?_);intro A9 c9 w9 hown9 hgr9 _;replace HW:=HW.grown hgr9 (fun k hk=>by have:=(aAf HO8.out k hk.symm).1;have:=HWO.out;omega);have HMM9:Hid (aAa w9 A9 mm.length mm):=aDt (by rw [HMML.out,HMME.out,List.map_append];exact hown9);clear hown9 hgr9;(try clear p0 p1 p2 g0 g1 gsz);obtain ⟨p0,p1,p2,g0,g1,gsz⟩:=aAd HW))
        go_wp2_with (first
         | (go_at_call 26;have hc:=aBz _ p _ g _ c (1+mk) Ap cp l A9 c9 mm _ (HPV.out _ (aA1 HW)) (HGV.out _ (aA1 HW)) (HCV.out _ (aA1 HW)) HL.out HGL.out HCL.out (HMK.out _ (aA1 HW)).1 HMM9.out (HMK.out _ (aA1 HW)).2.2 H32.out HM32.out hln (by rw [HMML.out];omega);rw [HMML.out,HLA9.out,HER9.out] at hc;refine hc.mono ?_;clear hc;rintro e w5 ⟨rfl,hb⟩;replace HW:=HW.trans hb;clear hb;(try clear p0 p1 p2 g0 g1 gsz);obtain ⟨p0,p1,p2,g0,g1,gsz⟩:=aAd HW)
         | (go_at_call 12;refine (aC3 _ (HMK.out _ (aA1 HW)).2.2).mono ?_;rintro e w' ⟨rfl,hb⟩;replace HW:=HW.trans hb;clear hb;(try clear p0 p1 p2 g0 g1 gsz);obtain ⟨p0,p1,p2,g0,g1,gsz⟩:=aAd HW))
        go_ret;exact ⟨rfl,aA1 HW⟩
    .have q1:(er != 0)=true:=by simpa using h0
     have q3:(er==er)=true:=by simp
     have hla2:la=false:=hla.symm.trans (aNm (fun e=>h0 (her.symm.trans e)));have hfa2:fa=false:=hfa.symm.trans (aQ8 (fun e=>h0 (her.symm.trans e)));subst hla2;subst hfa2;clear hs0 hL hG hC hn hm hz hmk hmm hla hfa her hla9 her9 h0;go_enter func10,ntmps10
     go_wp2_with (first
      | (go_at_call 16;refine (aDf _ p _ g _ c _ _ (HPV.out _ (aA1 HW)) (HGV.out _ (aA1 HW)) (HCV.out _ (aA1 HW))).mono ?_;rintro e w' ⟨rfl,hb⟩;rw [HS0.out];replace HW:=HW.trans hb;clear hb;(try clear p0 p1 p2 g0 g1 gsz);obtain ⟨p0,p1,p2,g0,g1,gsz⟩:=aAd HW)
      | (go_at_call 17;refine (aNt _ _ _ (by omega) (by omega)).mono ?_;rintro e w' ⟨rfl,rfl⟩;rw [HMKK.out])
      | (go_at_call 26;refine (aBz _ p _ g _ c (1+mk) Ap cp l Al cl m _ (HPV.out _ (aA1 HW)) (HGV.out _ (aA1 HW)) (HCV.out _ (aA1 HW)) HL.out HGL.out HCL.out (HMK.out _ (aA1 HW)).1 (HMK.out _ (aA1 HW)).2.1 (HMK.out _ (aA1 HW)).2.2 H32.out H322.out hln hmn).mono ?_;rintro e w2 ⟨rfl,hb⟩;rw [HLA.out,HER.out];replace HW:=HW.trans hb;clear hb;(try clear p0 p1 p2 g0 g1 gsz);obtain ⟨p0,p1,p2,g0,g1,gsz⟩:=aAd HW)
      | (go_at_call 27;refine (aM1 _ p _ g _ c (1+mk) Ap cp l Al cl m _ (HPV.out _ (aA1 HW)) (HGV.out _ (aA1 HW)) (HCV.out _ (aA1 HW)) HL.out HGL.out HCL.out (HMK.out _ (aA1 HW)).1 (HMK.out _ (aA1 HW)).2.1 H32.out H322.out hln hmn).mono ?_;rintro e w2 ⟨rfl,hb⟩;rw [HLA.out,HER.out];replace HW:=HW.trans hb;clear hb;(try clear p0 p1 p2 g0 g1 gsz);obtain ⟨p0,p1,p2,g0,g1,gsz⟩:=aAd HW)
      | (go_at_call 28;refine (aEs _ p _ g _ c (1+mk) Ap cp l Al cl m _ (HPV.out _ (aA1 HW)) (HGV.out _ (aA1 HW)) (HCV.out _ (aA1 HW)) HL.out HGL.out HCL.out (HMK.out _ (aA1 HW)).1 (HMK.out _ (aA1 HW)).2.1 (HMK.out _ (aA1 HW)).2.2 H32.out H322.out hln hmn).mono ?_;rintro e w2 ⟨rfl,hb⟩;rw [HFA.out,HER.out];replace HW:=HW.trans hb;clear hb;(try clear p0 p1 p2 g0 g1 gsz);obtain ⟨p0,p1,p2,g0,g1,gsz⟩:=aAd HW)
      | (go_at_call 12;refine (aC3 _ (HMK.out _ (aA1 HW)).2.2).mono ?_;rintro e w' ⟨rfl,hb⟩;replace HW:=HW.trans hb;clear hb;(try clear p0 p1 p2 g0 g1 gsz);obtain ⟨p0,p1,p2,g0,g1,gsz⟩:=aAd HW))
     go_ret;exact ⟨by simp,aA1 HW⟩
   .have d1:decide (20<m.length)=true:=by simp;omega
    have d1I:decide ((20:Int)<(m.length:Int))=true:=by simp;omega
    clear hs0 hL hG hC hn hm hz h20;go_enter func10,ntmps10
    go_wp2_with (first
     | (go_at_call 16;refine (aDf _ p _ g _ c _ _ (HPV.out _ (aA1 HW)) (HGV.out _ (aA1 HW)) (HCV.out _ (aA1 HW))).mono ?_;rintro e w' ⟨rfl,hb⟩;rw [HS0.out];replace HW:=HW.trans hb;clear hb;(try clear p0 p1 p2 g0 g1 gsz);obtain ⟨p0,p1,p2,g0,g1,gsz⟩:=aAd HW)
     | (go_at_call 12;refine (aC3 _ (HMK.out _ (aA1 HW)).2.2).mono ?_;rintro e w' ⟨rfl,hb⟩;replace HW:=HW.trans hb;clear hb;(try clear p0 p1 p2 g0 g1 gsz);obtain ⟨p0,p1,p2,g0,g1,gsz⟩:=aAd HW))
    go_ret;exact ⟨rfl,aA1 HW⟩
end Go.Proofs.YtdcjnhoabbdanaaGreatDoor

