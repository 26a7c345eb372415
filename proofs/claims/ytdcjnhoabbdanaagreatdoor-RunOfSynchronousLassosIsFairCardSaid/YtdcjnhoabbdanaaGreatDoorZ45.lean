/- Merged. -/
import Derived.Test.YtdcjnhoabbdanaaGreatDoorZ44
set_option linter.unusedSimpArgs false
set_option linter.unnecessarySimpa false
set_option linter.unusedVariables false
set_option maxRecDepth 100000
set_option maxHeartbeats 4000000
open Go.Proofs.Tryz

namespace Go.Proofs.YtdcjnhoabbdanaaGreatDoor
open Go.RowKit
theorem aIw {p:Prg} {g:Graph} {kind:Int} {c:aA6} {l m:List Nat} (h:aH0 p g kind c l m=0):∃ a b,aD0 p g kind c l m=some (a,b):=by
 unfold aH0 at h;split at h
 .rename_i h1;exact absurd h h1
 .split at h
  .cases h
  .split at h
   .cases h
   .rename_i h3
    cases hr:aD0 p g kind c l m with
    | none=>exact absurd hr h3
    | some x=>exact ⟨x.1,x.2,rfl⟩
theorem aBz (v1:Value) (p:Prg) (v2:Value) (g:Graph) (v3:Value) (c:aA6) (kind:Int) (Ap:Option Addr) (cp:Nat) (l:List Nat) (Al:Option Addr) (cl:Nat) (m:List Nat) (w:World) (h:aEi w v1 p) (h2:aAn w v2 g) (h3:aAw w v3 c) (hL:aAu p=true) (hG:aB3 g=true) (hC:aBs c=true) (hM:aAa w Ap l.length l) (hM2:aAa w Al m.length m) (hT:aCt w) (hl32:∀ y∈l,y<4294967296) (hm32:∀ y∈m,y<4294967296) (hln:l.length<=60) (hmn:m.length<=60) :
  Calls prog 26 #[v1,v2,.int .i64 kind,v3,.slice Ap l.length cp,.slice Al m.length cl] w fun e w'=>e = .returned (.tuple #[.bool (aPa p g kind c l m),.int .i64 (aH0 p g kind c l m)])/\Bel w w':=by
 have HMK:=aA0 (fun w' (k:Bel w w')=>And.intro (aAa.keep hM k) (And.intro (aAa.keep hM2 k) (hT.keep k)));have H32:=aA0 hl32;have H322:=aA0 hm32;clear hM hM2 hl32 hm32 hT;have HPV:=aA0 (fun w' (k:Bel w w')=>h.keep k);have HGV:=aA0 (fun w' (k:Bel w w')=>h2.keep k);have HCV:=aA0 (fun w' (k:Bel w w')=>h3.keep k);obtain ⟨A1,k1,A2,k2,rfl,_,_,_,_,_,_⟩:=h;obtain ⟨A3,k3,A4,k4,rfl,_,_,_,_,_,_⟩:=h2;obtain ⟨A5,k5,rfl,_,_,_⟩:=h3;have HW:=Bel.refl ((w.alloc (.cells #[.string p.name,.slice A1 p.vars.length k1,.slice A2 p.rules.length k2] 25)).alloc (.cells #[.slice A3 g.ids.length k3,.slice A4 g.ports.length k4] 29));have HL:=aA0 hL;have HGL:=aA0 hG;have HCL:=aA0 hC;clear hL hG hC;go_enter func26,ntmps26
 go_wp2_with (go_at_call 52;refine (aIv _ p _ g _ c kind Ap cp l Al cl m _ (HPV.out _ (aA1 HW)) (HGV.out _ (aA1 HW)) (HCV.out _ (aA1 HW)) HL.out HGL.out HCL.out (HMK.out _ (aA1 HW)).1 (HMK.out _ (aA1 HW)).2.1 (HMK.out _ (aA1 HW)).2.2 H32.out H322.out hln hmn).mono ?_;rintro e w2 ⟨sv,rfl,hsv,hs32,hb⟩;have HSV:=aA0 hsv;have HS32:=aA0 hs32;clear hsv hs32;replace HW:=HW.trans hb;clear hb;(try clear p0 p1 p2 g0 g1 gsz);obtain ⟨p0,p1,p2,g0,g1,gsz⟩:=aAd HW)
 go_ret2
 exact ⟨rfl,aA1 HW⟩
theorem aEs (v1:Value) (p:Prg) (v2:Value) (g:Graph) (v3:Value) (c:aA6) (kind:Int) (Ap:Option Addr) (cp:Nat) (l:List Nat) (Al:Option Addr) (cl:Nat) (m:List Nat) (w:World) (h:aEi w v1 p) (h2:aAn w v2 g) (h3:aAw w v3 c) (hL:aAu p=true) (hG:aB3 g=true) (hC:aBs c=true) (hM:aAa w Ap l.length l) (hM2:aAa w Al m.length m) (hT:aCt w) (hl32:∀ y∈l,y<4294967296) (hm32:∀ y∈m,y<4294967296) (hln:l.length<=60) (hmn:m.length<=60) :
  Calls prog 28 #[v1,v2,.int .i64 kind,v3,.slice Ap l.length cp,.slice Al m.length cl] w fun e w'=>e = .returned (.tuple #[.bool (aNa p g kind c l m),.int .i64 (aH0 p g kind c l m)])/\Bel w w':=by
 have HMK:=aA0 (fun w' (k:Bel w w')=>And.intro (aAa.keep hM k) (And.intro (aAa.keep hM2 k) (hT.keep k)));have H32:=aA0 hl32;have H322:=aA0 hm32;clear hM hM2 hl32 hm32 hT;have HPV:=aA0 (fun w' (k:Bel w w')=>h.keep k);have HGV:=aA0 (fun w' (k:Bel w w')=>h2.keep k);have HCV:=aA0 (fun w' (k:Bel w w')=>h3.keep k);obtain ⟨A1,k1,A2,k2,rfl,_,_,_,_,_,_⟩:=h;obtain ⟨A3,k3,A4,k4,rfl,_,_,_,_,_,_⟩:=h2;obtain ⟨A5,k5,rfl,_,_,_⟩:=h3;have HW:=Bel.refl ((w.alloc (.cells #[.string p.name,.slice A1 p.vars.length k1,.slice A2 p.rules.length k2] 25)).alloc (.cells #[.slice A3 g.ids.length k3,.slice A4 g.ports.length k4] 29));have HL:=aA0 hL;have HGL:=aA0 hG;have HCL:=aA0 hC;clear hL hG hC;obtain ⟨er,her⟩:∃ er,aH0 p g kind c l m=er:=⟨_,rfl⟩;have HER:=aA0 her
 by_cases h0:er=0
 .have HE0:Hid (aH0 p g kind c l m=0):=her.trans h0
  obtain ⟨a,b,hr⟩:=aIw HE0.out;have hrk:=aKt HE0.out H32.out H322.out hr;have HRS:=aA0 hr;have HLQ:=aA0 (aJq HE0.out hr);have HFQ:=aA0 (aMj HE0.out hr);have HGO:=aA0 (aAp (aB8 hrk.1).1).2.1;have hcl:c.length=g.ports.length:=aDg hrk.1;have HCL2:=aA0 hcl;have HSR:Hid ((aD4 (aBw g.ports.length fun _=>true) (aT6 (b.enabled.zip m) 0)==0)=aGp g.ports.length (b.enabled.zip m)):=bBc (by have:=HGO.out.le;omega) (fun x hx=>hrk.2.2.2.2.2.2.2.2 x.1 (List.of_mem_zip (a:=x.1) (b:=x.2) hx).1)
  have hg32:(aBw g.ports.length fun _=>true)<4294967296:=aEf _ (by have:=HGO.out.le;omega)
  have HG32:=aA0 hg32;have d0:(er != 0)=false:=by simp [h0]
  have HEZ:=aA0 h0;clear her h0 hr hrk hcl hg32;cases hla:decide (a.last=b.last) with
  | false =>
   have HLA:Hid (aPa p g kind c l m=false):=by rw [HLQ.out];exact hla
   have HFA:Hid (aNa p g kind c l m=false):=by rw [HFQ.out];unfold aOn;rw [hla];rfl
   clear hla;go_enter func28,ntmps28
   go_wp2_with (go_at_call 52;refine (aIv _ p _ g _ c kind Ap cp l Al cl m _ (HPV.out _ (aA1 HW)) (HGV.out _ (aA1 HW)) (HCV.out _ (aA1 HW)) HL.out HGL.out HCL.out (HMK.out _ (aA1 HW)).1 (HMK.out _ (aA1 HW)).2.1 (HMK.out _ (aA1 HW)).2.2 H32.out H322.out hln hmn).mono ?_;rintro e w2 ⟨sv,rfl,hsv,hs32,hb⟩;have HSV:=aA0 hsv;have HS32:=aA0 hs32;clear hsv hs32;rw [HLA.out,HER.out];replace HW:=HW.trans hb;clear hb;(try clear p0 p1 p2 g0 g1 gsz);obtain ⟨p0,p1,p2,g0,g1,gsz⟩:=aAd HW)
   go_ret2
   exact ⟨by rw [HFA.out,HE0.out];rfl,aA1 HW⟩
  | true =>
   have HLA:Hid (aPa p g kind c l m=true):=by rw [HLQ.out];exact hla
   have HFA:Hid (aNa p g kind c l m=aGp c.length (b.enabled.zip m)):=by rw [HFQ.out];unfold aOn;rw [hla];rfl
   clear hla;go_enter func28,ntmps28
   go_upto_region 4 with (go_at_call 52;refine (aIv _ p _ g _ c kind Ap cp l Al cl m _ (HPV.out _ (aA1 HW)) (HGV.out _ (aA1 HW)) (HCV.out _ (aA1 HW)) HL.out HGL.out HCL.out (HMK.out _ (aA1 HW)).1 (HMK.out _ (aA1 HW)).2.1 (HMK.out _ (aA1 HW)).2.2 H32.out H322.out hln hmn).mono ?_;rintro e w2 ⟨sv,rfl,hsv,hs32,hb⟩;have HSV:=aA0 hsv;have HS32:=aA0 hs32;clear hsv hs32;rw [HLA.out,HER.out];rw [HER.out] at HSV;replace HW:=HW.trans hb;clear hb;(try clear p0 p1 p2 g0 g1 gsz);obtain ⟨p0,p1,p2,g0,g1,gsz⟩:=aAd HW)
   have hsv:=HSV.out HEZ.out a b HRS.out;have hbn:=aCw (aBw g.ports.length fun _=>true) sv;have HSE:=aA0 hsv;clear hsv;cases hal:aGp g.ports.length (b.enabled.zip m) with
   | true =>
    have hz:aD4 (aBw g.ports.length fun _=>true) sv=0:=by
     have:=HSR.out;rw [hal,<- HSE.out] at this;simpa using this
    rw [hz] at hbn;have HAL:=aA0 hal;clear hz hal
    go_wp2_with (go_at_call 54;refine (aI5 _ g _ (HGV.out _ (aA1 HW)) HGO.out).mono ?_;rintro e w6 ⟨rfl,hb⟩;replace HW:=HW.trans hb;clear hb;(try clear p0 p1 p2 g0 g1 gsz);obtain ⟨p0,p1,p2,g0,g1,gsz⟩:=aAd HW)
    go_ret2
    exact ⟨by rw [HFA.out,HE0.out,HCL2.out,HAL.out];rfl,aA1 HW⟩
   | false =>
    obtain ⟨D,hD⟩:∃ D,aD4 (aBw g.ports.length fun _=>true) sv=D:=⟨_,rfl⟩
    have hz:(D==0)=false:=by
     have:=HSR.out;rw [hal,<- HSE.out,hD] at this;exact this
    have hzI:((D:Int)==0)=false:=by simpa using hz
    rw [hD] at hbn;have HAL:=aA0 hal;clear hal hD
    go_wp2_with (go_at_call 54;refine (aI5 _ g _ (HGV.out _ (aA1 HW)) HGO.out).mono ?_;rintro e w6 ⟨rfl,hb⟩;replace HW:=HW.trans hb;clear hb;(try clear p0 p1 p2 g0 g1 gsz);obtain ⟨p0,p1,p2,g0,g1,gsz⟩:=aAd HW)
    go_ret2
    exact ⟨by rw [HFA.out,HE0.out,HCL2.out,HAL.out];rfl,aA1 HW⟩
 .have HE0:Hid (aH0 p g kind c l m≠0):=fun e=>h0 (her.symm.trans e)
  have d0:(er != 0)=true:=by simpa using h0
  have HFA:=aA0 (aQ8 HE0.out);clear her h0;go_enter func28,ntmps28
  go_wp2_with (go_at_call 52;refine (aIv _ p _ g _ c kind Ap cp l Al cl m _ (HPV.out _ (aA1 HW)) (HGV.out _ (aA1 HW)) (HCV.out _ (aA1 HW)) HL.out HGL.out HCL.out (HMK.out _ (aA1 HW)).1 (HMK.out _ (aA1 HW)).2.1 (HMK.out _ (aA1 HW)).2.2 H32.out H322.out hln hmn).mono ?_;rintro e w2 ⟨sv,rfl,hsv,hs32,hb⟩;have HSV:=aA0 hsv;have HS32:=aA0 hs32;clear hsv hs32;rw [HER.out];replace HW:=HW.trans hb;clear hb;(try clear p0 p1 p2 g0 g1 gsz);obtain ⟨p0,p1,p2,g0,g1,gsz⟩:=aAd HW)
  go_ret2
  exact ⟨by rw [HFA.out,HER.out];rfl,aA1 HW⟩
end Go.Proofs.YtdcjnhoabbdanaaGreatDoor

