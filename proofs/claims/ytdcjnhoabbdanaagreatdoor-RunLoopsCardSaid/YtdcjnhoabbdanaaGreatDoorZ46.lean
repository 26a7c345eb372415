/- Merged. -/
import Derived.Test.YtdcjnhoabbdanaaGreatDoorZ45
set_option linter.unusedSimpArgs false
set_option linter.unnecessarySimpa false
set_option linter.unusedVariables false
set_option maxRecDepth 100000
set_option maxHeartbeats 8000000
open Go.Proofs.Tryz

namespace Go.Proofs.YtdcjnhoabbdanaaGreatDoor
open Go.RowKit
theorem aQy (v1:Value) (p:Prg) (v2:Value) (g:Graph) (kind:Int) (v3:Value) (c:aA6) (Ap:Option Addr) (cp:Nat) (l:List Nat) (Al:Option Addr) (cl:Nat) (m:List Nat) (w:World) (h:aEi w v1 p) (h2:aAn w v2 g) (h3:aAw w v3 c) (hM:aAa w Ap l.length l) (hl32:∀ y∈l,y<4294967296) (hM2:aAa w Al m.length m) (hm32:∀ y∈m,y<4294967296) (hT:aCt w) :
  Calls prog 9 #[v1,v2,.int .i64 kind,v3,.slice Ap l.length cp,.slice Al m.length cl] w fun e w'=>e = .returned (.bool true)/\Bel w w':=by
 have HMK:=aA0 (fun w' (k:Bel w w')=>And.intro (aAa.keep hM k) (And.intro (aAa.keep hM2 k) (hT.keep k)));have H32:=aA0 hl32;have H322:=aA0 hm32;clear hM hM2 hl32 hm32 hT;have HPV:=aA0 (fun w' (k:Bel w w')=>h.keep k);have HGV:=aA0 (fun w' (k:Bel w w')=>h2.keep k);have HCV:=aA0 (fun w' (k:Bel w w')=>h3.keep k);obtain ⟨A1,k1,A2,k2,rfl,_,_,_,_,_,_⟩:=h;obtain ⟨A3,k3,A4,k4,rfl,_,_,_,_,_,_⟩:=h2;obtain ⟨A5,k5,rfl,_,_,_⟩:=h3;have HW:=Bel.refl ((w.alloc (.cells #[.string p.name,.slice A1 p.vars.length k1,.slice A2 p.rules.length k2] 25)).alloc (.cells #[.slice A3 g.ids.length k3,.slice A4 g.ports.length k4] 29));cases hf:aLo p g c (l.length:Int) with
 | false =>
  have HFA0:=aA0 hf;clear hf;go_enter func9,ntmps9
  go_wp2_with (first
   | (go_at_call 11;refine (aGr _ p _ g _ c _ _ (HPV.out _ (aA1 HW)) (HGV.out _ (aA1 HW)) (HCV.out _ (aA1 HW))).mono ?_;rintro e w' ⟨rfl,hb⟩;rw [HFA0.out];replace HW:=HW.trans hb;clear hb;(try clear p0 p1 p2 g0 g1 gsz);obtain ⟨p0,p1,p2,g0,g1,gsz⟩:=aAd HW)
   | (go_at_call 12;refine (aC3 _ (HMK.out _ (aA1 HW)).2.2).mono ?_;rintro e w' ⟨rfl,hb⟩;replace HW:=HW.trans hb;clear hb;(try clear p0 p1 p2 g0 g1 gsz);obtain ⟨p0,p1,p2,g0,g1,gsz⟩:=aAd HW))
  go_ret;exact ⟨rfl,aA1 HW⟩
 | true =>
  obtain ⟨hL,hG,hC,hn⟩:=aI3 hf;have HFA0:=aA0 hf
  by_cases hm60:m.length<=60
  .have d1:decide (60<m.length)=false:=by simp;omega
   have d1I:decide ((60:Int)<(m.length:Int))=false:=by simp;omega
   have hln:l.length<=60:=by omega
   have hmn:m.length<=60:=hm60;have HL:=aA0 hL;have HGL:=aA0 hG;have HCL:=aA0 hC;obtain ⟨la,hla⟩:∃ la,aPa p g kind c l m=la:=⟨_,rfl⟩;obtain ⟨fa,hfa⟩:∃ fa,aNa p g kind c l m=fa:=⟨_,rfl⟩;obtain ⟨er,her⟩:∃ er,aH0 p g kind c l m=er:=⟨_,rfl⟩;have HLA:=aA0 hla;have HFA:=aA0 hfa;have HER:=aA0 her;have q1:(la==la)=true:=by simp
   have q2:(fa==fa)=true:=by simp
   have q3:(er==er)=true:=by simp
   clear hf hL hG hC hn hm60 hla hfa her;go_enter func9,ntmps9
   go_wp2_with (first
    | (go_at_call 11;refine (aGr _ p _ g _ c _ _ (HPV.out _ (aA1 HW)) (HGV.out _ (aA1 HW)) (HCV.out _ (aA1 HW))).mono ?_;rintro e w' ⟨rfl,hb⟩;rw [HFA0.out];replace HW:=HW.trans hb;clear hb;(try clear p0 p1 p2 g0 g1 gsz);obtain ⟨p0,p1,p2,g0,g1,gsz⟩:=aAd HW)
    | (go_at_call 26;refine (aBz _ p _ g _ c kind Ap cp l Al cl m _ (HPV.out _ (aA1 HW)) (HGV.out _ (aA1 HW)) (HCV.out _ (aA1 HW)) HL.out HGL.out HCL.out (HMK.out _ (aA1 HW)).1 (HMK.out _ (aA1 HW)).2.1 (HMK.out _ (aA1 HW)).2.2 H32.out H322.out hln hmn).mono ?_;rintro e w2 ⟨rfl,hb⟩;rw [HLA.out,HER.out];replace HW:=HW.trans hb;clear hb;(try clear p0 p1 p2 g0 g1 gsz);obtain ⟨p0,p1,p2,g0,g1,gsz⟩:=aAd HW)
    | (go_at_call 27;refine (aM1 _ p _ g _ c kind Ap cp l Al cl m _ (HPV.out _ (aA1 HW)) (HGV.out _ (aA1 HW)) (HCV.out _ (aA1 HW)) HL.out HGL.out HCL.out (HMK.out _ (aA1 HW)).1 (HMK.out _ (aA1 HW)).2.1 H32.out H322.out hln hmn).mono ?_;rintro e w2 ⟨rfl,hb⟩;rw [HLA.out,HER.out];replace HW:=HW.trans hb;clear hb;(try clear p0 p1 p2 g0 g1 gsz);obtain ⟨p0,p1,p2,g0,g1,gsz⟩:=aAd HW)
    | (go_at_call 28;refine (aEs _ p _ g _ c kind Ap cp l Al cl m _ (HPV.out _ (aA1 HW)) (HGV.out _ (aA1 HW)) (HCV.out _ (aA1 HW)) HL.out HGL.out HCL.out (HMK.out _ (aA1 HW)).1 (HMK.out _ (aA1 HW)).2.1 (HMK.out _ (aA1 HW)).2.2 H32.out H322.out hln hmn).mono ?_;rintro e w2 ⟨rfl,hb⟩;rw [HFA.out,HER.out];replace HW:=HW.trans hb;clear hb;(try clear p0 p1 p2 g0 g1 gsz);obtain ⟨p0,p1,p2,g0,g1,gsz⟩:=aAd HW)
    | (go_at_call 29;refine (aUa _ p _ g _ c kind Ap cp l Al cl m _ (HPV.out _ (aA1 HW)) (HGV.out _ (aA1 HW)) (HCV.out _ (aA1 HW)) HL.out HGL.out HCL.out (HMK.out _ (aA1 HW)).1 (HMK.out _ (aA1 HW)).2.1 H32.out H322.out hln hmn).mono ?_;rintro e w2 ⟨rfl,hb⟩;rw [HFA.out,HER.out];replace HW:=HW.trans hb;clear hb;(try clear p0 p1 p2 g0 g1 gsz);obtain ⟨p0,p1,p2,g0,g1,gsz⟩:=aAd HW)
    | (go_at_call 12;refine (aC3 _ (HMK.out _ (aA1 HW)).2.2).mono ?_;rintro e w' ⟨rfl,hb⟩;replace HW:=HW.trans hb;clear hb;(try clear p0 p1 p2 g0 g1 gsz);obtain ⟨p0,p1,p2,g0,g1,gsz⟩:=aAd HW))
   go_ret;exact ⟨by simp,aA1 HW⟩
  .have d1:decide (60<m.length)=true:=by simp;omega
   have d1I:decide ((60:Int)<(m.length:Int))=true:=by simp;omega
   clear hf hL hG hC hn hm60;go_enter func9,ntmps9
   go_wp2_with (first
    | (go_at_call 11;refine (aGr _ p _ g _ c _ _ (HPV.out _ (aA1 HW)) (HGV.out _ (aA1 HW)) (HCV.out _ (aA1 HW))).mono ?_;rintro e w' ⟨rfl,hb⟩;rw [HFA0.out];replace HW:=HW.trans hb;clear hb;(try clear p0 p1 p2 g0 g1 gsz);obtain ⟨p0,p1,p2,g0,g1,gsz⟩:=aAd HW)
    | (go_at_call 12;refine (aC3 _ (HMK.out _ (aA1 HW)).2.2).mono ?_;rintro e w' ⟨rfl,hb⟩;replace HW:=HW.trans hb;clear hb;(try clear p0 p1 p2 g0 g1 gsz);obtain ⟨p0,p1,p2,g0,g1,gsz⟩:=aAd HW))
   go_ret;exact ⟨rfl,aA1 HW⟩
end Go.Proofs.YtdcjnhoabbdanaaGreatDoor

