/- Merged. -/
import Derived.Test.YtmifhmdghfbalaaGreatDoorZ44
set_option linter.unusedSimpArgs false
set_option linter.unnecessarySimpa false
set_option linter.unusedVariables false
set_option maxRecDepth 100000
set_option maxHeartbeats 8000000
open Go.Proofs.Tryz

namespace Go.Proofs.YtmifhmdghfbalaaGreatDoor
open Go.RowKit
theorem aO7 (v1:Value) (p:Prg) (v2:Value) (g:Graph) (v3:Value) (c:aA8) (A:Option Addr) (ca:Nat) (l:List (List Term)) (w:World) (h:aE0 w v1 p) (h2:aAl w v2 g) (h3:aDf w v3 c) (hTm:aAu w A l.length l) (hT:aG1 w) :
  Calls prog 15 #[v1,v2,v3,.slice A l.length ca] w fun e w'=>e = .returned (.bool true)/\Bel w w':=by
 have HPV:=aA1 (fun w' (k:Bel w w')=>h.keep k);have HGV:=aA1 (fun w' (k:Bel w w')=>h2.keep k);have HCV:=aA1 (fun w' (k:Bel w w')=>h3.keep k);have HTR:=aA1 (fun w' (k:Bel w w')=>hTm.keep k);have HT:=aA1 (fun w' (k:Bel w w')=>hT.keep k);obtain ⟨A1,k1,A2,k2,rfl,_,_,_,_,_,_⟩:=h;obtain ⟨A3,k3,A4,k4,rfl,_,_,_,_,_,_⟩:=h2;obtain ⟨A5,k5,rfl,_,_,_⟩:=h3;have HW:=Bel.refl ((w.alloc (.cells #[.string p.name,.slice A1 p.vars.length k1,.slice A2 p.rules.length k2] 25)).alloc (.cells #[.slice A3 g.ids.length k3,.slice A4 g.ports.length k4] 29));clear hTm hT;cases hq:aIq p g l with
 | false =>
  go_enter func15,ntmps15
  go_wp2_with (first
   | (go_at_call 49;refine (aBi _ p _ g A ca l _ (HPV.out _ (aA0 HW)) (HGV.out _ (aA0 HW)) (HTR.out _ (aA0 HW))).mono ?_;rintro e w' ⟨rfl,hb⟩;rw [hq];replace HW:=HW.trans hb;clear hb;(try clear p0 p1 p2 g0 g1 gsz);obtain ⟨p0,p1,p2,g0,g1,gsz⟩:=aA6 HW)
   | (go_at_call 37;refine (aAk _ (HT.out _ (aA0 HW))).mono ?_;rintro e w' ⟨rfl,hb⟩;replace HW:=HW.trans hb;clear hb;(try clear p0 p1 p2 g0 g1 gsz);obtain ⟨p0,p1,p2,g0,g1,gsz⟩:=aA6 HW))
  go_ret;exact ⟨rfl,aA0 HW⟩
 | true =>
  cases hc:aE1 c with
  | false =>
   go_enter func15,ntmps15
   go_wp2_with (first
    | (go_at_call 49;refine (aBi _ p _ g A ca l _ (HPV.out _ (aA0 HW)) (HGV.out _ (aA0 HW)) (HTR.out _ (aA0 HW))).mono ?_;rintro e w' ⟨rfl,hb⟩;rw [hq];replace HW:=HW.trans hb;clear hb;(try clear p0 p1 p2 g0 g1 gsz);obtain ⟨p0,p1,p2,g0,g1,gsz⟩:=aA6 HW)
    | (go_at_call 51;refine (aDc _ c _ (HCV.out _ (aA0 HW))).mono ?_;rintro e w' ⟨rfl,rfl⟩;rw [hc])
    | (go_at_call 37;refine (aAk _ (HT.out _ (aA0 HW))).mono ?_;rintro e w' ⟨rfl,hb⟩;replace HW:=HW.trans hb;clear hb;(try clear p0 p1 p2 g0 g1 gsz);obtain ⟨p0,p1,p2,g0,g1,gsz⟩:=aA6 HW))
   go_ret;exact ⟨rfl,aA0 HW⟩
  | true =>
   have HQ:=aA1 hq;have HC:=aA1 hc;obtain ⟨_,hL,hG,hl10,hle⟩:=aH9 hq;have HL:=aA1 hL;have HGL:=aA1 hG;have HLE:=aA1 hle;obtain ⟨r,hr⟩:∃ r,aL9 p g c l=r:=⟨_,rfl⟩;obtain ⟨xs,ee⟩:=r;have HR:=aA1 hr
   have HXL:Hid (xs.length<=1000000):=by
    show _<=_
    unfold aL9 at hr;split at hr
    .obtain ⟨rfl,-⟩:=Prod.mk.inj hr;simp
    split at hr
    .obtain ⟨rfl,-⟩:=Prod.mk.inj hr;simp
    .obtain ⟨rfl,-⟩:=Prod.mk.inj hr;rw [aFb];omega
   obtain ⟨vv,hvv⟩:∃ vv,aD6 p l=vv:=⟨_,rfl⟩;have HV:=aA1 hvv;have hee:(ee==ee)=true:=by simp
   have hvb:(vv==vv)=true:=by simp
   clear hq hc hL hG hle hr hvv;go_enter func15,ntmps15
   go_upto_region 5 with (first
    | (go_at_call 49;refine (aBi _ p _ g A ca l _ (HPV.out _ (aA0 HW)) (HGV.out _ (aA0 HW)) (HTR.out _ (aA0 HW))).mono ?_;rintro e w' ⟨rfl,hb⟩;rw [HQ.out];replace HW:=HW.trans hb;clear hb;(try clear p0 p1 p2 g0 g1 gsz);obtain ⟨p0,p1,p2,g0,g1,gsz⟩:=aA6 HW)
    | (go_at_call 51;refine (aDc _ c _ (HCV.out _ (aA0 HW))).mono ?_;rintro e w' ⟨rfl,rfl⟩;rw [HC.out])
    | (go_at_call 52;refine (aLx _ p _ g _ c A ca l _ (HPV.out _ (aA0 HW)) (HGV.out _ (aA0 HW)) (HCV.out _ (aA0 HW)) (HTR.out _ (aA0 HW)) HL.out HGL.out HC.out hl10 HLE.out).mono ?_;rintro e w1 hret;unfold aQa at hret;rw [HR.out] at hret;obtain ⟨X1,c1,rfl,hI1,hb⟩:=hret;have HI1:=aA1 (fun w' (kk:Bel w1 w')=>hI1.keep kk);have HB1:=Bel.refl w1;clear hI1;replace HW:=HW.trans hb;clear hb;(try clear p0 p1 p2 g0 g1 gsz);obtain ⟨p0,p1,p2,g0,g1,gsz⟩:=aA6 HW)
    | (go_at_call 53;refine (aVu _ p _ g _ c A ca l _ (HPV.out _ (aA0 HW)) (HGV.out _ (aA0 HW)) (HCV.out _ (aA0 HW)) (HTR.out _ (aA0 HW)) HL.out HGL.out HC.out hl10 HLE.out).mono ?_;rintro e w2 hret;unfold aQa at hret;rw [HR.out] at hret;obtain ⟨X2,c2,rfl,hI2,hb⟩:=hret;have HI2:=aA1 (fun w' (kk:Bel w2 w')=>hI2.keep kk);replace HB1:=HB1.trans hb;have HB2:=Bel.refl w2;clear hI2;replace HW:=HW.trans hb;clear hb;(try clear p0 p1 p2 g0 g1 gsz);obtain ⟨p0,p1,p2,g0,g1,gsz⟩:=aA6 HW))
   replace HW:=HW.drew;replace HB1:=HB1.drew;replace HB2:=HB2.drew
   go_region_held3 (fun w'=>w'.cell? ⟨w.heap.size,0,none⟩=some (.string p.name)/\w'.cell? ⟨w.heap.size,1,none⟩=some (.slice A1 p.vars.length k1)/\w'.cell? ⟨w.heap.size,2,none⟩=some (.slice A2 p.rules.length k2)/\w'.cell? ⟨w.heap.size+1,0,none⟩=some (.slice A3 g.ids.length k3)/\w'.cell? ⟨w.heap.size+1,1,none⟩=some (.slice A4 g.ports.length k4)/\w.heap.size+1<w'.heap.size) (exact aA6 HW) (first
    | (go_simp;go_at_call 37;refine (aAk _ (HT.out _ (aA0 HW))).mono ?_;rintro e w3 ⟨rfl,hb⟩;replace HW:=HW.trans hb;replace HB1:=HB1.trans hb;replace HB2:=HB2.trans hb;clear hb)
    | (go_simp;go_at_call 54;refine (aEf _ p A ca l _ (HPV.out _ (aA0 HW)) (HTR.out _ (aA0 HW)) HL.out (by omega) (fun e he=>by have:=HLE.out e he;omega)).mono ?_;rintro e w' ⟨rfl,hb⟩;rw [HV.out];replace HW:=HW.trans hb;replace HB1:=HB1.trans hb;replace HB2:=HB2.trans hb;clear hb)
    | (go_simp;go_at_call 50;refine (aBa _ p A ca l _ (HPV.out _ (aA0 HW)) (HTR.out _ (aA0 HW)) HL.out (by omega) (fun e he=>by have:=HLE.out e he;omega)).mono ?_;rintro e w' ⟨rfl,hb⟩;rw [HV.out];replace HW:=HW.trans hb;replace HB1:=HB1.trans hb;replace HB2:=HB2.trans hb;clear hb)
    | (go_simp;go_at_call 43;refine (aGv X1 c1 xs X2 c2 xs _ (HI1.out _ HB1) (HI2.out _ HB2) HXL.out).mono ?_;rintro e w' ⟨rfl,hb⟩;replace HW:=HW.trans hb;replace HB1:=HB1.trans hb;replace HB2:=HB2.trans hb;clear hb))
   go_wp2_with fail
   go_ret;exact ⟨by simp,aA0 HW⟩
end Go.Proofs.YtmifhmdghfbalaaGreatDoor

