/- Merged. -/
import Derived.Test.YtmifhmdghfbalaaGreatDoorZ44
set_option linter.unusedSimpArgs false
set_option linter.unnecessarySimpa false
set_option linter.unusedVariables false
set_option maxRecDepth 100000
set_option maxHeartbeats 8000000
open Go.Proofs.Tryz

namespace Go.Proofs.YtmifhmdghfbalaaGreatDoor
open Go.RowKit
theorem aQi (v1:Value) (p:Prg) (v2:Value) (g:Graph) (kind:Int) (AL:Option Addr) (cL:Nat) (legit:List Bool) (A:Option Addr) (ca:Nat) (l:List (List Term)) (w:World) (h:aE0 w v1 p) (h2:aAl w v2 g) (hB:aDa w AL legit.length legit) (hTm:aAu w A l.length l) (hT:aG1 w) :
  Calls prog 11 #[v1,v2,.int .i64 kind,.slice AL legit.length cL,.slice A l.length ca] w fun e w'=>e = .returned (.bool true)/\Bel w w':=by
 have HPV:=aA1 (fun w' (k:Bel w w')=>h.keep k);have HGV:=aA1 (fun w' (k:Bel w w')=>h2.keep k);have HBR:=aA1 (fun w' (k:Bel w w')=>hB.keep k);have HTR:=aA1 (fun w' (k:Bel w w')=>hTm.keep k);have HT:=aA1 (fun w' (k:Bel w w')=>hT.keep k);obtain ⟨A1,k1,A2,k2,rfl,_,_,_,_,_,_⟩:=h;obtain ⟨A3,k3,A4,k4,rfl,_,_,_,_,_,_⟩:=h2;have HW:=Bel.refl ((w.alloc (.cells #[.string p.name,.slice A1 p.vars.length k1,.slice A2 p.rules.length k2] 25)).alloc (.cells #[.slice A3 g.ids.length k3,.slice A4 g.ports.length k4] 29));clear hB hT;cases hs:aMw p g legit l with
 | false =>
  go_enter func11,ntmps11
  go_wp2_with (first
   | (go_at_call 36;refine (aC4 _ p _ g AL cL legit A ca l _ (HPV.out _ (aA0 HW)) (HGV.out _ (aA0 HW)) (HTR.out _ (aA0 HW))).mono ?_;rintro e w' ⟨rfl,hb⟩;rw [hs];replace HW:=HW.trans hb;clear hb;(try clear p0 p1 p2 g0 g1 gsz);obtain ⟨p0,p1,p2,g0,g1,gsz⟩:=aA6 HW)
   | (go_at_call 37;refine (aAk _ (HT.out _ (aA0 HW))).mono ?_;rintro e w' ⟨rfl,hb⟩;replace HW:=HW.trans hb;clear hb;(try clear p0 p1 p2 g0 g1 gsz);obtain ⟨p0,p1,p2,g0,g1,gsz⟩:=aA6 HW))
  go_ret;exact ⟨rfl,aA0 HW⟩
 | true =>
  obtain ⟨hL,hG,hl10,hle,hfew,hll⟩:=aJw hs;have HSM:=aA1 hs;have HL:=aA1 hL;have HGL:=aA1 hG;have HLE:=aA1 hle;have HFW:=aA1 hfew;obtain ⟨ce,hce⟩:∃ ce,aC9 p g kind legit l=ce:=⟨_,rfl⟩;obtain ⟨c1,c2⟩:=ce;have HCE:=aA1 hce;have e1:(c1 != c1)=false:=by simp
  have e2:(c2 != c2)=false:=by simp
  by_cases hz:l.length=0
  .have dz:((l.length:Int)==0)=true:=beq_iff_eq.2 (by omega)
   have dz2:(l.length==0)=true:=by simpa using hz
   clear hs hL hG hle hfew hce hz hTm;go_enter func11,ntmps11
   go_wp2_with (first
    | (go_at_call 36;refine (aC4 _ p _ g AL cL legit A ca l _ (HPV.out _ (aA0 HW)) (HGV.out _ (aA0 HW)) (HTR.out _ (aA0 HW))).mono ?_;rintro e w' ⟨rfl,hb⟩;rw [HSM.out];replace HW:=HW.trans hb;clear hb;(try clear p0 p1 p2 g0 g1 gsz);obtain ⟨p0,p1,p2,g0,g1,gsz⟩:=aA6 HW)
    | (go_at_call 38;refine (aBo _ p _ g kind AL cL legit A ca l _ (HPV.out _ (aA0 HW)) (HGV.out _ (aA0 HW)) (HT.out _ (aA0 HW)) (HBR.out _ (aA0 HW)) (HTR.out _ (aA0 HW)) HL.out HGL.out (by omega) hl10 HLE.out HFW.out).mono ?_;rintro e w' ⟨rfl,hb⟩;rw [HCE.out];replace HW:=HW.trans hb;clear hb;(try clear p0 p1 p2 g0 g1 gsz);obtain ⟨p0,p1,p2,g0,g1,gsz⟩:=aA6 HW)
    | (go_at_call 39;refine (aDq _ p _ g kind AL cL legit A ca l _ (HPV.out _ (aA0 HW)) (HGV.out _ (aA0 HW)) (HBR.out _ (aA0 HW)) (HTR.out _ (aA0 HW)) HL.out HGL.out hl10 HLE.out HFW.out).mono ?_;rintro e w' ⟨rfl,hb⟩;rw [HCE.out];replace HW:=HW.trans hb;clear hb;(try clear p0 p1 p2 g0 g1 gsz);obtain ⟨p0,p1,p2,g0,g1,gsz⟩:=aA6 HW)
    | (go_at_call 37;refine (aAk _ (HT.out _ (aA0 HW))).mono ?_;rintro e w' ⟨rfl,hb⟩;replace HW:=HW.trans hb;clear hb;(try clear p0 p1 p2 g0 g1 gsz);obtain ⟨p0,p1,p2,g0,g1,gsz⟩:=aA6 HW))
   go_ret;exact ⟨rfl,aA0 HW⟩
  .have dz:((l.length:Int)==0)=false:=beq_eq_false_iff_ne.2 (by omega)
   have dz2:(l.length==0)=false:=by simpa using hz
   have hl0:0<l.length:=by omega
   obtain ⟨b,o,R,rc,rfl,hb0,x1,hR,hr1,hr2⟩:=hTm.at_ 0 hl0;have hx:=hle _ (List.getElem_mem hl0);have HRX:=aA1 (fun w' (k:Bel w w')=>aAr.keep hR k);rw [Nat.add_zero] at x1;generalize l[0]=x at *;have hlI:(0:Int)<(l.length:Int):=by omega
   have hcell:=aA1 (fun w' (kk:Bel ((w.alloc (.cells #[.string p.name,.slice A1 p.vars.length k1,.slice A2 p.rules.length k2] 25)).alloc (.cells #[.slice A3 g.ids.length k3,.slice A4 g.ports.length k4] 29)) w')=>show (fun w'=>w'.cell? ⟨w.heap.size,0,none⟩=some (.string p.name)/\w'.cell? ⟨w.heap.size,1,none⟩=some (.slice A1 p.vars.length k1)/\w'.cell? ⟨w.heap.size,2,none⟩=some (.slice A2 p.rules.length k2)/\w'.cell? ⟨w.heap.size+1,0,none⟩=some (.slice A3 g.ids.length k3)/\w'.cell? ⟨w.heap.size+1,1,none⟩=some (.slice A4 g.ports.length k4)/\w.heap.size+1<w'.heap.size) w'/\w'.cell? ⟨b,o,none⟩=some (.slice R x.length rc)/\b<w'.heap.size from ⟨aA6 kk,((aA0 kk).cell hb0).trans x1,Nat.lt_of_lt_of_le hb0 (aA0 kk).size⟩)
   obtain ⟨be,hbe⟩:∃ be,aP1 p g kind legit x=be:=⟨_,rfl⟩;obtain ⟨d1,d2⟩:=be;have HBE:=aA1 hbe;have e3:(d1==d1)=true:=by simp
   have e4:(d2==d2)=true:=by simp
   clear hs hL hG hle hfew hce hz hTm hR hbe x1;go_enter func11,ntmps11
   go_upto_region 9 with (first
    | (go_at_call 36;refine (aC4 _ p _ g AL cL legit (some ⟨b,o,none⟩) ca l _ (HPV.out _ (aA0 HW)) (HGV.out _ (aA0 HW)) (HTR.out _ (aA0 HW))).mono ?_;rintro e w' ⟨rfl,hb⟩;rw [HSM.out];replace HW:=HW.trans hb;clear hb;(try clear p0 p1 p2 g0 g1 gsz);obtain ⟨p0,p1,p2,g0,g1,gsz⟩:=aA6 HW)
    | (go_at_call 38;refine (aBo _ p _ g kind AL cL legit (some ⟨b,o,none⟩) ca l _ (HPV.out _ (aA0 HW)) (HGV.out _ (aA0 HW)) (HT.out _ (aA0 HW)) (HBR.out _ (aA0 HW)) (HTR.out _ (aA0 HW)) HL.out HGL.out (by omega) hl10 HLE.out HFW.out).mono ?_;rintro e w' ⟨rfl,hb⟩;rw [HCE.out];replace HW:=HW.trans hb;clear hb;(try clear p0 p1 p2 g0 g1 gsz);obtain ⟨p0,p1,p2,g0,g1,gsz⟩:=aA6 HW)
    | (go_at_call 39;refine (aDq _ p _ g kind AL cL legit (some ⟨b,o,none⟩) ca l _ (HPV.out _ (aA0 HW)) (HGV.out _ (aA0 HW)) (HBR.out _ (aA0 HW)) (HTR.out _ (aA0 HW)) HL.out HGL.out hl10 HLE.out HFW.out).mono ?_;rintro e w' ⟨rfl,hb⟩;rw [HCE.out];replace HW:=HW.trans hb;clear hb;(try clear p0 p1 p2 g0 g1 gsz);obtain ⟨p0,p1,p2,g0,g1,gsz⟩:=aA6 HW))
   replace HW:=HW.drew
   go_region_held3 (fun w'=>(fun w'=>w'.cell? ⟨w.heap.size,0,none⟩=some (.string p.name)/\w'.cell? ⟨w.heap.size,1,none⟩=some (.slice A1 p.vars.length k1)/\w'.cell? ⟨w.heap.size,2,none⟩=some (.slice A2 p.rules.length k2)/\w'.cell? ⟨w.heap.size+1,0,none⟩=some (.slice A3 g.ids.length k3)/\w'.cell? ⟨w.heap.size+1,1,none⟩=some (.slice A4 g.ports.length k4)/\w.heap.size+1<w'.heap.size) w'/\w'.cell? ⟨b,o,none⟩=some (.slice R x.length rc)/\b<w'.heap.size) (exact hcell.out _ HW) ((go_simp;go_at_call 40;refine (aIj _ p _ g kind AL cL legit R rc x _ (HPV.out _ (aA0 HW)) (HGV.out _ (aA0 HW)) (HT.out _ (aA0 HW)) (HBR.out _ (aA0 HW)) (HRX.out _ (aA0 HW)) hr1 hr2 HL.out HGL.out (by omega) hx HFW.out).mono ?_;rintro e w' ⟨rfl,hb⟩;rw [HBE.out];replace HW:=HW.trans hb;clear hb))
   go_upto_region 10 with fail
   replace HW:=HW.drew
   go_region_held3 (fun w'=>(fun w'=>w'.cell? ⟨w.heap.size,0,none⟩=some (.string p.name)/\w'.cell? ⟨w.heap.size,1,none⟩=some (.slice A1 p.vars.length k1)/\w'.cell? ⟨w.heap.size,2,none⟩=some (.slice A2 p.rules.length k2)/\w'.cell? ⟨w.heap.size+1,0,none⟩=some (.slice A3 g.ids.length k3)/\w'.cell? ⟨w.heap.size+1,1,none⟩=some (.slice A4 g.ports.length k4)/\w.heap.size+1<w'.heap.size) w'/\w'.cell? ⟨b,o,none⟩=some (.slice R x.length rc)/\b<w'.heap.size) (exact hcell.out _ HW) ((go_simp;go_at_call 41;refine (aVt _ p _ g kind AL cL legit R rc x _ (HPV.out _ (aA0 HW)) (HGV.out _ (aA0 HW)) (HBR.out _ (aA0 HW)) (HRX.out _ (aA0 HW)) hr1 hr2 HL.out HGL.out hx HFW.out).mono ?_;rintro e w' ⟨rfl,hb⟩;rw [HBE.out];replace HW:=HW.trans hb;clear hb))
   go_wp2_with (go_at_call 37;refine (aAk _ (HT.out _ (aA0 HW))).mono ?_;rintro e w3 ⟨rfl,hb⟩;replace HW:=HW.trans hb;clear hb)
   go_ret;exact ⟨by simp,aA0 HW⟩
end Go.Proofs.YtmifhmdghfbalaaGreatDoor

