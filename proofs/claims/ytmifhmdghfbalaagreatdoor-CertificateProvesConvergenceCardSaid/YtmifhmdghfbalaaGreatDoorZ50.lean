/- Merged. -/
import Derived.Test.YtmifhmdghfbalaaGreatDoorZ44
import Derived.Test.YtmifhmdghfbalaaGreatDoorZ41
set_option linter.unusedSimpArgs false
set_option linter.unnecessarySimpa false
set_option linter.unusedVariables false
set_option maxRecDepth 100000
set_option maxHeartbeats 8000000
open Go.Proofs.Tryz

namespace Go.Proofs.YtmifhmdghfbalaaGreatDoor
open Go.RowKit
theorem aQk (v1:Value) (p:Prg) (v2:Value) (g:Graph) (kind:Int) (AL:Option Addr) (cL:Nat) (legit:List Bool) (A:Option Addr) (ca:Nat) (l:List (List Term)) (w:World) (h:aE0 w v1 p) (h2:aAl w v2 g) (hB:aDa w AL legit.length legit) (hTm:aAu w A l.length l) (hT:aG1 w) :
  Calls prog 13 #[v1,v2,.int .i64 kind,.slice AL legit.length cL,.slice A l.length ca] w fun e w'=>e = .returned (.bool true)/\Bel w w':=by
 have HPV:=aA1 (fun w' (k:Bel w w')=>h.keep k);have HGV:=aA1 (fun w' (k:Bel w w')=>h2.keep k);have HBR:=aA1 (fun w' (k:Bel w w')=>hB.keep k);have HTR:=aA1 (fun w' (k:Bel w w')=>hTm.keep k);have HT:=aA1 (fun w' (k:Bel w w')=>hT.keep k);obtain ⟨A1,k1,A2,k2,rfl,_,_,_,_,_,_⟩:=h;obtain ⟨A3,k3,A4,k4,rfl,_,_,_,_,_,_⟩:=h2;have HW:=Bel.refl ((w.alloc (.cells #[.string p.name,.slice A1 p.vars.length k1,.slice A2 p.rules.length k2] 25)).alloc (.cells #[.slice A3 g.ids.length k3,.slice A4 g.ports.length k4] 29));clear hB hT;cases hs:aMw p g legit l with
 | false =>
  go_enter func13,ntmps13
  go_wp2_with (first
   | (go_at_call 36;refine (aC4 _ p _ g AL cL legit A ca l _ (HPV.out _ (aA0 HW)) (HGV.out _ (aA0 HW)) (HTR.out _ (aA0 HW))).mono ?_;rintro e w' ⟨rfl,hb⟩;rw [hs];replace HW:=HW.trans hb;clear hb;(try clear p0 p1 p2 g0 g1 gsz);obtain ⟨p0,p1,p2,g0,g1,gsz⟩:=aA6 HW)
   | (go_at_call 37;refine (aAk _ (HT.out _ (aA0 HW))).mono ?_;rintro e w' ⟨rfl,hb⟩;replace HW:=HW.trans hb;clear hb;(try clear p0 p1 p2 g0 g1 gsz);obtain ⟨p0,p1,p2,g0,g1,gsz⟩:=aA6 HW))
  go_ret;exact ⟨rfl,aA0 HW⟩
 | true =>
  obtain ⟨hL,hG,hl10,hle,hfew,hll⟩:=aJw hs;have HSM:=aA1 hs;have HL:=aA1 hL;have HGL:=aA1 hG;have HLE:=aA1 hle;have HFW:=aA1 hfew;obtain ⟨ce,hce⟩:∃ ce,aC9 p g kind legit l=ce:=⟨_,rfl⟩;obtain ⟨c1,c2⟩:=ce;have HCE:=aA1 hce
  by_cases h0:c2=0
  .subst h0
   obtain ⟨hb0,hvd,hln,hgood⟩:=aWq (p:=p) (g:=g) (kind:=kind) (legit:=legit) (l:=l) (by rw [hce])
   obtain ⟨t1,t2,t3,t4,t5,t6,t7,t8,t9⟩:=aN7 hb0 hln hfew;obtain ⟨bd,hbd⟩:∃ bd,aBj p g kind=bd:=⟨_,rfl⟩;obtain ⟨s,ee⟩:=bd;rw [hbd] at hb0 hln hgood t1 t3 t7 t8 t9;dsimp only at hb0 hln hgood t1 t3 t7 t8 t9;subst hb0;have HBF:=aA1 hbd;have HGD:=aA1 hgood;have HLN:=aA1 hln;have HT1:=aA1 t1;have HT3:=aA1 t3;have HT7:=aA1 t7;have HT8:=aA1 t8;have HT9:=aA1 t9;have BUILDARM:True:=trivial
   by_cases hz:l.length=1
   .have dz:((l.length:Int) != 1)=false:=by simp;omega
    have dz2:(l.length != 1)=false:=by simpa using hz
    have hl0:0<l.length:=by omega
    obtain ⟨x,rfl⟩:∃ x,l=[x]:=by
     match l,hz with
     | [x],_=>exact ⟨x,rfl⟩
    obtain ⟨b,o,R,rc,rfl,hb0,x1,hR,hr1,hr2⟩:=hTm.at_ 0 (by simp)
    rw [Nat.add_zero] at x1;simp only [List.getElem_cons_zero] at x1 hR hr1
    have hx:x.length<=250:=hle x (by simp)
    have HRX:=aA1 (fun w' (k:Bel w w')=>aAr.keep hR k);have hcell:=aA1 (fun w' (kk:Bel ((w.alloc (.cells #[.string p.name,.slice A1 p.vars.length k1,.slice A2 p.rules.length k2] 25)).alloc (.cells #[.slice A3 g.ids.length k3,.slice A4 g.ports.length k4] 29)) w')=>show (fun w'=>w'.cell? ⟨w.heap.size,0,none⟩=some (.string p.name)/\w'.cell? ⟨w.heap.size,1,none⟩=some (.slice A1 p.vars.length k1)/\w'.cell? ⟨w.heap.size,2,none⟩=some (.slice A2 p.rules.length k2)/\w'.cell? ⟨w.heap.size+1,0,none⟩=some (.slice A3 g.ids.length k3)/\w'.cell? ⟨w.heap.size+1,1,none⟩=some (.slice A4 g.ports.length k4)/\w.heap.size+1<w'.heap.size) w'/\w'.cell? ⟨b,o,none⟩=some (.slice R x.length rc)/\b<w'.heap.size from ⟨aA6 kk,((aA0 kk).cell hb0).trans x1,Nat.lt_of_lt_of_le hb0 (aA0 kk).size⟩)
    have heo:EOK p x:=aGn ((aCk hvd).2.2.2 x (by simp))
    have hbc:aP1 p g kind legit x=(aSe (aF0 p g legit x legit.length),0):=by rw [aO6,hce,if_neg (by simp)]
    obtain ⟨lo,hs0,hlo,hcp⟩:=bFd (p:=p) (g:=g) (legit:=legit) (e:=x) (n:=legit.length)
    have hsB:aSe (aF0 p g legit x legit.length)<=60000000001:=by
     obtain ⟨q1,q2⟩:=aW1 (B:=30000000000) (by decide) (aW7 (p:=p) (g:=g) (legit:=legit) (e:=x) t4 t5 heo (Nat.le_refl _))
     rw [bB2];split <;> omega
    have HST:Hid (∀ k,k<legit.length->legit.getD k false=false->∀ y∈s.arcs.getD k [],∀ oo:Int,oo<=bBj p g legit x lo y.2.toNat->1+oo<=bBj p g legit x lo k):=fun k hk hf y hy oo ho=>bIj (ls:=s.arcs) (n:=legit.length) hk hf (hgood k hk hf) hlo hy ho;have HCP:=aA1 (fun k (hk:k<legit.length)=>(show 0<=bBj p g legit x lo k/\bBj p g legit x lo k<=1000000000000 from ⟨(hcp k hk).1,by have:=(hcp k hk).2;omega⟩))
    obtain ⟨sp,hsp⟩:∃ sp,aSe (aF0 p g legit x legit.length)=sp:=⟨_,rfl⟩;rw [hsp] at hbc hs0 hsB hcp;have HCB:=aA1 (fun k (hk:k<legit.length)=>(hcp k hk).2);have HBC:=aA1 hbc;clear hs hL hG hle hfew hce hz hvd hln hgood t1 t3 t4 t5 t7 t8 t9 hbd heo hbc hlo hcp hsp hR x1 hTm;go_enter func13,ntmps13
    go_upto_region 13 with (first
     | (go_at_call 36;refine (aC4 _ p _ g AL cL legit (some ⟨b,o,none⟩) ca [x] _ (HPV.out _ (aA0 HW)) (HGV.out _ (aA0 HW)) (HTR.out _ (aA0 HW))).mono ?_;rintro e w' ⟨rfl,hb⟩;rw [HSM.out];replace HW:=HW.trans hb;clear hb;(try clear p0 p1 p2 g0 g1 gsz);obtain ⟨p0,p1,p2,g0,g1,gsz⟩:=aA6 HW)
     | (go_at_call 38;refine (aBo _ p _ g kind AL cL legit (some ⟨b,o,none⟩) ca [x] _ (HPV.out _ (aA0 HW)) (HGV.out _ (aA0 HW)) (HT.out _ (aA0 HW)) (HBR.out _ (aA0 HW)) (HTR.out _ (aA0 HW)) HL.out HGL.out (by omega) hl10 HLE.out HFW.out).mono ?_;rintro e w' ⟨rfl,hb⟩;rw [HCE.out];replace HW:=HW.trans hb;clear hb;(try clear p0 p1 p2 g0 g1 gsz);obtain ⟨p0,p1,p2,g0,g1,gsz⟩:=aA6 HW)
     | (go_at_call 45;have hbd:=aPe _ p _ g kind _ (HPV.out _ (aA0 HW)) (HGV.out _ (aA0 HW)) HL.out HGL.out HFW.out;rw [HBF.out] at hbd;refine hbd.mono ?_;rintro e w1 ⟨vS,rfl,hS,hb⟩;obtain ⟨AE,cE,AA,cA,rfl,_⟩:=(id hS:aCo _ _ _);have HS1:=aA1 (fun w3 (kk:Bel w1 w3)=>hS.keep kk);have HBN:=aA1 (Blk.new w1 #[.slice AE s.enabled.length cE,.slice AA s.arcs.length cA] 70);have HC3:=Bel.refl (w1.alloc (.cells #[.slice AE s.enabled.length cE,.slice AA s.arcs.length cA] 70));clear hS hbd;replace HW:=HW.trans hb;clear hb;(try clear p0 p1 p2 g0 g1 gsz);obtain ⟨p0,p1,p2,g0,g1,gsz⟩:=aA6 HW;replace HW:=HW.alloc (.cells #[.slice AE s.enabled.length cE,.slice AA s.arcs.length cA] 70);clear p0 p1 p2 g0 g1 gsz;have s0:=HBN.out.cell 0 (v := .slice AE s.enabled.length cE) rfl;have s1:=HBN.out.cell 1 (v := .slice AA s.arcs.length cA) rfl;have sl:=HBN.out.lt)
     | (go_at_call 46;refine (aMr _ s AL cL legit (aDz p g [x]) _ (HS1.out _ (aA3 HC3)) (HBR.out _ (aA0 HW)) HT7.out HT8.out HT9.out HLN.out t6 HT1.out HT3.out HGD.out).mono ?_;rintro e w2 ⟨CA,cc,rfl,hC,hb⟩;have HC:=aA1 (fun w' (k:Bel w2 w')=>hC.keep k);clear hC s0 s1 sl;replace HC3:=HC3.trans hb;replace HW:=HW.trans hb;clear hb)
     | (go_at_call 47;refine (aOr CA cc legit.length _ (HC.out _ (Bel.refl _)) (by omega)).mono ?_;rintro e w3 ⟨rfl,hb⟩;replace HC3:=HC3.trans hb;replace HW:=HW.trans hb;clear hb))
    replace HW:=HW.drew;replace HC3:=HC3.drew
    go_region_held3 (fun w'=>(fun w'=>w'.cell? ⟨w.heap.size,0,none⟩=some (.string p.name)/\w'.cell? ⟨w.heap.size,1,none⟩=some (.slice A1 p.vars.length k1)/\w'.cell? ⟨w.heap.size,2,none⟩=some (.slice A2 p.rules.length k2)/\w'.cell? ⟨w.heap.size+1,0,none⟩=some (.slice A3 g.ids.length k3)/\w'.cell? ⟨w.heap.size+1,1,none⟩=some (.slice A4 g.ports.length k4)/\w.heap.size+1<w'.heap.size) w'/\w'.cell? ⟨b,o,none⟩=some (.slice R x.length rc)/\b<w'.heap.size) (exact hcell.out _ HW) ((go_simp;go_at_call 40;refine (aIj _ p _ g kind AL cL legit R rc x _ (HPV.out _ (aA0 HW)) (HGV.out _ (aA0 HW)) (HT.out _ (aA0 HW)) (HBR.out _ (aA0 HW)) (HRX.out _ (aA0 HW)) hr1 hr2 HL.out HGL.out (by omega) hx HFW.out).mono ?_;rintro e w' ⟨rfl,hb⟩;rw [HBC.out];replace HW:=HW.trans hb;replace HC3:=HC3.trans hb;clear hb))
    have hBS:=HBN.out.keep HC3;have s0:=hBS.cell 0 (v := .slice AE s.enabled.length cE) rfl;have s1:=hBS.cell 1 (v := .slice AA s.arcs.length cA) rfl;have sl:=hBS.lt;clear hBS
    go_wp2_with (go_at_call 48;refine (aYo _ s AL cL legit (aDz p g [x]) (bBj p g legit x lo) _ (HS1.out _ (aA3 HC3)) (HBR.out _ (aA0 HW)) HT7.out HT8.out HT9.out HLN.out t6 HT1.out HT3.out HGD.out HCP.out HST.out).mono ?_;rintro e w5 ⟨SA,sc,O,rfl,hwi,hI,hb⟩;have HI:=aA1 (fun w' (kk:Bel w5 w')=>hI.keep kk);have HWI:=aA1 hwi;replace HW:=HW.trans hb;clear hb hI hwi s0 s1 sl)
    have HWZ:=aA1 HW;have HBZ:=Bel.refl w5
    go_loopg [23] legit.length (fun m z wr=>∃ k:Nat,k<=legit.length/\m=legit.length-k/\z = .int .i64 (k:Int)/\Bel w5 wr)
    case atStart=>exact ⟨0,by omega,rfl,rfl,HBZ⟩
    case round =>
     clear HBZ;obtain ⟨k,hk,rfl,rfl,HBr⟩:=hrel
     by_cases hlt:k<legit.length
     .have hd0:decide (k<legit.length)=true:=by simpa using hlt
      have hkI:(k:Int)<(legit.length:Int):=by omega
      have hOl:O.length=legit.length:=HWI.out.1;have hkO:k<O.length:=by omega
      obtain ⟨bO,oO,rfl,hbO,y0⟩:=(HI.out _ HBr).at_ k hkO;have hle2:=(HWI.out.2 k _ (List.getElem?_eq_getElem hkO)).2;have hcb:=HCB.out k hlt;generalize O[k]=y at *;have dy:decide (sp<y)=false:=decide_eq_false (by omega)
      clear hle2 hcb hOl hkO
      go_wp2_with fail
      go_roundg (legit.length-(k+1))
      case rel=>exact ⟨k+1,by omega,rfl,by go_num,HBr⟩
      case measure=>omega
     .have hd0:decide (k<legit.length)=false:=by simpa using hlt
      obtain rfl:k=legit.length:=by omega
      have HWr:=HWZ.out.trans HBr;have ds:decide (0<=sp)=true:=decide_eq_true hs0;clear HW
      go_wp2_with (go_at_call 37;refine (aAk _ (HT.out _ (aA0 HWr))).mono ?_;rintro e w6 ⟨rfl,hb⟩;replace HWr:=HWr.trans hb;clear hb)
      go_ret;exact ⟨by simp [hs0],aA0 HWr⟩
   .have dz:((l.length:Int) != 1)=true:=by simp;omega
    have dz2:(l.length != 1)=true:=by simpa using hz
    clear hs hL hG hle hfew hce hz hvd hln hgood t1 t3 t4 t5 t7 t8 t9 hbd hTm;go_enter func13,ntmps13
    go_upto_region 12 with (first
     | (go_at_call 36;refine (aC4 _ p _ g AL cL legit A ca l _ (HPV.out _ (aA0 HW)) (HGV.out _ (aA0 HW)) (HTR.out _ (aA0 HW))).mono ?_;rintro e w' ⟨rfl,hb⟩;rw [HSM.out];replace HW:=HW.trans hb;clear hb;(try clear p0 p1 p2 g0 g1 gsz);obtain ⟨p0,p1,p2,g0,g1,gsz⟩:=aA6 HW)
     | (go_at_call 38;refine (aBo _ p _ g kind AL cL legit A ca l _ (HPV.out _ (aA0 HW)) (HGV.out _ (aA0 HW)) (HT.out _ (aA0 HW)) (HBR.out _ (aA0 HW)) (HTR.out _ (aA0 HW)) HL.out HGL.out (by omega) hl10 HLE.out HFW.out).mono ?_;rintro e w' ⟨rfl,hb⟩;rw [HCE.out];replace HW:=HW.trans hb;clear hb;(try clear p0 p1 p2 g0 g1 gsz);obtain ⟨p0,p1,p2,g0,g1,gsz⟩:=aA6 HW)
     | (go_at_call 45;have hbd:=aPe _ p _ g kind _ (HPV.out _ (aA0 HW)) (HGV.out _ (aA0 HW)) HL.out HGL.out HFW.out;rw [HBF.out] at hbd;refine hbd.mono ?_;rintro e w1 ⟨vS,rfl,hS,hb⟩;obtain ⟨AE,cE,AA,cA,rfl,_⟩:=(id hS:aCo _ _ _);have HS1:=aA1 (fun w3 (kk:Bel w1 w3)=>hS.keep kk);have HBN:=aA1 (Blk.new w1 #[.slice AE s.enabled.length cE,.slice AA s.arcs.length cA] 70);have HC3:=Bel.refl (w1.alloc (.cells #[.slice AE s.enabled.length cE,.slice AA s.arcs.length cA] 70));clear hS hbd;replace HW:=HW.trans hb;clear hb;(try clear p0 p1 p2 g0 g1 gsz);obtain ⟨p0,p1,p2,g0,g1,gsz⟩:=aA6 HW;replace HW:=HW.alloc (.cells #[.slice AE s.enabled.length cE,.slice AA s.arcs.length cA] 70);clear p0 p1 p2 g0 g1 gsz;have s0:=HBN.out.cell 0 (v := .slice AE s.enabled.length cE) rfl;have s1:=HBN.out.cell 1 (v := .slice AA s.arcs.length cA) rfl;have sl:=HBN.out.lt)
     | (go_at_call 46;refine (aMr _ s AL cL legit (aDz p g l) _ (HS1.out _ (aA3 HC3)) (HBR.out _ (aA0 HW)) HT7.out HT8.out HT9.out HLN.out t6 HT1.out HT3.out HGD.out).mono ?_;rintro e w2 ⟨CA,cc,rfl,hC,hb⟩;have HC:=aA1 (fun w' (k:Bel w2 w')=>hC.keep k);clear hC s0 s1 sl;replace HC3:=HC3.trans hb;replace HW:=HW.trans hb;clear hb)
     | (go_at_call 47;refine (aOr CA cc legit.length _ (HC.out _ (Bel.refl _)) (by omega)).mono ?_;rintro e w3 ⟨rfl,hb⟩;replace HC3:=HC3.trans hb;replace HW:=HW.trans hb;clear hb))
    go_wp2_with (go_at_call 37;refine (aAk _ (HT.out _ (aA0 HW))).mono ?_;rintro e w6 ⟨rfl,hb⟩;replace HW:=HW.trans hb;clear hb)
    go_ret;exact ⟨rfl,aA0 HW⟩
  .have dn:(c2 != 0)=true:=by simpa using h0
   have e2:(c2==c2)=true:=by simp
   clear hs hL hG hle hfew hce h0 hTm;go_enter func13,ntmps13
   go_wp2_with (first
    | (go_at_call 36;refine (aC4 _ p _ g AL cL legit A ca l _ (HPV.out _ (aA0 HW)) (HGV.out _ (aA0 HW)) (HTR.out _ (aA0 HW))).mono ?_;rintro e w' ⟨rfl,hb⟩;rw [HSM.out];replace HW:=HW.trans hb;clear hb;(try clear p0 p1 p2 g0 g1 gsz);obtain ⟨p0,p1,p2,g0,g1,gsz⟩:=aA6 HW)
    | (go_at_call 38;refine (aBo _ p _ g kind AL cL legit A ca l _ (HPV.out _ (aA0 HW)) (HGV.out _ (aA0 HW)) (HT.out _ (aA0 HW)) (HBR.out _ (aA0 HW)) (HTR.out _ (aA0 HW)) HL.out HGL.out (by omega) hl10 HLE.out HFW.out).mono ?_;rintro e w' ⟨rfl,hb⟩;rw [HCE.out];replace HW:=HW.trans hb;clear hb;(try clear p0 p1 p2 g0 g1 gsz);obtain ⟨p0,p1,p2,g0,g1,gsz⟩:=aA6 HW)
    | (go_at_call 39;refine (aDq _ p _ g kind AL cL legit A ca l _ (HPV.out _ (aA0 HW)) (HGV.out _ (aA0 HW)) (HBR.out _ (aA0 HW)) (HTR.out _ (aA0 HW)) HL.out HGL.out hl10 HLE.out HFW.out).mono ?_;rintro e w' ⟨rfl,hb⟩;rw [HCE.out];replace HW:=HW.trans hb;clear hb;(try clear p0 p1 p2 g0 g1 gsz);obtain ⟨p0,p1,p2,g0,g1,gsz⟩:=aA6 HW)
    | (go_at_call 37;refine (aAk _ (HT.out _ (aA0 HW))).mono ?_;rintro e w' ⟨rfl,hb⟩;replace HW:=HW.trans hb;clear hb;(try clear p0 p1 p2 g0 g1 gsz);obtain ⟨p0,p1,p2,g0,g1,gsz⟩:=aA6 HW))
   go_ret;exact ⟨by simp,aA0 HW⟩
end Go.Proofs.YtmifhmdghfbalaaGreatDoor

