/- Merged. -/
import Derived.Test.YtmifhmdghfbalaaGreatDoorZ44
set_option linter.unusedSimpArgs false
set_option linter.unnecessarySimpa false
set_option linter.unusedVariables false
set_option maxRecDepth 100000
set_option maxHeartbeats 8000000
open Go.Proofs.Tryz

namespace Go.Proofs.YtmifhmdghfbalaaGreatDoor
open Go.RowKit
theorem bB5 {p:Prg} {g:Graph} {c:aA8} {q:Nat} {es:List Term} (hm:aCp p g c=0) (hq:q<c.length) (ho:aJf p es=true):aZ7 p g c (q:Int) es=(aAw g c q (-1) (aAm es),0):=by
 have h0:(ofF es (aAx p) false).2=0:=by
  rw [bBr,Bool.and_eq_true,beq_iff_eq] at ho;exact ho.1
 unfold aZ7;rw [if_neg (by rw [hm];simp),if_neg (by omega),if_neg (by rw [h0];simp)]
 simp
theorem aUv (v1:Value) (p:Prg) (v2:Value) (g:Graph) (v3:Value) (c:aA8) (A:Option Addr) (ca:Nat) (l:List (List Term)) (w:World) (h:aE0 w v1 p) (h2:aAl w v2 g) (h3:aDf w v3 c) (hTm:aAu w A l.length l) (hT:aG1 w) :
  Calls prog 16 #[v1,v2,v3,.slice A l.length ca] w fun e w'=>e = .returned (.bool true)/\Bel w w':=by
 have HPV:=aA1 (fun w' (k:Bel w w')=>h.keep k);have HGV:=aA1 (fun w' (k:Bel w w')=>h2.keep k);have HCV:=aA1 (fun w' (k:Bel w w')=>h3.keep k);have HTR:=aA1 (fun w' (k:Bel w w')=>hTm.keep k);have HT:=aA1 (fun w' (k:Bel w w')=>hT.keep k);obtain ⟨A1,k1,A2,k2,rfl,_,_,_,_,_,_⟩:=h;obtain ⟨A3,k3,A4,k4,rfl,_,_,_,_,_,_⟩:=h2;obtain ⟨A5,k5,rfl,_,_,_⟩:=h3;have HW:=Bel.refl ((w.alloc (.cells #[.string p.name,.slice A1 p.vars.length k1,.slice A2 p.rules.length k2] 25)).alloc (.cells #[.slice A3 g.ids.length k3,.slice A4 g.ports.length k4] 29));clear hTm hT;cases hq:aIq p g l with
 | false =>
  go_enter func16,ntmps16
  go_wp2_with (first
   | (go_at_call 49;refine (aBi _ p _ g A ca l _ (HPV.out _ (aA0 HW)) (HGV.out _ (aA0 HW)) (HTR.out _ (aA0 HW))).mono ?_;rintro e w' ⟨rfl,hb⟩;rw [hq];replace HW:=HW.trans hb;clear hb;(try clear p0 p1 p2 g0 g1 gsz);obtain ⟨p0,p1,p2,g0,g1,gsz⟩:=aA6 HW)
   | (go_at_call 37;refine (aAk _ (HT.out _ (aA0 HW))).mono ?_;rintro e w' ⟨rfl,hb⟩;replace HW:=HW.trans hb;clear hb;(try clear p0 p1 p2 g0 g1 gsz);obtain ⟨p0,p1,p2,g0,g1,gsz⟩:=aA6 HW))
  go_ret;exact ⟨rfl,aA0 HW⟩
 | true =>
  have HQ:=aA1 hq;obtain ⟨_,hL,hG,hl10,hle⟩:=aH9 hq;cases hc:aE1 c with
  | false =>
   go_enter func16,ntmps16
   go_wp2_with (first
    | (go_at_call 49;refine (aBi _ p _ g A ca l _ (HPV.out _ (aA0 HW)) (HGV.out _ (aA0 HW)) (HTR.out _ (aA0 HW))).mono ?_;rintro e w' ⟨rfl,hb⟩;rw [hq];replace HW:=HW.trans hb;clear hb;(try clear p0 p1 p2 g0 g1 gsz);obtain ⟨p0,p1,p2,g0,g1,gsz⟩:=aA6 HW)
    | (go_at_call 51;refine (aDc _ c _ (HCV.out _ (aA0 HW))).mono ?_;rintro e w' ⟨rfl,rfl⟩;rw [hc])
    | (go_at_call 37;refine (aAk _ (HT.out _ (aA0 HW))).mono ?_;rintro e w' ⟨rfl,hb⟩;replace HW:=HW.trans hb;clear hb;(try clear p0 p1 p2 g0 g1 gsz);obtain ⟨p0,p1,p2,g0,g1,gsz⟩:=aA6 HW))
   go_ret;exact ⟨rfl,aA0 HW⟩
  | true =>
   have HC:=aA1 hc;have HL:=aA1 hL;have HGL:=aA1 hG;have HLE:=aA1 hle
   by_cases hm:aCp p g c=0
   .have HMD:Hid (decide (aCp p g c=0)=true):=decide_eq_true hm
    cases hv:aD6 p l with
    | false =>
     have HV:=aA1 hv;clear hq hc hL hG hle hm hv;go_enter func16,ntmps16
     go_wp2_with (first
      | (go_at_call 49;refine (aBi _ p _ g A ca l _ (HPV.out _ (aA0 HW)) (HGV.out _ (aA0 HW)) (HTR.out _ (aA0 HW))).mono ?_;rintro e w' ⟨rfl,hb⟩;rw [HQ.out];replace HW:=HW.trans hb;clear hb;(try clear p0 p1 p2 g0 g1 gsz);obtain ⟨p0,p1,p2,g0,g1,gsz⟩:=aA6 HW)
      | (go_at_call 51;refine (aDc _ c _ (HCV.out _ (aA0 HW))).mono ?_;rintro e w' ⟨rfl,rfl⟩;rw [HC.out])
      | (go_at_call 55;refine (aE9 _ p _ g _ c _ (HPV.out _ (aA0 HW)) (HGV.out _ (aA0 HW)) (HCV.out _ (aA0 HW)) HL.out HGL.out HC.out).mono ?_;rintro e w' ⟨rfl,hb⟩;rw [HMD.out];replace HW:=HW.trans hb;clear hb;(try clear p0 p1 p2 g0 g1 gsz);obtain ⟨p0,p1,p2,g0,g1,gsz⟩:=aA6 HW)
      | (go_at_call 50;refine (aBa _ p A ca l _ (HPV.out _ (aA0 HW)) (HTR.out _ (aA0 HW)) HL.out (by omega) (fun e he=>by have:=HLE.out e he;omega)).mono ?_;rintro e w' ⟨rfl,hb⟩;rw [HV.out];replace HW:=HW.trans hb;clear hb;(try clear p0 p1 p2 g0 g1 gsz);obtain ⟨p0,p1,p2,g0,g1,gsz⟩:=aA6 HW)
      | (go_at_call 37;refine (aAk _ (HT.out _ (aA0 HW))).mono ?_;rintro e w' ⟨rfl,hb⟩;replace HW:=HW.trans hb;clear hb;(try clear p0 p1 p2 g0 g1 gsz);obtain ⟨p0,p1,p2,g0,g1,gsz⟩:=aA6 HW))
     go_ret;exact ⟨rfl,aA0 HW⟩
    | true =>
     have HV:=aA1 hv;have HM:=aA1 hm;have hve:aL9 p g c l=(aPj g c l,0):=by unfold aL9;rw [if_neg (by rw [hm];simp),if_neg (by rw [hv];decide)]
     have HR:=aA1 hve;have HVL:Hid ((aPj g c l).length=l.length):=aFb g c l;have HVE:=aA1 (aCk hv).2.2.2;have hcl:c.length<=24:=by rw [aCa hm];exact (aAe (aBn hm).1).2.1.le
     clear hq hc hL hG hle hm hv hve;go_enter func16,ntmps16
     go_wp2_with (first
      | (go_at_call 49;refine (aBi _ p _ g A ca l _ (HPV.out _ (aA0 HW)) (HGV.out _ (aA0 HW)) (HTR.out _ (aA0 HW))).mono ?_;rintro e w' ⟨rfl,hb⟩;rw [HQ.out];replace HW:=HW.trans hb;clear hb;(try clear p0 p1 p2 g0 g1 gsz);obtain ⟨p0,p1,p2,g0,g1,gsz⟩:=aA6 HW)
      | (go_at_call 51;refine (aDc _ c _ (HCV.out _ (aA0 HW))).mono ?_;rintro e w' ⟨rfl,rfl⟩;rw [HC.out])
      | (go_at_call 55;refine (aE9 _ p _ g _ c _ (HPV.out _ (aA0 HW)) (HGV.out _ (aA0 HW)) (HCV.out _ (aA0 HW)) HL.out HGL.out HC.out).mono ?_;rintro e w' ⟨rfl,hb⟩;rw [HMD.out];replace HW:=HW.trans hb;clear hb;(try clear p0 p1 p2 g0 g1 gsz);obtain ⟨p0,p1,p2,g0,g1,gsz⟩:=aA6 HW)
      | (go_at_call 50;refine (aBa _ p A ca l _ (HPV.out _ (aA0 HW)) (HTR.out _ (aA0 HW)) HL.out (by omega) (fun e he=>by have:=HLE.out e he;omega)).mono ?_;rintro e w' ⟨rfl,hb⟩;rw [HV.out];replace HW:=HW.trans hb;clear hb;(try clear p0 p1 p2 g0 g1 gsz);obtain ⟨p0,p1,p2,g0,g1,gsz⟩:=aA6 HW)
      | (go_at_call 52;refine (aLx _ p _ g _ c A ca l _ (HPV.out _ (aA0 HW)) (HGV.out _ (aA0 HW)) (HCV.out _ (aA0 HW)) (HTR.out _ (aA0 HW)) HL.out HGL.out HC.out hl10 HLE.out).mono ?_;rintro e w1 hret;unfold aQa at hret;rw [HR.out] at hret;obtain ⟨X1,c1,rfl,hI1,hb⟩:=hret;dsimp only at hI1;rw [HVL.out] at hI1 ⊢;have HI1:=aA1 (fun w' (kk:Bel w1 w')=>hI1.keep kk);have HB1:=Bel.refl w1;clear hI1;replace HW:=HW.trans hb;clear hb;(try clear p0 p1 p2 g0 g1 gsz);obtain ⟨p0,p1,p2,g0,g1,gsz⟩:=aA6 HW))
     have HW1:=aA1 HW;clear HW p0 p1 p2 g0 g1 gsz
     go_loopg [11] l.length (fun m z wr=>∃ i:Nat,i<=l.length/\m=l.length-i/\z = .int .i64 (i:Int)/\Bel w1 wr)
     case atStart=>exact ⟨0,by omega,rfl,rfl,HB1⟩
     case round =>
      clear HB1;obtain ⟨i,hi,rfl,rfl,HBI⟩:=hrel;obtain ⟨wo,rfl⟩:∃ wo,wo=wr:=⟨_,rfl⟩
      by_cases hlt:i<l.length
      .have hd0:decide (i<l.length)=true:=by simpa using hlt
       have hiI:(i:Int)<(l.length:Int):=by omega
       obtain ⟨b,o,Q,qc,rfl,hb0,x1,hQ,_,_⟩:=(HTR.out _ (Bel.refl w)).at_ i hlt;have hxl:=HLE.out _ (List.getElem_mem hlt);have hex:=HVE.out _ (List.getElem_mem hlt);have heo:=aGn hex;have HVI:Hid ((aPj g c l)[i]'(by rw [HVL.out];exact hlt)=aSi g c l[i] c.length):=by show _=_;simp [aPj]
       have HQX:=aA1 (fun w' (kk:Bel w w')=>aAr.keep hQ kk);have X1':=aA1 x1;generalize l[i]=x at *;have HNM:=aA1 (fun (v:Nat) (hv:v<c.length)=>aPz HM.out heo v hv);have HVF:=aA1 (fun (v:Nat) (hv:v<c.length)=>bB5 (g:=g) (q:=v) HM.out hv hex);have hcell:=aA1 (fun w' (kk:Bel w1 w')=>show (fun w'=>w'.cell? ⟨w.heap.size,0,none⟩=some (.string p.name)/\w'.cell? ⟨w.heap.size,1,none⟩=some (.slice A1 p.vars.length k1)/\w'.cell? ⟨w.heap.size,2,none⟩=some (.slice A2 p.rules.length k2)/\w'.cell? ⟨w.heap.size+1,0,none⟩=some (.slice A3 g.ids.length k3)/\w'.cell? ⟨w.heap.size+1,1,none⟩=some (.slice A4 g.ports.length k4)/\w.heap.size+1<w'.heap.size) w'/\w'.cell? ⟨b,o+i,none⟩=some (.slice Q x.length qc)/\b<w'.heap.size from ⟨aA6 (HW1.out.trans kk),((aA0 (HW1.out.trans kk)).cell hb0).trans X1'.out,Nat.lt_of_lt_of_le hb0 (aA0 (HW1.out.trans kk)).size⟩)
       clear hQ x1 heo hex
       go_wp2_with fail
       go_loopg [12,13] c.length (fun m s z wr=>∃ v:Nat,v<=c.length/\m=c.length-v/\s = .int .i64 (aSi g c x v)/\z = .int .i64 (v:Int)/\Bel wo wr)
       case atStart=>exact ⟨0,by omega,rfl,by simp [aSi],rfl,Bel.refl wo⟩
       case round =>
        obtain ⟨v,hv,rfl,rfl,rfl,HB⟩:=hrel;have HB2:=HBI.trans HB
        by_cases hvl:v<c.length
        .have hd1:decide (v<c.length)=true:=by simpa using hvl
         have hn:=HNM.out v hvl;obtain ⟨s1,s2⟩:=aSj v fun u hu=>HNM.out u (by omega)
         have HSS:=aA1 (aO0 g c x v);have HVV:=aA1 (HVF.out v hvl);unfold Num at hn;obtain ⟨ev,hev⟩:∃ ev,aAw g c v (-1) (aAm x)=ev:=⟨_,rfl⟩;obtain ⟨sv,hsv⟩:∃ sv,aSi g c x v=sv:=⟨_,rfl⟩;rw [hev] at hn HSS HVV;rw [hsv] at s1 s2 HSS;rw [hsv];clear hev hsv
         go_wp2_with fail
         replace HB2:=HB2.drew;have HB3:=HB.drew
         go_region_held3 (fun w'=>(fun w'=>w'.cell? ⟨w.heap.size,0,none⟩=some (.string p.name)/\w'.cell? ⟨w.heap.size,1,none⟩=some (.slice A1 p.vars.length k1)/\w'.cell? ⟨w.heap.size,2,none⟩=some (.slice A2 p.rules.length k2)/\w'.cell? ⟨w.heap.size+1,0,none⟩=some (.slice A3 g.ids.length k3)/\w'.cell? ⟨w.heap.size+1,1,none⟩=some (.slice A4 g.ports.length k4)/\w.heap.size+1<w'.heap.size) w'/\w'.cell? ⟨b,o+i,none⟩=some (.slice Q x.length qc)/\b<w'.heap.size) (exact hcell.out _ HB2) ((go_simp;go_at_call 56;refine (aYt _ p _ g _ c _ _ _ x _ (HPV.out _ (aA0 (HW1.out.trans HB2))) (HGV.out _ (aA0 (HW1.out.trans HB2))) (HCV.out _ (aA0 (HW1.out.trans HB2))) (HQX.out _ (aA0 (HW1.out.trans HB2))) HL.out HGL.out HC.out (by omega)).mono ?_;rintro e w' ⟨rfl,hb⟩;rw [HVV.out];replace HB2:=HB2.trans hb;replace HB3:=HB3.trans hb;clear hb))
         go_wp2_with fail
         go_roundg (c.length-(v+1))
         case rel=>exact ⟨v+1,by omega,rfl,by rw [HSS.out],by go_num,HB3⟩
         case measure=>omega
        .have hd1:decide (v<c.length)=false:=by simpa using hvl
         obtain rfl:v=c.length:=by omega
         obtain ⟨bI,oI,rfl,hbI,y0⟩:=(HI1.out _ HB2).at_ i (by rw [HVL.out];exact hlt)
         rw [HVI.out] at y0;obtain ⟨sv,hsv⟩:∃ sv,aSi g c x c.length=sv:=⟨_,rfl⟩;rw [hsv] at y0;rw [hsv];have dn:(sv != sv)=false:=by simp
         clear hsv
         go_wp2_with fail
         go_roundg (l.length-(i+1))
         case rel=>exact ⟨i+1,by omega,rfl,by go_num,HB2⟩
         case measure=>omega
      .have hd0:decide (i<l.length)=false:=by simpa using hlt
       obtain rfl:i=l.length:=by omega
       have HW:=HW1.out.trans HBI
       go_wp2_with (go_at_call 37;refine (aAk _ (HT.out _ (aA0 HW))).mono ?_;rintro e w6 ⟨rfl,hb⟩;replace HW:=HW.trans hb;clear hb)
       go_ret;exact ⟨rfl,aA0 HW⟩
   .have HMD:Hid (decide (aCp p g c=0)=false):=decide_eq_false hm
    clear hq hc hL hG hle hm;go_enter func16,ntmps16
    go_wp2_with (first
     | (go_at_call 49;refine (aBi _ p _ g A ca l _ (HPV.out _ (aA0 HW)) (HGV.out _ (aA0 HW)) (HTR.out _ (aA0 HW))).mono ?_;rintro e w' ⟨rfl,hb⟩;rw [HQ.out];replace HW:=HW.trans hb;clear hb;(try clear p0 p1 p2 g0 g1 gsz);obtain ⟨p0,p1,p2,g0,g1,gsz⟩:=aA6 HW)
     | (go_at_call 51;refine (aDc _ c _ (HCV.out _ (aA0 HW))).mono ?_;rintro e w' ⟨rfl,rfl⟩;rw [HC.out])
     | (go_at_call 55;refine (aE9 _ p _ g _ c _ (HPV.out _ (aA0 HW)) (HGV.out _ (aA0 HW)) (HCV.out _ (aA0 HW)) HL.out HGL.out HC.out).mono ?_;rintro e w' ⟨rfl,hb⟩;rw [HMD.out];replace HW:=HW.trans hb;clear hb;(try clear p0 p1 p2 g0 g1 gsz);obtain ⟨p0,p1,p2,g0,g1,gsz⟩:=aA6 HW)
     | (go_at_call 37;refine (aAk _ (HT.out _ (aA0 HW))).mono ?_;rintro e w' ⟨rfl,hb⟩;replace HW:=HW.trans hb;clear hb;(try clear p0 p1 p2 g0 g1 gsz);obtain ⟨p0,p1,p2,g0,g1,gsz⟩:=aA6 HW))
    go_ret;exact ⟨rfl,aA0 HW⟩
end Go.Proofs.YtmifhmdghfbalaaGreatDoor

