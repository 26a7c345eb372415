/- Merged. -/
import Derived.Test.YtmifhmdghfbalaaGreatDoorZ31
import Derived.Test.YtmifhmdghfbalaaGreatDoorZ32
set_option linter.unusedSimpArgs false
set_option linter.unnecessarySimpa false
set_option linter.unusedVariables false
set_option maxRecDepth 100000
set_option maxHeartbeats 4000000
open Go.Proofs.Tryz

namespace Go.Proofs.YtmifhmdghfbalaaGreatDoor
open Go.RowKit
theorem bGx (m:Nat) (val:Nat->Int) (j:Nat):(aSq m val j).set j 0=aSq m val j:=by
 apply List.ext_getElem
 .simp
 .intro i h1 h2
  rw [List.getElem_set]
  by_cases h:j=i
  .subst h;rw [if_pos rfl];simp [aSq]
  .rw [if_neg h]
theorem aQl (B:Nat) (p:Prg) (g:Graph) (v3:Value) (c:aA8) (A:Option Addr) (ca:Nat) (l:List (List Term)) (w:World) (hS:aI0 w B p g) (h3:aDf w v3 c) (hT:aAu w A l.length l) (hm:aCp p g c=0) (he:∀ e∈l,EOK p e) (hl:l.length<=10) :
  Calls prog 102 #[.pointer (some ⟨B,0,none⟩),v3,.slice A l.length ca] w (bEr (aPj g c l) w):=by
 have HSC:=aA1 (fun w' (k:Bel w w')=>hS.keep k);have HCV:=aA1 (fun w' (k:Bel w w')=>h3.keep k);have HTR:=aA1 (fun w' (k:Bel w w')=>hT.keep k);obtain ⟨A5,k5,rfl,_,_,_⟩:=h3;have HLE:=aA1 he;have HM:=aA1 hm;have hcl:c.length<=24:=by rw [aCa hm];exact (aAe (aBn hm).1).2.1.le
 clear hS hT he hm;obtain ⟨j0,hj0,hy0,hy1,hy2⟩:=info_parts aFm;have HVL:Hid ((aPj g c l).length=l.length):=aFb g c l;obtain ⟨val,hval⟩:∃ val:Nat->Int,∀ u,val u=(aPj g c l).getD u 0:=⟨_,fun _=>rfl⟩;have HVAL:Hid (∀ (i:Nat) (h:i<l.length),val i=aSi g c l[i] c.length):=fun i h=>by rw [hval,aA7 (by rw [HVL.out];exact h)];simp [aPj]
 have HFULL:Hid ((List.range l.length).map (fun x=>val x)=aPj g c l):=by
  apply List.ext_getElem
  .rw [HVL.out];simp
  .intro i h1 h2
   simp only [List.getElem_map,List.getElem_range]
   rw [hval,aA7 h2]
 clear hval;go_enter func102,ntmps102
 go_wp2_with (at_make;refine aCu _ rfl 26 (.tmp 12) (.tmp 12) rfl w.heap.size 3 j0 (.int .i64 0) 1 underlying26 hj0 hy0 hy1 .i64 .i64 l.length rfl rfl (by rw [hy2];omega) (by unfold maxLen;omega) (Nat.le_refl _) ?_;intro gr w1 hown hb1;rw [aEj _ rfl,<- aYw l.length val] at hown;have HO1:=aA1 hown;have HB1:=hb1;clear hown hb1)
 go_loopg [16] l.length (fun m z wr=>∃ i:Nat,i<=l.length/\m=l.length-i/\z = .int .i64 (i:Int)/\Hid (wr.ownsRow w.heap.size 3 1 (.slice (some ⟨gr,0,none⟩) l.length l.length) l.length ((aSq l.length val i).map (Value.int .i64)))/\Bel w wr)
 case atStart=>exact ⟨0,by omega,rfl,rfl,HO1,HB1⟩
 case round =>
  clear HO1 HB1;obtain ⟨i,hi,rfl,rfl,HO,HW⟩:=hrel;obtain ⟨wo,rfl⟩:∃ wo,wo=wr:=⟨_,rfl⟩
  by_cases hlt:i<l.length
  .have hd0:decide (i<l.length)=true:=by simpa using hlt
   have hkI:(i:Int)<(l.length:Int):=by omega
   obtain ⟨b,o,Q,qc,rfl,hb0,x0,hQ,_,_⟩:=(HTR.out _ (Bel.refl w)).at_ i hlt;have x1:=(HW.cell hb0).trans x0;have hb1:=Nat.lt_of_lt_of_le hb0 HW.size;clear x0;have heo:=HLE.out _ (List.getElem_mem hlt);have HVI:=aA1 (HVAL.out i hlt);generalize l[i]=x at *;have HQ:=aA1 (fun w' (k:Bel w w')=>hQ.keep k);have HEO:=aA1 heo;have HNM:=aA1 (fun (v:Nat) (hv:v<c.length)=>aPz HM.out heo v hv);clear hQ heo
   go_wp2_with fail
   clear x1 hb0 hb1
   go_loopg [23] c.length (fun m z wr=>∃ v:Nat,v<=c.length/\m=c.length-v/\z = .int .i64 (v:Int)/\Hid (wr.ownsRow w.heap.size 3 1 (.slice (some ⟨gr,0,none⟩) l.length l.length) l.length (((aSq l.length val i).set i (aSi g c x v)).map (Value.int .i64)))/\Bel w wr)
   case atStart=>exact ⟨0,by omega,rfl,rfl,by show World.ownsRow _ _ _ _ _ _ _;rw [show aSi g c x 0=0 by simp [aSi],bGx];exact HO.out,HW⟩
   case round =>
    obtain ⟨v,hv,rfl,rfl,HO2,HW2⟩:=hrel
    by_cases hvl:v<c.length
    .have hd1:decide (v<c.length)=true:=by simpa using hvl
     have hn:=HNM.out v hvl;obtain ⟨s1,s2⟩:=aSj v fun u hu=>HNM.out u (by omega)
     have HSS:=aA1 (aO0 g c x v);have HSK:=aA1 (aKr HM.out hvl);unfold Num at hn;obtain ⟨ev,hev⟩:∃ ev,aAw g c v (-1) (aAm x)=ev:=⟨_,rfl⟩;obtain ⟨sv,hsv⟩:∃ sv,aSi g c x v=sv:=⟨_,rfl⟩;rw [hev] at hn HSS;rw [hsv] at s1 s2 HSS HO2;have HEV:=aA1 hev;have hgl:=aAf HO2.out;have hxl:((aSq l.length val i).set i sv).length=l.length:=by simp [aS6]
     have hyi:=aC8 HO2.out i (by rw [List.length_map,hxl];exact hlt)
     rw [List.getElem_map,List.getElem_set_self] at hyi;have hfz:=HO2.out.frozenAt i;clear hev hsv
     go_wp2_with fail
     refine aAd.start (fun w'=>w'.cell? ⟨gr,i,none⟩=some (.int .i64 sv)/\gr<w'.heap.size) 11 (by kernel_rfl) ?_
     have HW3:=HW2.drew;have hHeld:wr.drew.cell? ⟨gr,i,none⟩=some (.int .i64 sv)/\gr<wr.drew.heap.size:=⟨hyi,hgl.2⟩
     (refine aAd.t (v:=?_) 0 26 rfl rfl (by kernel_rfl) (fun _ _ _ h=>h) hHeld (Or.inl ⟨by rfl,?_⟩) ?_;rotate_left 1;focus (intro w' hSw;(try dsimp only at hSw);go_simp;(try with_reducible rfl);done));(refine aAd.t (v:=?_) 1 27 rfl rfl (by kernel_rfl) (fun _ _ _ h=>h) hHeld (Or.inl ⟨by rfl,?_⟩) ?_;rotate_left 1;focus (intro w' hSw;(try dsimp only at hSw);go_simp;(try with_reducible rfl);done));(refine aAd.t (v:=?_) 2 28 rfl rfl (by kernel_rfl) (fun _ _ _ h=>h) hHeld (Or.inl ⟨by rfl,?_⟩) ?_;rotate_left 1;focus (intro w' hSw;(try dsimp only at hSw);go_simp;(try with_reducible rfl);done));(refine aAd.t (v:=?_) 3 29 rfl rfl (by kernel_rfl) (fun _ _ _ h=>h) hHeld (Or.inl ⟨by rfl,?_⟩) ?_;rotate_left 1;focus (intro w' hSw;(try dsimp only at hSw);go_simp;(try with_reducible rfl);done));(refine aAd.t (v:=?_) 4 30 rfl rfl (by kernel_rfl) (fun _ _ _ h=>h) hHeld (Or.inl ⟨by rfl,?_⟩) ?_;rotate_left 1;focus (intro w' hSw;(try dsimp only at hSw);go_simp;(try with_reducible rfl);done));(refine aAd.t (v:=?_) 5 31 rfl rfl (by kernel_rfl) (fun _ _ _ h=>h) hHeld (Or.inl ⟨by rfl,?_⟩) ?_;rotate_left 1;focus (intro w' hSw;(try dsimp only at hSw);go_simp;(try with_reducible rfl);done));(refine aAd.t (v:=?_) 6 32 rfl rfl (by kernel_rfl) (fun _ _ _ h=>h) hHeld (Or.inl ⟨by rfl,?_⟩) ?_;rotate_left 1;focus (intro w' hSw;(try dsimp only at hSw);go_simp;(try with_reducible rfl);done));(refine aAd.t (v:=?_) 7 33 rfl rfl (by kernel_rfl) (fun _ _ _ h=>h) hHeld (Or.inl ⟨by rfl,?_⟩) ?_;rotate_left 1;focus (intro w' hSw;(try dsimp only at hSw);go_simp;(try with_reducible rfl);done))
     refine aAd.one (i:=8) (by kernel_rfl) rfl (fun K hK=>?_)
     go_simp
     go_at_call 152
     refine (aIr B p g _ c v _ _ x _ (HSC.out _ HW3) (HCV.out _ HW3) (HQ.out _ HW3) HSK.out HEO.out).mono ?_
     rintro e w4 ⟨rfl,hb⟩;rw [HEV.out]
     (try go_simp)
     have hyi4:=(hb.cell (show gr<wr.drew.heap.size from hgl.2)).trans (show wr.drew.cell? ⟨gr,i,none⟩=some (.int .i64 sv) from hyi)
     have hgl4:gr<w4.heap.size:=Nat.lt_of_lt_of_le (show gr<wr.drew.heap.size from hgl.2) hb.size
     have HO4:=aA1 (hb.owns (show wr.drew.ownsRow _ _ _ _ _ _ from HO2.out))
     have HW4:=HW3.trans hb;refine hK.out _ _ (fun _=>⟨hyi4,hgl4⟩) ?_
     clear hK K hHeld hyi hfz hb;have hHeld:w4.cell? ⟨gr,i,none⟩=some (.int .i64 sv)/\gr<w4.heap.size:=⟨hyi4,hgl4⟩;have hfz:=HO4.out.frozenAt i
     (try simp only [Act.put,List.setIfInBounds_toArray,List.set_cons_zero,List.set_cons_succ])
     (refine aAd.t (v:=?_) 9 35 rfl rfl (by kernel_rfl) (fun _ _ _ h=>h) hHeld (Or.inl ⟨by rfl,?_⟩) ?_;rotate_left 1;focus (intro w' hSw;(try dsimp only at hSw);go_simp;(try with_reducible rfl);done))
     (refine aAd.t (v:=?_) 10 36 rfl rfl (by kernel_rfl) (fun _ _ _ h=>h) hHeld (Or.inl ⟨by rfl,?_⟩) ?_;rotate_left 1;focus (intro w' hSw;(try dsimp only at hSw);go_simp;(try with_reducible rfl);done))
     (refine aAd.one (i:=11) (by kernel_rfl) rfl (fun K hK=>?_));go_simp;refine hK.out _ _ (fun h=>absurd rfl h) ?_;clear hK K;refine aAd.done (by kernel_rfl) ?_ _;(try simp only [Act.put,List.setIfInBounds_toArray,List.set_cons_zero,List.set_cons_succ])
     go_wp2_with fail
     go_roundg (c.length-(v+1))
     case rel =>
      refine ⟨v+1,by omega,rfl,by go_num,?_,HW4.setCell (by simpa using hgl.1) _⟩
      have h1:=(HO4.out.stored i (.int .i64 (sv+ev))).1;rw [<- List.map_set,List.set_set] at h1;show World.ownsRow _ _ _ _ _ _ _
      rw [HSS.out];exact h1
     case measure=>omega
    .have hd1:decide (v<c.length)=false:=by simpa using hvl
     obtain rfl:v=c.length:=by omega
     go_wp2_with fail
     go_roundg (l.length-(i+1))
     case rel =>
      refine ⟨i+1,by omega,rfl,by go_num,?_,HW2⟩
      show World.ownsRow _ _ _ _ _ _ _
      rw [<- bC8,HVI.out];exact HO2.out
     case measure=>omega
  .have hd0:decide (i<l.length)=false:=by simpa using hlt
   obtain rfl:i=l.length:=by omega
   go_wp2_with fail
   go_ret;have h1:=HO.out;rw [aYv,HFULL.out] at h1;exact ⟨_,_,by rw [HVL.out];rfl,by rw [HVL.out];exact h1,HW⟩
theorem aLx (v1:Value) (p:Prg) (v2:Value) (g:Graph) (v3:Value) (c:aA8) (A:Option Addr) (ca:Nat) (l:List (List Term)) (w:World) (h:aE0 w v1 p) (h2:aAl w v2 g) (h3:aDf w v3 c) (hT:aAu w A l.length l) (hL:aAt p=true) (hG:aB3 g=true) (hC:aE1 c=true) (hl:l.length<=10) (he:∀ e∈l,e.length<=250) :
  Calls prog 52 #[v1,v2,v3,.slice A l.length ca] w (aQa (aL9 p g c l) w):=by
 have HF:Hid (aL9 p g c l=if aCp p g c≠0 then ([],aCp p g c) else if aD6 p l=false then ([],7) else (aPj g c l,0)):=rfl
 have HPV:=aA1 (fun w' (k:Bel w w')=>h.keep k);have HGV:=aA1 (fun w' (k:Bel w w')=>h2.keep k);have HCV:=aA1 (fun w' (k:Bel w w')=>h3.keep k);have HTR:=aA1 (fun w' (k:Bel w w')=>hT.keep k);obtain ⟨A1,k1,A2,k2,rfl,_,_,_,_,_,_⟩:=h;obtain ⟨A3,k3,A4,k4,rfl,_,_,_,_,_,_⟩:=h2;have HW:=Bel.refl ((w.alloc (.cells #[.string p.name,.slice A1 p.vars.length k1,.slice A2 p.rules.length k2] 25)).alloc (.cells #[.slice A3 g.ids.length k3,.slice A4 g.ports.length k4] 29));have HL:=aA1 hL;have HGL:=aA1 hG;have HCL:=aA1 hC;have HLE:=aA1 he;clear hL hG hC hT he
 by_cases hm:aCp p g c=0
 .rw [if_neg (by simpa using hm)] at HF
  have HM:=aA1 hm;have HGO:=aA1 (aAe (aBn hm).1).2.1;clear hm;cases hv:aD6 p l with
  | false =>
   rw [hv,if_pos rfl] at HF;have HV:=aA1 hv;go_enter func52,ntmps52
   go_wp2_with (first
    | (go_at_call 101;refine (aKq _ p _ g _ c _ (HPV.out _ (aA0 HW)) (HGV.out _ (aA0 HW)) (HCV.out _ (aA0 HW)) HL.out HGL.out HCL.out).mono ?_;rintro e w' ⟨rfl,hb⟩;rw [HM.out];replace HW:=HW.trans hb;clear hb;(try clear p0 p1 p2 g0 g1 gsz);obtain ⟨p0,p1,p2,g0,g1,gsz⟩:=aA6 HW)
    | (go_at_call 54;refine (aEf _ p A ca l _ (HPV.out _ (aA0 HW)) (HTR.out _ (aA0 HW)) HL.out (by omega) (fun e he=>by have:=HLE.out e he;omega)).mono ?_;rintro e w' ⟨rfl,hb⟩;rw [HV.out];replace HW:=HW.trans hb;clear hb;(try clear p0 p1 p2 g0 g1 gsz);obtain ⟨p0,p1,p2,g0,g1,gsz⟩:=aA6 HW))
   go_ret2
   rw [HF.out];exact ⟨none,0,rfl,aAh.nil,aA0 HW⟩
  | true =>
   rw [hv,if_neg (by decide)] at HF
   have HV:=aA1 hv;have HEO:=aA1 (fun e he=>aGn ((aCk hv).2.2.2 e he));go_enter func52,ntmps52
   go_wp2_with (first
    | (go_at_call 101;refine (aKq _ p _ g _ c _ (HPV.out _ (aA0 HW)) (HGV.out _ (aA0 HW)) (HCV.out _ (aA0 HW)) HL.out HGL.out HCL.out).mono ?_;rintro e w' ⟨rfl,hb⟩;rw [HM.out];replace HW:=HW.trans hb;clear hb;(try clear p0 p1 p2 g0 g1 gsz);obtain ⟨p0,p1,p2,g0,g1,gsz⟩:=aA6 HW)
    | (go_at_call 54;refine (aEf _ p A ca l _ (HPV.out _ (aA0 HW)) (HTR.out _ (aA0 HW)) HL.out (by omega) (fun e he=>by have:=HLE.out e he;omega)).mono ?_;rintro e w' ⟨rfl,hb⟩;rw [HV.out];replace HW:=HW.trans hb;clear hb;(try clear p0 p1 p2 g0 g1 gsz);obtain ⟨p0,p1,p2,g0,g1,gsz⟩:=aA6 HW)
    | (go_at_call 103;refine (aY5 _ p _ g _ (HPV.out _ (aA0 HW)) (HGV.out _ (aA0 HW)) HGO.out).mono ?_;rintro e w3 ⟨SB,rfl,hSR,_,hb⟩;have HSR:=aA1 hSR;clear hSR;replace HW:=HW.trans hb;clear hb;(try clear p0 p1 p2 g0 g1 gsz);obtain ⟨p0,p1,p2,g0,g1,gsz⟩:=aA6 HW)
    | (go_at_call 102;refine (aQl SB p g _ c A ca l _ HSR.out (HCV.out _ (aA0 HW)) (HTR.out _ (aA0 HW)) HM.out HEO.out hl).mono ?_;rintro e w' ⟨RA,rk,rfl,hR,hb⟩;have HR:=aA1 (aGj hR);clear hR;replace HW:=HW.trans hb;clear hb;(try clear p0 p1 p2 g0 g1 gsz);obtain ⟨p0,p1,p2,g0,g1,gsz⟩:=aA6 HW))
   go_ret2
   rw [HF.out];exact ⟨_,_,rfl,HR.out,aA0 HW⟩
 .rw [if_pos hm] at HF
  have d0:(aCp p g c != 0)=true:=by simpa using hm
  clear hm;go_enter func52,ntmps52
  go_wp2_with (go_at_call 101;refine (aKq _ p _ g _ c _ (HPV.out _ (aA0 HW)) (HGV.out _ (aA0 HW)) (HCV.out _ (aA0 HW)) HL.out HGL.out HCL.out).mono ?_;rintro e w' ⟨rfl,hb⟩;replace HW:=HW.trans hb;clear hb;(try clear p0 p1 p2 g0 g1 gsz);obtain ⟨p0,p1,p2,g0,g1,gsz⟩:=aA6 HW)
  go_ret2
  rw [HF.out];exact ⟨none,0,rfl,aAh.nil,aA0 HW⟩
def bI0 (p:Prg) (g:Graph) (k:Nat) (w:World) (e:Ending) (w':World):Prop :=
 ∃ gb cap bs,e = .returned (.slice (some ⟨gb,0,none⟩) g.ports.length cap)/\RowsC w' w.heap.size (some ⟨gb,0,none⟩) cap p.vars.length (aBp p g k) bs/\Bel w w'
theorem bJp {α:Type} {l:List α} {i:Nat} {x:α} (h:l[i]?=some x):l.set i x=l:=by
 obtain ⟨hi,rfl⟩:=List.getElem?_eq_some_iff.1 h;exact List.set_getElem_self hi
theorem aRz (v1:Value) (p:Prg) (v2:Value) (g:Graph) (k:Nat) (w:World) (h:aE0 w v1 p) (h2:aAl w v2 g) (hL:aAt p=true) (hG:aB3 g=true) (hf:aCf p g=0) (hk:(k:Int)<aC7 p g) (hk2:k<=32768) :
  Calls prog 88 #[v1,v2,.int .i64 (k:Int)] w (bI0 p g k w):=by
 have HPV:=aA1 (fun w' (k:Bel w w')=>h.keep k);have HGV:=aA1 (fun w' (k:Bel w w')=>h2.keep k);obtain ⟨A1,k1,A2,k2,rfl,_,_,_,_,_,_⟩:=h;obtain ⟨A3,k3,A4,k4,rfl,_,_,_,_,_,_⟩:=h2;have HW:=Bel.refl ((w.alloc (.cells #[.string p.name,.slice A1 p.vars.length k1,.slice A2 p.rules.length k2] 25)).alloc (.cells #[.slice A3 g.ids.length k3,.slice A4 g.ports.length k4] 29));have HL:=aA1 hL;have HGL:=aA1 hG;have HFT:=aA1 hf;obtain ⟨h1,h3,_⟩:=aAe hf;have HCN:=aA1 (aB6 h1).1;have HGO:=aA1 h3;have hp1:=aHl h1;have hle:=h3.le;have hpos:=h3.pos;have hv10:=(aAi hL).2.1;have HTL:Hid ((aAa p g).length=g.ports.length):=by show _=_;rw [aAj,h3.ids]
 have HOK:=aA1 (aIe hf);have HSM:=aA1 (aEd hf);have HC:Hid ((aU6 (aAa p g) (k:Int)).1=aBp p g k):=bH3 (aIe hf) (by omega) hk
 clear hL hG hf h1 h3 hk;obtain ⟨T,hT⟩:∃ T,aAa p g=T:=⟨_,rfl⟩;have HT:=aA1 hT;rw [hT] at HTL HOK HSM HC;clear hT;go_enter func88,ntmps88
 go_wp2_with (go_at_call 138;refine (aT7 _ p _ g _ (HPV.out _ (aA0 HW)) (HGV.out _ (aA0 HW)) HL.out HGL.out HFT.out).mono ?_;rintro e w' ⟨gb,cap,bs,rfl,hR,hb⟩;rw [HT.out] at hR;have HR:=aA1 (hR.lower (base':=w.heap.size+1+1) (by have:=HW.size;simp at this ⊢;try omega));clear hR;replace HW:=HW.trans hb;clear hb;(try clear p0 p1 p2 g0 g1 gsz);obtain ⟨p0,p1,p2,g0,g1,gsz⟩:=aA6 HW)
 clear p0 p1 p2 g0 g1 gsz
 go_loopg [2,9] g.ports.length (fun m kk z wr=>∃ (v:Nat),v<=g.ports.length/\v=m/\kk = .int .i64 (aU6 (T.drop v) (k:Int)).2/\z = .int .i64 ((v:Int)-1)/\Hid (RowsC wr (w.heap.size+1+1) (some ⟨gb,0,none⟩) cap p.vars.length (aT0 T (k:Int) v) bs)/\Bel ((w.alloc (.cells #[.string p.name,.slice A1 p.vars.length k1,.slice A2 p.rules.length k2] 25)).alloc (.cells #[.slice A3 g.ids.length k3,.slice A4 g.ports.length k4] 29)) wr)
 case atStart =>
  refine ⟨g.ports.length,by omega,rfl,?_,by go_num,?_,HW⟩
  .rw [<- HTL.out,List.drop_length];rfl
  .show RowsC _ _ _ _ _ _ _
   rw [<- HTL.out,bAo];exact HR.out
 case round =>
  clear HW HR;obtain ⟨v',hv,rfl,rfl,hz,HO,HW⟩:=hrel;obtain ⟨wo,rfl⟩:∃ wo,wo=wr:=⟨_,rfl⟩
  by_cases hv0:0<v'
  .obtain ⟨v,rfl⟩:∃ v,v'=v+1:=⟨v' - 1,by omega⟩
   have hd0:decide ((0:Int)<=(v:Int))=true:=decide_eq_true (by omega)
   have hlt:v<T.length:=by rw [HTL.out];omega
   have hvi:(((v+1:Nat):Int)-1)=(v:Int):=by omega
   rw [hvi] at hz;subst hz
   have hrow:T[v]=aEp p g v:=by
    have:v<(aAa p g).length:=by rw [HT.out];exact hlt
    have e:=aDe (p:=p) (g:=g) this;simp only [HT.out] at e
    exact e
   have hrl:T[v].length=p.vars.length:=by rw [hrow,aBu]
   obtain ⟨s1,s2,s3⟩:=bDw (T:=T) (k:=(k:Int)) hlt;have S1:=aA1 s1;have S2:=aA1 s2;obtain ⟨n1,n2⟩:=aYx (T:=T.drop (v+1)) (k:=(k:Int)) (aQ2 HOK.out _) (by omega)
   have HOT:Hid (okL T[v]):=HOK.out _ (List.getElem_mem hlt);obtain ⟨K,hK⟩:∃ K,(aU6 (T.drop (v+1)) (k:Int)).2=K:=⟨_,rfl⟩;rw [hK] at n1 n2 S1 S2;obtain ⟨D,hD⟩:∃ D,aT0 T (k:Int) (v+1)=D:=⟨_,rfl⟩;rw [hD] at s3 S1 HO;have HD3:=aA1 s3;rw [hK];obtain ⟨t,ht⟩:∃ t,T[v]=t:=⟨_,rfl⟩;rw [ht] at hrow hrl S1 S2 HD3 HOT
   have HSMv:Hid (∀ x (hx:x<t.length),-4096<=(t[x]).1/\(t[x]).1<=4096/\(t[x]).1<=(t[x]).2/\(t[x]).2<=80000):=fun x hx=>by
    have h0:x<(T[v]).length:=by rw [ht];exact hx
    have:=HSM.out.at_ hlt (j:=x) h0;simp only [ht] at this
    exact this
   have HROW:=aA1 hrow;obtain ⟨b,hb1,hb2,hb3,_,_,_⟩:=HO.out.row_at HD3.out;have HRB:=aA1 hb1;clear s1 s2 s3 hK hD ht hrow hb1;obtain ⟨p0,p1,p2,g0,g1,gsz⟩:=aA6 HW;have hvn:(v:Int)<(g.ports.length:Int):=by omega
   go_wp2_with fail
   clear p0 p1 p2 g0 g1 gsz hb2 hb3;have hvD:v<D.length:=(List.getElem?_eq_some_iff.1 HD3.out).1;have HVD:Hid (v<D.length):=hvD;clear hvD
   go_loopg [2,10] p.vars.length (fun m kk z wr=>∃ (x:Nat),x<=p.vars.length/\x=m/\kk = .int .i64 (aT9 (t.drop x) K).2/\z = .int .i64 ((x:Int)-1)/\Hid (RowsC wr (w.heap.size+1+1) (some ⟨gb,0,none⟩) cap p.vars.length (D.set v (aSz t K x)) bs)/\Bel ((w.alloc (.cells #[.string p.name,.slice A1 p.vars.length k1,.slice A2 p.rules.length k2] 25)).alloc (.cells #[.slice A3 g.ids.length k3,.slice A4 g.ports.length k4] 29)) wr)
   case atStart =>
    refine ⟨p.vars.length,by omega,rfl,?_,by go_num,?_,HW⟩
    .rw [<- hrl,List.drop_length];rfl
    .show RowsC _ _ _ _ _ _ _
     rw [<- hrl,bAn,bJp HD3.out];rw [hrl];exact HO.out
   case round =>
    clear HW HO;obtain ⟨x',hx,hm,rfl,hz,HO,HW⟩:=hrel;subst hm
    by_cases hx0:0<x'
    .obtain ⟨x,rfl⟩:∃ x,x'=x+1:=⟨x' - 1,by omega⟩
     have hxi:(((x+1:Nat):Int)-1)=(x:Int):=by omega
     rw [hxi] at hz;subst hz;clear hxi;have hd1:decide ((0:Int)<=(x:Int))=true:=decide_eq_true (by omega)
     have hlx:x<t.length:=by rw [hrl];omega
     have hlv:x<p.vars.length:=by omega
     have HNUM:=aA1 (List.all_eq_true.1 HCN.out _ (List.getElem_mem hlv));obtain ⟨q1,q2,q3⟩:=bDu (k:=K) hlx;obtain ⟨r1,r2⟩:=aS8 (bs:=t.drop (x+1)) (k:=K) (aNm HOT.out _) n1;have hsm:=HSMv.out x hlx
     have HTX:Hid (t[x]=aAg p.vars[x] g v):=by
      show _=_
      have h1:=HROW.out;subst h1;simp [aEp]
     obtain ⟨lo,hlo⟩:∃ lo,(t[x]).1=lo:=⟨_,rfl⟩;obtain ⟨hi,hhi⟩:∃ hi,(t[x]).2=hi:=⟨_,rfl⟩;obtain ⟨K2,hK2⟩:∃ K2,(aT9 (t.drop (x+1)) K).2=K2:=⟨_,rfl⟩;rw [hK2] at r1 r2 q1 q2;rw [hlo,hhi] at q1 q2 hsm;rw [hlo] at q3;rw [hK2];have HLO:Hid ((aAg p.vars[x] g v).1=lo):=by show _=_;rw [<- HTX.out,hlo]
     have HHI:Hid ((aAg p.vars[x] g v).2=hi):=by show _=_;rw [<- HTX.out,hhi]
     have Q1:=aA1 q1;have Q2:=aA1 q2;obtain ⟨DX,hDX⟩:∃ DX,aSz t K (x+1)=DX:=⟨_,rfl⟩;rw [hDX] at q3 Q1 HO;have HDV:Hid ((D.set v DX)[v]?=some DX):=List.getElem?_set_self HVD.out;obtain ⟨b',hb',hb2,hb3,hown,hb5,hb6⟩:=HO.out.row_at HDV.out;obtain rfl:b=b':=by have:=HRB.out;rw [hb'] at this;injection this with this;exact this.symm
     obtain ⟨gq,eq1,_,_,hcy,hcyf⟩:=aBv hown (j:=x) (u := .int .i64 lo) (by rw [List.getElem?_map,q3];rfl)
     obtain rfl:b.1=gq:=by simpa using eq1
     have HOWN:=aA1 hown;have HQ3:=aA1 q3;clear q1 q2 q3 hlo hhi hK2 hDX hb' eq1 hown
     have HPUT:Hid (∀ (W:World),Bel wr W->∀ z:Int,RowsC (W.setCell ⟨b.1,x,none⟩ (.int .i64 z)) (w.heap.size+1+1) (some ⟨gb,0,none⟩) cap p.vars.length (D.set v (DX.set x z)) bs):=fun W hb z=>by
      have:=(HO.out.keep hb).put HRB.out HDV.out x z;rw [List.set_set] at this;exact this
     obtain ⟨p0,p1,p2,g0,g1,gsz⟩:=aA6 HW
     go_wp2_with (go_at_call 139;refine (aH4 _ p _ g v x _ (HPV.out _ (aA0 HW)) (HGV.out _ (aA0 HW)) hlv HNUM.out HGO.out (by omega) HGL.out).mono ?_;rintro e w' ⟨rfl,hb⟩;rw [HLO.out,HHI.out];have HBW:=aA1 hb;have c1:=(hb.cell hb3).trans hb2;obtain ⟨gq2,eq2,_,_,c2,c3⟩:=aBv (hb.owns HOWN.out) (j:=x) (u := .int .i64 lo) (by rw [List.getElem?_map,HQ3.out];rfl);obtain rfl:b.1=gq2:=(by simpa using eq2);clear eq2;have c4:=Nat.lt_of_lt_of_le hb3 hb.size;have c5:=Nat.lt_of_lt_of_le hb5 hb.size;replace HW:=HW.trans hb;clear hb;(try clear p0 p1 p2 g0 g1 gsz);obtain ⟨p0,p1,p2,g0,g1,gsz⟩:=aA6 HW)
     have e1:Int.tmod K2 (hi-lo+1)=K2 % (hi-lo+1):=Int.tmod_eq_emod_of_nonneg r1;have e2:Int.tdiv K2 (hi-lo+1)=K2 / (hi-lo+1):=Int.tdiv_eq_ediv_of_nonneg r1;have e3:¬ hi-lo+1=0:=by omega
     have m1:=Int.emod_nonneg K2 e3;have m2:=Int.emod_lt_of_pos K2 (show 0<hi-lo+1 by omega)
     have m3:=Int.ediv_nonneg r1 (show 0<=hi-lo+1 by omega)
     have m4:=Int.ediv_le_self (hi-lo+1) r1;replace HW:=HW.drew
     go_region
     go_wp2_with fail
     go_roundg x
     case rel =>
      refine ⟨x,by omega,rfl,?_,by go_num,?_,?_⟩
      .rw [Q2.out];try rfl
      .show RowsC _ _ _ _ _ _ _
       rw [Q1.out];have:=HPUT.out _ (HBW.out.drew) (lo+K2 % (hi-lo+1))
       try exact this
      .exact HW.setCell (by have:=HOWN.out;have:=(aAf this).1;simp;omega) _
     case measure=>omega
    .obtain rfl:x'=0:=by omega
     subst hz;have hd1:decide ((0:Int)<=((0:Nat):Int)-1)=false:=decide_eq_false (by omega)
     go_wp2_with fail
     go_roundg v
     case rel =>
      refine ⟨v,by omega,rfl,?_,by go_num,?_,HW⟩
      .rw [S2.out];try rfl
      .show RowsC _ _ _ _ _ _ _
       rw [S1.out];have:=HO.out;rw [bDv] at this;exact this
     case measure=>omega
  .obtain rfl:v'=0:=by omega
   subst hz;have hd0:decide ((0:Int)<=((0:Nat):Int)-1)=false:=decide_eq_false (by omega)
   go_wp2_with fail
   go_ret;have hO:=HO.out;rw [bDx,HC.out] at hO;exact ⟨gb,cap,bs,rfl,hO.lower (by omega),aA0 HW⟩
theorem bL3 {t:List (Int × Int)} {c:List Int} {x:Nat} (hx:x<t.length) (hc:x<c.length) (a:Int) :
  a*aAp (t.drop x)+aH2 (t.drop x) (c.drop x)=(a*(t[x].2-t[x].1+1)+c[x]-t[x].1)*aAp (t.drop (x+1))+aH2 (t.drop (x+1)) (c.drop (x+1)):=by
 rw [List.drop_eq_getElem_cons hx,List.drop_eq_getElem_cons hc];show a*((t[x].2-t[x].1+1)*aAp (t.drop (x+1)))+((c[x]-t[x].1)*aAp (t.drop (x+1))+aH2 (t.drop (x+1)) (c.drop (x+1)))=_
 rw [<- Int.mul_assoc,<- Int.add_assoc,<- Int.add_mul,<- Int.add_sub_assoc]
theorem bL4 {T:List (List (Int × Int))} {C:List (List Int)} {v:Nat} (hv:v<T.length) (hc:v<C.length) (a:Int) :
  a*aAq (T.drop v)+aLm (T.drop v) (C.drop v)=(a*aAp T[v]+aH2 T[v] C[v])*aAq (T.drop (v+1))+aLm (T.drop (v+1)) (C.drop (v+1)):=by
 rw [List.drop_eq_getElem_cons hv,List.drop_eq_getElem_cons hc];show a*(aAp T[v]*aAq (T.drop (v+1)))+(aH2 T[v] C[v]*aAq (T.drop (v+1))+aLm (T.drop (v+1)) (C.drop (v+1)))=_
 rw [<- Int.mul_assoc,<- Int.add_assoc,<- Int.add_mul]
theorem bFv {a s r:Int} (ha:0<=a) (hs:0<s) (hr:0<=r) {q:Int} (h:a*s+r=q):a<=q:=by
 have:=Int.mul_le_mul_of_nonneg_left (show 1<=s by omega) ha
 rw [Int.mul_one] at this;omega
theorem aYn (v1:Value) (p:Prg) (v2:Value) (g:Graph) (v3:Value) (c:aA8) (w:World) (h:aE0 w v1 p) (h2:aAl w v2 g) (h3:aDf w v3 c) (hL:aAt p=true) (hG:aB3 g=true) (hm0:aCp p g c=0) (hsz:aC7 p g<=32768) :
  Calls prog 92 #[v1,v2,v3] w fun e w'=>e = .returned (.int .i64 (aVo p g c))/\Bel w w':=by
 have HPV:=aA1 (fun w' (k:Bel w w')=>h.keep k);have HGV:=aA1 (fun w' (k:Bel w w')=>h2.keep k);obtain ⟨A5,k5,rfl,hCR,_,_⟩:=h3;have HCR:=aA1 (fun w' (k:Bel w w')=>hCR.keep k);obtain ⟨A1,k1,A2,k2,rfl,_,_,_,_,_,_⟩:=h;obtain ⟨A3,k3,A4,k4,rfl,_,_,_,_,_,_⟩:=h2;have HW:=Bel.refl ((w.alloc (.cells #[.string p.name,.slice A1 p.vars.length k1,.slice A2 p.rules.length k2] 25)).alloc (.cells #[.slice A3 g.ids.length k3,.slice A4 g.ports.length k4] 29));have HL:=aA1 hL;have HGL:=aA1 hG;have hf:=(aBn hm0).1;obtain ⟨h1,h3',_⟩:=aAe hf;have HCN:=aA1 (aB6 h1).1;have HGO:=aA1 h3';have hle:=h3'.le;have hv10:=(aAi hL).2.1;have HTL:Hid ((aAa p g).length=g.ports.length):=by show _=_;rw [aAj,h3'.ids]
 have HOK:=aA1 (aIe hf);have HSM:=aA1 (aEd hf);have HIN:=aA1 (aNf hm0);have hcl:c.length=g.ports.length:=by have:=aLg (aNf hm0);rw [this,HTL.out]
 have HTOT:Hid (0<=aVo p g c/\aVo p g c<=32768):=by obtain ⟨a,b⟩:=aLl hm0;exact ⟨a,by omega⟩
 have HNF:Hid (aVo p g c=aLm (aAa p g) c):=rfl;obtain ⟨q,hq⟩:∃ q,aVo p g c=q:=⟨_,rfl⟩;rw [hq] at HTOT HNF;rw [hq];have hc24:c.length<=24:=by omega
 have HCLN:=aA1 hcl;clear hL hG hm0 hf h1 h3' hCR hsz hq hcl;obtain ⟨T,hT⟩:∃ T,aAa p g=T:=⟨_,rfl⟩;have HT:=aA1 hT;rw [hT] at HTL HOK HSM HIN HNF;clear hT;go_enter func92,ntmps92
 go_wp2_with fail
 go_loopg [7,8] c.length (fun m o z wr=>∃ (v:Nat) (a:Int),v<=c.length/\m=c.length-v/\o = .int .i64 a/\z = .int .i64 (v:Int)/\0<=a/\Hid (a*aAq (T.drop v)+aLm (T.drop v) (c.drop v)=q)/\Bel ((w.alloc (.cells #[.string p.name,.slice A1 p.vars.length k1,.slice A2 p.rules.length k2] 25)).alloc (.cells #[.slice A3 g.ids.length k3,.slice A4 g.ports.length k4] 29)) wr)
 case atStart=>exact ⟨0,0,by omega,rfl,rfl,rfl,by omega,by show _=_;rw [List.drop_zero,List.drop_zero,Int.zero_mul,Int.zero_add];exact HNF.out.symm,HW⟩
 case round =>
  clear HW;obtain ⟨v,a,hv,rfl,rfl,rfl,ha,HQ,HW⟩:=hrel;obtain ⟨wo,rfl⟩:∃ wo,wo=wr:=⟨_,rfl⟩
  by_cases hlt:v<c.length
  .have hd0:decide (v<c.length)=true:=by simpa using hlt
   have hvT:v<T.length:=by rw [HTL.out,<- HCLN.out];exact hlt
   have hvg:v<g.ports.length:=by rw [<- HCLN.out];exact hlt
   have hrow:T[v]=aEp p g v:=by
    have:v<(aAa p g).length:=by rw [HT.out];exact hvT
    have e:=aDe (p:=p) (g:=g) this;simp only [HT.out] at e
    exact e
   have hin:=(aOh.1 HIN.out).2 v hlt hvT;rw [bL4 hvT hlt] at HQ;have HSM2:Hid (∀ x (hx:x<T[v].length),-4096<=(T[v][x]).1/\(T[v][x]).1<=4096/\(T[v][x]).1<=(T[v][x]).2/\(T[v][x]).2<=80000):=fun x hx=>HSM.out.at_ hvT hx;have HOT:Hid (okL T[v]):=HOK.out _ (List.getElem_mem hvT);have HS1:Hid (0<aAq (T.drop (v+1))):=aEx (aQ2 HOK.out _);have HS2:Hid (0<=aLm (T.drop (v+1)) (c.drop (v+1))):=(aLn (aVd (v+1) HIN.out)).1;obtain ⟨b,o,R,rc,rfl,hbl,hcell,hI,_,_⟩:=(HCR.out _ (Bel.refl w)).at_ v hlt;have HI:=aA1 (fun w' (k:Bel w w')=>aB7.keep hI k);have HROW:=aA1 hrow;have HIN2:=aA1 hin;generalize T[v]=t at *;generalize c[v]=d at *;have HDL:Hid (d.length=t.length):=aIy HIN2.out;have HTLN:Hid (t.length=p.vars.length):=by show _=_;rw [HROW.out,aBu]
   have hd10:d.length<=10:=by rw [HDL.out,HTLN.out];exact hv10
   have hc1:=((aA0 HW).cell hbl).trans hcell;have hb1:=Nat.lt_of_lt_of_le hbl (aA0 HW).size;clear hI hrow hin
   go_wp2_with fail
   have HW1:=HW;clear hc1 hb1
   go_loopg [7,9] d.length (fun m o z wr=>∃ (x:Nat) (a:Int),x<=d.length/\m=d.length-x/\o = .int .i64 a/\z = .int .i64 (x:Int)/\0<=a/\Hid ((a*aAp (t.drop x)+aH2 (t.drop x) (d.drop x))*aAq (T.drop (v+1))+aLm (T.drop (v+1)) (c.drop (v+1))=q)/\Bel ((w.alloc (.cells #[.string p.name,.slice A1 p.vars.length k1,.slice A2 p.rules.length k2] 25)).alloc (.cells #[.slice A3 g.ids.length k3,.slice A4 g.ports.length k4] 29)) wr)
   case atStart=>exact ⟨0,a,by omega,rfl,rfl,rfl,ha,by show _=_;rw [List.drop_zero,List.drop_zero];exact HQ.out,HW⟩
   case round =>
    clear HW HQ ha;obtain ⟨x,a,hx,rfl,rfl,rfl,ha,HQ,HW⟩:=hrel;have hc1:=((aA0 HW).cell hbl).trans hcell;have hb1:=Nat.lt_of_lt_of_le hbl (aA0 HW).size
    by_cases hlx:x<d.length
    .have hd1:decide (x<d.length)=true:=by simpa using hlx
     have hxt:x<t.length:=by rw [<- HDL.out];exact hlx
     have hxv:x<p.vars.length:=by rw [<- HTLN.out];exact hxt
     have HNUM:=aA1 (List.all_eq_true.1 HCN.out _ (List.getElem_mem hxv));have hsm:=HSM2.out x hxt;have hin2:=(aOg.1 HIN2.out).2 x hlx hxt;have hn1:=(aJ0 (aQ1 x HIN2.out)).1;have hs1:=aCs (aNm HOT.out x);have hn2:=(aJ0 (aQ1 (x+1) HIN2.out)).1;have hs2:=aCs (aNm HOT.out (x+1));have hq0:=HTOT.out
     have hA:a<=q:=by
      have e1:=bFv (a:=a*aAp (t.drop x)+aH2 (t.drop x) (d.drop x)) (by have:=Int.mul_nonneg ha (Int.le_of_lt hs1);omega) HS1.out HS2.out HQ.out
      have e2:=bFv (q:=a*aAp (t.drop x)+aH2 (t.drop x) (d.drop x)) ha hs1 hn1 rfl;omega
     rw [bL3 hxt hlx] at HQ;obtain ⟨b2,o2,eR,hb2,hc2⟩:=(HI.out _ (Bel.refl w)).at_ x hlx;subst eR
     have HTX:Hid (t[x]=aAg p.vars[x] g v):=by
      show _=_
      have h1:=HROW.out;subst h1;simp [aEp]
     obtain ⟨lo,hlo⟩:∃ lo,(t[x]).1=lo:=⟨_,rfl⟩;obtain ⟨hi,hhi⟩:∃ hi,(t[x]).2=hi:=⟨_,rfl⟩;obtain ⟨y,hy⟩:∃ y,d[x]=y:=⟨_,rfl⟩;rw [hlo,hhi] at hsm hin2 HQ;rw [hy] at hin2 HQ hc2;have HLO:Hid ((aAg p.vars[x] g v).1=lo):=by show _=_;rw [<- HTX.out,hlo]
     have HHI:Hid ((aAg p.vars[x] g v).2=hi):=by show _=_;rw [<- HTX.out,hhi]
     have hmr:=aE3 (a:=a) (b:=hi-lo+1) (A:=32768) (B:=90000) ha (by omega) (by omega) (by omega)
     have hc2b:=aA1 (fun w' (k:Bel w w')=>((k.cell hb2).trans hc2:w'.cell? ⟨b2,o2+x,none⟩=some (.int .i64 y)));have hc1b:=aA1 (fun w' (k:Bel w w')=>((k.cell hbl).trans hcell));clear hlo hhi hy hn1 hs1 hn2 hs2 hc2;obtain ⟨p0,p1,p2,g0,g1,gsz⟩:=aA6 HW;have hkI:(x:Int)<(d.length:Int):=by omega
     have hvI:(v:Int)<(c.length:Int):=by omega
     go_wp2_with (go_at_call 139;refine (aH4 _ p _ g v x _ (HPV.out _ (aA0 HW)) (HGV.out _ (aA0 HW)) hxv HNUM.out HGO.out hvg HGL.out).mono ?_;rintro e w' ⟨rfl,hb⟩;rw [HLO.out,HHI.out];clear hc1 hb1;replace HW:=HW.trans hb;clear hb;(try clear p0 p1 p2 g0 g1 gsz);obtain ⟨p0,p1,p2,g0,g1,gsz⟩:=aA6 HW;have z1:=hc1b.out _ (aA0 HW);have z2:=hc2b.out _ (aA0 HW);have z3:=Nat.lt_of_lt_of_le hbl (aA0 HW).size;have z4:=Nat.lt_of_lt_of_le hb2 (aA0 HW).size)
     go_roundg (d.length-(x+1))
     case rel =>
      refine ⟨x+1,a*(hi-lo+1)+y-lo,by omega,rfl,by go_num,by go_num,by omega,HQ,HW⟩
     case measure=>omega
    .have hd1:decide (x<d.length)=false:=by simpa using hlx
     obtain rfl:x=d.length:=by omega
     have HQ2:Hid (a*aAq (T.drop (v+1))+aLm (T.drop (v+1)) (c.drop (v+1))=q):=by
      have:=HQ.out;rw [List.drop_length,List.drop_eq_nil_of_le (by rw [HDL.out];exact Nat.le_refl _)] at this
      show _=_
      rw [<- this];simp [aAp,aH2]
     have hvI:(v:Int)<(c.length:Int):=by omega
     go_wp2_with fail
     go_roundg (c.length-(v+1))
     case rel=>exact ⟨v+1,a,by omega,rfl,rfl,by go_num,ha,HQ2,HW⟩
     case measure=>omega
  .have hd0:decide (v<c.length)=false:=by simpa using hlt
   obtain rfl:v=c.length:=by omega
   go_wp2_with fail
   go_ret;refine ⟨aA4 ?_,aA0 HW⟩
   have:=HQ.out;rw [List.drop_length,List.drop_eq_nil_of_le (by rw [HTL.out,HCLN.out];exact Nat.le_refl _)] at this
   rw [<- this];simp [aAq,aLm]
end Go.Proofs.YtmifhmdghfbalaaGreatDoor

