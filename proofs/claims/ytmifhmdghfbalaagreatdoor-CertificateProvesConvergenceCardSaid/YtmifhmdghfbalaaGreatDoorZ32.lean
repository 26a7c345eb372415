/- Merged. -/
import Derived.Test.YtmifhmdghfbalaaGreatDoorZ29
import Derived.Test.YtmifhmdghfbalaaGreatDoorZ30
import Derived.Test.YtmifhmdghfbalaaGreatDoorZ27
set_option linter.unusedSimpArgs false
set_option linter.unnecessarySimpa false
set_option linter.unusedVariables false
set_option maxRecDepth 100000
set_option maxHeartbeats 8000000
open Go.Proofs.Tryz

namespace Go.Proofs.YtmifhmdghfbalaaGreatDoor
open Go.RowKit
attribute [local go_sem] Oper.semAt_some
theorem bEk {z:Int} (h1 : -9223372036854775808<=z) (h2:z<=9223372036854775807):IntKind.i64.wrap z=z:=by
 rw [IntKind.wrap_i64];omega
def bCe (w:World) (b o:Nat) (x:Nat × Int):Prop:=w.cell? ⟨b,o,none⟩=some (.int .u32 (x.1:Int))/\w.cell? ⟨b,o+1,none⟩=some (.int .i64 x.2)
theorem bCe.keeps:aO4 bCe:=fun _ _ _ _ _ k hb h=>⟨(k.cell hb).trans h.1,(k.cell hb).trans h.2⟩
def aMc:=aAh 2 bCe
theorem aMc.keep {w w':World} {A:Option Addr} {n:Nat} {xs:List (Nat × Int)} (h:aMc w A n xs) (k:Bel w w'):aMc w' A n xs:=aAh.keep bCe.keeps h k
theorem bC4 {w:World} {base e c:Nat} {A:Option Addr} {xs:List (Nat × Int)} (h:w.ownsRow base e 2 (.slice A xs.length c) xs.length (xs.flatMap aBe)):aMc w A xs.length xs:=by
 refine ⟨rfl,fun i x hx=>?_⟩
 obtain ⟨f1,f2⟩:=aJa xs i x hx;obtain ⟨q,e1,_,q3,q4,_⟩:=aBv h f1;obtain ⟨q',e1',_,_,q4',_⟩:=aBv h f2;subst e1;obtain rfl:q=q':=by simpa using e1'
 exact ⟨q,0,rfl,q3,by rw [Nat.zero_add];exact q4,by rw [Nat.zero_add];exact q4'⟩
def aB9 (f:Nat->Int) (v:Nat) (s:Int):Array Value:=((List.range 24).map fun u=>Value.int .i64 (if u<v then f u else if u=v then s else 0)).toArray
theorem aXg (f:Nat->Int) {v:Nat} (hv:v<24) (s:Int):(aB9 f v s)[v]?=some (.int .i64 s):=by
 unfold aB9;simp [hv]
theorem aPm (f:Nat->Int) {v u:Nat} (hv:u<v) (hu:u<24) (s:Int):(aB9 f v s)[u]?=some (.int .i64 (f u)):=by
 unfold aB9;simp [hv,hu]
theorem aVc (f:Nat->Int) (v:Nat) (s s':Int):(aB9 f v s).setIfInBounds v (.int .i64 s')=aB9 f v s':=by
 apply Array.ext
 .simp [aB9]
 .intro i h1 h2
  rw [Array.getElem_setIfInBounds (by simpa using h1)]
  by_cases h:v=i
  .subst h;rw [if_pos rfl];simp [aB9]
  .rw [if_neg h]
   simp only [aB9,List.getElem_toArray,List.getElem_map,List.getElem_range]
   by_cases hi:i<v
   .rw [if_pos hi,if_pos hi]
   .rw [if_neg hi,if_neg hi,if_neg (fun e=>h e.symm),if_neg (fun e=>h e.symm)]
theorem aM1 (f:Nat->Int) (v:Nat):aB9 f v (f v)=aB9 f (v+1) 0:=by
 unfold aB9
 congr 1
 refine List.map_congr_left fun u _=>?_
 by_cases h:u<v
 .rw [if_pos h,if_pos (by omega)]
 .rw [if_neg h]
  by_cases h2:u=v
  .subst h2;rw [if_pos rfl,if_pos (by omega)]
  .rw [if_neg h2,if_neg (by omega)]
   split <;> rfl
theorem aM2 (f:Nat->Int):aB9 f 0 0=#[.int .i64 0,.int .i64 0,.int .i64 0,.int .i64 0,.int .i64 0,.int .i64 0,.int .i64 0,.int .i64 0,.int .i64 0,.int .i64 0,.int .i64 0,.int .i64 0,.int .i64 0,.int .i64 0,.int .i64 0,.int .i64 0,.int .i64 0,.int .i64 0,.int .i64 0,.int .i64 0,.int .i64 0,.int .i64 0,.int .i64 0,.int .i64 0]:=by rfl
theorem bIa:(prog.info? 135).map (fun i=>(i.zero,i.size,i.bytes))=some (some (.agg #[.int .u32 0,.int .i64 0]),2,16):=by kernel_rfl
def bI2 (E:Nat) (L:List (Nat × Int)) (w:World) (e:Ending) (w':World):Prop :=
 ∃ A c,e = .returned (.tuple #[.int .u32 (E:Int),.slice A L.length c,.int .i64 0])/\aMc w' A L.length L/\L.length<=c/\c<=maxLen/\(∀ b o,A=some ⟨b,o,none⟩->w.heap.size<=b)/\Bel w w'
theorem bCv (B:Nat) (p:Prg) (g:Graph) (kind:Int) (vc:Value) (c:aA8) (k:Nat) (w:World) (hB:aN0 w B p g kind) (hC:aDf w vc c) (hT:aG1 w) (hm:aCp p g c=0) (hk:(k:Int)=aVo p g c) (hL:aAt p=true) (hCL:aE1 c=true) (hsz:aC7 p g<=32768) (h5:g.ports.length<=5) :
  Calls prog 182 #[.pointer (some ⟨B,0,none⟩),vc,.int .i64 (k:Int)] w (bI2 (aCm p g c) (aEq p g kind c) w):=by
 have HC:=aA1 (fun w' (k:Bel w w')=>hC.keep k);obtain ⟨AC,kc,rfl,hCR,_,_⟩:=hC;obtain ⟨bm,AN,kn,AT,kt,AP,kp,hBk,hMV,hNT,_,hPL⟩:=hB;have HBk:=aA1 (fun w' (k:Bel w w')=>hBk.keep k);have HMV:=aA1 (fun w' (k:Bel w w')=>hMV.keep k);have HNT:=aA1 (fun w' (k:Bel w w')=>hNT.keep k);have HT:=aA1 (fun w' (k:Bel w w')=>hT.keep k);have HM:=aA1 hm;have HL:=aA1 hL;have HCL:=aA1 hCL;have HK:=aA1 hk;have HSZ:=aA1 hsz;have hv10:=(aAi hL).2.1;have hf:=(aBn hm).1;have hg:=(aAe hf).2.1;have HG:=aA1 hg;have HCN:=aA1 (aCa hm);have hcl:c.length<=5:=by rw [aCa hm];exact h5
 have HROW:=aA1 (fun v (hv:v<c.length)=>bK2 (v:=v) hm hsz hv10 hv);clear hBk hMV hNT hT hm hL hCL hk hsz hf hg;refine aF5 func182 rfl ?_
 simp only [ntmps182,List.size_toArray,List.length_cons,List.length_nil,Nat.reduceAdd,Nat.reduceSub,Array.replicate_succ,Array.replicate_zero,List.push_toArray,List.append_toArray,List.nil_append,List.cons_append]
 go_wp2_with fail
 have HW:Bel w (w.alloc (.cells (aB9 (gF p g c) 0 0) 256)):=(Bel.refl w).alloc _;have HGC:Hid (Blk (w.alloc (.cells (aB9 (gF p g c) 0 0) 256)) w.heap.size (aB9 (gF p g c) 0 0) 256):=Blk.new _ _ _;rw [aM2] at HW HGC
 go_loopg [9,11,12,13,14,23] c.length (fun m E _a _b _d _e z wr=>∃ v:Nat,v<=c.length/\m=c.length-v/\E = .int .u32 (aPp v (fun u=>decide (0<=aBy p.rules g c u)):Nat)/\z = .int .i64 v/\Hid (Blk wr w.heap.size (aB9 (gF p g c) v 0) 256)/\Bel w wr)
 case atStart=>exact ⟨0,by omega,rfl,rfl,rfl,by rw [aM2];exact HGC,HW⟩
 case round =>
  clear HW HGC;obtain ⟨wo,rfl⟩:∃ wo:World,wo=wr:=⟨_,rfl⟩;obtain ⟨v,hv,rfl,rfl,rfl,HGC,HW⟩:=hrel
  by_cases hlt:v<c.length
  .have hd0:decide (v<c.length)=true:=by simpa using hlt
   obtain ⟨bm',hbm⟩:∃ x,x=bm:=⟨_,rfl⟩;have z0:=(HBk.out _ HW).cell 0 (v := .pointer (some ⟨bm,0,none⟩)) rfl;have zl:=(HBk.out _ HW).lt;have HSK:=aA1 (aKr HM.out hlt)
   by_cases hen:0<=aBy p.rules g c v
   .have hd1:decide (aBy p.rules g c v<0)=false:=by simpa using hen
    have hfr:=aP6 p.rules g c v;obtain ⟨k0,hk0⟩:=Int.eq_ofNat_of_zero_le hen;have hk1:k0<p.rules.length:=by omega
    have HR:=aA1 (HROW.out v hlt hen);have HMF:Hid (aD0 p g c v p.rules[k0].sets=aLv p g c v):=by show _=_;unfold aLv;rw [hk0,aS7 hk1]
    have HEN:=aA1 hen;have hsl:=aJ4 (fun u=>decide (0<=aBy p.rules g c u)) (show v<=32 by omega)
    have hv32:decide (v<32)=true:=by simp;omega
    have hbs:=aN6 hsl (show v<32 by omega)
    have HSS:=aA1 (aHw v (fun u=>decide (0<=aBy p.rules g c u)));clear hen hfr;obtain ⟨F0,hF0⟩:∃ F0,F0=aBy p.rules g c v:=⟨_,rfl⟩
    go_wp2_with (first
     | (go_at_call 227;refine (aNh bm p g _ c v _ (HMV.out _ HW) (HC.out _ HW) HSK.out HL.out).mono ?_;rintro e w1 ⟨rfl,hb1⟩;have HW1:=HW.trans hb1;clear z0 zl;have z0:=(HBk.out _ HW1).cell 0 (v := .pointer (some ⟨bm,0,none⟩)) rfl;have zl:=(HBk.out _ HW1).lt;rw [hk0])
     | (go_at_call 229;refine (aVh bm p g _ c v k0 _ (HMV.out _ HW1) (HC.out _ HW1) HM.out hlt hk1 HL.out HCL.out).mono ?_;rintro e w2 ⟨RM,rm,rfl,hN,hb2⟩;rw [HMF.out] at hN ⊢;have HN:=aA1 hN;have HGC2:Hid (Blk w2 w.heap.size (aB9 (gF p g c) v 0) 256):=(HGC.out.keep hb1).keep hb2;have HW2:=HW1.trans hb2;have HWS:=hb2.size;have HWS1:=HW1.size;have hgl1:=(HGC.out.keep hb1).lt;clear hN hb1 hb2 z0 zl))
    obtain ⟨D,hD⟩:∃ D,D=aLv p g c v:=⟨_,rfl⟩;obtain ⟨P,hP⟩:∃ P,P=(aF8 (aAa p g)).getD v []:=⟨_,rfl⟩;have HD:=aA1 hD;have HPE:=aA1 hP;rw [<- hD,<- hP] at HR;rw [<- hD] at HN;rw [<- hD];clear hD hP;have HDL:=aA1 HR.out.ld;have HCL2:Hid (c[v].length=p.vars.length):=by show _=_;rw [<- aA7 hlt];exact HR.out.lc
    have HPL:=aA1 HR.out.lp;have HCC:Hid (c.getD v []=c[v]):=aA7 hlt;rw [HCC.out] at HR;have HW2':=HW2;have HF0:=Fr.refl w.heap.size w2;have HG0:Hid (Blk w2 w.heap.size (aB9 (gF p g c) v (bBo P D c[v] 0)) 256):=by rw [aX5];exact HGC2
    go_loopg [13,14,48] D.length (fun m _a _b z ws=>∃ x:Nat,x<=D.length/\m=D.length-x/\z = .int .i64 x/\Hid (Blk ws w.heap.size (aB9 (gF p g c) v (bBo P D c[v] x)) 256)/\Fr w.heap.size w2 ws/\Bel w ws)
    case atStart=>exact ⟨0,by omega,rfl,rfl,HG0,HF0,HW2⟩
    case round =>
     clear HG0 HF0 HW2 HGC2 HW2';obtain ⟨x,hx,rfl,rfl,HGX,HFX,HWX⟩:=hrel
     by_cases hlt2:x<D.length
     .have hd2:decide (x<D.length)=true:=by simpa using hlt2
      have hN:=HN.out;obtain ⟨q1,o1,e1,hq1,k1⟩:=hN.1.at_ x hlt2;have hq1g:q1≠w.heap.size:=by have:=hN.2.2.2 q1 o1 e1;omega
      have k1':=(HFX.cell (o:=o1+x) hq1 hq1g).trans k1;have hq1':=Nat.lt_of_lt_of_le hq1 HFX.1;clear hN;subst e1;obtain ⟨bc,oc,RC,rcc,rfl,hbc,kc1,hRC,_,_⟩:=(aMd.keep hCR HWX).at_ v hlt;obtain ⟨br,orr,rfl,hbr,kc2⟩:=hRC.at_ x (by rw [HCL2.out];have:=HDL.out;omega)
      have hBX:=HBk.out _ HWX;have z4:=hBX.cell 4 (v := .slice AP g.ports.length kp) rfl;have zl:=hBX.lt;obtain ⟨bp,op,RP,rpc,rfl,hbp,kp1,hRP,_,_⟩:=(aMd.keep hPL HWX).at_ v (by rw [aD8,aAj];have:=HG.out.ids;have:=HCN.out;omega)
      have hPE:(aF8 (aAa p g))[v]'(by rw [aD8,aAj];have:=HG.out.ids;have:=HCN.out;omega)=P:=by
       have:=HPE.out;rw [List.getD_eq_getElem?_getD,List.getElem?_eq_getElem (by rw [aD8,aAj];have:=HG.out.ids;have:=HCN.out;omega),Option.getD_some] at this
       exact this.symm
      rw [hPE] at kp1 hRP;obtain ⟨bq,oq,rfl,hbq,kp2⟩:=hRP.at_ x (by rw [HPL.out];have:=HDL.out;omega)
      have hxC:x<c[v].length:=by rw [HCL2.out];have:=HDL.out;omega
      have hxP:x<P.length:=by rw [HPL.out];have:=HDL.out;omega
      have hxn:x<p.vars.length:=by have:=HDL.out;omega
      have ht1:=HR.out.term hxn;have ht2:=HR.out.part x (by omega)
      have ht3:=HR.out.part (x+1) (by omega)
      have hst:=aX4 (P:=P) (D:=D) (C:=c[v]) hxP hlt2 hxC;have hp1:=HR.out.p x hxP;have hd1':=HR.out.d x hlt2 hxC;have hdi:=HR.out.di x hlt2;have hci:=HR.out.ci x hxC;rw [hst] at ht3;have HST:=aA1 hst;have hn10:=HR.out.le;obtain ⟨S0,hS0⟩:∃ S0,S0=bBo P D c[v] x:=⟨_,rfl⟩;have hgc:=HGX.out.cell v (aXg (gF p g c) (show v<24 by omega) (bBo P D c[v] x))
      have hgf:=HGX.out.frozen v;have hgl:=HGX.out.lt;rw [<- hS0] at ht2 ht3 HST hgc;have HS0:=aA1 hS0;have i1:(v:Int)<(c.length:Int):=by omega
      have i2:(v:Int)<(g.ports.length:Int):=by have:=HCN.out;omega
      have i3:(x:Int)<(c[v].length:Int):=by omega
      have i4:(x:Int)<(P.length:Int):=by omega
      have i5:(v:Int)<24:=by omega
      clear hst hS0 hRC hRP hPE;generalize hdx:D[x]=dx at *;generalize hcx:c[v][x]=cx at *;generalize hpx:P[x]=px at *;clear hdx hcx hpx
      go_wp2_with fail
      refine aAd.startN (fun w'=>w'.cell? ⟨w.heap.size,v,none⟩=some (.int .i64 S0)/\w'.cell? ⟨bc,oc+v,none⟩=some (.slice (some ⟨br,orr,none⟩) c[v].length rcc)/\w'.cell? ⟨br,orr+x,none⟩=some (.int .i64 cx)/\w'.cell? ⟨B,4,none⟩=some (.slice (some ⟨bp,op,none⟩) g.ports.length kp)/\w'.cell? ⟨bp,op+v,none⟩=some (.slice (some ⟨bq,oq,none⟩) P.length rpc)/\w'.cell? ⟨bq,oq+x,none⟩=some (.int .i64 px)/\w.heap.size<w'.heap.size/\bc<w'.heap.size/\br<w'.heap.size/\B<w'.heap.size/\bp<w'.heap.size/\bq<w'.heap.size) 25 (by kernel_rfl) ?_
      have hHeld:(fun w':World=>w'.cell? ⟨w.heap.size,v,none⟩=some (.int .i64 S0)/\w'.cell? ⟨bc,oc+v,none⟩=some (.slice (some ⟨br,orr,none⟩) c[v].length rcc)/\w'.cell? ⟨br,orr+x,none⟩=some (.int .i64 cx)/\w'.cell? ⟨B,4,none⟩=some (.slice (some ⟨bp,op,none⟩) g.ports.length kp)/\w'.cell? ⟨bp,op+v,none⟩=some (.slice (some ⟨bq,oq,none⟩) P.length rpc)/\w'.cell? ⟨bq,oq+x,none⟩=some (.int .i64 px)/\w.heap.size<w'.heap.size/\bc<w'.heap.size/\br<w'.heap.size/\B<w'.heap.size/\bp<w'.heap.size/\bq<w'.heap.size) wr.drew:=⟨hgc,kc1,kc2,z4,kp1,kp2,hgl,hbc,hbr,zl,hbp,hbq⟩
      (refine aAd.t (v:=?_) 0 53 rfl rfl (by kernel_rfl) (fun _ _ _ h=>h) hHeld (Or.inl ⟨by rfl,?_⟩) ?_;rotate_left 1;focus (intro w' hSw;(try dsimp only at hSw);go_simp;(try with_reducible rfl);done));(refine aAd.t (v:=?_) 1 54 rfl rfl (by kernel_rfl) (fun _ _ _ h=>h) hHeld (Or.inl ⟨by rfl,?_⟩) ?_;rotate_left 1;focus (intro w' hSw;(try dsimp only at hSw);go_simp;(try with_reducible rfl);done));(refine aAd.t (v:=?_) 2 55 rfl rfl (by kernel_rfl) (fun _ _ _ h=>h) hHeld (Or.inl ⟨by rfl,?_⟩) ?_;rotate_left 1;focus (intro w' hSw;(try dsimp only at hSw);go_simp;(try with_reducible rfl);done));(refine aAd.t (v:=?_) 3 56 rfl rfl (by kernel_rfl) (fun _ _ _ h=>h) hHeld (Or.inl ⟨by rfl,?_⟩) ?_;rotate_left 1;focus (intro w' hSw;(try dsimp only at hSw);go_simp;(try with_reducible rfl);done));(refine aAd.t (v:=?_) 4 57 rfl rfl (by kernel_rfl) (fun _ _ _ h=>h) hHeld (Or.inl ⟨by rfl,?_⟩) ?_;rotate_left 1;focus (intro w' hSw;(try dsimp only at hSw);go_simp;(try with_reducible rfl);done));(refine aAd.t (v:=?_) 5 58 rfl rfl (by kernel_rfl) (fun _ _ _ h=>h) hHeld (Or.inl ⟨by rfl,?_⟩) ?_;rotate_left 1;focus (intro w' hSw;(try dsimp only at hSw);go_simp;(try with_reducible rfl);done));(refine aAd.t (v:=?_) 6 59 rfl rfl (by kernel_rfl) (fun _ _ _ h=>h) hHeld (Or.inl ⟨by rfl,?_⟩) ?_;rotate_left 1;focus (intro w' hSw;(try dsimp only at hSw);go_simp;(try with_reducible rfl);done));(refine aAd.t (v:=?_) 7 60 rfl rfl (by kernel_rfl) (fun _ _ _ h=>h) hHeld (Or.inl ⟨by rfl,?_⟩) ?_;rotate_left 1;focus (intro w' hSw;(try dsimp only at hSw);go_simp;(try with_reducible rfl);done));(refine aAd.t (v:=?_) 8 61 rfl rfl (by kernel_rfl) (fun _ _ _ h=>h) hHeld (Or.inl ⟨by rfl,?_⟩) ?_;rotate_left 1;focus (intro w' hSw;(try dsimp only at hSw);go_simp;(try with_reducible rfl);done));(refine aAd.t (v:=?_) 9 62 rfl rfl (by kernel_rfl) (fun _ _ _ h=>h) hHeld (Or.inl ⟨by rfl,?_⟩) ?_;rotate_left 1;focus (intro w' hSw;(try dsimp only at hSw);go_simp;(try with_reducible rfl);done));(refine aAd.t (v:=?_) 10 63 rfl rfl (by kernel_rfl) (fun _ _ _ h=>h) hHeld (Or.inl ⟨by rfl,?_⟩) ?_;rotate_left 1;focus (intro w' hSw;(try dsimp only at hSw);go_simp;(try with_reducible rfl);done));(refine aAd.t (v:=?_) 11 64 rfl rfl (by kernel_rfl) (fun _ _ _ h=>h) hHeld (Or.inl ⟨by rfl,?_⟩) ?_;rotate_left 1;focus (intro w' hSw;(try dsimp only at hSw);go_simp;(try with_reducible rfl);done));(refine aAd.t (v:=?_) 12 65 rfl rfl (by kernel_rfl) (fun _ _ _ h=>h) hHeld (Or.inl ⟨by rfl,?_⟩) ?_;rotate_left 1;focus (intro w' hSw;(try dsimp only at hSw);go_simp;(try with_reducible rfl);done));(refine aAd.t (v:=?_) 13 66 rfl rfl (by kernel_rfl) (fun _ _ _ h=>h) hHeld (Or.inl ⟨by rfl,?_⟩) ?_;rotate_left 1;focus (intro w' hSw;(try dsimp only at hSw);go_simp;(try with_reducible rfl);done));(refine aAd.t (v:=?_) 14 67 rfl rfl (by kernel_rfl) (fun _ _ _ h=>h) hHeld (Or.inl ⟨by rfl,?_⟩) ?_;rotate_left 1;focus (intro w' hSw;(try dsimp only at hSw);go_simp;(try with_reducible rfl);done));(refine aAd.t (v:=?_) 15 68 rfl rfl (by kernel_rfl) (fun _ _ _ h=>h) hHeld (Or.inl ⟨by rfl,?_⟩) ?_;rotate_left 1;focus (intro w' hSw;(try dsimp only at hSw);go_simp;(try with_reducible rfl);done));(refine aAd.t (v:=?_) 16 69 rfl rfl (by kernel_rfl) (fun _ _ _ h=>h) hHeld (Or.inl ⟨by rfl,?_⟩) ?_;rotate_left 1;focus (intro w' hSw;(try dsimp only at hSw);go_simp;(try with_reducible rfl);done));(refine aAd.t (v:=?_) 17 70 rfl rfl (by kernel_rfl) (fun _ _ _ h=>h) hHeld (Or.inl ⟨by rfl,?_⟩) ?_;rotate_left 1;focus (intro w' hSw;(try dsimp only at hSw);go_simp;(try with_reducible rfl);done));(refine aAd.t (v:=?_) 18 71 rfl rfl (by kernel_rfl) (fun _ _ _ h=>h) hHeld (Or.inl ⟨by rfl,?_⟩) ?_;rotate_left 1;focus (intro w' hSw;(try dsimp only at hSw);go_simp;(try with_reducible rfl);done));(refine aAd.t (v:=?_) 19 72 rfl rfl (by kernel_rfl) (fun _ _ _ h=>h) hHeld (Or.inl ⟨by rfl,?_⟩) ?_;rotate_left 1;focus (intro w' hSw;(try dsimp only at hSw);go_simp;(try with_reducible rfl);done));(refine aAd.t (v:=?_) 20 73 rfl rfl (by kernel_rfl) (fun _ _ _ h=>h) hHeld (Or.inl ⟨by rfl,?_⟩) ?_;rotate_left 1;focus (intro w' hSw;(try dsimp only at hSw);go_simp;(try with_reducible rfl);done));(refine aAd.t (v:=?_) 21 74 rfl rfl (by kernel_rfl) (fun _ _ _ h=>h) hHeld (Or.inl ⟨by rfl,?_⟩) ?_;rotate_left 1;focus (intro w' hSw;(try dsimp only at hSw);go_simp;(try with_reducible rfl);done));(refine aAd.t (v:=?_) 22 75 rfl rfl (by kernel_rfl) (fun _ _ _ h=>h) hHeld (Or.inl ⟨by rfl,?_⟩) ?_;rotate_left 1;focus (intro w' hSw;(try dsimp only at hSw);go_simp;(try with_reducible rfl);done));(refine aAd.t (v:=?_) 23 76 rfl rfl (by kernel_rfl) (fun _ _ _ h=>h) hHeld (Or.inl ⟨by rfl,?_⟩) ?_;rotate_left 1;focus (intro w' hSw;(try dsimp only at hSw);go_simp;(try with_reducible rfl);done));(refine aAd.t (v:=?_) 24 77 rfl rfl (by kernel_rfl) (fun _ _ _ h=>h) hHeld (Or.inl ⟨by rfl,?_⟩) ?_;rotate_left 1;focus (intro w' hSw;(try dsimp only at hSw);go_simp;(try with_reducible rfl);done))
      (refine aAd.one (i:=25) (by kernel_rfl) rfl (fun K hK=>?_));go_simp;refine hK.out _ _ (fun h=>absurd rfl h) ?_;clear hK K;refine aAd.done (by kernel_rfl) ?_ _;(try simp only [Act.put,List.setIfInBounds_toArray,List.set_cons_zero,List.set_cons_succ])
      refine NoPanic.normal ?_
      go_wp2_with fail
      go_roundg (D.length-(x+1))
      case rel =>
       refine ⟨x+1,by omega,rfl,by go_num,?_,(HFX.drew).set v _,HWX.drew.setCell (by simp) _⟩
       have:=HGX.out.set v (.int .i64 (S0+(dx-cx)*px));rw [aVc,show aB9 (gF p g c) v (S0+(dx-cx)*px)=aB9 (gF p g c) v (bBo P D c[v] (x+1)) by rw [HST.out]] at this
       exact this.drew
      case measure=>omega
     .have hd2:decide (x<D.length)=false:=by simpa using hlt2
      obtain rfl:x=D.length:=by omega
      go_wp2_with fail
      go_roundg (c.length-(v+1))
      case rel =>
       refine ⟨v+1,by omega,rfl,?_,by go_num,?_,HWX⟩
       .rw [HSS.out,decide_eq_true HEN.out,if_pos rfl]
       .have h1:=HGX.out
        rw [aX3 (by rw [HPL.out,HDL.out]) rfl (by rw [HCL2.out,HDL.out])] at h1
        have h2:aSp P D c[v]=gF p g c v:=by unfold gF;rw [if_pos HEN.out,<- HPE.out,<- HD.out,HCC.out]
        rw [h2,aM1] at h1;exact h1
      case measure=>omega
   .have hd1:decide (aBy p.rules g c v<0)=true:=by simpa using hen
    have HSS:=aA1 (aHw v (fun u=>decide (0<=aBy p.rules g c u)));have HEN:=aA1 hen;clear hen
    go_wp2_with (go_at_call 227;refine (aNh bm p g _ c v _ (HMV.out _ HW) (HC.out _ HW) HSK.out HL.out).mono ?_;rintro e w1 ⟨rfl,hb1⟩;have HW1:=HW.trans hb1;clear z0 zl)
    go_roundg (c.length-(v+1))
    case rel =>
     refine ⟨v+1,by omega,rfl,?_,by go_num,?_,HW1⟩
     .rw [HSS.out,decide_eq_false (by have:=HEN.out;omega)];rfl
     .have h1:=HGC.out.keep hb1
      have h2:gF p g c v=0:=by unfold gF;rw [if_neg (by have:=HEN.out;omega)]
      have h3:aB9 (gF p g c) v 0=aB9 (gF p g c) (v+1) 0:=by rw [<- aM1,h2]
      rw [h3] at h1;exact h1
    case measure=>omega
  .have hd0:decide (v<c.length)=false:=by simpa using hlt
   obtain rfl:v=c.length:=by omega
   obtain ⟨E,hE⟩:∃ E,E=aCm p g c:=⟨_,rfl⟩;have e0:aPp c.length (fun u=>decide (0<=aBy p.rules g c u))=E:=hE.symm;rw [e0]
   have hE32:E<32:=by
    have h1:=aVx c.length (fun u=>decide (0<=aBy p.rules g c u));rw [e0] at h1;have h2:2 ^ c.length<=2 ^ 5:=Nat.pow_le_pow_right (by decide) hcl
    omega
   have HEW:Hid (∀ u,E.testBit u=true->u<g.ports.length):=fun u hu=>by
    rw [hE,aKn] at hu;simp at hu
    rw [<- HCN.out];exact hu.1
   have HEE:=aA1 hE;clear hE e0;obtain ⟨hc0,hc31,_⟩:=aG3 (g:=g) (kind:=kind) hE32;have HC0:=aA1 hc0;have hcell:=aA1 (fun w' (kk:Bel w w')=>show w'.cell? ⟨B,1,none⟩=some (.slice AN g.ports.length kn)/\w'.cell? ⟨B,2,none⟩=some (.int .i64 kind)/\B<w'.heap.size from ⟨(HBk.out _ kk).cell 1 rfl,(HBk.out _ kk).cell 2 rfl,(HBk.out _ kk).lt⟩)
   have hcx:=hcell.out _ HW;clear hc0
   go_wp2_with fail
   replace HW:=HW.drew
   go_region_held3 (fun w'=>w'.cell? ⟨B,1,none⟩=some (.slice AN g.ports.length kn)/\w'.cell? ⟨B,2,none⟩=some (.int .i64 kind)/\B<w'.heap.size) (exact hcell.out _ HW) (first
    | (go_simp;go_at_call 238;refine (aZt AN kn g kind E _ (HNT.out _ HW) (HT.out _ HW) (by omega) HEW.out HG.out).mono ?_;rintro e w1 ⟨RS,rs,rfl,hS,hrs,hrm,hb⟩;have HS:=aA1 hS;have HGC1:=aA1 (HGC.out.drew.keep hb);replace HW:=HW.trans hb;clear hb hS))
   rw [HC0.out];obtain ⟨S,hSE⟩:∃ S,S=(aBf g kind E).1:=⟨_,rfl⟩;have HSE:=aA1 hSE;rw [<- hSE] at HS hc31 hrs;rw [<- hSE];clear hSE;obtain ⟨i0,hi0,hz0,hz1,hz2⟩:=info_parts bIa;have hcx1:=HGC1.out.lt
   go_wp2_with (at_make;refine aCu _ rfl 130 (.tmp 97) (.tmp 97) rfl w1.heap.size 135 i0 (.agg #[.int .u32 0,.int .i64 0]) 2 underlying130 hi0 hz0 hz1 .i64 .i64 S.length rfl rfl (by rw [hz2];omega) (by unfold maxLen;omega) (Nat.le_refl _) ?_;intro gb w2 hown hb;rw [<- aUq] at hown;have HO:=aA1 hown;have HB2:=aA1 hb;clear hown hb)
   have HBX0:Hid (Boxed (w2.alloc (.cells #[.slice (some ⟨gb,0,none⟩) S.length S.length] 130)) w2.heap.size 130 (.slice (some ⟨gb,0,none⟩) S.length S.length)):=Boxed.new _ _ _;have HO0:=aA1 (HO.out.alloc (.cells #[.slice (some ⟨gb,0,none⟩) S.length S.length] 130));have HB0:=aA1 (HB2.out.alloc (.cells #[.slice (some ⟨gb,0,none⟩) S.length S.length] 130));have hgbl:=aAf HO.out;have HQ1:Hid (w1.heap.size<=w2.heap.size):=HB2.out.size;obtain ⟨L,hLE⟩:∃ L,L=aEq p g kind c:=⟨_,rfl⟩;have hLl:L.length=S.length:=by rw [hLE];unfold aEq;rw [List.length_map,<- HEE.out,<- HSE.out]
   have HLE:=aA1 hLE;have HLL:=aA1 hLl;clear hLE hLl HO HB2 hcell hcx hcx1;rw [<- HLE.out]
   have HO1:Hid ((w2.alloc (.cells #[.slice (some ⟨gb,0,none⟩) S.length S.length] 130)).ownsRow w1.heap.size 135 2 (.slice (some ⟨gb,0,none⟩) S.length S.length) S.length ((aHp L 0).flatMap aBe)):=by
    show World.ownsRow _ _ _ _ _ _ _
    rw [bD5,HLL.out];exact HO0.out
   obtain ⟨bx,hbx⟩:∃ bx,bx=w2.heap.size:=⟨_,rfl⟩;rw [<- hbx] at HBX0 HQ1;rw [<- hbx];have hbg:gb<bx:=by rw [hbx];exact hgbl.2
   have hwg:w1.heap.size<=gb:=hgbl.1;clear hbx HO0 hgbl;have HWS1:=aA1 HW.size;refine wp_loop_ghost_k (fun m a W=>∃ (i:Nat) (x18 x19 x101 x102 x103 x104 x105 x106 x107 x108 x109 x110 x111 x112 x113 x126:Value) (ds:List Deferred),i<=S.length/\m=S.length-i/\a={ tmps:=#[.pointer (some ⟨B,0,none⟩),.slice AC c.length kc,.int .i64 (k:Int),undef,undef,undef,.int .u32 0,.slice none 0 0,.int .i64 0,.int .u32 (E:Int),.pointer (some ⟨w.heap.size,0,none⟩),u11,u12,u13,u14,.slice RS S.length rs,.int .i64 0,.pointer (some ⟨bx,0,none⟩),x18,x19,undef,.slice AC c.length kc,.int .i64 (c.length:Int),.int .i64 (c.length:Int),.bool false,u25,u26,u27,u28,u29,u30,u31,u32,u33,u34,u35,u36,u37,u38,u39,u40,u41,u42,u43,u44,u45,u46,u47,u48,u49,u50,u51,u52,u53,u54,u55,u56,u57,u58,u59,u60,u61,u62,u63,u64,u65,u66,u67,u68,u69,u70,u71,u72,u73,u74,u75,u76,u77,u78,u79,.tuple #[.slice RS S.length rs,.int .i64 0],.pointer (some ⟨B,0,none⟩),.pointer (some ⟨B,0,none⟩),.pointer (some ⟨B,1,none⟩),.slice AN g.ports.length kn,.pointer (some ⟨B,0,none⟩),.pointer (some ⟨B,0,none⟩),.pointer (some ⟨B,2,none⟩),.int .i64 kind,.int .u32 (E:Int),.tuple #[.slice RS S.length rs,.int .i64 0],.slice RS S.length rs,.int .i64 0,.int .i64 0,.bool false,undef,.slice RS S.length rs,.int .i64 (S.length:Int),.slice (some ⟨gb,0,none⟩) S.length S.length,.slice RS S.length rs,.int .i64 (S.length:Int),x101,x102,x103,x104,x105,x106,x107,x108,x109,x110,x111,x112,x113,undef,undef,undef,undef,undef,undef,undef,undef,undef,undef,undef,undef,x126,undef,undef],defers:=ds }/\x101 = .int .i64 (i:Int)/\Hid (aDg w.heap.size W ds)/\Hid (Boxed W bx 130 (.slice (some ⟨gb,0,none⟩) S.length S.length))/\Hid (W.ownsRow w1.heap.size 135 2 (.slice (some ⟨gb,0,none⟩) S.length S.length) S.length ((aHp L i).flatMap aBe))/\Hid (Bel w1 W)) S.length ⟨0,_,_,_,_,_,_,_,_,_,_,_,_,_,_,_,_,[],by omega,rfl,rfl,rfl,trivial,HBX0,HO1,HB0⟩ ?_
   intro m a W hI J K hJ hK
   obtain ⟨i,x18,x19,x101,x102,x103,x104,x105,x106,x107,x108,x109,x110,x111,x112,x113,x126,ds,hi,rfl,rfl,rfl,HMK,HBX,HO,HB⟩:=hI;clear HBX0 HO1 HB0
   by_cases hlt:i<S.length
   .have hd0:decide (i<S.length)=true:=by simpa using hlt
    obtain ⟨bs,os,rfl,hbs,hsc⟩:=(HS.out.keep HB.out).at_ i hlt;have hlL:i<(aHp L i).length:=by rw [aX8 (by rw [HLL.out];exact hi),HLL.out];exact hlt
    have hfi:(aHp L i)[i]?=some (0,0):=by
     unfold aHp;rw [List.getElem?_append_right (by simp;omega),List.length_take,Nat.min_eq_left (by rw [HLL.out];exact hi),Nat.sub_self,List.getElem?_replicate,if_pos (by rw [HLL.out];omega)]
    obtain ⟨f1,f2⟩:=aJa _ i _ hfi;obtain ⟨q1,e1,_,_,r1,r1f⟩:=aBv HO.out f1;obtain ⟨q2,e2,_,_,r2,r2f⟩:=aBv HO.out f2;obtain rfl:gb=q1:=by simpa using e1
    obtain rfl:gb=q2:=by simpa using e2
    have hgl:=(aAf HO.out).2;obtain ⟨c3,f3,l3⟩:=aA5 HBX.out;clear f1 f2 hfi e1 e2
    go_wp2_with (go_at_call 174;refine (aJp _ _).mono ?_;rintro e w' ⟨rfl,rfl⟩)
    have hST:=aP2 (g:=g) (kind:=kind) (E:=E) (by omega) (show S[i]∈(aBf g kind E).1 by rw [<- HSE.out];exact List.getElem_mem hlt)
    have HLI:Hid (L[i]'(by rw [HLL.out];exact hlt)=(S[i],aVo p g (aEy p g c S[i]))):=by
     have h1:=HLE.out;have h2:=HSE.out;show _=_
     subst h1;subst h2;unfold aEq;rw [List.getElem_map];simp only [HEE.out]
    generalize S[i]=T at *;have HTW:=aA1 hST.2;have hT32:=hST.1;have HFS:Hid (∀ z:Int,(aHp L i).set i (T,z)=(aHp L i).set i (T,z)):=fun _=>rfl
    have HO2:Hid ((((W.setCell ⟨gb,i*2,none⟩ (.int .u32 (T:Int))).setCell ⟨gb,i*2+1,none⟩ (.int .i64 (k:Int)))).ownsRow w1.heap.size 135 2 (.slice (some ⟨gb,0,none⟩) S.length S.length) S.length (((aHp L i).set i (T,(k:Int))).flatMap aBe)):=by
     have h1:=((HO.out.stored (i*2) (.int .u32 (T:Int))).1.stored (i*2+1) (.int .i64 (k:Int))).1;rw [aWf _ _ (T,(k:Int)) hlL] at h1;exact h1
    have HBX2:Hid (Boxed ((W.setCell ⟨gb,i*2,none⟩ (.int .u32 (T:Int))).setCell ⟨gb,i*2+1,none⟩ (.int .i64 (k:Int))) bx 130 (.slice (some ⟨gb,0,none⟩) S.length S.length)):=Blk.other (Blk.other HBX.out (by simp;omega) _) (by simp;omega) _
    have HB2:Hid (Bel w1 ((W.setCell ⟨gb,i*2,none⟩ (.int .u32 (T:Int))).setCell ⟨gb,i*2+1,none⟩ (.int .i64 (k:Int)))):=(HB.out.setCell (p:=⟨gb,i*2,none⟩) (by simpa using hwg) _).setCell (p:=⟨gb,i*2+1,none⟩) (by simpa using hwg) _
    obtain ⟨cgb,hcgb⟩:=bGo HO.out
    have HMK2:Hid (aDg w.heap.size ((W.setCell ⟨gb,i*2,none⟩ (.int .u32 (T:Int))).setCell ⟨gb,i*2+1,none⟩ (.int .i64 (k:Int))) ds):=HMK.out.keep fun D _ hD=>by
     have hne:D≠gb:=by
      rintro rfl;unfold Blk at hcgb;rw [hcgb] at hD;cases hD
     exact (Below.heap_setCell _ _ _ _ hne).trans ((Below.heap_setCell _ _ _ _ hne).trans hD)
    have HML:=aA1 (HMK.out.below);have hsW:((W.setCell ⟨gb,i*2,none⟩ (.int .u32 (T:Int))).setCell ⟨gb,i*2+1,none⟩ (.int .i64 (k:Int))).heap.size=W.heap.size:=by simp
    clear HO HBX HB HMK hcgb r1 r1f r2 r2f c3 f3 hsc hbs;generalize hW2:(W.setCell ⟨gb,i*2,none⟩ (.int .u32 (T:Int))).setCell ⟨gb,i*2+1,none⟩ (.int .i64 (k:Int))=W2 at *;clear hW2;rw [<- hsW] at hgl l3 HML ⊢;obtain ⟨W0,hW0⟩:∃ W0,(W2.alloc (.cells #[.int .i64 (i:Int)] 3)).alloc (.cells #[.int .u32 (T:Int)] 34)=W0:=⟨_,rfl⟩;have bI:Boxed W0 W2.heap.size 3 (.int .i64 (i:Int)):=by rw [<- hW0];exact (Boxed.new W2 _ _).alloc _
    have bN:Boxed W0 (W2.heap.size+1) 34 (.int .u32 (T:Int)):=by
     rw [<- hW0];have:=Boxed.new (W2.alloc (.cells #[.int .i64 (i:Int)] 3)) 34 (.int .u32 (T:Int));rw [World.size_alloc] at this;exact this
    have bX:Boxed W0 bx 130 (.slice (some ⟨gb,0,none⟩) S.length S.length):=by rw [<- hW0];exact (HBX2.out.alloc _).alloc _
    have hO0:W0.ownsRow w1.heap.size 135 2 (.slice (some ⟨gb,0,none⟩) S.length S.length) S.length (((aHp L i).set i (T,(k:Int))).flatMap aBe):=by rw [<- hW0];exact (HO2.out.alloc _).alloc _
    have hb0:Bel w1 W0:=by rw [<- hW0];exact (HB2.out.alloc _).alloc _
    have hm0:aDg w.heap.size W0 ds:=by
     rw [<- hW0];refine HMK2.out.keep fun D _ hD=>?_
     have hlt:=(Array.getElem?_eq_some_iff.1 hD).1;exact (Below.heap_alloc _ _ _ (by simp;omega)).trans ((Below.heap_alloc _ _ _ hlt).trans hD)
    have hz0:W0.heap.size=W2.heap.size+1+1:=by rw [<- hW0];simp
    have HM0:=aA1 hm0;rw [hW0];clear hW0 HBX2 HO2 HB2 HMK2 hsW hm0;have HGW:Hid (Blk W0 w.heap.size (aB9 (gF p g c) c.length 0) 256):=HGC1.out.keep hb0;have HTW0:=HT.out _ (HW.trans hb0);have htb:0<w.heap.size:=(HT.out _ (Bel.refl w)).1
    have hT32':T<32:=by
     have:=(aJr hT32 (show E<4294967296 by omega)).2 HTW.out
     have:=aD1 this;omega
    have helt:(aB1 T).length<=5:=aQv (by decide) hT32'
    have HGB:=aA1 (fun v (hv:v<c.length)=>bIx (v:=v) HM.out HSZ.out hv10 hv)
    have HEL:Hid (∀ v∈aB1 T,v<c.length):=fun v hv=>by
     obtain ⟨h1,h2⟩:=aDt.1 hv;have h3:=aB5.1 HTW.out v h1 h2;rw [HCN.out];exact HEW.out v h3
    have hgw:w.heap.size<gb:=by have:=HWS1.out;have:=HGC1.out.lt;omega
    refine (wpIn_wide (n:=5)).1 ?_
    refine aFc (n:=5) rfl (by decide) (gf:=233) (lb:=#[.pointer (some ⟨W2.heap.size+1,0,none⟩)]) (by simp [go_sem]) trivial (enters_of func233 (by kernel_rfl) rfl)
     (aRk 4 _ T W0 (by decide) hT32 bN HTW0) (by rintro k rfl;omega) (by rintro k rfl;exact HTW0.1) (fun _=>rfl) (fun k=>k=W2.heap.size+1∨k=W0.heap.size∨k=W0.heap.size+1) (fun k=>Iff.rfl)
     (fun pre Wp=>Agr (fun q=>q=gb∨q=W2.heap.size+1) W0 Wp/\Wp.ownsRow w1.heap.size 135 2 (.slice (some ⟨gb,0,none⟩) S.length S.length) S.length (((aHp L i).set i (T,(k:Int)+(pre.map (gF p g c)).sum)).flatMap aBe))
     (fun c pre W=>False)
     (fun s A B ⟨h1,h2⟩ hg=>⟨h1.step hg (by rintro q hq (h | h | h) <;> first | exact .inr h | omega),aGi h2 hg (by omega)⟩)
     (fun c s A B h hg=>h)
     ⟨Agr.refl _ _,by simpa using hO0⟩
     (fun x a' W=>a'={ tmps:=#[.pointer (some ⟨B,0,none⟩),.slice AC c.length kc,.int .i64 (k:Int),undef,undef,undef,.int .u32 0,.slice none 0 0,.int .i64 0,.int .u32 (E:Int),.pointer (some ⟨w.heap.size,0,none⟩),u11,u12,u13,u14,.slice (some ⟨bs,os,none⟩) S.length rs,.int .i64 0,.pointer (some ⟨bx,0,none⟩),.pointer (some ⟨W2.heap.size,0,none⟩),.int .u32 (T:Int),.int .i64 (x:Int),.slice AC c.length kc,.int .i64 (c.length:Int),.int .i64 (c.length:Int),.bool false,u25,u26,u27,u28,u29,u30,u31,u32,u33,u34,u35,u36,u37,u38,u39,u40,u41,u42,u43,u44,u45,u46,u47,u48,u49,u50,u51,u52,u53,u54,u55,u56,u57,u58,u59,u60,u61,u62,u63,u64,u65,u66,u67,u68,u69,u70,u71,u72,u73,u74,u75,u76,u77,u78,u79,.tuple #[.slice (some ⟨bs,os,none⟩) S.length rs,.int .i64 0],.pointer (some ⟨B,0,none⟩),.pointer (some ⟨B,0,none⟩),.pointer (some ⟨B,1,none⟩),.slice AN g.ports.length kn,.pointer (some ⟨B,0,none⟩),.pointer (some ⟨B,0,none⟩),.pointer (some ⟨B,2,none⟩),.int .i64 kind,.int .u32 (E:Int),.tuple #[.slice (some ⟨bs,os,none⟩) S.length rs,.int .i64 0],.slice (some ⟨bs,os,none⟩) S.length rs,.int .i64 0,.int .i64 0,.bool false,undef,.slice (some ⟨bs,os,none⟩) S.length rs,.int .i64 (S.length:Int),.slice (some ⟨gb,0,none⟩) S.length S.length,.slice (some ⟨bs,os,none⟩) S.length rs,.int .i64 (S.length:Int),.int .i64 (i:Int),.bool true,.int .i64 (i:Int),.pointer (some ⟨bs,os+i,none⟩),.int .u32 (T:Int),.slice (some ⟨gb,0,none⟩) S.length S.length,.int .i64 (i:Int),.int .u32 (T:Int),.int .i64 (k:Int),.agg #[.int .u32 (T:Int),.int .i64 (k:Int)],.pointer (some ⟨gb,i*2,none⟩),.int .u32 (T:Int),.func (.func 233) #[] #[.pointer (some ⟨W2.heap.size+1,0,none⟩)],.int .i64 (x:Int),undef,undef,undef,undef,undef,undef,undef,undef,undef,undef,undef,x126,undef,undef],defers:=[] })
     (fun _ _ _ _ h _=>h) ?assign ?body ?done ?stop
    case assign =>
     intro pre x Wp K hp hI hl hK
     gi_wp2
     exact hK _ _ (aBk.refl _ _) hI rfl
    case stop =>
     rintro c' pre W hp h hK;exact h.elim
    case body =>
     rintro pre x a' Wp hp ⟨hA,hO⟩ rfl hl ⟨r,hr⟩;have hx:x∈aB1 T:=hp.subset (by simp)
     have hxc:=HEL.out x hx
     have hpl:pre.length<=5:=by
      have:=hp.length_le;simp at this;omega
     have hsb:=bEe (l:=pre) (f:=gF p g c) (B:=29491200000) (fun v hv=>HGB.out v (HEL.out v (hp.subset (by simp [hv]))))
     have hgx:=HGB.out x hxc
     have hk0:(k:Int)<=32768:=by
      have h1:=(aLl HM.out).2;have h2:=HSZ.out;have h3:=HK.out;omega
     obtain ⟨Z,hZ⟩:∃ Z,Z=(pre.map (gF p g c)).sum:=⟨_,rfl⟩;rw [<- hZ] at hO hsb;have HZ:=aA1 hZ;clear hZ;have hi2:((aHp L i).set i (T,(k:Int)+Z))[i]?=some (T,(k:Int)+Z):=List.getElem?_set_self hlL;obtain ⟨f1,f2⟩:=aJa _ i _ hi2;obtain ⟨q2,e2,_,_,r2,r2f⟩:=aBv hO f2;obtain rfl:gb=q2:=by simpa using e2
     have hgp:=(aAf hO).2;have hGp:=hA.blk HGW.out (by rintro (h | h) <;> omega)
     have gx:=Blk.cell hGp x (aPm (gF p g c) hxc (show x<24 by omega) 0)
     have gl:=Blk.lt hGp;obtain ⟨c1,f1',l1⟩:=aA5 (hA.boxed bX (by rintro (h | h) <;> omega))
     obtain ⟨c2,f2',l2⟩:=aA5 (hA.boxed bI (by rintro (h | h) <;> omega))
     have HO:=aA1 hO;have HA:=aA1 hA;have HGX:Hid (gF p g c x=gF p g c x):=rfl;clear hO hA f1 f2 e2 hi2 hGp;obtain ⟨gx0,hgx0⟩:∃ y,y=gF p g c x:=⟨_,rfl⟩;rw [<- hgx0] at gx hgx;have HGX0:=aA1 hgx0;have i1:(i:Int)<(S.length:Int):=by omega
     have i2:(x:Int)<24:=by omega
     clear hgx0;refine wpIn_block ?_
     refine aAd.startIn (fun w'=>w'.cell? ⟨bx,0,none⟩=some (.slice (some ⟨gb,0,none⟩) S.length S.length)/\w'.cell? ⟨W2.heap.size,0,none⟩=some (.int .i64 (i:Int))/\w'.cell? ⟨gb,i*2+1,none⟩=some (.int .i64 ((k:Int)+Z))/\w'.cell? ⟨w.heap.size,x,none⟩=some (.int .i64 gx0)/\bx<w'.heap.size/\W2.heap.size<w'.heap.size/\gb<w'.heap.size/\w.heap.size<w'.heap.size) 11 (by kernel_rfl) (by kernel_rfl) (by rintro ⟨_,_,h⟩;exact h) ?_
     have hHeld:(fun w':World=>w'.cell? ⟨bx,0,none⟩=some (.slice (some ⟨gb,0,none⟩) S.length S.length)/\w'.cell? ⟨W2.heap.size,0,none⟩=some (.int .i64 (i:Int))/\w'.cell? ⟨gb,i*2+1,none⟩=some (.int .i64 ((k:Int)+Z))/\w'.cell? ⟨w.heap.size,x,none⟩=some (.int .i64 gx0)/\bx<w'.heap.size/\W2.heap.size<w'.heap.size/\gb<w'.heap.size/\w.heap.size<w'.heap.size) Wp.drew:=⟨c1,c2,r2,gx,l1,l2,hgp,gl⟩
     (refine aAd.t (v:=?_) 0 115 rfl rfl (by kernel_rfl) (fun _ _ _ h=>h) hHeld (Or.inl ⟨by rfl,?_⟩) ?_;rotate_left 1;focus (intro w' hSw;(try dsimp only at hSw);go_simp;(try with_reducible rfl);done));(refine aAd.t (v:=?_) 1 116 rfl rfl (by kernel_rfl) (fun _ _ _ h=>h) hHeld (Or.inl ⟨by rfl,?_⟩) ?_;rotate_left 1;focus (intro w' hSw;(try dsimp only at hSw);go_simp;(try with_reducible rfl);done));(refine aAd.t (v:=?_) 2 117 rfl rfl (by kernel_rfl) (fun _ _ _ h=>h) hHeld (Or.inl ⟨by rfl,?_⟩) ?_;rotate_left 1;focus (intro w' hSw;(try dsimp only at hSw);go_simp;(try with_reducible rfl);done));(refine aAd.t (v:=?_) 3 118 rfl rfl (by kernel_rfl) (fun _ _ _ h=>h) hHeld (Or.inl ⟨by rfl,?_⟩) ?_;rotate_left 1;focus (intro w' hSw;(try dsimp only at hSw);go_simp;(try with_reducible rfl);done));(refine aAd.t (v:=?_) 4 119 rfl rfl (by kernel_rfl) (fun _ _ _ h=>h) hHeld (Or.inl ⟨by rfl,?_⟩) ?_;rotate_left 1;focus (intro w' hSw;(try dsimp only at hSw);go_simp;(try with_reducible rfl);done));(refine aAd.t (v:=?_) 5 120 rfl rfl (by kernel_rfl) (fun _ _ _ h=>h) hHeld (Or.inl ⟨by rfl,?_⟩) ?_;rotate_left 1;focus (intro w' hSw;(try dsimp only at hSw);go_simp;(try with_reducible rfl);done));(refine aAd.t (v:=?_) 6 121 rfl rfl (by kernel_rfl) (fun _ _ _ h=>h) hHeld (Or.inl ⟨by rfl,?_⟩) ?_;rotate_left 1;focus (intro w' hSw;(try dsimp only at hSw);go_simp;(try with_reducible rfl);done));(refine aAd.t (v:=?_) 7 122 rfl rfl (by kernel_rfl) (fun _ _ _ h=>h) hHeld (Or.inl ⟨by rfl,?_⟩) ?_;rotate_left 1;focus (intro w' hSw;(try dsimp only at hSw);go_simp;(try with_reducible rfl);done));(refine aAd.t (v:=?_) 8 123 rfl rfl (by kernel_rfl) (fun _ _ _ h=>h) hHeld (Or.inl ⟨by rfl,?_⟩) ?_;rotate_left 1;focus (intro w' hSw;(try dsimp only at hSw);go_simp;(try with_reducible rfl);done));(refine aAd.t (v:=?_) 9 124 rfl rfl (by kernel_rfl) (fun _ _ _ h=>h) hHeld (Or.inl ⟨by rfl,?_⟩) ?_;rotate_left 1;focus (intro w' hSw;(try dsimp only at hSw);go_simp;(try with_reducible rfl);done));(refine aAd.t (v:=?_) 10 125 rfl rfl (by kernel_rfl) (fun _ _ _ h=>h) hHeld (Or.inl ⟨by rfl,?_⟩) ?_;rotate_left 1;focus (intro w' hSw;(try dsimp only at hSw);go_simp;(try with_reducible rfl);done))
     (refine aAd.one (i:=11) (by kernel_rfl) rfl (fun K hK=>?_));go_simp;refine hK.out _ _ (fun h=>absurd rfl h) ?_;clear hK K;refine aAd.done (by kernel_rfl) ?_ _;(try simp only [Act.put,List.setIfInBounds_toArray,List.set_cons_zero,List.set_cons_succ])
     rw [bEk (by omega) (by omega)]
     have hst:=((HO.out.drew).stored (i*2+1) (.int .i64 ((k:Int)+Z+gx0))).1;rw [aUp _ i (T,(k:Int)+Z) _ (List.getElem?_set_self hlL),List.set_set] at hst;have hse:aBk (orE (fun k=>k=W2.heap.size+1∨k=W0.heap.size∨k=W0.heap.size+1) (fun k=>k=0)) Wp (Wp.setCell ⟨gb,i*2+1,none⟩ (.int .i64 ((k:Int)+Z+gx0))):=aBk.setCell _ _ _ (by rintro ((h | h | h) | h) <;> (dsimp only at h;omega))
     refine ⟨hse,HA.out.trans (Agr.drew (Agr.setCell (E:=fun q=>q=gb∨q=W2.heap.size+1) _ _ _ (Or.inl rfl))),?_⟩
     have he:(k:Int)+((pre++[x]).map (gF p g c)).sum=(k:Int)+Z+gx0:=by
      rw [List.map_append,List.sum_append,<- HZ.out,HGX0.out];simp;omega
     rw [he];exact hst
    case done =>
     rintro Wp ⟨hA,hO⟩ hKd;have hsum:=bMn HM.out hT32 (HEE.out ▸ HTW.out);rw [<- HK.out] at hsum;rw [<- hsum] at hO
     have hfill:(aHp L i).set i (T,aVo p g (aEy p g c T))=aHp L (i+1):=by
      rw [<- bFn (by rw [HLL.out];exact hlt),HLI.out]
     rw [hfill] at hO;have bX':=hA.boxed bX (by rintro (h | h) <;> omega)
     have hb':=hA.belE (w:=w1) hb0 (by rintro q (h | h) <;> omega)
     have hMk:aDg w.heap.size Wp ({ target := .collected W0.heap.size,args:=#[] } :: ds):=by
      refine aDg.push (HM0.out.keep fun D _ hD=>?_) (by have:=HWS1.out;have:=hb0.size;omega) hKd (fun d hd D hD=>?_)
      .obtain ⟨cgb,hcgb⟩:=bGo hO0
       have hlt:=(Array.getElem?_eq_some_iff.1 hD).1;refine (hA.block D hlt ?_).trans hD
       rintro (h | h)
       .subst h
        unfold Blk at hcgb;rw [hcgb] at hD;cases hD
       .subst h
        have:=bN;unfold Boxed at this;rw [this] at hD;cases hD
      .have:=(HML.out d hd D hD).2
       omega
     have HO9:=aA1 hO;have HX9:=aA1 bX';have HB9:=aA1 hb';have HM9:=aA1 hMk;clear hO bX' hb' hMk hA hsum hfill hKd hz0
     go_wp2_with fail
     refine Handed.intro (S.length-(i+1)) (by omega) (hJ _ _ _ ?_)
     exact ⟨i+1,_,_,_,_,_,_,_,_,_,_,_,_,_,_,_,_,_,by omega,rfl,rfl,by go_num,HM9,HX9,HO9,HB9⟩
   .have hd0:decide (i<S.length)=false:=by simpa using hlt
    obtain rfl:i=S.length:=by omega
    obtain ⟨c3,f3,l3⟩:=aA5 HBX.out
    go_wp2_with fail
    go_region
    go_wp2;refine aCe (B:=w.heap.size) (ds:=ds) (HMK.out.keep fun D _ hD=>hD) ?_
    intro W' hA hs
    have hO:=HO.out;rw [show aHp L S.length=L by rw [<- HLL.out];exact bD4 L,<- HLL.out] at hO
    have hO2:=aMq (show W.drew.ownsRow _ _ _ _ _ _ from hO) hA
    refine ⟨.tuple #[.int .u32 (E:Int),.slice (some ⟨gb,0,none⟩) S.length S.length,.int .i64 0],by simp [results,Tryz.results182,go_sem],?_⟩
    refine ⟨some ⟨gb,0,none⟩,S.length,?_,?_,?_,by unfold maxLen;omega,?_,?_⟩
    .rw [<- HLE.out,HLL.out,HEE.out]
    .rw [<- HLE.out];exact bC4 (c:=S.length) (by rw [HLL.out] at hO2 ⊢;exact hO2)
    .rw [<- HLE.out,HLL.out];exact Nat.le_refl _
    .intro b o e
     obtain rfl:gb=b:=by injection e with e;injection e
     have:=HWS1.out;omega
    .exact hA.bel ((HW.trans HB.out).drew)
end Go.Proofs.YtmifhmdghfbalaaGreatDoor

namespace Go.Proofs.YtmifhmdghfbalaaGreatDoor
open Go.RowKit
attribute [local go_sem] Oper.semAt_some
theorem Agr.of_bel {E:Nat->Prop} {A B C:World} (h:Agr E B C) (k:Bel A B):Agr E A C :=
 ⟨h.os.trans k.os,h.tape.trans k.tape,h.output.trans k.output,Nat.le_trans k.size h.size,fun i hi hn=>(h.block i (Nat.lt_of_lt_of_le hi k.size) hn).trans (k.block i hi)⟩
def aZe (bs:List (Nat × Nat)) (k:Nat):Prop:=∃ b∈bs,b.1=k
theorem RowsC.agr {E:Nat->Prop} {A B:World} {base cap n g:Nat} {d:aA8} {bs:List (Nat × Nat)} (h:RowsC A base (some ⟨g,0,none⟩) cap n d bs) (hA:Agr E A B) (hg:¬ E g) (hb:∀ b∈bs,¬ E b.1):RowsC B base (some ⟨g,0,none⟩) cap n d bs :=
 ⟨aGi h.own hA hg,fun u x hx=>by
  obtain ⟨b,h1,h2⟩:=h.rows u x hx;exact ⟨b,h1,aGi h2 hA (hb b (List.mem_of_getElem? h1))⟩,h.apart⟩
theorem RowsC.row_lt {A:World} {base cap n g:Nat} {d:aA8} {bs:List (Nat × Nat)} (h:RowsC A base (some ⟨g,0,none⟩) cap n d bs):∀ b∈bs,base<=b.1/\b.1<A.heap.size:=by
 intro b hb
 obtain ⟨u,hu,rfl⟩:=List.getElem_of_mem hb;have hd:u<d.length:=by rw [<- h.length];exact hu
 obtain ⟨b',h1,h2⟩:=h.rows u _ (List.getElem?_eq_getElem hd);rw [List.getElem?_eq_getElem hu] at h1;injection h1 with h1
 rw [h1];exact aAf h2
theorem RowsC.row_at {A:World} {base cap n g:Nat} {d:aA8} {bs:List (Nat × Nat)} (h:RowsC A base (some ⟨g,0,none⟩) cap n d bs) {u:Nat} {x:List Int} (hx:d[u]?=some x) :
  ∃ b,bs[u]?=some b/\A.cell? ⟨g,u,none⟩=some (.slice (some ⟨b.1,0,none⟩) n b.2)/\g<A.heap.size/\A.ownsRow base 3 1 (.slice (some ⟨b.1,0,none⟩) n b.2) n (x.map (Value.int .i64))/\b.1<A.heap.size/\g≠b.1:=by
 obtain ⟨b,h1,h2⟩:=h.rows u x hx;refine ⟨b,h1,h.head h1,(aAf h.own).2,h2,(aAf h2).2,fun e=>h.off h2 (by rw [<- e];rfl)⟩
theorem bHy.inRound {α:Type} {F:Fence} {n:Nat} {P:Program} {g:Nat} {lb:Array Value} {encs:α->Array Value} {Bs Rs:Nat->Prop} {S:List α} {w:World} (l:Nat) (h:bHy F n P g lb encs Bs Rs S w):bHy (F.inRound l) n P g lb encs Bs Rs S w:=h
def bM7 (w0:World) (gb cap m:Nat) (d:aA8) (bs:List (Nat × Nat)) (w:World) (e:Ending) (w':World):Prop :=
 (∃ v,e = .returned v)/\RowsC w' w0.heap.size (some ⟨gb,0,none⟩) cap m d bs/\Agr (aZe bs) w w'
theorem aQe (w0:World) (A:Option Addr) (ct gb cap m:Nat) (T:List (List (Int × Int))) (d:aA8) (bs:List (Nat × Nat)) (w:World) (hT:aEn w0 A T.length T) (hb0:Bel w0 w) (hC:RowsC w w0.heap.size (some ⟨gb,0,none⟩) cap m d bs)
  (hin:inN T d) (hm:∀ t∈T,t.length=m) (hs:aK9 T) (hn:T.length<=24) (hm10:m<=10) (hn1:1<=T.length) (hm1:1<=m) :
  Calls prog 183 #[.slice A T.length ct,.slice (some ⟨gb,0,none⟩) d.length cap] w (bM7 w0 gb cap m (aI3 T d).1 bs w):=by
 have HT:=aA1 (fun w' (k:Bel w0 w')=>hT.keep k);have HIN:=aA1 hin;have HM:=aA1 hm;have HS:=aA1 hs;have HDL:=aA1 (aLg hin);obtain ⟨b,o,_,_,rfl,hbt,_,_,_,_⟩:=hT.at_ 0 (by omega)
 -- the rows of the table, as functions
 have hrow:∀ v,∃ R:Option Addr × Nat,v<T.length->w0.cell? ⟨b,o+v,none⟩=some (.slice R.1 m R.2)/\aKg w0 R.1 m (T.getD v []):=fun v=>by
  by_cases hv:v<T.length
  .obtain ⟨b',o',R,rc,e1,_,hc,hR,_,_⟩:=hT.at_ v hv
   obtain ⟨rfl,rfl⟩:b=b'/\o=o':=by simpa using e1
   have hl:=hm _ (List.getElem_mem hv);have e2:T.getD v []=T[v]:=aA7 hv;refine ⟨(R,rc),fun _=>⟨?_,?_⟩⟩
   .rw [hl] at hc;exact hc
   .rw [e2];rw [hl] at hR;exact hR
  .exact ⟨(none,0),fun h=>absurd h hv⟩
 obtain ⟨R,hR⟩:∃ R:Nat->Option Addr × Nat,∀ v,v<T.length->w0.cell? ⟨b,o+v,none⟩=some (.slice (R v).1 m (R v).2)/\aKg w0 (R v).1 m (T.getD v []):=⟨fun v=>Classical.choose (hrow v),fun v=>Classical.choose_spec (hrow v)⟩;have HR:=aA1 hR;clear hrow hR hin hm hs;refine aF5 func183 rfl ?_
 simp only [ntmps183,List.size_toArray,List.length_cons,List.length_nil,Nat.reduceAdd,Nat.reduceSub,Array.replicate_succ,Array.replicate_zero,List.push_toArray,List.append_toArray,List.nil_append,List.cons_append]
 go_wp2_with (go_at_call 239;refine (aWo _ _ _ _).mono ?_;rintro e w' ⟨rfl,rfl⟩)
 obtain ⟨W0,hW0⟩:∃ W0,(w.alloc (.cells #[.slice (some ⟨gb,0,none⟩) d.length cap] 30)).alloc (.cells #[.slice (some ⟨b,o,none⟩) T.length ct] 189)=W0:=⟨_,rfl⟩;have bC:Boxed W0 w.heap.size 30 (.slice (some ⟨gb,0,none⟩) d.length cap):=by rw [<- hW0];exact (Boxed.new w _ _).alloc _
 have bT:Boxed W0 (w.heap.size+1) 189 (.slice (some ⟨b,o,none⟩) T.length ct):=by
  rw [<- hW0];have:=Boxed.new (w.alloc (.cells #[.slice (some ⟨gb,0,none⟩) d.length cap] 30)) 189 (.slice (some ⟨b,o,none⟩) T.length ct);rw [World.size_alloc] at this;exact this
 have hbw:Bel w W0:=by rw [<- hW0];exact ((Bel.refl w).alloc _).alloc _
 have hz0:W0.heap.size=w.heap.size+1+1:=by rw [<- hW0];simp
 have hC0:=hC.keep hbw;have hrl:=hC.row_lt;have hgl:=aAf hC.own;have hws:=hb0.size;have hCE:Hid (RowsC w w0.heap.size (some ⟨gb,0,none⟩) cap m d bs):=hC;rw [hW0];clear hW0 hC;have rowE:∀ (N:Nat),w.heap.size<=N->∀ b'∈bs,b'.1≠N:=fun N hN b' hb' e=>by have:=(hrl b' hb').2;omega
 refine (wpIn_wide (n:=5)).1 ?_
 refine aFc (n:=5) rfl (by decide) (gf:=259) (lb:=#[.pointer (some ⟨w.heap.size+1,0,none⟩)]) (by simp [go_sem]) trivial (enters_of func259 (by kernel_rfl) rfl)
  (bIi 4 _ b o T.length ct (fun v=>(R v).1) (fun _=>m) (fun v=>(R v).2) W0 (by decide) bT (by have:=(hb0.trans hbw).size;omega) (fun v hv=>((hb0.trans hbw).cell hbt).trans (HR.out v hv).1) (by omega)) (by rintro k h;exact h.elim) (by rintro k (rfl | rfl) <;> omega) (fun _=>rfl) (fun k=>k=W0.heap.size∨k=W0.heap.size+1) (fun k=>by simp)
  (fun pre W=>Agr (aZe bs) W0 W/\RowsC W w0.heap.size (some ⟨gb,0,none⟩) cap m (aIv T d (T.length-pre.length)) bs/\(aI3 (T.drop (T.length-pre.length)) (d.drop (T.length-pre.length))).2=true)
  (fun c pre W=>c = .ret/\Agr (aZe bs) W0 W/\RowsC W w0.heap.size (some ⟨gb,0,none⟩) cap m (aI3 T d).1 bs)
  (fun s A' B' ⟨h1,h2,h3⟩ hg=>⟨h1.step hg (by rintro q hq (h | h) <;> omega),h2.agr hg (by omega) (fun b' hb'=>by have:=(hrl b' hb').2;omega),h3⟩)
  (fun c s A' B' ⟨h0,h1,h2⟩ hg=>⟨h0,h1.step hg (by rintro q hq (h | h) <;> omega),h2.agr hg (by omega) (fun b' hb'=>by have:=(hrl b' hb').2;omega)⟩)
  ⟨Agr.refl _ _,by simpa [aZk HDL.out] using hC0,by simpa using bI7 T d⟩
  (fun x a' W=>∃ vb,Boxed W vb 3 (.int .i64 (x:Int))/\W0.heap.size+1<vb/\a'={ tmps:=#[.slice (some ⟨b,o,none⟩) T.length ct,.slice (some ⟨gb,0,none⟩) d.length cap,undef,.pointer (some ⟨w.heap.size,0,none⟩),.pointer (some ⟨vb,0,none⟩),.slice (R x).1 m (R x).2,undef,undef,.slice (some ⟨b,o,none⟩) T.length ct,.func (.func 259) #[] #[.pointer (some ⟨w.heap.size+1,0,none⟩)],.int .i64 (x:Int),.slice (R x).1 m (R x).2,undef,undef,undef,undef,undef,undef,undef,undef,undef,undef,undef,undef,undef,undef,undef,undef,undef,undef,undef,undef,undef,undef,undef,undef,undef,undef,undef,undef,undef,undef,undef],defers:=[] })
  (fun x a' A' B' ⟨vb,h1,h2,h3⟩ hg=>⟨vb,hg.boxed h1 (by omega),h2,h3⟩) ?assign ?body ?done ?stop
 case assign =>
  rintro pre x W K hp ⟨h1,h2,h3⟩ hl hK
  gi_wp2
  refine hK _ _ (aBk.alloc _ _ _) ⟨h1.trans (Agr.alloc _ _ _),h2.keep ((Bel.refl W).alloc _),h3⟩ ⟨W.heap.size,Boxed.new W _ _,hl,rfl⟩
 case done =>
  rintro W ⟨hA,hC',hcar⟩ hKd;rw [aX7,Nat.sub_self] at hC' hcar
  have hfin:(aI3 T d).1=aIv T d 0:=by
   have:=aTf HIN.out (by simpa using hcar)
   rw [this,bCp]
  go_wp2;refine aCe (B:=w.heap.size) (aDg.push (aDg.nil _ _) (by omega) hKd (by simp)) ?_
  intro W' hA2 hs2
  refine ⟨_,by simp [results,Tryz.results183,go_sem];rfl,⟨_,rfl⟩,?_,?_⟩
  .rw [hfin]
   exact ⟨aMq hC'.own hA2,fun u x hx=>by
    obtain ⟨b',k1,k2⟩:=hC'.rows u x hx;exact ⟨b',k1,aMq k2 hA2⟩,hC'.apart⟩
  .exact (hA.of_bel hbw).step hA2 (by rintro q hq ⟨h,_⟩;omega)
 case stop =>
  rintro c' pre W hp ⟨rfl,hA,hC'⟩ hKd;refine wpIn_wide.2 ?_
  go_wp2;refine aCe (B:=w.heap.size) (aDg.push (aDg.nil _ _) (by omega) hKd (by simp)) ?_
  intro W' hA2 hs2
  refine ⟨_,by simp [results,Tryz.results183,go_sem];rfl,⟨_,rfl⟩,?_,?_⟩
  .exact ⟨aMq hC'.own hA2,fun u x hx=>by
    obtain ⟨b',k1,k2⟩:=hC'.rows u x hx;exact ⟨b',k1,aMq k2 hA2⟩,hC'.apart⟩
  .exact (hA.of_bel hbw).step hA2 (by rintro q hq ⟨h,_⟩;omega)
 case body =>
  rintro pre x a' W hp ⟨hA,hC',hcar⟩ ⟨vb,hVB,hvb,rfl⟩ hl ⟨r,hr⟩;have hx:=bBp hp;have hxt:x<T.length:=by omega
  have hbW:Bel w0 W:=hA.belE (hb0.trans hbw) (by rintro k ⟨b',hb',rfl⟩;exact (hrl b' hb').1)
  have hrx:=(HR.out x hxt).2;obtain ⟨b1,o1,hRx,hb1,_,_⟩:=hrx.at_ 0 (by rw [aA7 hxt,HM.out _ (List.getElem_mem hxt)];omega)
  obtain ⟨t,hte⟩:∃ t,t=T[x]:=⟨_,rfl⟩;obtain ⟨fy,hfy⟩:∃ fy:Nat->Int × Int,∀ y,fy y=T[x].getD y (0,0):=⟨_,fun _=>rfl⟩
  have HPC:Hid (∀ y,y<m->w0.cell? ⟨b1,o1+y*2,none⟩=some (.int .i64 (fy y).1)/\w0.cell? ⟨b1,o1+y*2+1,none⟩=some (.int .i64 (fy y).2)):=fun y hy=>by
   obtain ⟨b2,o2,e2,_,k0,k1⟩:=hrx.at_ y (by rw [aA7 hxt,HM.out _ (List.getElem_mem hxt)];exact hy)
   rw [hRx] at e2;obtain ⟨rfl,rfl⟩:b1=b2/\o1=o2:=by simpa using e2
   simp only [aA7 hxt] at k0 k1
   have hy':y<T[x].length:=by rw [HM.out _ (List.getElem_mem hxt)];exact hy
   rw [hfy,aA7 hy'];exact ⟨k0,k1⟩
  clear hrx;rw [hRx]
  gi_wp2_with (refine ⟨trivial,?_⟩;gi_at_call 240;refine (CallsIn.inRound _ (callsIn_wide.2 (aWn _ _ _ _))).mono ?_;rintro e w' ⟨rfl,rfl⟩)
  have hxd:x<d.length:=by rw [HDL.out];exact hxt
  obtain ⟨dx,hdx⟩:∃ dx,dx=d[x]:=⟨_,rfl⟩;have htl:t.length=m:=by rw [hte];exact HM.out _ (List.getElem_mem hxt)
  have hind:inL t dx:=by rw [hte,hdx];exact (aOh.1 HIN.out).2 x hxd hxt
  have hdl:dx.length=m:=by rw [aIy hind,htl]
  have hcut:T.length-pre.length=x+1:=by omega
  rw [hcut] at hC' hcar;have HCAR:=aA1 hcar;have hbk:=bCo (T:=T) HDL.out hxt;rw [<- hdx] at hbk;have hbkl:(aIv T d (x+1)).length=T.length:=aWj HDL.out (by omega)
  have HFY:Hid (∀ y (h:y<t.length),fy y=t[y]):=fun y h=>by subst hte;rw [hfy,aA7 h]
  have HTE:=aA1 hte;have HDX:=aA1 hdx;clear hte hdx hfy;obtain ⟨W1,hW1⟩:∃ W1,W.alloc (.cells #[.slice (some ⟨b1,o1,none⟩) m (R x).2] 235)=W1:=⟨_,rfl⟩;have bR:Boxed W1 W.heap.size 235 (.slice (some ⟨b1,o1,none⟩) m (R x).2):=by rw [<- hW1];exact Boxed.new W _ _
  have hb1w:Bel W W1:=by rw [<- hW1];exact (Bel.refl W).alloc _
  have hz1:W1.heap.size=W.heap.size+1:=by rw [<- hW1];simp
  have hr1:W1.heap[W0.heap.size+1]?=some (.loop r):=(hb1w.block _ (Array.getElem?_eq_some_iff.1 hr).1).trans hr;have hVB1:=(hb1w.block vb hVB.lt).trans hVB;have hC1:=hC'.keep hb1w;have hsW0:=hA.size;have hbC:Boxed W w.heap.size 30 (.slice (some ⟨gb,0,none⟩) d.length cap):=hA.boxed bC (by rintro ⟨b',hb',e⟩;exact rowE _ (Nat.le_refl _) b' hb' e)
  have hbC1:=(hb1w.block _ hbC.lt).trans hbC;have hvl:=hVB.lt;rw [hW1];clear hW1;have HVB1:Hid (Boxed W1 vb 3 (.int .i64 (x:Int))):=hVB1;have HBC1:Hid (Boxed W1 w.heap.size 30 (.slice (some ⟨gb,0,none⟩) d.length cap)):=hbC1;clear hVB1 hbC1
  refine aZ9 (n:=5-1-1) (l₀:=W0.heap.size+1) (r₀:=r) rfl hr1 (by decide) (gf:=260) (lb:=#[.pointer (some ⟨W.heap.size,0,none⟩)]) (by simp [go_sem]) trivial (enters_of func260 (by kernel_rfl) rfl)
   (bHy.inRound _ (bIh 2 W.heap.size b1 o1 m (R x).2 fy W1 (by decide) bR (by have:=(hbW.trans hb1w).size;omega) (fun y hy=>⟨((hbW.trans hb1w).cell hb1).trans (HPC.out y hy).1,((hbW.trans hb1w).cell hb1).trans (HPC.out y hy).2⟩) (by omega))) (by rintro k h;exact h.elim) (by rintro k (rfl | rfl) <;> omega) (fun _=>rfl) (fun k=>k=W1.heap.size) (fun k=>by simp)
   (fun pre2 Wp=>Agr (aZe bs) W1 Wp/\RowsC Wp w0.heap.size (some ⟨gb,0,none⟩) cap m ((aIv T d (x+1)).set x (aLs t dx (m-pre2.length))) bs/\(aGg (t.drop (m-pre2.length)) (dx.drop (m-pre2.length))).2=true)
   (fun c pre2 Wp=>c = .ret/\Agr (aZe bs) W1 Wp/\RowsC Wp w0.heap.size (some ⟨gb,0,none⟩) cap m (aI3 T d).1 bs)
   (fun s A' B' ⟨h1,h2,h3⟩ hg=>⟨h1.step hg (by rintro q hq h;omega),h2.agr hg (by omega) (fun b' hb'=>by have:=(hrl b' hb').2;omega),h3⟩)
   (fun c s A' B' ⟨h0,h1,h2⟩ hg=>⟨h0,h1.step hg (by rintro q hq h;omega),h2.agr hg (by omega) (fun b' hb'=>by have:=(hrl b' hb').2;omega)⟩)
   ⟨Agr.refl _ _,?start,by simpa [htl] using bI6 t dx⟩
   (fun y a' Wp=>∃ yb,Wp.heap[yb]?=some (.cells #[.int .i64 (fy y).1,.int .i64 (fy y).2] 237 (0,0))/\W1.heap.size<yb/\a'={ tmps:=#[.slice (some ⟨b,o,none⟩) T.length ct,.slice (some ⟨gb,0,none⟩) d.length cap,undef,.pointer (some ⟨w.heap.size,0,none⟩),.pointer (some ⟨vb,0,none⟩),.slice (some ⟨b1,o1,none⟩) m (R x).2,.int .i64 (y:Int),.pointer (some ⟨yb,0,none⟩),.slice (some ⟨b,o,none⟩) T.length ct,.func (.func 259) #[] #[.pointer (some ⟨w.heap.size+1,0,none⟩)],.int .i64 (x:Int),.slice (some ⟨b1,o1,none⟩) m (R x).2,.slice (some ⟨b1,o1,none⟩) m (R x).2,.func (.func 260) #[] #[.pointer (some ⟨W.heap.size,0,none⟩)],.int .i64 (y:Int),.agg #[.int .i64 (fy y).1,.int .i64 (fy y).2],undef,undef,undef,undef,undef,undef,undef,undef,undef,undef,undef,undef,undef,undef,undef,undef,undef,undef,undef,undef,undef,undef,undef,undef,undef,undef,undef],defers:=[] })
   (fun y a' A' B' ⟨yb,h1,h2,h3⟩ hg=>⟨yb,hg.blk h1 (by omega),h2,h3⟩) ?assign2 ?body2 ?done2 ?stop2
  case start =>
   have e:(aIv T d (x+1)).set x (aLs t dx (m-([]:List Nat).length))=aIv T d (x+1):=by
    rw [List.length_nil,Nat.sub_zero,<- htl,aZj (by omega)]
    apply List.ext_getElem?
    intro u
    rw [List.getElem?_set]
    by_cases hu:x=u
    .subst hu;rw [if_pos rfl,if_pos (by omega)];exact hbk.2.symm
    .rw [if_neg hu]
   rw [e];exact hC1
  case assign2 =>
   rintro pre2 y Wp K hp2 ⟨h1,h2,h3⟩ hl2 hK
   gi_wp2
   refine hK _ _ (aBk.alloc _ _ _) ⟨h1.trans (Agr.alloc _ _ _),h2.keep ((Bel.refl Wp).alloc _),h3⟩ ⟨Wp.heap.size,aBr _ _,hl2,rfl⟩
  case done2 =>
   rintro Wp ⟨h1,h2,h3⟩;rw [aX7,Nat.sub_self] at h2 h3;have hc9:=bKk hxt hxd hcar (by rw [<- HTE.out,<- HDX.out];simpa using h3)
   rw [bCn,HTE.out,hbk.1] at h2
   gi_wp2
   refine ⟨(aBk.of_bel hb1w).trans (aBk.of_agr h1 ?_),hA.trans ?_,?_,?_⟩
   .rintro k hk ⟨b',hb',rfl⟩
    have:=hrl b' hb'
    rcases hk with (hk | hk) | (hk | hk) <;> omega
   .exact ⟨h1.os.trans hb1w.os,h1.tape.trans hb1w.tape,h1.output.trans hb1w.output,Nat.le_trans hb1w.size h1.size,fun k hk hn=>(h1.block k (Nat.lt_of_lt_of_le hk hb1w.size) hn).trans (hb1w.block k hk)⟩
   .have e:T.length-(pre++[x]).length=x:=by simp;omega
    rw [e];exact h2
   .have e:T.length-(pre++[x]).length=x:=by simp;omega
    rw [e];exact hc9
  case stop2 =>
   rintro c' pre2 Wp hp2 ⟨rfl,h1,h2⟩
   gi_wp2
   refine ⟨(aBk.of_bel hb1w).trans (aBk.of_agr h1 ?_),rfl,hA.trans ?_,h2⟩
   .rintro k hk ⟨b',hb',rfl⟩
    have:=hrl b' hb'
    rcases hk with (hk | hk) | (hk | hk) <;> omega
   .exact ⟨h1.os.trans hb1w.os,h1.tape.trans hb1w.tape,h1.output.trans hb1w.output,Nat.le_trans hb1w.size h1.size,fun k hk hn=>(h1.block k (Nat.lt_of_lt_of_le hk hb1w.size) hn).trans (hb1w.block k hk)⟩
  case body2 =>
   rintro pre2 y a' Wp hp2 ⟨h1,h2,h3⟩ ⟨yb,hYB,hyb,rfl⟩ hl2 ⟨r2,hr2⟩;have hy:=bBp hp2;have hym:y<m:=by omega
   have hyt:y<t.length:=by omega
   have hyd:y<dx.length:=by omega
   have hcut2:m-pre2.length=y+1:=by omega
   rw [hcut2] at h2 h3;have hbl:=bCm (t:=t) (c:=dx) (by omega) hyt
   have hrow:((aIv T d (x+1)).set x (aLs t dx (y+1)))[x]?=some (aLs t dx (y+1)):=List.getElem?_set_self (by omega)
   obtain ⟨bx,hbx,hcx,hgb1,hown,hbxl,hgne⟩:=h2.row_at hrow;have hbxm:=List.mem_of_getElem? hbx;obtain ⟨hbx1,hbx2⟩:=hrl bx hbxm;obtain ⟨q,e1,_,_,hcy,hcyf⟩:=aBv hown (j:=y) (u := .int .i64 dx[y]) (by rw [List.getElem?_map,hbl.2];rfl)
   obtain rfl:bx.1=q:=by simpa using e1
   have hPUT:∀ z:Int,RowsC (Wp.setCell ⟨bx.1,y,none⟩ (.int .i64 z)) w0.heap.size (some ⟨gb,0,none⟩) cap m ((aIv T d (x+1)).set x ((aLs t dx (y+1)).set y z)) bs:=fun z=>by
    have:=h2.put hbx hrow y z;rw [List.set_set] at this;exact this
   have nrow:∀ N,w.heap.size<=N->¬ aZe bs N:=fun N hN ⟨b',hb',e⟩=>by have:=(hrl b' hb').2;omega
   obtain ⟨c1,f1,l1⟩:=aA5 (h1.boxed HBC1.out (nrow _ (Nat.le_refl _)));obtain ⟨c2,f2,l2⟩:=aA5 (h1.boxed HVB1.out (nrow _ (by omega)))
   have k0:Wp.cell? ⟨yb,0,none⟩=some (.int .i64 (fy y).1):=Blk.cell hYB 0 rfl;have k1:Wp.cell? ⟨yb,1,none⟩=some (.int .i64 (fy y).2):=Blk.cell hYB 1 rfl;have kl:yb<Wp.heap.size:=Blk.lt hYB;have hfy:=HFY.out y hyt;have hsm:=HS.out.at_ hxt (j:=y) (by rw [<- HTE.out];exact hyt)
   have hiv:=(aOg.1 hind).2 y hyd hyt
   have hsm2 : -4096<=t[y].1/\t[y].1<=4096/\t[y].1<=t[y].2/\t[y].2<=80000:=by
    have:=HS.out.at_ hxt (j:=y) (by rw [<- HTE.out];exact hyt)
    have e:=HTE.out;subst e;exact this
   rw [hfy] at k0 k1;clear hsm hfy e1;have HSTOP:=aA1 (fun h:dx[y]<t[y].2=>bEu hind hyt hyd h3 h);have HGO:=aA1 (fun h:¬ dx[y]<t[y].2=>bKj hyt hyd h3 h);have HBL:=aA1 hbl.1;generalize dx[y]=cy at *;generalize t[y]=ty at *;obtain ⟨lo,hi⟩:=ty;dsimp only at k0 k1 hsm2 hiv HSTOP HGO HBL;have i1:(x:Int)<(d.length:Int):=by omega
   have i2:(y:Int)<(m:Int):=by omega
   have i1':decide (x<d.length)=true:=by simpa using hxd
   have i2':decide (y<m)=true:=by simpa using hym
   have hse:∀ z:Int,aBk (orE (fun k=>k=W1.heap.size) (fun k=>k=W.heap.size∨k=b1)) Wp (Wp.setCell ⟨bx.1,y,none⟩ (.int .i64 z)):=fun z=>aBk.setCell _ _ _ (by
    have:=hb1
    rintro (h | h | h) <;> (dsimp only at h;omega))
   have hag:∀ z:Int,Agr (aZe bs) W1 (Wp.setCell ⟨bx.1,y,none⟩ (.int .i64 z)):=fun z=>h1.trans (Agr.setCell _ _ _ ⟨bx,hbxm,rfl⟩);have HPUT:=aA1 hPUT;have HSE:=aA1 hse;have HAG:=aA1 hag;have HH1:=aA1 h1;have HH2:=aA1 h2;have HBK1:=aA1 hbk.1;have hgx:bx.1≠gb:=Ne.symm hgne;clear hbl hrow hown hbx hPUT hse hag h1 h2 h3 hbk hYB hr2 hC1 hC' hcar;refine wpIn_block (wpIn_seq (wpIn_seq ?_))
   refine aAd.startIn (fun w':World=>w'.cell? ⟨w.heap.size,0,none⟩=some (.slice (some ⟨gb,0,none⟩) d.length cap)/\w'.cell? ⟨vb,0,none⟩=some (.int .i64 (x:Int))/\w'.cell? ⟨gb,x,none⟩=some (.slice (some ⟨bx.1,0,none⟩) m bx.2)/\w'.cell? ⟨bx.1,y,none⟩=some (.int .i64 cy)/\w'.cell? ⟨yb,0,none⟩=some (.int .i64 lo)/\w'.cell? ⟨yb,1,none⟩=some (.int .i64 hi)/\w.heap.size<w'.heap.size/\vb<w'.heap.size/\gb<w'.heap.size/\bx.1<w'.heap.size/\yb<w'.heap.size) 9 (by kernel_rfl) (by kernel_rfl) (by rintro ⟨_,_,h⟩;exact h) ?_
   have hHeld:(fun w':World=>w'.cell? ⟨w.heap.size,0,none⟩=some (.slice (some ⟨gb,0,none⟩) d.length cap)/\w'.cell? ⟨vb,0,none⟩=some (.int .i64 (x:Int))/\w'.cell? ⟨gb,x,none⟩=some (.slice (some ⟨bx.1,0,none⟩) m bx.2)/\w'.cell? ⟨bx.1,y,none⟩=some (.int .i64 cy)/\w'.cell? ⟨yb,0,none⟩=some (.int .i64 lo)/\w'.cell? ⟨yb,1,none⟩=some (.int .i64 hi)/\w.heap.size<w'.heap.size/\vb<w'.heap.size/\gb<w'.heap.size/\bx.1<w'.heap.size/\yb<w'.heap.size) Wp.drew:=⟨c1,c2,hcx,hcy,k0,k1,l1,l2,hgb1,hbxl,kl⟩
   by_cases hlt:cy<hi
   .have hdl:decide (cy<hi)=true:=by simpa using hlt
    (refine aAd.t (v:=?_) 0 16 rfl rfl (by kernel_rfl) (fun _ _ _ h=>h) hHeld (Or.inl ⟨by rfl,?_⟩) ?_;rotate_left 1;focus (intro w' hSw;(try dsimp only at hSw);go_simp;(try with_reducible rfl);done));(refine aAd.t (v:=?_) 1 17 rfl rfl (by kernel_rfl) (fun _ _ _ h=>h) hHeld (Or.inl ⟨by rfl,?_⟩) ?_;rotate_left 1;focus (intro w' hSw;(try dsimp only at hSw);go_simp;(try with_reducible rfl);done));(refine aAd.t (v:=?_) 2 18 rfl rfl (by kernel_rfl) (fun _ _ _ h=>h) hHeld (Or.inl ⟨by rfl,?_⟩) ?_;rotate_left 1;focus (intro w' hSw;(try dsimp only at hSw);go_simp;(try with_reducible rfl);done));(refine aAd.t (v:=?_) 3 19 rfl rfl (by kernel_rfl) (fun _ _ _ h=>h) hHeld (Or.inl ⟨by rfl,?_⟩) ?_;rotate_left 1;focus (intro w' hSw;(try dsimp only at hSw);go_simp;(try with_reducible rfl);done));(refine aAd.t (v:=?_) 4 20 rfl rfl (by kernel_rfl) (fun _ _ _ h=>h) hHeld (Or.inl ⟨by rfl,?_⟩) ?_;rotate_left 1;focus (intro w' hSw;(try dsimp only at hSw);go_simp;(try with_reducible rfl);done));(refine aAd.t (v:=?_) 5 21 rfl rfl (by kernel_rfl) (fun _ _ _ h=>h) hHeld (Or.inl ⟨by rfl,?_⟩) ?_;rotate_left 1;focus (intro w' hSw;(try dsimp only at hSw);go_simp;(try with_reducible rfl);done));(refine aAd.t (v:=?_) 6 22 rfl rfl (by kernel_rfl) (fun _ _ _ h=>h) hHeld (Or.inl ⟨by rfl,?_⟩) ?_;rotate_left 1;focus (intro w' hSw;(try dsimp only at hSw);go_simp;(try with_reducible rfl);done));(refine aAd.t (v:=?_) 7 23 rfl rfl (by kernel_rfl) (fun _ _ _ h=>h) hHeld (Or.inl ⟨by rfl,?_⟩) ?_;rotate_left 1;focus (intro w' hSw;(try dsimp only at hSw);go_simp;(try with_reducible rfl);done));(refine aAd.t (v:=?_) 8 24 rfl rfl (by kernel_rfl) (fun _ _ _ h=>h) hHeld (Or.inl ⟨by rfl,?_⟩) ?_;rotate_left 1;focus (intro w' hSw;(try dsimp only at hSw);go_simp;(try with_reducible rfl);done))
    refine aAd.one (i:=9) (by kernel_rfl) rfl (fun K hK=>?_)
    go_simp
    refine hK.out _ _ (fun h=>absurd rfl h) ?_
    clear hK K hHeld;refine aAd.done (by kernel_rfl) ?_ _
    (try simp only [Act.put,List.setIfInBounds_toArray,List.set_cons_zero,List.set_cons_succ])
    change Code.wpIn _ _ _ _ _ _ _
    gi_wp2
    have hstop:=HSTOP.out hlt;have e1:aGg T[x] d[x]=((aLs t dx (y+1)).set y (cy+1),false):=by rw [<- hstop,HTE.out,HDX.out]
    have e2:=bEv HIN.out hxt hxd HCAR.out (by rw [e1])
    rw [e1] at e2;refine ⟨?_,rfl,(HAG.out (cy+1)).drew,?_⟩
    .have:=HSE.out (cy+1)
     rw [hz1] at this;exact this.drew
    .rw [e2]
     exact (HPUT.out (cy+1)).keep (Bel.refl _).drew
   .have hdl:decide (cy<hi)=false:=by simpa using hlt
    (refine aAd.t (v:=?_) 0 16 rfl rfl (by kernel_rfl) (fun _ _ _ h=>h) hHeld (Or.inl ⟨by rfl,?_⟩) ?_;rotate_left 1;focus (intro w' hSw;(try dsimp only at hSw);go_simp;(try with_reducible rfl);done));(refine aAd.t (v:=?_) 1 17 rfl rfl (by kernel_rfl) (fun _ _ _ h=>h) hHeld (Or.inl ⟨by rfl,?_⟩) ?_;rotate_left 1;focus (intro w' hSw;(try dsimp only at hSw);go_simp;(try with_reducible rfl);done));(refine aAd.t (v:=?_) 2 18 rfl rfl (by kernel_rfl) (fun _ _ _ h=>h) hHeld (Or.inl ⟨by rfl,?_⟩) ?_;rotate_left 1;focus (intro w' hSw;(try dsimp only at hSw);go_simp;(try with_reducible rfl);done));(refine aAd.t (v:=?_) 3 19 rfl rfl (by kernel_rfl) (fun _ _ _ h=>h) hHeld (Or.inl ⟨by rfl,?_⟩) ?_;rotate_left 1;focus (intro w' hSw;(try dsimp only at hSw);go_simp;(try with_reducible rfl);done));(refine aAd.t (v:=?_) 4 20 rfl rfl (by kernel_rfl) (fun _ _ _ h=>h) hHeld (Or.inl ⟨by rfl,?_⟩) ?_;rotate_left 1;focus (intro w' hSw;(try dsimp only at hSw);go_simp;(try with_reducible rfl);done));(refine aAd.t (v:=?_) 5 21 rfl rfl (by kernel_rfl) (fun _ _ _ h=>h) hHeld (Or.inl ⟨by rfl,?_⟩) ?_;rotate_left 1;focus (intro w' hSw;(try dsimp only at hSw);go_simp;(try with_reducible rfl);done));(refine aAd.t (v:=?_) 6 22 rfl rfl (by kernel_rfl) (fun _ _ _ h=>h) hHeld (Or.inl ⟨by rfl,?_⟩) ?_;rotate_left 1;focus (intro w' hSw;(try dsimp only at hSw);go_simp;(try with_reducible rfl);done));(refine aAd.t (v:=?_) 7 23 rfl rfl (by kernel_rfl) (fun _ _ _ h=>h) hHeld (Or.inl ⟨by rfl,?_⟩) ?_;rotate_left 1;focus (intro w' hSw;(try dsimp only at hSw);go_simp;(try with_reducible rfl);done));(refine aAd.t (v:=?_) 8 24 rfl rfl (by kernel_rfl) (fun _ _ _ h=>h) hHeld (Or.inl ⟨by rfl,?_⟩) ?_;rotate_left 1;focus (intro w' hSw;(try dsimp only at hSw);go_simp;(try with_reducible rfl);done))
    refine aAd.one (i:=9) (by kernel_rfl) rfl (fun K hK=>?_)
    go_simp
    refine hK.out _ _ (fun h=>absurd rfl h) ?_
    clear hK K hHeld;refine aAd.done (by kernel_rfl) ?_ _
    (try simp only [Act.put,List.setIfInBounds_toArray,List.set_cons_zero,List.set_cons_succ])
    change Code.wpIn _ _ _ _ _ _ _
    gi_wp2
    rename_i QQ
    subst QQ;refine aAd.startIn (fun w':World=>w'.cell? ⟨w.heap.size,0,none⟩=some (.slice (some ⟨gb,0,none⟩) d.length cap)/\w'.cell? ⟨vb,0,none⟩=some (.int .i64 (x:Int))/\w'.cell? ⟨gb,x,none⟩=some (.slice (some ⟨bx.1,0,none⟩) m bx.2)/\w'.cell? ⟨bx.1,y,none⟩=some (.int .i64 cy)/\w'.cell? ⟨yb,0,none⟩=some (.int .i64 lo)/\w'.cell? ⟨yb,1,none⟩=some (.int .i64 hi)/\w.heap.size<w'.heap.size/\vb<w'.heap.size/\gb<w'.heap.size/\bx.1<w'.heap.size/\yb<w'.heap.size) 8 (by kernel_rfl) (by kernel_rfl) (by rintro ⟨_,_,h⟩;exact h) ?_
    have hHeld:(fun w':World=>w'.cell? ⟨w.heap.size,0,none⟩=some (.slice (some ⟨gb,0,none⟩) d.length cap)/\w'.cell? ⟨vb,0,none⟩=some (.int .i64 (x:Int))/\w'.cell? ⟨gb,x,none⟩=some (.slice (some ⟨bx.1,0,none⟩) m bx.2)/\w'.cell? ⟨bx.1,y,none⟩=some (.int .i64 cy)/\w'.cell? ⟨yb,0,none⟩=some (.int .i64 lo)/\w'.cell? ⟨yb,1,none⟩=some (.int .i64 hi)/\w.heap.size<w'.heap.size/\vb<w'.heap.size/\gb<w'.heap.size/\bx.1<w'.heap.size/\yb<w'.heap.size) Wp.drew.drew:=⟨c1,c2,hcx,hcy,k0,k1,l1,l2,hgb1,hbxl,kl⟩
    (refine aAd.t (v:=?_) 0 35 rfl rfl (by kernel_rfl) (fun _ _ _ h=>h) hHeld (Or.inl ⟨by rfl,?_⟩) ?_;rotate_left 1;focus (intro w' hSw;(try dsimp only at hSw);go_simp;(try with_reducible rfl);done));(refine aAd.t (v:=?_) 1 36 rfl rfl (by kernel_rfl) (fun _ _ _ h=>h) hHeld (Or.inl ⟨by rfl,?_⟩) ?_;rotate_left 1;focus (intro w' hSw;(try dsimp only at hSw);go_simp;(try with_reducible rfl);done));(refine aAd.t (v:=?_) 2 37 rfl rfl (by kernel_rfl) (fun _ _ _ h=>h) hHeld (Or.inl ⟨by rfl,?_⟩) ?_;rotate_left 1;focus (intro w' hSw;(try dsimp only at hSw);go_simp;(try with_reducible rfl);done));(refine aAd.t (v:=?_) 3 38 rfl rfl (by kernel_rfl) (fun _ _ _ h=>h) hHeld (Or.inl ⟨by rfl,?_⟩) ?_;rotate_left 1;focus (intro w' hSw;(try dsimp only at hSw);go_simp;(try with_reducible rfl);done));(refine aAd.t (v:=?_) 4 39 rfl rfl (by kernel_rfl) (fun _ _ _ h=>h) hHeld (Or.inl ⟨by rfl,?_⟩) ?_;rotate_left 1;focus (intro w' hSw;(try dsimp only at hSw);go_simp;(try with_reducible rfl);done));(refine aAd.t (v:=?_) 5 40 rfl rfl (by kernel_rfl) (fun _ _ _ h=>h) hHeld (Or.inl ⟨by rfl,?_⟩) ?_;rotate_left 1;focus (intro w' hSw;(try dsimp only at hSw);go_simp;(try with_reducible rfl);done));(refine aAd.t (v:=?_) 6 41 rfl rfl (by kernel_rfl) (fun _ _ _ h=>h) hHeld (Or.inl ⟨by rfl,?_⟩) ?_;rotate_left 1;focus (intro w' hSw;(try dsimp only at hSw);go_simp;(try with_reducible rfl);done));(refine aAd.t (v:=?_) 7 42 rfl rfl (by kernel_rfl) (fun _ _ _ h=>h) hHeld (Or.inl ⟨by rfl,?_⟩) ?_;rotate_left 1;focus (intro w' hSw;(try dsimp only at hSw);go_simp;(try with_reducible rfl);done))
    (refine aAd.one (i:=8) (by kernel_rfl) rfl (fun K hK=>?_));go_simp;refine hK.out _ _ (fun h=>absurd rfl h) ?_;clear hK K;refine aAd.done (by kernel_rfl) ?_ _;(try simp only [Act.put,List.setIfInBounds_toArray,List.set_cons_zero,List.set_cons_succ])
    have e1:m-(pre2++[y]).length=y:=by simp;omega
    refine ⟨?_,(HAG.out lo).drew.drew,?_,?_⟩
    .exact (HSE.out lo).drew.drew
    .rw [e1,<- HBL.out]
     exact (HPUT.out lo).keep (Bel.refl _).drew.drew
    .rw [e1];exact HGO.out hlt
end Go.Proofs.YtmifhmdghfbalaaGreatDoor

