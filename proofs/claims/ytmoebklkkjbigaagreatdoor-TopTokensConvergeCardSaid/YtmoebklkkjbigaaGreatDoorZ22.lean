/- Merged. -/
import Derived.Test.YtmoebklkkjbigaaGreatDoorZ21
import Derived.Test.YtmoebklkkjbigaaGreatDoorZ20
set_option linter.unusedSimpArgs false
set_option linter.unnecessarySimpa false
set_option linter.unusedVariables false
set_option maxRecDepth 100000
set_option maxHeartbeats 8000000
open Go.Proofs.Tryz

namespace Go.Proofs.YtmoebklkkjbigaaGreatDoor
open Go.RowKit
attribute [local go_sem] Oper.semAt_some
theorem bGk {z:Int} (h1 : -9223372036854775808<=z) (h2:z<=9223372036854775807):IntKind.i64.wrap z=z:=by
 rw [IntKind.wrap_i64];omega
def bDs (w:World) (b o:Nat) (x:Nat × Int):Prop:=w.cell? ⟨b,o,none⟩=some (.int .u32 (x.1:Int))/\w.cell? ⟨b,o+1,none⟩=some (.int .i64 x.2)
theorem bDs.keeps:aNg bDs:=fun _ _ _ _ _ k hb h=>⟨(k.cell hb).trans h.1,(k.cell hb).trans h.2⟩
def aLv:=aAc 2 bDs
theorem aLv.keep {w w':World} {A:Option Addr} {n:Nat} {xs:List (Nat × Int)} (h:aLv w A n xs) (k:Bel w w'):aLv w' A n xs:=aAc.keep bDs.keeps h k
theorem bM2 {w:World} {base e c:Nat} {A:Option Addr} {xs:List (Nat × Int)} (h:w.ownsRow base e 2 (.slice A xs.length c) xs.length (xs.flatMap aBs)):aLv w A xs.length xs:=by
 refine ⟨rfl,fun i x hx=>?_⟩
 obtain ⟨f1,f2⟩:=aI6 xs i x hx;obtain ⟨q,e1,_,q3,q4,_⟩:=aAj h f1;obtain ⟨q',e1',_,_,q4',_⟩:=aAj h f2;subst e1;obtain rfl:q=q':=by simpa using e1'
 exact ⟨q,0,rfl,q3,by rw [Nat.zero_add];exact q4,by rw [Nat.zero_add];exact q4'⟩
def aAy (f:Nat->Int) (v:Nat) (s:Int):Array Value:=((List.range 24).map fun u=>Value.int .i64 (if u<v then f u else if u=v then s else 0)).toArray
theorem aXp (f:Nat->Int) {v:Nat} (hv:v<24) (s:Int):(aAy f v s)[v]?=some (.int .i64 s):=by
 unfold aAy;simp [hv]
theorem aPa (f:Nat->Int) {v u:Nat} (hv:u<v) (hu:u<24) (s:Int):(aAy f v s)[u]?=some (.int .i64 (f u)):=by
 unfold aAy;simp [hv,hu]
theorem aUi (f:Nat->Int) (v:Nat) (s s':Int):(aAy f v s).setIfInBounds v (.int .i64 s')=aAy f v s':=by
 apply Array.ext
 .simp [aAy]
 .intro i h1 h2
  rw [Array.getElem_setIfInBounds (by simpa using h1)]
  by_cases h:v=i
  .subst h;rw [if_pos rfl];simp [aAy]
  .rw [if_neg h]
   simp only [aAy,List.getElem_toArray,List.getElem_map,List.getElem_range]
   by_cases hi:i<v
   .rw [if_pos hi,if_pos hi]
   .rw [if_neg hi,if_neg hi,if_neg (fun e=>h e.symm),if_neg (fun e=>h e.symm)]
theorem aKy (f:Nat->Int) (v:Nat):aAy f v (f v)=aAy f (v+1) 0:=by
 unfold aAy
 congr 1
 refine List.map_congr_left fun u _=>?_
 by_cases h:u<v
 .rw [if_pos h,if_pos (by omega)]
 .rw [if_neg h]
  by_cases h2:u=v
  .subst h2;rw [if_pos rfl,if_pos (by omega)]
  .rw [if_neg h2,if_neg (by omega)]
   split <;> rfl
theorem aKz (f:Nat->Int):aAy f 0 0=#[.int .i64 0,.int .i64 0,.int .i64 0,.int .i64 0,.int .i64 0,.int .i64 0,.int .i64 0,.int .i64 0,.int .i64 0,.int .i64 0,.int .i64 0,.int .i64 0,.int .i64 0,.int .i64 0,.int .i64 0,.int .i64 0,.int .i64 0,.int .i64 0,.int .i64 0,.int .i64 0,.int .i64 0,.int .i64 0,.int .i64 0,.int .i64 0]:=by rfl
theorem bKt:(prog.info? 108).map (fun i=>(i.zero,i.size,i.bytes))=some (some (.agg #[.int .u32 0,.int .i64 0]),2,16):=by kernel_rfl
def bKj (E:Nat) (L:List (Nat × Int)) (w:World) (e:Ending) (w':World):Prop :=
 ∃ A c,e = .returned (.tuple #[.int .u32 (E:Int),.slice A L.length c,.int .i64 0])/\aLv w' A L.length L/\L.length<=c/\c<=maxLen/\(∀ b o,A=some ⟨b,o,none⟩->w.heap.size<=b)/\Bel w w'
theorem bE8 (B:Nat) (p:Prg) (g:Graph) (kind:Int) (vc:Value) (c:aA3) (k:Nat) (w:World) (hB:aLw w B p g kind) (hC:aD2 w vc c) (hT:aDl w) (hm:aC4 p g c=0) (hk:(k:Int)=bB0 p g c) (hL:aCc p=true) (hCL:aHq c=true) (hsz:aDn p g<=32768) (h5:g.ports.length<=5) :
  Calls prog 37 #[.pointer (some ⟨B,0,none⟩),vc,.int .i64 (k:Int)] w (bKj (aAe p g c) (aFf p g kind c) w):=by
 have HC:=aA0 (fun w' (k:Bel w w')=>hC.keep k);obtain ⟨AC,kc,rfl,hCR,_,_⟩:=hC;obtain ⟨bm,AN,kn,AT,kt,AP,kp,hBk,hMV,hNT,_,hPL⟩:=hB;have HBk:=aA0 (fun w' (k:Bel w w')=>hBk.keep k);have HMV:=aA0 (fun w' (k:Bel w w')=>hMV.keep k);have HNT:=aA0 (fun w' (k:Bel w w')=>hNT.keep k);have HT:=aA0 (fun w' (k:Bel w w')=>hT.keep k);have HM:=aA0 hm;have HL:=aA0 hL;have HCL:=aA0 hCL;have HK:=aA0 hk;have HSZ:=aA0 hsz;have hv10:=(aBl hL).2.1;have hf:=(aBy hm).1;have hg:=(aAt hf).2.1;have HG:=aA0 hg;have HCN:=aA0 (aBx hm);have hcl:c.length<=5:=by rw [aBx hm];exact h5
 have HROW:=aA0 (fun v (hv:v<c.length)=>bMz (v:=v) hm hsz hv10 hv);clear hBk hMV hNT hT hm hL hCL hk hsz hf hg;refine aFi func37 rfl ?_
 simp only [ntmps37,List.size_toArray,List.length_cons,List.length_nil,Nat.reduceAdd,Nat.reduceSub,Array.replicate_succ,Array.replicate_zero,List.push_toArray,List.append_toArray,List.nil_append,List.cons_append]
 go_wp2_with fail
 have HW:Bel w (w.alloc (.cells (aAy (gF p g c) 0 0) 161)):=(Bel.refl w).alloc _;have HGC:Hid (Blk (w.alloc (.cells (aAy (gF p g c) 0 0) 161)) w.heap.size (aAy (gF p g c) 0 0) 161):=Blk.new _ _ _;rw [aKz] at HW HGC
 go_loopg [9,11,12,13,14,23] c.length (fun m E _a _b _d _e z wr=>∃ v:Nat,v<=c.length/\m=c.length-v/\E = .int .u32 (aHv v (fun u=>decide (0<=aAm p.rules g c u)):Nat)/\z = .int .i64 v/\Hid (Blk wr w.heap.size (aAy (gF p g c) v 0) 161)/\Bel w wr)
 case atStart=>exact ⟨0,by omega,rfl,rfl,rfl,by rw [aKz];exact HGC,HW⟩
 case round =>
  clear HW HGC;obtain ⟨wo,rfl⟩:∃ wo:World,wo=wr:=⟨_,rfl⟩;obtain ⟨v,hv,rfl,rfl,rfl,HGC,HW⟩:=hrel
  by_cases hlt:v<c.length
  .have hd0:decide (v<c.length)=true:=by simpa using hlt
   obtain ⟨bm',hbm⟩:∃ x,x=bm:=⟨_,rfl⟩;have z0:=(HBk.out _ HW).cell 0 (v := .pointer (some ⟨bm,0,none⟩)) rfl;have zl:=(HBk.out _ HW).lt;have HSK:=aA0 (aUr HM.out hlt)
   by_cases hen:0<=aAm p.rules g c v
   .have hd1:decide (aAm p.rules g c v<0)=false:=by simpa using hen
    have hfr:=aOw p.rules g c v;obtain ⟨k0,hk0⟩:=Int.eq_ofNat_of_zero_le hen;have hk1:k0<p.rules.length:=by omega
    have HR:=aA0 (HROW.out v hlt hen);have HMF:Hid (aDx p g c v p.rules[k0].sets=aHh p g c v):=by show _=_;unfold aHh;rw [hk0,aRq hk1]
    have HEN:=aA0 hen;have hsl:=aN5 (fun u=>decide (0<=aAm p.rules g c u)) (show v<=32 by omega)
    have hv32:decide (v<32)=true:=by simp;omega
    have hbs:=aK6 hsl (show v<32 by omega)
    have HSS:=aA0 (aHw v (fun u=>decide (0<=aAm p.rules g c u)));clear hen hfr;obtain ⟨F0,hF0⟩:∃ F0,F0=aAm p.rules g c v:=⟨_,rfl⟩
    go_wp2_with (first
     | (go_at_call 82;refine (aGb bm p g _ c v _ (HMV.out _ HW) (HC.out _ HW) HSK.out HL.out).mono ?_;rintro e w1 ⟨rfl,hb1⟩;have HW1:=HW.trans hb1;clear z0 zl;have z0:=(HBk.out _ HW1).cell 0 (v := .pointer (some ⟨bm,0,none⟩)) rfl;have zl:=(HBk.out _ HW1).lt;rw [hk0])
     | (go_at_call 83;refine (aMq bm p g _ c v k0 _ (HMV.out _ HW1) (HC.out _ HW1) HM.out hlt hk1 HL.out HCL.out).mono ?_;rintro e w2 ⟨RM,rm,rfl,hN,hb2⟩;rw [HMF.out] at hN ⊢;have HN:=aA0 hN;have HGC2:Hid (Blk w2 w.heap.size (aAy (gF p g c) v 0) 161):=(HGC.out.keep hb1).keep hb2;have HW2:=HW1.trans hb2;have HWS:=hb2.size;have HWS1:=HW1.size;have hgl1:=(HGC.out.keep hb1).lt;clear hN hb1 hb2 z0 zl))
    obtain ⟨D,hD⟩:∃ D,D=aHh p g c v:=⟨_,rfl⟩;obtain ⟨P,hP⟩:∃ P,P=(aEm (aAb p g)).getD v []:=⟨_,rfl⟩;have HD:=aA0 hD;have HPE:=aA0 hP;rw [<- hD,<- hP] at HR;rw [<- hD] at HN;rw [<- hD];clear hD hP;have HDL:=aA0 HR.out.ld;have HCL2:Hid (c[v].length=p.vars.length):=by show _=_;rw [<- aA8 hlt];exact HR.out.lc
    have HPL:=aA0 HR.out.lp;have HCC:Hid (c.getD v []=c[v]):=aA8 hlt;rw [HCC.out] at HR;have HW2':=HW2;have HF0:=Fr.refl w.heap.size w2;have HG0:Hid (Blk w2 w.heap.size (aAy (gF p g c) v (bCe P D c[v] 0)) 161):=by rw [aX8];exact HGC2
    go_loopg [13,14,48] D.length (fun m _a _b z ws=>∃ x:Nat,x<=D.length/\m=D.length-x/\z = .int .i64 x/\Hid (Blk ws w.heap.size (aAy (gF p g c) v (bCe P D c[v] x)) 161)/\Fr w.heap.size w2 ws/\Bel w ws)
    case atStart=>exact ⟨0,by omega,rfl,rfl,HG0,HF0,HW2⟩
    case round =>
     clear HG0 HF0 HW2 HGC2 HW2';obtain ⟨x,hx,rfl,rfl,HGX,HFX,HWX⟩:=hrel
     by_cases hlt2:x<D.length
     .have hd2:decide (x<D.length)=true:=by simpa using hlt2
      have hN:=HN.out;obtain ⟨q1,o1,e1,hq1,k1⟩:=hN.1.at_ x hlt2;have hq1g:q1≠w.heap.size:=by have:=hN.2.2.2 q1 o1 e1;omega
      have k1':=(HFX.cell (o:=o1+x) hq1 hq1g).trans k1;have hq1':=Nat.lt_of_lt_of_le hq1 HFX.1;clear hN;subst e1;obtain ⟨bc,oc,RC,rcc,rfl,hbc,kc1,hRC,_,_⟩:=(aQ5.keep hCR HWX).at_ v hlt;obtain ⟨br,orr,rfl,hbr,kc2⟩:=hRC.at_ x (by rw [HCL2.out];have:=HDL.out;omega)
      have hBX:=HBk.out _ HWX;have z4:=hBX.cell 4 (v := .slice AP g.ports.length kp) rfl;have zl:=hBX.lt;obtain ⟨bp,op,RP,rpc,rfl,hbp,kp1,hRP,_,_⟩:=(aQ5.keep hPL HWX).at_ v (by rw [aCq,aAr];have:=HG.out.ids;have:=HCN.out;omega)
      have hPE:(aEm (aAb p g))[v]'(by rw [aCq,aAr];have:=HG.out.ids;have:=HCN.out;omega)=P:=by
       have:=HPE.out;rw [List.getD_eq_getElem?_getD,List.getElem?_eq_getElem (by rw [aCq,aAr];have:=HG.out.ids;have:=HCN.out;omega),Option.getD_some] at this
       exact this.symm
      rw [hPE] at kp1 hRP;obtain ⟨bq,oq,rfl,hbq,kp2⟩:=hRP.at_ x (by rw [HPL.out];have:=HDL.out;omega)
      have hxC:x<c[v].length:=by rw [HCL2.out];have:=HDL.out;omega
      have hxP:x<P.length:=by rw [HPL.out];have:=HDL.out;omega
      have hxn:x<p.vars.length:=by have:=HDL.out;omega
      have ht1:=HR.out.term hxn;have ht2:=HR.out.part x (by omega)
      have ht3:=HR.out.part (x+1) (by omega)
      have hst:=aX7 (P:=P) (D:=D) (C:=c[v]) hxP hlt2 hxC;have hp1:=HR.out.p x hxP;have hd1':=HR.out.d x hlt2 hxC;have hdi:=HR.out.di x hlt2;have hci:=HR.out.ci x hxC;rw [hst] at ht3;have HST:=aA0 hst;have hn10:=HR.out.le;obtain ⟨S0,hS0⟩:∃ S0,S0=bCe P D c[v] x:=⟨_,rfl⟩;have hgc:=HGX.out.cell v (aXp (gF p g c) (show v<24 by omega) (bCe P D c[v] x))
      have hgf:=HGX.out.frozen v;have hgl:=HGX.out.lt;rw [<- hS0] at ht2 ht3 HST hgc;have HS0:=aA0 hS0;have i1:(v:Int)<(c.length:Int):=by omega
      have i2:(v:Int)<(g.ports.length:Int):=by have:=HCN.out;omega
      have i3:(x:Int)<(c[v].length:Int):=by omega
      have i4:(x:Int)<(P.length:Int):=by omega
      have i5:(v:Int)<24:=by omega
      clear hst hS0 hRC hRP hPE;generalize hdx:D[x]=dx at *;generalize hcx:c[v][x]=cx at *;generalize hpx:P[x]=px at *;clear hdx hcx hpx
      go_wp2_with fail
      refine aA4.startN (fun w'=>w'.cell? ⟨w.heap.size,v,none⟩=some (.int .i64 S0)/\w'.cell? ⟨bc,oc+v,none⟩=some (.slice (some ⟨br,orr,none⟩) c[v].length rcc)/\w'.cell? ⟨br,orr+x,none⟩=some (.int .i64 cx)/\w'.cell? ⟨B,4,none⟩=some (.slice (some ⟨bp,op,none⟩) g.ports.length kp)/\w'.cell? ⟨bp,op+v,none⟩=some (.slice (some ⟨bq,oq,none⟩) P.length rpc)/\w'.cell? ⟨bq,oq+x,none⟩=some (.int .i64 px)/\w.heap.size<w'.heap.size/\bc<w'.heap.size/\br<w'.heap.size/\B<w'.heap.size/\bp<w'.heap.size/\bq<w'.heap.size) 25 (by kernel_rfl) ?_
      have hHeld:(fun w':World=>w'.cell? ⟨w.heap.size,v,none⟩=some (.int .i64 S0)/\w'.cell? ⟨bc,oc+v,none⟩=some (.slice (some ⟨br,orr,none⟩) c[v].length rcc)/\w'.cell? ⟨br,orr+x,none⟩=some (.int .i64 cx)/\w'.cell? ⟨B,4,none⟩=some (.slice (some ⟨bp,op,none⟩) g.ports.length kp)/\w'.cell? ⟨bp,op+v,none⟩=some (.slice (some ⟨bq,oq,none⟩) P.length rpc)/\w'.cell? ⟨bq,oq+x,none⟩=some (.int .i64 px)/\w.heap.size<w'.heap.size/\bc<w'.heap.size/\br<w'.heap.size/\B<w'.heap.size/\bp<w'.heap.size/\bq<w'.heap.size) wr.drew:=⟨hgc,kc1,kc2,z4,kp1,kp2,hgl,hbc,hbr,zl,hbp,hbq⟩
      (refine aA4.u (v:=?_) 0 53 rfl hHeld ?_ ?_;rotate_left 1;focus (intro w' hSw;(try dsimp only at hSw);go_simp;(try with_reducible rfl);done));(refine aA4.u (v:=?_) 1 54 rfl hHeld ?_ ?_;rotate_left 1;focus (intro w' hSw;(try dsimp only at hSw);go_simp;(try with_reducible rfl);done));(refine aA4.u (v:=?_) 2 55 rfl hHeld ?_ ?_;rotate_left 1;focus (intro w' hSw;(try dsimp only at hSw);go_simp;(try with_reducible rfl);done));(refine aA4.u (v:=?_) 3 56 rfl hHeld ?_ ?_;rotate_left 1;focus (intro w' hSw;(try dsimp only at hSw);go_simp;(try with_reducible rfl);done));(refine aA4.u (v:=?_) 4 57 rfl hHeld ?_ ?_;rotate_left 1;focus (intro w' hSw;(try dsimp only at hSw);go_simp;(try with_reducible rfl);done));(refine aA4.u (v:=?_) 5 58 rfl hHeld ?_ ?_;rotate_left 1;focus (intro w' hSw;(try dsimp only at hSw);go_simp;(try with_reducible rfl);done));(refine aA4.u (v:=?_) 6 59 rfl hHeld ?_ ?_;rotate_left 1;focus (intro w' hSw;(try dsimp only at hSw);go_simp;(try with_reducible rfl);done));(refine aA4.u (v:=?_) 7 60 rfl hHeld ?_ ?_;rotate_left 1;focus (intro w' hSw;(try dsimp only at hSw);go_simp;(try with_reducible rfl);done));(refine aA4.u (v:=?_) 8 61 rfl hHeld ?_ ?_;rotate_left 1;focus (intro w' hSw;(try dsimp only at hSw);go_simp;(try with_reducible rfl);done));(refine aA4.u (v:=?_) 9 62 rfl hHeld ?_ ?_;rotate_left 1;focus (intro w' hSw;(try dsimp only at hSw);go_simp;(try with_reducible rfl);done));(refine aA4.u (v:=?_) 10 63 rfl hHeld ?_ ?_;rotate_left 1;focus (intro w' hSw;(try dsimp only at hSw);go_simp;(try with_reducible rfl);done));(refine aA4.u (v:=?_) 11 64 rfl hHeld ?_ ?_;rotate_left 1;focus (intro w' hSw;(try dsimp only at hSw);go_simp;(try with_reducible rfl);done));(refine aA4.u (v:=?_) 12 65 rfl hHeld ?_ ?_;rotate_left 1;focus (intro w' hSw;(try dsimp only at hSw);go_simp;(try with_reducible rfl);done));(refine aA4.u (v:=?_) 13 66 rfl hHeld ?_ ?_;rotate_left 1;focus (intro w' hSw;(try dsimp only at hSw);go_simp;(try with_reducible rfl);done));(refine aA4.u (v:=?_) 14 67 rfl hHeld ?_ ?_;rotate_left 1;focus (intro w' hSw;(try dsimp only at hSw);go_simp;(try with_reducible rfl);done));(refine aA4.u (v:=?_) 15 68 rfl hHeld ?_ ?_;rotate_left 1;focus (intro w' hSw;(try dsimp only at hSw);go_simp;(try with_reducible rfl);done));(refine aA4.u (v:=?_) 16 69 rfl hHeld ?_ ?_;rotate_left 1;focus (intro w' hSw;(try dsimp only at hSw);go_simp;(try with_reducible rfl);done));(refine aA4.u (v:=?_) 17 70 rfl hHeld ?_ ?_;rotate_left 1;focus (intro w' hSw;(try dsimp only at hSw);go_simp;(try with_reducible rfl);done));(refine aA4.u (v:=?_) 18 71 rfl hHeld ?_ ?_;rotate_left 1;focus (intro w' hSw;(try dsimp only at hSw);go_simp;(try with_reducible rfl);done));(refine aA4.u (v:=?_) 19 72 rfl hHeld ?_ ?_;rotate_left 1;focus (intro w' hSw;(try dsimp only at hSw);go_simp;(try with_reducible rfl);done));(refine aA4.u (v:=?_) 20 73 rfl hHeld ?_ ?_;rotate_left 1;focus (intro w' hSw;(try dsimp only at hSw);go_simp;(try with_reducible rfl);done));(refine aA4.u (v:=?_) 21 74 rfl hHeld ?_ ?_;rotate_left 1;focus (intro w' hSw;(try dsimp only at hSw);go_simp;(try with_reducible rfl);done));(refine aA4.u (v:=?_) 22 75 rfl hHeld ?_ ?_;rotate_left 1;focus (intro w' hSw;(try dsimp only at hSw);go_simp;(try with_reducible rfl);done));(refine aA4.u (v:=?_) 23 76 rfl hHeld ?_ ?_;rotate_left 1;focus (intro w' hSw;(try dsimp only at hSw);go_simp;(try with_reducible rfl);done));(refine aA4.u (v:=?_) 24 77 rfl hHeld ?_ ?_;rotate_left 1;focus (intro w' hSw;(try dsimp only at hSw);go_simp;(try with_reducible rfl);done))
      (refine aA4.one (i:=25) (by kernel_rfl) rfl (fun K hK=>?_));go_simp;refine hK.out _ _ (fun h=>absurd rfl h) ?_;clear hK K;refine aA4.done (by kernel_rfl) ?_ _;(try simp only [Act.put,List.setIfInBounds_toArray,List.set_cons_zero,List.set_cons_succ])
      refine NoPanic.normal ?_
      go_wp2_with fail
      go_roundg (D.length-(x+1))
      case rel =>
       refine ⟨x+1,by omega,rfl,by go_num,?_,(HFX.drew).set v _,HWX.drew.setCell (by simp) _⟩
       have:=HGX.out.set v (.int .i64 (S0+(dx-cx)*px));rw [aUi,show aAy (gF p g c) v (S0+(dx-cx)*px)=aAy (gF p g c) v (bCe P D c[v] (x+1)) by rw [HST.out]] at this
       exact this.drew
      case measure=>omega
     .have hd2:decide (x<D.length)=false:=by simpa using hlt2
      obtain rfl:x=D.length:=by omega
      go_wp2_with fail
      go_roundg (c.length-(v+1))
      case rel =>
       refine ⟨v+1,by omega,rfl,?_,by go_num,?_,HWX⟩
       .rw [HSS.out,decide_eq_true HEN.out,if_pos rfl]
       .have h1:=HGX.out
        rw [aX6 (by rw [HPL.out,HDL.out]) rfl (by rw [HCL2.out,HDL.out])] at h1
        have h2:aS4 P D c[v]=gF p g c v:=by unfold gF;rw [if_pos HEN.out,<- HPE.out,<- HD.out,HCC.out]
        rw [h2,aKy] at h1;exact h1
      case measure=>omega
   .have hd1:decide (aAm p.rules g c v<0)=true:=by simpa using hen
    have HSS:=aA0 (aHw v (fun u=>decide (0<=aAm p.rules g c u)));have HEN:=aA0 hen;clear hen
    go_wp2_with (go_at_call 82;refine (aGb bm p g _ c v _ (HMV.out _ HW) (HC.out _ HW) HSK.out HL.out).mono ?_;rintro e w1 ⟨rfl,hb1⟩;have HW1:=HW.trans hb1;clear z0 zl)
    go_roundg (c.length-(v+1))
    case rel =>
     refine ⟨v+1,by omega,rfl,?_,by go_num,?_,HW1⟩
     .rw [HSS.out,decide_eq_false (by have:=HEN.out;omega)];rfl
     .have h1:=HGC.out.keep hb1
      have h2:gF p g c v=0:=by unfold gF;rw [if_neg (by have:=HEN.out;omega)]
      have h3:aAy (gF p g c) v 0=aAy (gF p g c) (v+1) 0:=by rw [<- aKy,h2]
      rw [h3] at h1;exact h1
    case measure=>omega
  .have hd0:decide (v<c.length)=false:=by simpa using hlt
   obtain rfl:v=c.length:=by omega
   obtain ⟨E,hE⟩:∃ E,E=aAe p g c:=⟨_,rfl⟩;have e0:aHv c.length (fun u=>decide (0<=aAm p.rules g c u))=E:=hE.symm;rw [e0]
   have hE32:E<32:=by
    have h1:=aVq c.length (fun u=>decide (0<=aAm p.rules g c u));rw [e0] at h1;have h2:2 ^ c.length<=2 ^ 5:=Nat.pow_le_pow_right (by decide) hcl
    omega
   have HEW:Hid (∀ u,E.testBit u=true->u<g.ports.length):=fun u hu=>by
    rw [hE,aDs] at hu;simp at hu
    rw [<- HCN.out];exact hu.1
   have HEE:=aA0 hE;clear hE e0;obtain ⟨hc0,hc31,_⟩:=aD6 (g:=g) (kind:=kind) hE32;have HC0:=aA0 hc0;have hcell:=aA0 (fun w' (kk:Bel w w')=>show w'.cell? ⟨B,1,none⟩=some (.slice AN g.ports.length kn)/\w'.cell? ⟨B,2,none⟩=some (.int .i64 kind)/\B<w'.heap.size from ⟨(HBk.out _ kk).cell 1 rfl,(HBk.out _ kk).cell 2 rfl,(HBk.out _ kk).lt⟩)
   have hcx:=hcell.out _ HW;clear hc0
   go_wp2_with fail
   replace HW:=HW.drew
   go_region_held3 (fun w'=>w'.cell? ⟨B,1,none⟩=some (.slice AN g.ports.length kn)/\w'.cell? ⟨B,2,none⟩=some (.int .i64 kind)/\B<w'.heap.size) (exact hcell.out _ HW) (first
    | (go_simp;go_at_call 84;refine (bA3 AN kn g kind E _ (HNT.out _ HW) (HT.out _ HW) (by omega) HEW.out HG.out).mono ?_;rintro e w1 ⟨RS,rs,rfl,hS,hrs,hrm,hb⟩;have HS:=aA0 hS;have HGC1:=aA0 (HGC.out.drew.keep hb);replace HW:=HW.trans hb;clear hb hS))
   rw [HC0.out];obtain ⟨S,hSE⟩:∃ S,S=(aB0 g kind E).1:=⟨_,rfl⟩;have HSE:=aA0 hSE;rw [<- hSE] at HS hc31 hrs;rw [<- hSE];clear hSE;obtain ⟨i0,hi0,hz0,hz1,hz2⟩:=info_parts bKt;have hcx1:=HGC1.out.lt
   go_wp2_with (at_make;refine aB7 _ rfl 93 (.tmp 97) (.tmp 97) rfl w1.heap.size 108 i0 (.agg #[.int .u32 0,.int .i64 0]) 2 underlying93 hi0 hz0 hz1 .i64 .i64 S.length rfl rfl (by rw [hz2];omega) (by unfold maxLen;omega) (Nat.le_refl _) ?_;intro gb w2 hown hb;rw [<- aU0] at hown;have HO:=aA0 hown;have HB2:=aA0 hb;clear hown hb)
   have HBX0:Hid (Boxed (w2.alloc (.cells #[.slice (some ⟨gb,0,none⟩) S.length S.length] 93)) w2.heap.size 93 (.slice (some ⟨gb,0,none⟩) S.length S.length)):=Boxed.new _ _ _;have HO0:=aA0 (HO.out.alloc (.cells #[.slice (some ⟨gb,0,none⟩) S.length S.length] 93));have HB0:=aA0 (HB2.out.alloc (.cells #[.slice (some ⟨gb,0,none⟩) S.length S.length] 93));have hgbl:=aAa HO.out;have HQ1:Hid (w1.heap.size<=w2.heap.size):=HB2.out.size;obtain ⟨L,hLE⟩:∃ L,L=aFf p g kind c:=⟨_,rfl⟩;have hLl:L.length=S.length:=by rw [hLE];unfold aFf;rw [List.length_map,<- HEE.out,<- HSE.out]
   have HLE:=aA0 hLE;have HLL:=aA0 hLl;clear hLE hLl HO HB2 hcell hcx hcx1;rw [<- HLE.out]
   have HO1:Hid ((w2.alloc (.cells #[.slice (some ⟨gb,0,none⟩) S.length S.length] 93)).ownsRow w1.heap.size 108 2 (.slice (some ⟨gb,0,none⟩) S.length S.length) S.length ((aGo L 0).flatMap aBs)):=by
    show World.ownsRow _ _ _ _ _ _ _
    rw [bEh,HLL.out];exact HO0.out
   obtain ⟨bx,hbx⟩:∃ bx,bx=w2.heap.size:=⟨_,rfl⟩;rw [<- hbx] at HBX0 HQ1;rw [<- hbx];have hbg:gb<bx:=by rw [hbx];exact hgbl.2
   have hwg:w1.heap.size<=gb:=hgbl.1;clear hbx HO0 hgbl;have HWS1:=aA0 HW.size;refine wp_loop_ghost_k (fun m a W=>∃ (i:Nat) (x18 x19 x101 x102 x103 x104 x105 x106 x107 x108 x109 x110 x111 x112 x113 x126:Value) (ds:List Deferred),i<=S.length/\m=S.length-i/\a={ tmps:=#[.pointer (some ⟨B,0,none⟩),.slice AC c.length kc,.int .i64 (k:Int),undef,undef,undef,.int .u32 0,.slice none 0 0,.int .i64 0,.int .u32 (E:Int),.pointer (some ⟨w.heap.size,0,none⟩),u11,u12,u13,u14,.slice RS S.length rs,.int .i64 0,.pointer (some ⟨bx,0,none⟩),x18,x19,undef,.slice AC c.length kc,.int .i64 (c.length:Int),.int .i64 (c.length:Int),.bool false,u25,u26,u27,u28,u29,u30,u31,u32,u33,u34,u35,u36,u37,u38,u39,u40,u41,u42,u43,u44,u45,u46,u47,u48,u49,u50,u51,u52,u53,u54,u55,u56,u57,u58,u59,u60,u61,u62,u63,u64,u65,u66,u67,u68,u69,u70,u71,u72,u73,u74,u75,u76,u77,u78,u79,.tuple #[.slice RS S.length rs,.int .i64 0],.pointer (some ⟨B,0,none⟩),.pointer (some ⟨B,0,none⟩),.pointer (some ⟨B,1,none⟩),.slice AN g.ports.length kn,.pointer (some ⟨B,0,none⟩),.pointer (some ⟨B,0,none⟩),.pointer (some ⟨B,2,none⟩),.int .i64 kind,.int .u32 (E:Int),.tuple #[.slice RS S.length rs,.int .i64 0],.slice RS S.length rs,.int .i64 0,.int .i64 0,.bool false,undef,.slice RS S.length rs,.int .i64 (S.length:Int),.slice (some ⟨gb,0,none⟩) S.length S.length,.slice RS S.length rs,.int .i64 (S.length:Int),x101,x102,x103,x104,x105,x106,x107,x108,x109,x110,x111,x112,x113,undef,undef,undef,undef,undef,undef,undef,undef,undef,undef,undef,undef,x126,undef,undef],defers:=ds }/\x101 = .int .i64 (i:Int)/\Hid (aE5 w.heap.size W ds)/\Hid (Boxed W bx 93 (.slice (some ⟨gb,0,none⟩) S.length S.length))/\Hid (W.ownsRow w1.heap.size 108 2 (.slice (some ⟨gb,0,none⟩) S.length S.length) S.length ((aGo L i).flatMap aBs))/\Hid (Bel w1 W)) S.length ⟨0,_,_,_,_,_,_,_,_,_,_,_,_,_,_,_,_,[],by omega,rfl,rfl,rfl,trivial,HBX0,HO1,HB0⟩ ?_
   intro m a W hI J K hJ hK
   obtain ⟨i,x18,x19,x101,x102,x103,x104,x105,x106,x107,x108,x109,x110,x111,x112,x113,x126,ds,hi,rfl,rfl,rfl,HMK,HBX,HO,HB⟩:=hI;clear HBX0 HO1 HB0
   by_cases hlt:i<S.length
   .have hd0:decide (i<S.length)=true:=by simpa using hlt
    obtain ⟨bs,os,rfl,hbs,hsc⟩:=(HS.out.keep HB.out).at_ i hlt;have hlL:i<(aGo L i).length:=by rw [aXc (by rw [HLL.out];exact hi),HLL.out];exact hlt
    have hfi:(aGo L i)[i]?=some (0,0):=by
     unfold aGo;rw [List.getElem?_append_right (by simp;omega),List.length_take,Nat.min_eq_left (by rw [HLL.out];exact hi),Nat.sub_self,List.getElem?_replicate,if_pos (by rw [HLL.out];omega)]
    obtain ⟨f1,f2⟩:=aI6 _ i _ hfi;obtain ⟨q1,e1,_,_,r1,r1f⟩:=aAj HO.out f1;obtain ⟨q2,e2,_,_,r2,r2f⟩:=aAj HO.out f2;obtain rfl:gb=q1:=by simpa using e1
    obtain rfl:gb=q2:=by simpa using e2
    have hgl:=(aAa HO.out).2;obtain ⟨c3,f3,l3⟩:=aAs HBX.out;clear f1 f2 hfi e1 e2
    go_wp2_with (go_at_call 85;refine (aF3 _ _).mono ?_;rintro e w' ⟨rfl,rfl⟩)
    have hST:=aFt (g:=g) (kind:=kind) (E:=E) (by omega) (show S[i]∈(aB0 g kind E).1 by rw [<- HSE.out];exact List.getElem_mem hlt)
    have HLI:Hid (L[i]'(by rw [HLL.out];exact hlt)=(S[i],bB0 p g (aAf p g c S[i]))):=by
     have h1:=HLE.out;have h2:=HSE.out;show _=_
     subst h1;subst h2;unfold aFf;rw [List.getElem_map];simp only [HEE.out]
    generalize S[i]=T at *;have HTW:=aA0 hST.2;have hT32:=hST.1;have HFS:Hid (∀ z:Int,(aGo L i).set i (T,z)=(aGo L i).set i (T,z)):=fun _=>rfl
    have HO2:Hid ((((W.setCell ⟨gb,i*2,none⟩ (.int .u32 (T:Int))).setCell ⟨gb,i*2+1,none⟩ (.int .i64 (k:Int)))).ownsRow w1.heap.size 108 2 (.slice (some ⟨gb,0,none⟩) S.length S.length) S.length (((aGo L i).set i (T,(k:Int))).flatMap aBs)):=by
     have h1:=((HO.out.stored (i*2) (.int .u32 (T:Int))).1.stored (i*2+1) (.int .i64 (k:Int))).1;rw [aWe _ _ (T,(k:Int)) hlL] at h1;exact h1
    have HBX2:Hid (Boxed ((W.setCell ⟨gb,i*2,none⟩ (.int .u32 (T:Int))).setCell ⟨gb,i*2+1,none⟩ (.int .i64 (k:Int))) bx 93 (.slice (some ⟨gb,0,none⟩) S.length S.length)):=Blk.other (Blk.other HBX.out (by simp;omega) _) (by simp;omega) _
    have HB2:Hid (Bel w1 ((W.setCell ⟨gb,i*2,none⟩ (.int .u32 (T:Int))).setCell ⟨gb,i*2+1,none⟩ (.int .i64 (k:Int)))):=(HB.out.setCell (p:=⟨gb,i*2,none⟩) (by simpa using hwg) _).setCell (p:=⟨gb,i*2+1,none⟩) (by simpa using hwg) _
    obtain ⟨cgb,hcgb⟩:=bIs HO.out
    have HMK2:Hid (aE5 w.heap.size ((W.setCell ⟨gb,i*2,none⟩ (.int .u32 (T:Int))).setCell ⟨gb,i*2+1,none⟩ (.int .i64 (k:Int))) ds):=HMK.out.keep fun D _ hD=>by
     have hne:D≠gb:=by
      rintro rfl;unfold Blk at hcgb;rw [hcgb] at hD;cases hD
     exact (Below.heap_setCell _ _ _ _ hne).trans ((Below.heap_setCell _ _ _ _ hne).trans hD)
    have HML:=aA0 (HMK.out.below);have hsW:((W.setCell ⟨gb,i*2,none⟩ (.int .u32 (T:Int))).setCell ⟨gb,i*2+1,none⟩ (.int .i64 (k:Int))).heap.size=W.heap.size:=by simp
    clear HO HBX HB HMK hcgb r1 r1f r2 r2f c3 f3 hsc hbs;generalize hW2:(W.setCell ⟨gb,i*2,none⟩ (.int .u32 (T:Int))).setCell ⟨gb,i*2+1,none⟩ (.int .i64 (k:Int))=W2 at *;clear hW2;rw [<- hsW] at hgl l3 HML ⊢;obtain ⟨W0,hW0⟩:∃ W0,(W2.alloc (.cells #[.int .i64 (i:Int)] 3)).alloc (.cells #[.int .u32 (T:Int)] 46)=W0:=⟨_,rfl⟩;have bI:Boxed W0 W2.heap.size 3 (.int .i64 (i:Int)):=by rw [<- hW0];exact (Boxed.new W2 _ _).alloc _
    have bN:Boxed W0 (W2.heap.size+1) 46 (.int .u32 (T:Int)):=by
     rw [<- hW0];have:=Boxed.new (W2.alloc (.cells #[.int .i64 (i:Int)] 3)) 46 (.int .u32 (T:Int));rw [World.size_alloc] at this;exact this
    have bX:Boxed W0 bx 93 (.slice (some ⟨gb,0,none⟩) S.length S.length):=by rw [<- hW0];exact (HBX2.out.alloc _).alloc _
    have hO0:W0.ownsRow w1.heap.size 108 2 (.slice (some ⟨gb,0,none⟩) S.length S.length) S.length (((aGo L i).set i (T,(k:Int))).flatMap aBs):=by rw [<- hW0];exact (HO2.out.alloc _).alloc _
    have hb0:Bel w1 W0:=by rw [<- hW0];exact (HB2.out.alloc _).alloc _
    have hm0:aE5 w.heap.size W0 ds:=by
     rw [<- hW0];refine HMK2.out.keep fun D _ hD=>?_
     have hlt:=(Array.getElem?_eq_some_iff.1 hD).1;exact (Below.heap_alloc _ _ _ (by simp;omega)).trans ((Below.heap_alloc _ _ _ hlt).trans hD)
    have hz0:W0.heap.size=W2.heap.size+1+1:=by rw [<- hW0];simp
    have HM0:=aA0 hm0;rw [hW0];clear hW0 HBX2 HO2 HB2 HMK2 hsW hm0;have HGW:Hid (Blk W0 w.heap.size (aAy (gF p g c) c.length 0) 161):=HGC1.out.keep hb0;have HTW0:=HT.out _ (HW.trans hb0);have htb:0<w.heap.size:=(HT.out _ (Bel.refl w)).1
    have hT32':T<32:=by
     have:=(aGs hT32 (show E<4294967296 by omega)).2 HTW.out
     have:=aCt this;omega
    have helt:(aAd T).length<=5:=aJd (by decide) hT32'
    have HGB:=aA0 (fun v (hv:v<c.length)=>bLi (v:=v) HM.out HSZ.out hv10 hv)
    have HEL:Hid (∀ v∈aAd T,v<c.length):=fun v hv=>by
     obtain ⟨h1,h2⟩:=aC8.1 hv;have h3:=aAi.1 HTW.out v h1 h2;rw [HCN.out];exact HEW.out v h3
    have hgw:w.heap.size<gb:=by have:=HWS1.out;have:=HGC1.out.lt;omega
    refine (wpIn_wide (n:=5)).1 ?_
    refine aFn (n:=5) rfl (by decide) (gf:=125) (lb:=#[.pointer (some ⟨W2.heap.size+1,0,none⟩)]) (by simp [go_sem]) trivial (enters_of func125 (by kernel_rfl) rfl)
     (aJm 4 _ T W0 (by decide) hT32 bN HTW0) (by rintro k rfl;omega) (by rintro k rfl;exact HTW0.1) (fun _=>rfl) (fun k=>k=W2.heap.size+1∨k=W0.heap.size∨k=W0.heap.size+1) (fun k=>Iff.rfl)
     (fun pre Wp=>Agr (fun q=>q=gb∨q=W2.heap.size+1) W0 Wp/\Wp.ownsRow w1.heap.size 108 2 (.slice (some ⟨gb,0,none⟩) S.length S.length) S.length (((aGo L i).set i (T,(k:Int)+(pre.map (gF p g c)).sum)).flatMap aBs))
     (fun c pre W=>False)
     (fun s A B ⟨h1,h2⟩ hg=>⟨h1.step hg (by rintro q hq (h | h | h) <;> first | exact .inr h | omega),aH7 h2 hg (by omega)⟩)
     (fun c s A B h hg=>h)
     ⟨Agr.refl _ _,by simpa using hO0⟩
     (fun x a' W=>a'={ tmps:=#[.pointer (some ⟨B,0,none⟩),.slice AC c.length kc,.int .i64 (k:Int),undef,undef,undef,.int .u32 0,.slice none 0 0,.int .i64 0,.int .u32 (E:Int),.pointer (some ⟨w.heap.size,0,none⟩),u11,u12,u13,u14,.slice (some ⟨bs,os,none⟩) S.length rs,.int .i64 0,.pointer (some ⟨bx,0,none⟩),.pointer (some ⟨W2.heap.size,0,none⟩),.int .u32 (T:Int),.int .i64 (x:Int),.slice AC c.length kc,.int .i64 (c.length:Int),.int .i64 (c.length:Int),.bool false,u25,u26,u27,u28,u29,u30,u31,u32,u33,u34,u35,u36,u37,u38,u39,u40,u41,u42,u43,u44,u45,u46,u47,u48,u49,u50,u51,u52,u53,u54,u55,u56,u57,u58,u59,u60,u61,u62,u63,u64,u65,u66,u67,u68,u69,u70,u71,u72,u73,u74,u75,u76,u77,u78,u79,.tuple #[.slice (some ⟨bs,os,none⟩) S.length rs,.int .i64 0],.pointer (some ⟨B,0,none⟩),.pointer (some ⟨B,0,none⟩),.pointer (some ⟨B,1,none⟩),.slice AN g.ports.length kn,.pointer (some ⟨B,0,none⟩),.pointer (some ⟨B,0,none⟩),.pointer (some ⟨B,2,none⟩),.int .i64 kind,.int .u32 (E:Int),.tuple #[.slice (some ⟨bs,os,none⟩) S.length rs,.int .i64 0],.slice (some ⟨bs,os,none⟩) S.length rs,.int .i64 0,.int .i64 0,.bool false,undef,.slice (some ⟨bs,os,none⟩) S.length rs,.int .i64 (S.length:Int),.slice (some ⟨gb,0,none⟩) S.length S.length,.slice (some ⟨bs,os,none⟩) S.length rs,.int .i64 (S.length:Int),.int .i64 (i:Int),.bool true,.int .i64 (i:Int),.pointer (some ⟨bs,os+i,none⟩),.int .u32 (T:Int),.slice (some ⟨gb,0,none⟩) S.length S.length,.int .i64 (i:Int),.int .u32 (T:Int),.int .i64 (k:Int),.agg #[.int .u32 (T:Int),.int .i64 (k:Int)],.pointer (some ⟨gb,i*2,none⟩),.int .u32 (T:Int),.func (.func 125) #[] #[.pointer (some ⟨W2.heap.size+1,0,none⟩)],.int .i64 (x:Int),undef,undef,undef,undef,undef,undef,undef,undef,undef,undef,undef,x126,undef,undef],defers:=[] })
     (fun _ _ _ _ h _=>h) ?assign ?body ?done ?stop
    case assign =>
     intro pre x Wp K hp hI hl hK
     gi_wp2
     exact hK _ _ (aBf.refl _ _) hI rfl
    case stop =>
     rintro c' pre W hp h hK;exact h.elim
    case body =>
     rintro pre x a' Wp hp ⟨hA,hO⟩ rfl hl ⟨r,hr⟩;have hx:x∈aAd T:=hp.subset (by simp)
     have hxc:=HEL.out x hx
     have hpl:pre.length<=5:=by
      have:=hp.length_le;simp at this;omega
     have hsb:=bG8 (l:=pre) (f:=gF p g c) (B:=29491200000) (fun v hv=>HGB.out v (HEL.out v (hp.subset (by simp [hv]))))
     have hgx:=HGB.out x hxc
     have hk0:(k:Int)<=32768:=by
      have h1:=(aHs HM.out).2;have h2:=HSZ.out;have h3:=HK.out;omega
     obtain ⟨Z,hZ⟩:∃ Z,Z=(pre.map (gF p g c)).sum:=⟨_,rfl⟩;rw [<- hZ] at hO hsb;have HZ:=aA0 hZ;clear hZ;have hi2:((aGo L i).set i (T,(k:Int)+Z))[i]?=some (T,(k:Int)+Z):=List.getElem?_set_self hlL;obtain ⟨f1,f2⟩:=aI6 _ i _ hi2;obtain ⟨q2,e2,_,_,r2,r2f⟩:=aAj hO f2;obtain rfl:gb=q2:=by simpa using e2
     have hgp:=(aAa hO).2;have hGp:=hA.blk HGW.out (by rintro (h | h) <;> omega)
     have gx:=Blk.cell hGp x (aPa (gF p g c) hxc (show x<24 by omega) 0)
     have gl:=Blk.lt hGp;obtain ⟨c1,f1',l1⟩:=aAs (hA.boxed bX (by rintro (h | h) <;> omega))
     obtain ⟨c2,f2',l2⟩:=aAs (hA.boxed bI (by rintro (h | h) <;> omega))
     have HO:=aA0 hO;have HA:=aA0 hA;have HGX:Hid (gF p g c x=gF p g c x):=rfl;clear hO hA f1 f2 e2 hi2 hGp;obtain ⟨gx0,hgx0⟩:∃ y,y=gF p g c x:=⟨_,rfl⟩;rw [<- hgx0] at gx hgx;have HGX0:=aA0 hgx0;have i1:(i:Int)<(S.length:Int):=by omega
     have i2:(x:Int)<24:=by omega
     clear hgx0;refine wpIn_block ?_
     refine aA4.startIn (fun w'=>w'.cell? ⟨bx,0,none⟩=some (.slice (some ⟨gb,0,none⟩) S.length S.length)/\w'.cell? ⟨W2.heap.size,0,none⟩=some (.int .i64 (i:Int))/\w'.cell? ⟨gb,i*2+1,none⟩=some (.int .i64 ((k:Int)+Z))/\w'.cell? ⟨w.heap.size,x,none⟩=some (.int .i64 gx0)/\bx<w'.heap.size/\W2.heap.size<w'.heap.size/\gb<w'.heap.size/\w.heap.size<w'.heap.size) 11 (by kernel_rfl) (by kernel_rfl) (by rintro ⟨_,_,h⟩;exact h) ?_
     have hHeld:(fun w':World=>w'.cell? ⟨bx,0,none⟩=some (.slice (some ⟨gb,0,none⟩) S.length S.length)/\w'.cell? ⟨W2.heap.size,0,none⟩=some (.int .i64 (i:Int))/\w'.cell? ⟨gb,i*2+1,none⟩=some (.int .i64 ((k:Int)+Z))/\w'.cell? ⟨w.heap.size,x,none⟩=some (.int .i64 gx0)/\bx<w'.heap.size/\W2.heap.size<w'.heap.size/\gb<w'.heap.size/\w.heap.size<w'.heap.size) Wp.drew:=⟨c1,c2,r2,gx,l1,l2,hgp,gl⟩
     (refine aA4.u (v:=?_) 0 115 rfl hHeld ?_ ?_;rotate_left 1;focus (intro w' hSw;(try dsimp only at hSw);go_simp;(try with_reducible rfl);done));(refine aA4.u (v:=?_) 1 116 rfl hHeld ?_ ?_;rotate_left 1;focus (intro w' hSw;(try dsimp only at hSw);go_simp;(try with_reducible rfl);done));(refine aA4.u (v:=?_) 2 117 rfl hHeld ?_ ?_;rotate_left 1;focus (intro w' hSw;(try dsimp only at hSw);go_simp;(try with_reducible rfl);done));(refine aA4.u (v:=?_) 3 118 rfl hHeld ?_ ?_;rotate_left 1;focus (intro w' hSw;(try dsimp only at hSw);go_simp;(try with_reducible rfl);done));(refine aA4.u (v:=?_) 4 119 rfl hHeld ?_ ?_;rotate_left 1;focus (intro w' hSw;(try dsimp only at hSw);go_simp;(try with_reducible rfl);done));(refine aA4.u (v:=?_) 5 120 rfl hHeld ?_ ?_;rotate_left 1;focus (intro w' hSw;(try dsimp only at hSw);go_simp;(try with_reducible rfl);done));(refine aA4.u (v:=?_) 6 121 rfl hHeld ?_ ?_;rotate_left 1;focus (intro w' hSw;(try dsimp only at hSw);go_simp;(try with_reducible rfl);done));(refine aA4.u (v:=?_) 7 122 rfl hHeld ?_ ?_;rotate_left 1;focus (intro w' hSw;(try dsimp only at hSw);go_simp;(try with_reducible rfl);done));(refine aA4.u (v:=?_) 8 123 rfl hHeld ?_ ?_;rotate_left 1;focus (intro w' hSw;(try dsimp only at hSw);go_simp;(try with_reducible rfl);done));(refine aA4.u (v:=?_) 9 124 rfl hHeld ?_ ?_;rotate_left 1;focus (intro w' hSw;(try dsimp only at hSw);go_simp;(try with_reducible rfl);done));(refine aA4.u (v:=?_) 10 125 rfl hHeld ?_ ?_;rotate_left 1;focus (intro w' hSw;(try dsimp only at hSw);go_simp;(try with_reducible rfl);done))
     (refine aA4.one (i:=11) (by kernel_rfl) rfl (fun K hK=>?_));go_simp;refine hK.out _ _ (fun h=>absurd rfl h) ?_;clear hK K;refine aA4.done (by kernel_rfl) ?_ _;(try simp only [Act.put,List.setIfInBounds_toArray,List.set_cons_zero,List.set_cons_succ])
     rw [bGk (by omega) (by omega)]
     have hst:=((HO.out.drew).stored (i*2+1) (.int .i64 ((k:Int)+Z+gx0))).1;rw [aTz _ i (T,(k:Int)+Z) _ (List.getElem?_set_self hlL),List.set_set] at hst;have hse:aBf (orE (fun k=>k=W2.heap.size+1∨k=W0.heap.size∨k=W0.heap.size+1) (fun k=>k=0)) Wp (Wp.setCell ⟨gb,i*2+1,none⟩ (.int .i64 ((k:Int)+Z+gx0))):=aBf.setCell _ _ _ (by rintro ((h | h | h) | h) <;> (dsimp only at h;omega))
     refine ⟨hse,HA.out.trans (Agr.drew (Agr.setCell (E:=fun q=>q=gb∨q=W2.heap.size+1) _ _ _ (Or.inl rfl))),?_⟩
     have he:(k:Int)+((pre++[x]).map (gF p g c)).sum=(k:Int)+Z+gx0:=by
      rw [List.map_append,List.sum_append,<- HZ.out,HGX0.out];simp;omega
     rw [he];exact hst
    case done =>
     rintro Wp ⟨hA,hO⟩ hKd;have hsum:=bPz HM.out hT32 (HEE.out ▸ HTW.out);rw [<- HK.out] at hsum;rw [<- hsum] at hO
     have hfill:(aGo L i).set i (T,bB0 p g (aAf p g c T))=aGo L (i+1):=by
      rw [<- bHi (by rw [HLL.out];exact hlt),HLI.out]
     rw [hfill] at hO;have bX':=hA.boxed bX (by rintro (h | h) <;> omega)
     have hb':=hA.belE (w:=w1) hb0 (by rintro q (h | h) <;> omega)
     have hMk:aE5 w.heap.size Wp ({ target := .collected W0.heap.size,args:=#[] } :: ds):=by
      refine aE5.push (HM0.out.keep fun D _ hD=>?_) (by have:=HWS1.out;have:=hb0.size;omega) hKd (fun d hd D hD=>?_)
      .obtain ⟨cgb,hcgb⟩:=bIs hO0
       have hlt:=(Array.getElem?_eq_some_iff.1 hD).1;refine (hA.block D hlt ?_).trans hD
       rintro (h | h)
       .subst h
        unfold Blk at hcgb;rw [hcgb] at hD;cases hD
       .subst h
        have:=bN;unfold Boxed at this;rw [this] at hD;cases hD
      .have:=(HML.out d hd D hD).2
       omega
     have HO9:=aA0 hO;have HX9:=aA0 bX';have HB9:=aA0 hb';have HM9:=aA0 hMk;clear hO bX' hb' hMk hA hsum hfill hKd hz0
     go_wp2_with fail
     refine Handed.intro (S.length-(i+1)) (by omega) (hJ _ _ _ ?_)
     exact ⟨i+1,_,_,_,_,_,_,_,_,_,_,_,_,_,_,_,_,_,by omega,rfl,rfl,by go_num,HM9,HX9,HO9,HB9⟩
   .have hd0:decide (i<S.length)=false:=by simpa using hlt
    obtain rfl:i=S.length:=by omega
    obtain ⟨c3,f3,l3⟩:=aAs HBX.out
    go_wp2_with fail
    go_region
    go_wp2;refine aD7 (B:=w.heap.size) (ds:=ds) (HMK.out.keep fun D _ hD=>hD) ?_
    intro W' hA hs
    have hO:=HO.out;rw [show aGo L S.length=L by rw [<- HLL.out];exact bEg L,<- HLL.out] at hO
    have hO2:=aOa (show W.drew.ownsRow _ _ _ _ _ _ from hO) hA
    refine ⟨.tuple #[.int .u32 (E:Int),.slice (some ⟨gb,0,none⟩) S.length S.length,.int .i64 0],by simp [results,Tryz.results37,go_sem],?_⟩
    refine ⟨some ⟨gb,0,none⟩,S.length,?_,?_,?_,by unfold maxLen;omega,?_,?_⟩
    .rw [<- HLE.out,HLL.out,HEE.out]
    .rw [<- HLE.out];exact bM2 (c:=S.length) (by rw [HLL.out] at hO2 ⊢;exact hO2)
    .rw [<- HLE.out,HLL.out];exact Nat.le_refl _
    .intro b o e
     obtain rfl:gb=b:=by injection e with e;injection e
     have:=HWS1.out;omega
    .exact hA.bel ((HW.trans HB.out).drew)
end Go.Proofs.YtmoebklkkjbigaaGreatDoor

