/- Merged. -/
import Derived.Test.YtdcjnhoabbdanaaGreatDoorZ38
import Derived.Lib.AppendZeros
set_option linter.unusedSimpArgs false
set_option linter.unnecessarySimpa false
set_option linter.unusedVariables false
set_option maxRecDepth 100000
set_option maxHeartbeats 8000000
open Go.Proofs.Tryz

namespace Go.Proofs.YtdcjnhoabbdanaaGreatDoor
open Go.RowKit
def aRj:aA6:=[[1],[1]]
def bBg:Trc:=⟨[2,1],[3,1,0],[[0],[0]],⟨2,2,1,1,0⟩⟩
theorem aL3:aAu exP=true/\aB3 exG=true/\aBs aRj=true:=by decide +kernel
theorem aZt:aI0 exP exG 1 aRj 3=0:=by decide +kernel
theorem aZu:aKx exP exG 1 (fun i E=>aCg exG 1 E (([2,2,2]:List Nat).getD i 0)) (fun _ E=>decide (E≠0)) 3 0 (aAe exP exG aRj)=some bBg:=by kernel_rfl
theorem aZr {w:World} {b b0 b1:Nat} (hb:b<w.heap.size) (h0:b0<w.heap.size) (h1:b1<w.heap.size) (c0:w.cell? ⟨b,0,none⟩=some (.slice (some ⟨b0,0,none⟩) 1 1)) (c1:w.cell? ⟨b,1,none⟩=some (.slice (some ⟨b1,0,none⟩) 1 1)) (d0:w.cell? ⟨b0,0,none⟩=some (.int .i64 1)) (d1:w.cell? ⟨b1,0,none⟩=some (.int .i64 1)):aAw w (.slice (some ⟨b,0,none⟩) 2 2) aRj :=
 ⟨_,2,rfl,aAi.two hb ⟨_,1,c0,aAi.one h0 (by simpa [aHr] using d0),by decide,by decide⟩ ⟨_,1,c1,aAi.one h1 (by simpa [aHr] using d1),by decide,by decide⟩,by decide,by decide⟩
theorem aZs {w:World} {b:Nat} (hb:b<w.heap.size) (c0:w.cell? ⟨b,0,none⟩=some (.int .u32 2)) (c1:w.cell? ⟨b,1,none⟩=some (.int .u32 2)) (c2:w.cell? ⟨b,2,none⟩=some (.int .u32 2)):aAa w (some ⟨b,0,none⟩) ([2,2,2]:List Nat).length [2,2,2] :=
 ⟨rfl,fun i y hy=>by
  match i,hy with
  | 0, hy => obtain rfl : (2 : Nat) = y := by simpa using hy
             exact ⟨b,0,rfl,hb,by simpa [aHi] using c0⟩
  | 1, hy => obtain rfl : (2 : Nat) = y := by simpa using hy
             exact ⟨b,0,rfl,hb,by simpa [aHi] using c1⟩
  | 2, hy => obtain rfl : (2 : Nat) = y := by simpa using hy
             exact ⟨b,0,rfl,hb,by simpa [aHi] using c2⟩
  | i+3,hy=>simp at hy⟩
def bB7 (w:World) (e:Ending) (w':World):Prop:=∃ A1 k1 b o k2 A3 k3,e = .returned (.tuple #[.agg #[.slice A1 2 k1,.slice (some ⟨b,o,none⟩) 3 k2,.slice A3 2 k3,.int .i64 2,.int .i64 2,.int .i64 1,.int .i64 1,.int .u32 0],.int .i64 0])/\b<w'.heap.size/\w'.cell? ⟨b,o+2,none⟩=some (.int .u32 0)/\Bel w w'
theorem aOm (v1 v2 v3:Value) (b:Nat) (w:World) (h1:aEi w v1 exP) (h2:aAn w v2 exG) (h3:aAw w v3 aRj) (hM:aAa w (some ⟨b,0,none⟩) ([2,2,2]:List Nat).length [2,2,2]) (hT:aCt w) :
  Calls prog 18 #[v1,v2,.int .i64 1,v3,.slice (some ⟨b,0,none⟩) 3 3] w (bB7 w):=by
 refine (aQx v1 exP v2 exG v3 aRj 1 (some ⟨b,0,none⟩) 3 [2,2,2] w h1 h2 h3 aL3.1 aL3.2.1 aL3.2.2 hM hT (by decide) (by decide)).mono ?_
 rintro e w' ⟨vt,rfl,hV,hb⟩;have e1:aI0 exP exG 1 aRj (([2,2,2]:List Nat).length:Int)=0:=aZt
 have e2:aD2 (aKx exP exG 1 (fun i E=>aCg exG 1 E (([2,2,2]:List Nat).getD i 0)) (fun _ E=>decide (E≠0)) ([2,2,2]:List Nat).length 0 (aAe exP exG aRj))=(bBg,0):=by
  have:([2,2,2]:List Nat).length=3:=rfl;rw [this,aZu];rfl
 rw [if_pos e1,e2] at hV ⊢;obtain ⟨A1,k1,A2,k2,A3,k3,rfl,_,_,_,q,_⟩:=(show aBn w' vt bBg from hV.here)
 obtain ⟨b',o',rfl,hb',hc⟩:=aAa.at_ q 2 (by decide)
 exact ⟨A1,k1,b',o',k2,A3,k3,rfl,hb',hc,hb⟩
theorem aC3 (w:World) (hT:aCt w):Calls prog 12 #[] w fun e w'=>e = .returned (.bool true)/\Bel w w':=by
 have HT:=aA0 (fun w' (k:Bel w w')=>hT.keep k);clear hT;go_enter func12,ntmps12
 go_upto_region 3 with (first
  | (go_at_call 34;refine (aQ7 _).mono ?_;rintro e w1 ⟨vp,vg,rfl,hp,hg,hb1w⟩;have HP:=aA0 (fun w' (k:Bel w1 w')=>hp.keep k);have HG:=aA0 (fun w' (k:Bel w1 w')=>hg.keep k);have HT1:=aA0 (fun w' (k:Bel w1 w')=>HT.out _ (hb1w.trans k));have HB1:=aA0 hb1w;obtain ⟨A1,k1,A2,k2,rfl,_,_,_,_,_,_⟩:=hp;obtain ⟨A3,k3,A4,k4,rfl,_,_,_,_,_,_⟩:=hg)
  | (go_at_call 18;have HB:Bel w1 ((((((w1.alloc (.cells #[.string exP.name,.slice A1 exP.vars.length k1,.slice A2 exP.rules.length k2] 25)).alloc (.cells #[.slice A3 exG.ids.length k3,.slice A4 exG.ports.length k4] 29)).alloc (.cells #[.int .i64 1] 3)).alloc (.cells #[.int .i64 1] 3)).alloc (.cells #[.slice (some ⟨w1.heap.size+1+1,0,none⟩) 1 1,.slice (some ⟨w1.heap.size+1+1+1,0,none⟩) 1 1] 26)).alloc (.cells #[.int .u32 2,.int .u32 2,.int .u32 2] 34)):=(by repeat' (first | exact Bel.refl _ | refine Bel.alloc ?_ _));refine (aOm _ _ _ (w1.heap.size+1+1+1+1+1) _ (HP.out _ HB) (HG.out _ HB) (aZr (b0:=w1.heap.size+1+1) (b1:=w1.heap.size+1+1+1) (by simp) (by simp <;> omega) (by simp <;> omega) (by go_simp) (by go_simp) (by go_simp) (by go_simp)) (aZs (by simp) (by go_simp) (by go_simp) (by go_simp)) (HT1.out _ HB)).mono ?_;rintro e w2 ⟨B1,j1,b,o,j2,B3,j3,rfl,hbl,q,hb2⟩;have HB2:=aA0 (HB.trans hb2);clear hb2 HB))
 have c2:(w2.alloc (.cells #[.slice B1 2 j1,.slice (some ⟨b,o,none⟩) 3 j2,.slice B3 2 j3,.int .i64 2,.int .i64 2,.int .i64 1,.int .i64 1,.int .u32 0] 38)).cell? ⟨b,o+2,none⟩=some (.int .u32 0):=(((Bel.refl w2).alloc _).cell hbl).trans q;have hbl2:b<(w2.alloc (.cells #[.slice B1 2 j1,.slice (some ⟨b,o,none⟩) 3 j2,.slice B3 2 j3,.int .i64 2,.int .i64 2,.int .i64 1,.int .i64 1,.int .u32 0] 38)).heap.size:=by simp;omega
 have z:=Blk.new w2 #[.slice B1 2 j1,.slice (some ⟨b,o,none⟩) 3 j2,.slice B3 2 j3,.int .i64 2,.int .i64 2,.int .i64 1,.int .i64 1,.int .u32 0] 38;have z0:=z.cell 0 (v := .slice B1 2 j1) rfl;have z1:=z.cell 1 (v := .slice (some ⟨b,o,none⟩) 3 j2) rfl;have z3:=z.cell 3 (v := .int .i64 2) rfl;have z4:=z.cell 4 (v := .int .i64 2) rfl;have z5:=z.cell 5 (v := .int .i64 1) rfl;have zl:=z.lt;have HE:=aA0 (HB1.out.trans (HB2.out.alloc (.cells #[.slice B1 2 j1,.slice (some ⟨b,o,none⟩) 3 j2,.slice B3 2 j3,.int .i64 2,.int .i64 2,.int .i64 1,.int .i64 1,.int .u32 0] 38)));clear z q hbl;generalize w2.alloc (.cells #[.slice B1 2 j1,.slice (some ⟨b,o,none⟩) 3 j2,.slice B3 2 j3,.int .i64 2,.int .i64 2,.int .i64 1,.int .i64 1,.int .u32 0] 38)=W at *
 go_wp2_with fail
 go_ret;exact ⟨rfl,HE.out⟩
theorem aPw (z:Value) (n:Nat) (hz:z.cells.size=1):(Builtin.zeroCells z.cells n).size=n:=by rw [size_zeroCells,hz,Nat.mul_one]
theorem aZz (n:Nat) (w:World) (h0:0<n) (hn:n<=1000) :
  Calls prog 99 #[.slice none 0 0,.int .i64 (n:Int)] w fun e w'=>∃ G,e = .returned (.slice (some ⟨w.heap.size,0,none⟩) 0 G)/\w'.ownsRow w.heap.size 34 1 (.slice (some ⟨w.heap.size,0,none⟩) 0 G) 0 []/\Bel w w':=by
 obtain ⟨i0,hi0,hz0,hz1,hz2⟩:=info_parts aIz
 have hrz:∀ ty,(Builtin.append_ #[31,3] ty #[.slice none 0 0,.int .i64 (n:Int)]).run prog w = .ok (.slice (some ⟨w.heap.size,0,none⟩) n (grownCap w n 0 34)) (w.drew.alloc (.cells (Builtin.zeroCells (Value.int .u32 0).cells n++Builtin.zeroCells (Value.int .u32 0).cells (grownCap w n 0 34-n)) 34)) :=
  fun ty=>Lib.run_append_nil_zeros w _ _ ty _ i0 (.int .u32 0) .i64 .i64 underlying31 underlying3 hi0 hz0 n h0 (by omega) (by omega) (by rw [hz2];omega)
 have hGn:n<=grownCap w n 0 34:=grownCap_ge w _ _ _;have hG63:=grownCap_le_maxLen w n 0 34 (by unfold maxLen;omega)
 obtain ⟨G,hG⟩:∃ G,G=grownCap w n 0 34:=⟨_,rfl⟩;rw [<- hG] at hrz hGn hG63
 have hsz:(Builtin.zeroCells (Value.int .u32 0).cells n++Builtin.zeroCells (Value.int .u32 0).cells (G-n)).size=G:=by
  rw [Array.size_append,aPw _ _ rfl,aPw _ _ rfl];omega
 have HSZ:=aA0 hsz;have HG:=aA0 hG63;have hlt:decide (0<n)=true:=by simpa using h0
 have hltI:decide ((0:Int)<(n:Int))=true:=by simp;omega
 clear hG hsz hz0 hz1 hz2 hi0;go_enter func99,ntmps99
 go_wp2_with (at_builtin;refine Lib.wpList_append_run _ rfl _ _ _ _ rfl _ _ rfl rfl _ _ (hrz _) ?_)
 all_goals
  go_ret;refine ⟨G,rfl,⟨rfl,.inr ⟨w.heap.size,G,_,rfl,Nat.le_refl _,aFe _ _,Nat.zero_le _,HG.out,by rw [Nat.mul_one];exact HSZ.out,by simp⟩⟩,(Bel.refl w).drew.alloc _⟩
def aKb (a b:Nat) (i:Nat):Nat:=if i=0 then 0 else if i=1 then a else a+b
def aEj (l m:List Nat) (i:Nat):List Nat:=if i=0 then [] else if i=1 then l else l++m
theorem aIy (l m:List Nat) (i:Nat):(aEj l m i).length=aKb l.length m.length i:=by
 unfold aEj aKb;split
 .rfl
 .split
  .rfl
  .simp
theorem aL1 (bx:Nat) (Ap:Option Addr) (cp:Nat) (l:List Nat) (Al:Option Addr) (cl:Nat) (m:List Nat) (w:World) (hb:bx<w.heap.size) (c0:w.cell? ⟨bx,0,none⟩=some (.slice Ap l.length cp)) (c1:w.cell? ⟨bx,1,none⟩=some (.slice Al m.length cl))
  (hl:aAa w Ap l.length l) (hm:aAa w Al m.length m) (hn:l.length+m.length<=200) (h0:0<m.length) :
  Calls prog 78 #[.slice (some ⟨bx,0,none⟩) 2 2] w fun e w'=>∃ A c,e = .returned (.slice A (l++m).length c)/\w'.ownsRow w.heap.size 34 1 (.slice A (l++m).length c) (l++m).length ((l++m).map aB0)/\Bel w w':=by
 obtain ⟨i0,hi0,hz0,hz1,hz2⟩:=info_parts aIz;have HLM:=aA0 (fun w' (k:Bel w w')=>And.intro (aAa.keep hl k) (aAa.keep hm k));have hcell:=aA0 (fun w' (k:Bel w w')=>show w'.cell? ⟨bx,0,none⟩=some (.slice Ap l.length cp)/\w'.cell? ⟨bx,1,none⟩=some (.slice Al m.length cl)/\bx<w'.heap.size from ⟨(k.cell hb).trans c0,(k.cell hb).trans c1,Nat.lt_of_lt_of_le hb k.size⟩)
 clear hl hm;go_enter func78,ntmps78
 go_wp2_with fail
 go_loopg [3,5,11] 2 (fun q s _x z wr=>∃ i:Nat,i<=2/\q=2-i/\s = .int .i64 (aKb l.length m.length i:Int)/\z = .int .i64 (i:Int)/\w=wr)
 case atStart=>exact ⟨0,by omega,rfl,rfl,rfl,rfl⟩
 case round =>
  obtain ⟨i,hi,rfl,rfl,rfl,rfl⟩:=hrel;have hcases:i=0∨i=1∨i=2:=by omega
  rcases hcases with rfl | rfl | rfl
  .rw [show aKb l.length m.length 0=0 from rfl]
   go_wp2_with fail
   go_roundg 1
   case rel=>exact ⟨1,by omega,rfl,by first | (rw [show aKb l.length m.length 1=l.length from rfl];done) | (rw [show aKb l.length m.length 1=l.length from rfl];go_num),by first | rfl | go_num,rfl⟩
   case measure=>omega
  .rw [show aKb l.length m.length 1=l.length from rfl]
   go_wp2_with fail
   go_roundg 0
   case rel=>exact ⟨2,by omega,rfl,by first | (rw [show aKb l.length m.length 2=l.length+m.length from rfl];done) | (rw [show aKb l.length m.length 2=l.length+m.length from rfl];go_num),by first | rfl | go_num,rfl⟩
   case measure=>omega
  .rw [show aKb l.length m.length 2=l.length+m.length from rfl]
   go_wp2_with (go_at_call 99;refine (aZz (l.length+m.length) _ (by omega) (by omega)).mono ?_;rintro e w1 ⟨G,rfl,hO,hb1⟩;have HO1:=aA0 hO;have HB1:=aA0 hb1;clear hO hb1;(try clear c0 c1))
   go_loopg [6,8,27] 2 (fun q sv _x z wv=>∃ (i:Nat) (A:Option Addr) (c:Nat),i<=2/\q=2-i/\sv = .slice A (aEj l m i).length c/\z = .int .i64 (i:Int)/\Hid (wv.ownsRow w.heap.size 34 1 (.slice A (aEj l m i).length c) (aEj l m i).length ((aEj l m i).map aB0))/\Bel w wv)
   case atStart=>exact ⟨0,_,G,by omega,rfl,rfl,rfl,HO1.out,HB1.out⟩
   case round =>
    (try clear hb)
    obtain ⟨i,A,c,hi,rfl,rfl,rfl,HO,HB⟩:=hrel;obtain ⟨c0,c1,hb⟩:=hcell.out _ HB;have hcases:i=0∨i=1∨i=2:=by omega
    rcases hcases with rfl | rfl | rfl
    .go_wp2_with (at_builtin;refine aB4 _ rfl (.tmp 31) (.tmp 32) 31 rfl w.heap.size 34 i0 (.int .u32 0) 1 4 underlying31 hi0 hz0 hz1 hz2 rfl (by decide) A (aEj l m 0).length c ((aEj l m 0).map aB0) rfl HO.out Ap l.length cp (l.map aB0) rfl (aAm (HLM.out _ HB).1) (aAg _) (by rw [aIy];unfold aKb maxLen;simp;omega) (by rw [aIy];unfold aKb;simp;omega) HB.size ?_;intro A3 c3 w3 hown3 hgr3 hat3;have hb3:=HB.grown hgr3 (fun k hk=>(aAf HO.out k hk.symm).1);have HO3:=aA0 hown3;clear hown3 hgr3 hat3)
     go_roundg 1
     case rel=>exact ⟨1,A3,c3,by omega,rfl,by first | rfl | (rw [show aEj l m 0=[] from rfl,show aEj l m 1=l from rfl];simp),by first | rfl | go_num,aA0 (by have h:=HO3.out;rw [show aEj l m 0=[] from rfl] at h;rw [show aEj l m 1=l from rfl];simpa using h),hb3⟩
     case measure=>omega
    .go_wp2_with (at_builtin;refine aB4 _ rfl (.tmp 31) (.tmp 32) 31 rfl w.heap.size 34 i0 (.int .u32 0) 1 4 underlying31 hi0 hz0 hz1 hz2 rfl (by decide) A (aEj l m 1).length c ((aEj l m 1).map aB0) rfl HO.out Al m.length cl (m.map aB0) rfl (aAm (HLM.out _ HB).2) (aAg _) (by rw [aIy];unfold aKb maxLen;simp;omega) (by rw [aIy];unfold aKb;simp;omega) HB.size ?_;intro A3 c3 w3 hown3 hgr3 hat3;have hb3:=HB.grown hgr3 (fun k hk=>(aAf HO.out k hk.symm).1);have HO3:=aA0 hown3;clear hown3 hgr3 hat3)
     go_roundg 0
     case rel=>exact ⟨2,A3,c3,by omega,rfl,by rw [show aEj l m 1=l from rfl,show aEj l m 2=l++m from rfl,List.length_append],by first | rfl | go_num,aA0 (by have h:=HO3.out;rw [show aEj l m 1=l from rfl] at h;rw [show aEj l m 2=l++m from rfl,List.length_append,List.map_append];exact h),hb3⟩
     case measure=>omega
    .go_wp2_with fail
     go_ret;exact ⟨A,c,rfl,HO.out,HB⟩
theorem aIl (A:Option Addr) (c:Nat) (l:List Int) (A2:Option Addr) (c2:Nat) (m:List Int) (w:World) (h1:aBm w A l.length l) (h2:aBm w A2 m.length m) (hl:l.length<=1000000) :
  Calls prog 100 #[.slice A l.length c,.slice A2 m.length c2] w fun e w'=>e = .returned (.bool (decide (l=m)))/\Bel w w':=by
 have H1:=aA0 (fun w' (k:Bel w w')=>aBm.keep h1 k);clear h1;have H2:=aA0 (fun w' (k:Bel w w')=>aBm.keep h2 k);clear h2
 by_cases hn:l.length=m.length
 .have HN:=aA0 hn
  rw [<- hn];clear hn;have hb:(l.length != l.length)=false:=by simp
  go_enter func100,ntmps100;go_wp2
  go_loopg [5,13] l.length (fun q _x x wr=>∃ j:Nat,j<=l.length/\q=l.length-j/\Hid (l.take j=m.take j)/\x = .int .i64 j/\Bel w wr)
  case atStart=>exact ⟨0,by omega,rfl,rfl,rfl,Bel.refl w⟩
  case round =>
   obtain ⟨j,hj,rfl,HK,rfl,HB⟩:=hrel
   by_cases hlt:j<l.length
   .have hlt2:j<m.length:=by rw [<- HN.out];exact hlt
    obtain ⟨b',o',rfl,hb',hl1⟩:=(H1.out _ HB).at_ j hlt;obtain ⟨b2,o2,rfl,hb2,hl2⟩:=(H2.out _ HB).at_ j hlt2;go_wp2
    go_quiet (fail)
    go_wp2
    .have he:(l[j] != m[j]'(by rw [<- HN.out];exact hlt))=true:=by assumption
     go_ret;refine ⟨aA2 ?_,HB.drewN _⟩
     symm
     simp only [decide_eq_false_iff_not]
     rintro rfl;simp at he
    .have he:(l[j] != m[j]'(by rw [<- HN.out];exact hlt))=false:=by assumption
     go_roundg (l.length-(j+1))
     case rel =>
      refine ⟨j+1,by omega,rfl,?_,by go_num,HB.drewN _⟩
      show l.take (j+1)=m.take (j+1)
      rw [List.take_succ_eq_append_getElem hlt,List.take_succ_eq_append_getElem (by rw [<- HN.out];exact hlt),HK.out,show l[j]=m[j]'(by rw [<- HN.out];exact hlt) by simpa using he]
     case measure=>omega
   .go_wp2
    go_ret;exact ⟨aA2 (by symm;simp only [decide_eq_true_eq];exact aI9 (k:=j) (by omega) (by rw [<- HN.out];omega) HK.out),HB⟩
 .have hb:(l.length != m.length)=true:=by simpa using hn
  have hb2:((l.length:Int) != (m.length:Int))=true:=by simp;omega
  go_enter func100,ntmps100;go_wp2;go_ret;exact ⟨aA2 (by symm;simp only [decide_eq_false_iff_not];rintro rfl;exact hn rfl),Bel.refl w⟩
def aL2 (c d:aA6):Nat:=aBw 24 fun v=>decide (v<c.length) && !decide (c.getD v []=d.getD v [])
theorem aN3 {c d:aA6} (hl:c.length=d.length) (hn:c.length<=24):aL2 c d=0↔c=d:=by
 unfold aL2;constructor
 .intro h
  apply List.ext_getElem hl
  intro v hv hv2
  have:=aEv 24 (fun v=>decide (v<c.length) && !decide (c.getD v []=d.getD v [])) v;rw [h,Nat.zero_testBit,decide_eq_true (show v<24 by omega),decide_eq_true hv,aA8 hv,aA8 hv2] at this
  simpa using this.symm
 .rintro rfl
  apply Nat.eq_of_testBit_eq
  intro v
  rw [aEv,Nat.zero_testBit];simp
theorem aP4 (v1 v2:Value) (c d:aA6) (w:World) (h1:aAw w v1 c) (h2:aAw w v2 d) (hl:c.length=d.length) (hr:∀ r∈c,r.length<=1000) :
  Calls prog 79 #[v1,v2] w fun e w'=>e = .returned (.int .u32 (aL2 c d:Nat))/\Bel w w':=by
 obtain ⟨A,k,rfl,hR1,_,_⟩:=h1;obtain ⟨A2,k2,rfl,hR2,_,_⟩:=h2;have H1:=aA0 (fun w' (k:Bel w w')=>hR1.keep k);have H2:=aA0 (fun w' (k:Bel w w')=>hR2.keep k);have HR:=aA0 hr;have HN:=aA0 hl;rw [<- hl];clear hR1 hR2 hr hl;have HF:Hid (aL2 c d=aBw 24 fun v=>decide (v<c.length) && !decide (c.getD v []=d.getD v [])):=rfl;generalize hg:(fun v=>decide (v<c.length) && !decide (c.getD v []=d.getD v []))=h at *;have HH:Hid (∀ v,h v=(decide (v<c.length) && !decide (c.getD v []=d.getD v []))):=fun v=>by rw [<- hg]
 clear hg;go_enter func79,ntmps79
 go_wp2_with fail
 go_loopg [5,6,7,8,9] 24 (fun q s _a _b _c x wr=>∃ v:Nat,v<=24/\q=24-v/\s = .int .u32 (aBw v h:Nat)/\x = .int .i64 v/\Bel w wr)
 case atStart=>exact ⟨0,by omega,rfl,rfl,rfl,Bel.refl w⟩
 case round =>
  obtain ⟨v,hv,rfl,rfl,rfl,HB⟩:=hrel
  by_cases hlt:v<24
  .have hd0:decide (v<24)=true:=by simpa using hlt
   have hsl:=aEf h (show v<=32 by omega)
   have HS:=aA0 (aF4 v h);have hbs:=aG6 hsl (show v<32 by omega)
   have HHV:=aA0 (HH.out v)
   by_cases hc:v<c.length
   .have hdc:decide (v<c.length)=true:=by simpa using hc
    have hlt2:v<d.length:=by rw [<- HN.out];exact hc
    obtain ⟨b,o,R,rc,rfl,hbl,q0,i0,_,_⟩:=(H1.out _ HB).at_ v hc;obtain ⟨b',o',R',rc',rfl,hbl',q0',i0',_,_⟩:=(H2.out _ HB).at_ v hlt2;have I0:=aA0 (fun w' (k:Bel wr w')=>i0.keep k);have I1:=aA0 (fun w' (k:Bel wr w')=>i0'.keep k);have hle:=HR.out _ (List.getElem_mem hc);have HB0:=Bel.refl wr;have hcell:=aA0 (fun w' (kk:Bel wr w')=>show w'.cell? ⟨b,o+v,none⟩=some (.slice R c[v].length rc)/\w'.cell? ⟨b',o'+v,none⟩=some (.slice R' d[v].length rc')/\b<w'.heap.size/\b' < w'.heap.size from ⟨(kk.cell hbl).trans q0,(kk.cell hbl').trans q0',Nat.lt_of_lt_of_le hbl kk.size,Nat.lt_of_lt_of_le hbl' kk.size⟩)
    rw [hdc,aA8 hc,aA8 hlt2] at HHV;clear i0 i0' q0 q0';cases hs:decide (c[v]=d[v]) with
    | true =>
     rw [hs] at HHV;have HSB:=aA0 hs;have HS2:Hid (aBw (v+1) h=aBw v h):=by have:=HS.out;rw [HHV.out] at this;show _=_;simpa using this
     generalize aBw v h=s at *;clear hs
     go_wp2_with fail
     replace HB0:=HB0.drew
     go_region_held3 (fun w'=>w'.cell? ⟨b,o+v,none⟩=some (.slice R c[v].length rc)/\w'.cell? ⟨b',o'+v,none⟩=some (.slice R' d[v].length rc')/\b<w'.heap.size/\b' < w'.heap.size) (exact hcell.out _ HB0) (first
      | (go_simp;go_at_call 100;refine (aIl _ _ c[v] _ _ d[v] _ (I0.out _ HB0) (I1.out _ HB0) (by omega)).mono ?_;rintro e w2 ⟨rfl,hb⟩;rw [HSB.out];replace HB0:=HB0.trans hb;clear hb))
     go_wp2_with fail
     go_roundg (24-(v+1))
     case rel=>exact ⟨v+1,by omega,rfl,by rw [HS2.out],by go_num,HB.trans HB0⟩
     case measure=>omega
    | false =>
     rw [hs] at HHV;have HSB:=aA0 hs;have HS2:Hid (aBw (v+1) h=aBw v h|||2 ^ v):=by have:=HS.out;rw [HHV.out] at this;show _=_;simpa using this
     generalize aBw v h=s at *;clear hs
     go_wp2_with fail
     replace HB0:=HB0.drew
     go_region_held3 (fun w'=>w'.cell? ⟨b,o+v,none⟩=some (.slice R c[v].length rc)/\w'.cell? ⟨b',o'+v,none⟩=some (.slice R' d[v].length rc')/\b<w'.heap.size/\b' < w'.heap.size) (exact hcell.out _ HB0) (first
      | (go_simp;go_at_call 100;refine (aIl _ _ c[v] _ _ d[v] _ (I0.out _ HB0) (I1.out _ HB0) (by omega)).mono ?_;rintro e w2 ⟨rfl,hb⟩;rw [HSB.out];replace HB0:=HB0.trans hb;clear hb))
     go_wp2_with fail
     go_roundg (24-(v+1))
     case rel=>exact ⟨v+1,by omega,rfl,by rw [HS2.out],by go_num,HB.trans HB0⟩
     case measure=>omega
   .have hdc:decide (v<c.length)=false:=by simpa using hc
    rw [hdc] at HHV;have HS2:Hid (aBw (v+1) h=aBw v h):=by have:=HS.out;rw [HHV.out] at this;show _=_;simpa using this
    generalize aBw v h=s at *
    go_wp2_with fail
    go_quiet (fail)
    go_wp2_with fail
    go_roundg (24-(v+1))
    case rel=>exact ⟨v+1,by omega,rfl,by rw [HS2.out],by go_num,HB.drewN _⟩
    case measure=>omega
  .have hd0:decide (v<24)=false:=by simpa using hlt
   obtain rfl:v=24:=by omega
   go_wp2_with fail
   go_ret;exact ⟨aA5 (by rw [HF.out]),HB⟩
end Go.Proofs.YtdcjnhoabbdanaaGreatDoor

