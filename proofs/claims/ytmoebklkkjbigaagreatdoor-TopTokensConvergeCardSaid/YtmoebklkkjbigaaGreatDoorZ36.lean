/- Merged. -/
import Derived.Test.YtmoebklkkjbigaaGreatDoorZ34
import Derived.Test.YtmoebklkkjbigaaGreatDoorZ35
import Derived.Test.YtmoebklkkjbigaaGreatDoorZ32
import Derived.JoinedOf
import Derived.Test.YtmoebklkkjbigaaGreatDoorTie
import Derived.Test.YtmoebklkkjbigaaGreatDoorCards
import Derived.SevenTiedAt
import Derived.Lib.LaidTab
import Derived.LaidMore
import Derived.OpenShut
import Derived.Stop.Joined
set_option linter.unusedSimpArgs false
set_option linter.unnecessarySimpa false
set_option linter.unusedVariables false
set_option maxRecDepth 100000
set_option maxHeartbeats 4000000
open Go.Proofs.Tryz

namespace Go.Proofs.YtmoebklkkjbigaaGreatDoor
open Go.RowKit
theorem bF8:(prog.info? 64).map (fun i=>(i.zero,i.size,i.bytes))=some (some (.agg #[.int .i64 0,.int .i64 0]),2,16):=by kernel_rfl
def bI5 (l:Link):List Value:=[.int .i64 l.to,.int .i64 l.weight]
def bKf (v u:Nat):Bool := !(u==v)&&(min v u+1==max v u)
def aGu (v k:Nat):List Link:=((List.range k).filter fun u=>bKf v u).map fun u:Nat=>(⟨(u:Int),1⟩:Link)
def aIa (n v k:Nat):List (List Link):=(List.range n).map fun i=>if i<v then aGu i n else if i=v then aGu v k else []
theorem bEx (n:Nat):aIa n 0 0=List.replicate n []:=by
 apply List.ext_getElem?;intro j
 simp only [aIa,List.getElem?_map,List.getElem?_replicate]
 by_cases h:j<n
 .simp [h,aGu]
 .simp [h]
theorem bEw (n v:Nat):aIa n v n=aIa n (v+1) 0:=by
 apply List.map_congr_left
 intro j _
 by_cases h:j<v
 .simp [h,show j<v+1 by omega]
 .by_cases h2:j=v
  .subst h2;simp
  .simp [h,h2,show ¬ j<v+1 by omega,aGu]
theorem aUh {n v k:Nat} (h:v<n):(aIa n v k)[v]?=some (aGu v k):=by simp [aIa,h]
theorem aXn (n v k:Nat):(aIa n v k).length=n:=by simp [aIa]
theorem bJf {v k:Nat} (h:bKf v k=true):aGu v (k+1)=aGu v k++[⟨(k:Int),1⟩]:=by simp [aGu,List.range_succ,h]
theorem bMi {v k:Nat} (h:bKf v k=false):aGu v (k+1)=aGu v k:=by simp [aGu,List.range_succ,h]
theorem bCl {n v k:Nat} (h:bKf v k=false):aIa n v (k+1)=aIa n v k:=by unfold aIa;rw [bMi h]
theorem bHp {n v k:Nat} (hv:v<n) (h:bKf v k=true):(aIa n v k).set v (aGu v k++[⟨(k:Int),1⟩])=aIa n v (k+1):=by
 apply List.ext_getElem?;intro j
 by_cases hj:v=j
 .subst hj
  rw [List.getElem?_set_self (by rw [aXn];exact hv),aUh hv,bJf h]
 .rw [List.getElem?_set_ne hj]
  simp only [aIa,List.getElem?_map]
  by_cases h2:j<n
  .simp only [List.getElem?_range h2,Option.map_some,if_neg (Ne.symm hj)]
  .rw [List.getElem?_eq_none (by simp;omega)];rfl
theorem bMh (v k:Nat):(aGu v k).length<=k:=by
 unfold aGu;rw [List.length_map];exact Nat.le_trans (List.length_filter_le _ _) (by simp)
theorem GrR.other_cell {α:Type} {eo ei:TypeId} {sz:Nat} {f:α->List Value} {N:Nat} {w:World} {gb c:Nat} {hs:List Value} {xss:List (List α)} (h:GrR eo ei sz f N w gb c hs xss) {a:Addr} (ha:a.block<N) (u:Value):GrR eo ei sz f N (w.setCell a u) gb c hs xss :=
 ⟨aAh h.own ha u,fun i l hl=>by obtain ⟨A,k,e,h2⟩:=h.rows i l hl;exact ⟨A,k,e,aAh h2 ha u⟩,h.apart⟩
abbrev bDu:=GrR (α:=Link) 60 64 2 bI5
theorem aRi (a b:Nat) (ha:a<=100) (w:World):Calls prog 47 #[.int .i64 (a:Int),.int .i64 (b:Int)] w fun e w'=>e = .returned (.bool (a+1==b))/\w=w':=by
 have e2:((a:Int)+1==(b:Int))=(a+1==b):=by rw [Bool.eq_iff_iff];simp;omega
 go_enter func47,ntmps47;go_wp2;go_ret;exact ⟨rfl,rfl⟩
structure RlI (w:World) (n gA gP g5 v k:Nat) (wr:World):Prop where
 blk:Blk wr g5 #[.slice (some ⟨gA,0,none⟩) n n,.slice (some ⟨gP,0,none⟩) n n] 25
 ids:wr.ownsRow (w.heap.size+1) 3 1 (.slice (some ⟨gA,0,none⟩) n n) n (idL n n)
 grd:∃ hs,bDu (w.heap.size+1) wr gP n hs (aIa n v k)
 bel:Bel (w.alloc (.cells #[.slice none 0 0,.slice none 0 0] 25)) wr
theorem aXo {w:World} {n gA gP g5 v k:Nat} {wr:World} (h:bKf v k=false):RlI w n gA gP g5 v k wr=RlI w n gA gP g5 v (k+1) wr:=by
 apply propext
 constructor
 .intro h';exact ⟨h'.blk,h'.ids,by rw [bCl h];exact h'.grd,h'.bel⟩
 .intro h';exact ⟨h'.blk,h'.ids,by rw [<- bCl h];exact h'.grd,h'.bel⟩
theorem bBc (n:Nat) (hn:n<=24) (w:World) :
  Calls prog 91 #[.int .i64 (n:Int),.func (.func 47) #[] #[]] w fun e w'=>∃ gA gP hs,e = .returned (.agg #[.slice (some ⟨gA,0,none⟩) n n,.slice (some ⟨gP,0,none⟩) n n])/\w'.ownsRow (w.heap.size+1) 3 1 (.slice (some ⟨gA,0,none⟩) n n) n (idL n n)/\bDu (w.heap.size+1) w' gP n hs (aIa n n 0)/\Bel w w':=by
 obtain ⟨j0,hj0,hj1,hj2,hj3⟩:=aBq bF8;go_enter func91,ntmps91
 go_wp2_with (refine (aXb n hn _).mono ?_;rintro e w1 ⟨gA,gP,rfl,hA,hP,hb⟩;have HA:=aA0 hA;have HP:=aA0 hP;have HB:=((Bel.refl w).alloc (.cells #[.slice none 0 0,.slice none 0 0] 25)).trans hb;have HB':=aA0 hb;have hlw:=hb.size;clear hA hP hb)
 have hI:RlI w n gA gP w1.heap.size 0 0 (w1.alloc (.cells #[.slice (some ⟨gA,0,none⟩) n n,.slice (some ⟨gP,0,none⟩) n n] 25)):=by
  have hl:(w.heap.size+1)<=(w.alloc (.cells #[.slice none 0 0,.slice none 0 0] 25)).heap.size+1:=by simp
  refine ⟨Blk.new _ _ _,aAu (((Bel.refl w1).alloc _).owns (by rw [aMg];exact HA.out)) hl,⟨List.replicate n (.slice none 0 0),?_⟩,HB'.out.alloc _⟩
  rw [bEx];have:=GrR.made (α:=Link) (ei:=64) (sz:=2) (f:=bI5) (aAu (((Bel.refl w1).alloc (.cells #[.slice (some ⟨gA,0,none⟩) n n,.slice (some ⟨gP,0,none⟩) n n] 25)).owns HP.out) hl);exact this
 have HX:=aA0 (Blk.new w #[.slice none 0 0,.slice none 0 0] 25);clear HA HP HB';have hg5:w.heap.size+1<=w1.heap.size:=by simp only [World.size_alloc] at hlw;omega
 generalize w1.alloc (.cells #[.slice (some ⟨gA,0,none⟩) n n,.slice (some ⟨gP,0,none⟩) n n] 25)=w2 at *;generalize w1.heap.size=g5 at *;clear hlw HB
 go_loopg [6,7,11] n (fun m _x _y z wr=>∃ v:Nat,v<=n/\m=n-v/\z = .int .i64 (v:Int)/\Hid (RlI w n gA gP g5 v 0 wr))
 case atStart=>exact ⟨0,by omega,rfl,rfl,hI⟩
 case round =>
  clear hI;obtain ⟨wo,rfl⟩:∃ wo:World,wo=wr:=⟨_,rfl⟩;obtain ⟨v,hv,rfl,rfl,HI⟩:=hrel
  by_cases hlt:v<n
  .have hd0:decide (v<n)=true:=by simpa using hlt
   go_wp2_with fail
   go_loopg [7,15] n (fun m _y z wr=>∃ k:Nat,k<=n/\m=n-k/\z = .int .i64 (k:Int)/\Hid (RlI w n gA gP g5 v k wr))
   case atStart=>exact ⟨0,by omega,rfl,rfl,HI.out⟩
   case round =>
    clear HI;obtain ⟨k,hk,rfl,rfl,HI⟩:=hrel
    by_cases hlt2:k<n
    .have hd1:decide (k<n)=true:=by simpa using hlt2
     by_cases hvk:v=k
     .subst hvk
      have hno:bKf v v=false:=by simp [bKf]
      go_wp2_with fail
      go_roundg (n-(v+1))
      case rel=>exact ⟨v+1,by omega,rfl,by go_num,by rw [<- aXo hno];exact HI.out⟩
      case measure=>omega
     .have hd2:((v:Int) != (k:Int))=true:=by simp;omega
      have em:min (v:Int) (k:Int)=((min v k:Nat):Int):=by omega
      have eM:max (v:Int) (k:Int)=((max v k:Nat):Int):=by omega
      have hrel:bKf v k=(min v k+1==max v k):=by unfold bKf;rw [show (k==v)=false by simp;omega];rfl
      cases hr:(min v k+1==max v k) with
      | false =>
       rw [hr] at hrel
       go_wp2_with (refine (aRi (min v k) (max v k) (by omega) _).mono ?_;rintro e w' ⟨rfl,rfl⟩;rw [hr])
       go_roundg (n-(k+1))
       case rel=>exact ⟨k+1,by omega,rfl,by go_num,by rw [<- aXo hrel];exact HI.out⟩
       case measure=>omega
      | true =>
       rw [hr] at hrel
       go_wp2_with (refine (aRi (min v k) (max v k) (by omega) _).mono ?_;rintro e w' ⟨rfl,rfl⟩;rw [hr])
       obtain ⟨hb,hids,⟨hs,hg⟩,hbel⟩:=HI.out;obtain ⟨A,c',hc,hf,ho,hhi⟩:=hg.head (aUh (k:=k) hlt);have HG:=aA0 hg;have HO:=aA0 ho;have HH:=aA0 hhi;have HBK:=aA0 hb;have HID:=aA0 hids;have HBE:=aA0 hbel;have hgl:=hg.lt;have hle:=bMh v k
       have hcell:Hid (∀ w',Bel wr w'->w'.cell? ⟨g5,1,none⟩=some (.slice (some ⟨gP,0,none⟩) n n)/\w'.cell? ⟨gP,v,none⟩=some (.slice A (aGu v k).length c')/\g5<w'.heap.size/\gP<w'.heap.size):=fun w' kk =>
        ⟨(HBK.out.keep kk).cell 1 rfl,(kk.cell HG.out.lt.2).trans hc,(HBK.out.keep kk).lt,Nat.lt_of_lt_of_le HG.out.lt.2 kk.size⟩
       clear hb hids hg hbel ho hhi;refine aA4.start (fun w'=>w'.cell? ⟨g5,1,none⟩=some (.slice (some ⟨gP,0,none⟩) n n)/\w'.cell? ⟨gP,v,none⟩=some (.slice A (aGu v k).length c')/\g5<w'.heap.size/\gP<w'.heap.size) 13 (by kernel_rfl) ?_
       have HB:=(Bel.refl wr).drew;have hHeld:=hcell.out _ HB
       (refine aA4.u (v:=?_) 0 31 rfl hHeld ?_ ?_;rotate_left 1;focus (intro w' hSw;(try dsimp only at hSw);go_simp;(try with_reducible rfl);done));(refine aA4.u (v:=?_) 1 32 rfl hHeld ?_ ?_;rotate_left 1;focus (intro w' hSw;(try dsimp only at hSw);go_simp;(try with_reducible rfl);done));(refine aA4.u (v:=?_) 2 33 rfl hHeld ?_ ?_;rotate_left 1;focus (intro w' hSw;(try dsimp only at hSw);go_simp;(try with_reducible rfl);done));(refine aA4.u (v:=?_) 3 34 rfl hHeld ?_ ?_;rotate_left 1;focus (intro w' hSw;(try dsimp only at hSw);go_simp;(try with_reducible rfl);done));(refine aA4.u (v:=?_) 4 35 rfl hHeld ?_ ?_;rotate_left 1;focus (intro w' hSw;(try dsimp only at hSw);go_simp;(try with_reducible rfl);done));(refine aA4.u (v:=?_) 5 36 rfl hHeld ?_ ?_;rotate_left 1;focus (intro w' hSw;(try dsimp only at hSw);go_simp;(try with_reducible rfl);done));(refine aA4.u (v:=?_) 6 37 rfl hHeld ?_ ?_;rotate_left 1;focus (intro w' hSw;(try dsimp only at hSw);go_simp;(try with_reducible rfl);done));(refine aA4.u (v:=?_) 7 38 rfl hHeld ?_ ?_;rotate_left 1;focus (intro w' hSw;(try dsimp only at hSw);go_simp;(try with_reducible rfl);done));(refine aA4.u (v:=?_) 8 39 rfl hHeld ?_ ?_;rotate_left 1;focus (intro w' hSw;(try dsimp only at hSw);go_simp;(try with_reducible rfl);done));(refine aA4.u (v:=?_) 9 40 rfl hHeld ?_ ?_;rotate_left 1;focus (intro w' hSw;(try dsimp only at hSw);go_simp;(try with_reducible rfl);done))
       clear hHeld;have HOa:=aA0 ((show wr.drew.ownsRow (w.heap.size+1) 64 2 (.slice A (aGu v k).length c') (aGu v k).length ((aGu v k).flatMap bI5) from HO.out).alloc (.cells #[.int .i64 (k:Int),.int .i64 1] 64))
       have HBa:=HB.alloc (.cells #[.int .i64 (k:Int),.int .i64 1] 64);have HNEW:=aA0 (aAx wr.drew (.cells #[.int .i64 (k:Int),.int .i64 1] 64));refine aA4.one (i:=10) (by kernel_rfl) rfl (fun K hK=>?_)
       go_simp
       refine hK.out _ _ (fun _=>hcell.out _ HBa) ?_
       clear hK K
       (try simp only [Act.put,List.setIfInBounds_toArray,List.set_cons_zero,List.set_cons_succ])
       refine aA4.one (i:=11) (by kernel_rfl) rfl (fun K hK=>?_)
       refine aCn _ rfl (.tmp 38) (.tmp 41) 60 rfl (w.heap.size+1) 64 j0 (.agg #[.int .i64 0,.int .i64 0]) 2 16 underlying60 hj0 hj1 hj2 hj3 rfl (by decide) A (aGu v k).length c' ((aGu v k).flatMap bI5) (by simp [Act.eval]) HOa.out wr.heap.size #[.int .i64 (k:Int),.int .i64 1] 64 (0,0) (by simp [Act.eval]) HNEW.out rfl (bDq _ _ _ _) (by unfold maxLen;omega) (by omega) (by have e9:wr.drew.heap.size=wr.heap.size:=rfl;simp;omega) ?_
       intro A2 c2 w4 hown hgr hat
       have HP:=aA0 (HG.out.push (by decide) (aUh (k:=k) hlt) HH.out (x:=⟨(k:Int),1⟩) HBa hgr hown hat)
       have HB4:=aA0 ((HBK.out.keep HBa).grown hgr ((HBK.out.keep HBa).apart HOa.out (by decide)))
       have HO4:=aA0 (World.ownsRow.kept (HBa.owns HG.out.own) hgr (aAn HOa.out (HBa.owns HG.out.own) (by decide)))
       have HI4:=aA0 (World.ownsRow.kept (HBa.owns HID.out) hgr (aAn HOa.out (HBa.owns HID.out) (by decide)))
       have e0:(w.alloc (.cells #[.slice none 0 0,.slice none 0 0] 25)).heap.size=w.heap.size+1:=World.size_alloc _ _;have HE4:=aA0 (((HBE.out.trans HBa).push (by rw [e0];exact HOa.out) hgr).setCell (p:=⟨gP,v,none⟩) (by rw [e0];exact hgl.1) (.slice A2 ((aGu v k).length+1) c2))
       obtain ⟨g1,e1,_,hl4,hc4,hf4⟩:=aAj HO4.out HH.out;obtain rfl:gP=g1:=by simpa using e1
       have hz4:=HB4.out.cell 1 (v := .slice (some ⟨gP,0,none⟩) n n) rfl;have hg4:=HB4.out.lt;refine hK.out _ _ (fun _=>⟨hz4,hc4,hg4,hl4⟩) ?_
       clear hK K hown hgr hat
       (try simp only [Act.put,List.setIfInBounds_toArray,List.set_cons_zero,List.set_cons_succ])
       have hHeld:w4.cell? ⟨g5,1,none⟩=some (.slice (some ⟨gP,0,none⟩) n n)/\w4.cell? ⟨gP,v,none⟩=some (.slice A (aGu v k).length c')/\g5<w4.heap.size/\gP<w4.heap.size:=⟨hz4,hc4,hg4,hl4⟩
       (refine aA4.u (v:=?_) 12 43 rfl hHeld ?_ ?_;rotate_left 1;focus (intro w' hSw;(try dsimp only at hSw);go_simp;(try with_reducible rfl);done))
       (refine aA4.one (i:=13) (by kernel_rfl) rfl (fun K hK=>?_));go_simp;refine hK.out _ _ (fun h=>absurd rfl h) ?_;clear hK K;refine aA4.done (by kernel_rfl) ?_ _;(try simp only [Act.put,List.setIfInBounds_toArray,List.set_cons_zero,List.set_cons_succ])
       clear hHeld
       go_wp2_with fail
       go_roundg (n-(k+1))
       case rel =>
        rw [bHp hlt hrel] at HP;refine ⟨k+1,by omega,rfl,by go_num,HB4.out.other (a:=⟨gP,v,none⟩) (fun e=>?_) _,?_,⟨_,HP.out⟩,HE4.out⟩
        .exact HB4.out.apart HO4.out (by decide) (by rw [e];rfl)
        .exact aBi HI4.out (Agr.setCell (E:=fun q=>q=gP) w4 ⟨gP,v,none⟩ _ rfl) (fun q hq e=>by
          subst e
          rcases aAn HO4.out HI4.out (by decide) with h0 | h0
          .rw [h0] at hq;cases hq
          .rw [hq] at h0;exact h0 (by simp [Value.ownBlock]))
       case measure=>omega
    .obtain rfl:k=n:=by omega
     have hd1:decide (k<k)=false:=by simp
     go_wp2_with fail
     go_roundg (k-(v+1))
     case rel=>exact ⟨v+1,by omega,rfl,by go_num,HI.out.blk,HI.out.ids,by rw [<- bEw];exact HI.out.grd,HI.out.bel⟩
     case measure=>omega
  .obtain rfl:v=n:=by omega
   have hd0:decide (v<v)=false:=by simp
   have y0:=HI.out.blk.cell 0 (v := .slice (some ⟨gA,0,none⟩) v v) rfl;have y1:=HI.out.blk.cell 1 (v := .slice (some ⟨gP,0,none⟩) v v) rfl;have yl:=HI.out.blk.lt;have hXr:=HX.out.keep HI.out.bel;have x0:=hXr.cell 0 (v := .slice none 0 0) rfl;have x1:=hXr.cell 1 (v := .slice none 0 0) rfl;have q0:=hXr.frozen 0;have q1:=hXr.frozen 1;have xl:=hXr.lt
   go_wp2_with fail
   have M:=(hXr.set 0 (.slice (some ⟨gA,0,none⟩) v v)).set 1 (.slice (some ⟨gP,0,none⟩) v v);have m0:=M.cell 0 (v := .slice (some ⟨gA,0,none⟩) v v) rfl;have m1:=M.cell 1 (v := .slice (some ⟨gP,0,none⟩) v v) rfl;have hAF:=aAh (aAh HI.out.ids (a:=⟨w.heap.size,0,none⟩) (by dsimp only;omega) (.slice (some ⟨gA,0,none⟩) v v)) (a:=⟨w.heap.size,1,none⟩) (by dsimp only;omega) (.slice (some ⟨gP,0,none⟩) v v)
   obtain ⟨hs,hg⟩:=HI.out.grd;refine bodyPost_ret (v := .agg #[.slice (some ⟨gA,0,none⟩) v v,.slice (some ⟨gP,0,none⟩) v v]) (by simp [results,Tryz.results91,go_sem,m0,m1]) rfl ⟨gA,gP,hs,rfl,hAF,(hg.other_cell (a:=⟨w.heap.size,0,none⟩) (by dsimp only;omega) _).other_cell (a:=⟨w.heap.size,1,none⟩) (by dsimp only;omega) _,?_⟩
   exact (((Bel.refl w).alloc _).trans HI.out.bel |>.setCell (Nat.le_refl _) _).setCell (Nat.le_refl _) _
theorem GrR.lower {α:Type} {eo ei:TypeId} {sz:Nat} {f:α->List Value} {N N':Nat} {w:World} {gb c:Nat} {hs:List Value} {xss:List (List α)} (h:GrR eo ei sz f N w gb c hs xss) (hN:N'<=N):GrR eo ei sz f N' w gb c hs xss :=
 ⟨aAu h.own hN,fun i l hl=>by obtain ⟨A,k,e,h2⟩:=h.rows i l hl;exact ⟨A,k,e,aAu h2 hN⟩,h.apart⟩
def aIz (n:Nat):Graph:=⟨(List.range n).map fun j:Nat=>(j:Int),aIa n n 0⟩
theorem bEv {w:World} {N n gA gP:Nat} {hs:List Value} (hA:w.ownsRow N 3 1 (.slice (some ⟨gA,0,none⟩) n n) n (idL n n)) (hP:bDu N w gP n hs (aIa n n 0)):aB2 w (.agg #[.slice (some ⟨gA,0,none⟩) n n,.slice (some ⟨gP,0,none⟩) n n]) (aIz n):=by
 have e:idL n n=((List.range n).map fun j:Nat=>(j:Int)).map (Value.int .i64):=by rw [aMg,List.map_map];rfl
 rw [e] at hA;have hl:=aXn n n 0;have h1:=(aKj hA).2.1;have hc:=aCd hA;have hlen:(aIz n).ids.length=n:=by simp [aIz]
 have hlen2:(aIz n).ports.length=n:=hl;refine ⟨some ⟨gA,0,none⟩,n,some ⟨gP,0,none⟩,n,by rw [hlen,hlen2],?_,by omega,hc.2,⟨rfl,fun i l hx=>?_⟩,by omega,hc.2⟩
 .exact h1
 .obtain ⟨A,k,c1,_,ho,_⟩:=hP.head hx
  have:=aCd ho;exact ⟨gP,0,rfl,hP.lt.2,A,k,by rw [Nat.zero_add,Nat.mul_one];exact c1,aKk (by decide) (fun _=>rfl) (fun g o x _ kk=>⟨kk 0 _ rfl,kk 1 _ rfl⟩) ho,this.1,this.2⟩
theorem bFf (n:Nat) (h1:1<=n) (hn:n<=24) (w:World) :
  Calls prog 46 #[.int .i64 (n:Int),.func (.func 47) #[] #[]] w fun e w'=>∃ gA gP hs,e = .returned (.tuple #[.agg #[.slice (some ⟨gA,0,none⟩) n n,.slice (some ⟨gP,0,none⟩) n n],.int .i64 0])/\w'.ownsRow (w.heap.size+1) 3 1 (.slice (some ⟨gA,0,none⟩) n n) n (idL n n)/\bDu (w.heap.size+1) w' gP n hs (aIa n n 0)/\Bel w w':=by
 have d1:decide ((n:Int)<1)=false:=by simp;omega
 have d2:decide ((24:Int)<(n:Int))=false:=by simp;omega
 go_enter func46,ntmps46
 go_wp2_with (refine (bBc n hn _).mono ?_;rintro e w1 ⟨gA,gP,hs,rfl,hA,hP,hb⟩;have HA:=aA0 hA;have HP:=aA0 hP;have HX:=aA0 ((Blk.new w #[.slice none 0 0,.slice none 0 0] 25).keep hb);have HB:=aA0 (((Bel.refl w).alloc (.cells #[.slice none 0 0,.slice none 0 0] 25)).trans hb);have x0:=HX.out.cell 0 (v := .slice none 0 0) rfl;have x1:=HX.out.cell 1 (v := .slice none 0 0) rfl;have q0:=HX.out.frozen 0;have q1:=HX.out.frozen 1;have xl:=HX.out.lt;clear hA hP hb)
 have M:=(HX.out.set 0 (.slice (some ⟨gA,0,none⟩) n n)).set 1 (.slice (some ⟨gP,0,none⟩) n n);have m0:=M.cell 0 (v := .slice (some ⟨gA,0,none⟩) n n) rfl;have m1:=M.cell 1 (v := .slice (some ⟨gP,0,none⟩) n n) rfl;have hle:w.heap.size+1<=(w.alloc (.cells #[.slice none 0 0,.slice none 0 0] 25)).heap.size+1:=by simp
 have hAF:=aAh (aAh (aAu HA.out hle) (a:=⟨w.heap.size,0,none⟩) (by dsimp only;omega) (.slice (some ⟨gA,0,none⟩) n n)) (a:=⟨w.heap.size,1,none⟩) (by dsimp only;omega) (.slice (some ⟨gP,0,none⟩) n n)
 have hPF:=((HP.out.lower hle).other_cell (a:=⟨w.heap.size,0,none⟩) (by dsimp only;omega) (.slice (some ⟨gA,0,none⟩) n n)).other_cell (a:=⟨w.heap.size,1,none⟩) (by dsimp only;omega) (.slice (some ⟨gP,0,none⟩) n n)
 refine bodyPost_ret (v := .tuple #[.agg #[.slice (some ⟨gA,0,none⟩) n n,.slice (some ⟨gP,0,none⟩) n n],.int .i64 0]) (by simp [results,Tryz.results46,go_sem,m0,m1]) rfl ?_
 exact ⟨gA,gP,hs,rfl,hAF,hPF,(HB.out.setCell (Nat.le_refl _) _).setCell (Nat.le_refl _) _⟩
theorem bM9 (n:Nat) (h1:1<=n) (hn:n<=24) (w:World) :
  Calls prog 24 #[.int .i64 (n:Int)] w fun e w'=>∃ v,e = .returned (.tuple #[v,.int .i64 0])/\aB2 w' v (aIz n)/\Bel w w':=by
 go_enter func24,ntmps24
 go_wp2_with (refine (bFf n h1 hn _).mono ?_;rintro e w1 ⟨gA,gP,hs,rfl,hA,hP,hb⟩;have HA:=aA0 hA;have HP:=aA0 hP;have HX:=aA0 ((Blk.new w #[.slice none 0 0,.slice none 0 0] 25).keep hb);have HB:=aA0 (((Bel.refl w).alloc (.cells #[.slice none 0 0,.slice none 0 0] 25)).trans hb);have x0:=HX.out.cell 0 (v := .slice none 0 0) rfl;have x1:=HX.out.cell 1 (v := .slice none 0 0) rfl;have q0:=HX.out.frozen 0;have q1:=HX.out.frozen 1;have xl:=HX.out.lt;clear hA hP hb)
 have M:=(HX.out.set 0 (.slice (some ⟨gA,0,none⟩) n n)).set 1 (.slice (some ⟨gP,0,none⟩) n n);have m0:=M.cell 0 (v := .slice (some ⟨gA,0,none⟩) n n) rfl;have m1:=M.cell 1 (v := .slice (some ⟨gP,0,none⟩) n n) rfl;have hle:w.heap.size+1<=(w.alloc (.cells #[.slice none 0 0,.slice none 0 0] 25)).heap.size+1:=by simp
 have hAF:=aAh (aAh (aAu HA.out hle) (a:=⟨w.heap.size,0,none⟩) (by dsimp only;omega) (.slice (some ⟨gA,0,none⟩) n n)) (a:=⟨w.heap.size,1,none⟩) (by dsimp only;omega) (.slice (some ⟨gP,0,none⟩) n n)
 have hPF:=((HP.out.lower hle).other_cell (a:=⟨w.heap.size,0,none⟩) (by dsimp only;omega) (.slice (some ⟨gA,0,none⟩) n n)).other_cell (a:=⟨w.heap.size,1,none⟩) (by dsimp only;omega) (.slice (some ⟨gP,0,none⟩) n n)
 refine bodyPost_ret (v := .tuple #[.agg #[.slice (some ⟨gA,0,none⟩) n n,.slice (some ⟨gP,0,none⟩) n n],.int .i64 0]) (by simp [results,Tryz.results24,go_sem,m0,m1]) rfl ?_
 exact ⟨_,rfl,bEv hAF hPF,(HB.out.setCell (Nat.le_refl _) _).setCell (Nat.le_refl _) _⟩
theorem bJm (n:Nat):aHv n (fun _=>true)=2 ^ n-1:=by
 apply Nat.eq_of_testBit_eq
 intro v
 rw [aIg,Nat.testBit_two_pow_sub_one,Bool.and_true]
theorem aXm (v2:Value) (g:Graph) (w:World) (h2:aB2 w v2 g) (hg:GOK g) :
  Calls prog 93 #[v2] w fun e w'=>e = .returned (.int .u32 (aHv g.ports.length (fun _=>true):Nat))/\Bel w w':=by
 obtain ⟨A3,k3,A4,k4,rfl,_,_,_,_,_,_⟩:=h2;have hle:=hg.le;have hid:=hg.ids;have HB:Hid (Bel w (w.alloc (.cells #[.slice A3 g.ids.length k3,.slice A4 g.ports.length k4] 25))):=(Bel.refl w).alloc _;have d1:decide (g.ids.length<32)=true:=by simp;omega
 have HF:Hid (aHv g.ports.length (fun _=>true)=2 ^ g.ports.length-1):=bJm _;have HID:=aA0 hid;clear hid;go_enter func93,ntmps93
 go_wp2_with fail
 go_ret;refine ⟨aA9 ?_,HB.out⟩
 rw [HF.out,HID.out];have hp:2 ^ g.ports.length<4294967296:=aLb (by omega)
 have hp0:0<2 ^ g.ports.length:=Nat.two_pow_pos _;rw [Nat.min_eq_left (by omega)]
 have e1:(2:Int) ^ g.ports.length=((2 ^ g.ports.length:Nat):Int):=by rw [Int.natCast_pow];rfl
 rw [e1];omega
theorem aC3.unset {N k o:Nat} {v:Value} {w W:World} (h:aC3 N (w.setCell ⟨k,o,none⟩ v) W) (hk:k<N):aC3 N w W :=
 ⟨by have:=h.1;simpa using this,fun i hN hi=>(h.2 i hN (by simpa using hi)).trans (Below.heap_setCell _ _ _ _ (show i≠k by omega))⟩
def bGq (p:Prg) (g:Graph) (v1 v2:Value) (kind:Int) (fs:FuncId) (capsS:Array Value) (w:World) (e:Ending) (w':World):Prop :=
 ∃ B A cn,e = .returned (.agg #[.pointer (some ⟨B,0,none⟩),.slice A g.ports.length cn,.int .i64 kind,.int .u32 (aHv g.ports.length (fun _=>true):Nat),.func (.func fs) #[] capsS]) /\
  (∀ W,aC3 w.heap.size w' W->aK5 W v1 p->aB2 W v2 g->aEo W B p g/\aOp W A g)/\Bel w w'
theorem aV0 (v1:Value) (p:Prg) (v2:Value) (g:Graph) (kind:Int) (fs:FuncId) (capsS:Array Value) (w:World) (h:aK5 w v1 p) (h2:aB2 w v2 g) (hc:aC6 p=0) (hg:GOK g) (hG:aBt g=true) :
  Calls prog 49 #[v1,v2,.int .i64 kind,.func (.func fs) #[] capsS] w (bGq p g v1 v2 kind fs capsS w):=by
 have HPV:=aA0 (fun w' (k:Bel w w')=>h.keep k);have HGV:=aA0 (fun w' (k:Bel w w')=>h2.keep k);obtain ⟨A1,k1,A2,k2,rfl,_,_,_,_,_,_⟩:=h;obtain ⟨A3,k3,A4,k4,rfl,_,_,_,_,_,_⟩:=h2;have HW:=Bel.refl ((w.alloc (.cells #[.string p.name,.slice A1 p.vars.length k1,.slice A2 p.rules.length k2] 31)).alloc (.cells #[.slice A3 g.ids.length k3,.slice A4 g.ports.length k4] 25));have HC:=aA0 hc;have HG:=aA0 hg;have HGL:=aA0 hG;have HMV:Hid True:=trivial;have HNT:Hid True:=trivial;clear hc hg hG
 have HZ:Hid (Blk (((w.alloc (.cells #[.string p.name,.slice A1 p.vars.length k1,.slice A2 p.rules.length k2] 31)).alloc (.cells #[.slice A3 g.ids.length k3,.slice A4 g.ports.length k4] 25)).alloc (.cells #[.pointer none,.slice none 0 0,.int .i64 0,.int .u32 0,.nilFunc] 114)) (w.heap.size+1+1) #[.pointer none,.slice none 0 0,.int .i64 0,.int .u32 0,.nilFunc] 114):=by
  have:=Blk.new ((w.alloc (.cells #[.string p.name,.slice A1 p.vars.length k1,.slice A2 p.rules.length k2] 31)).alloc (.cells #[.slice A3 g.ids.length k3,.slice A4 g.ports.length k4] 25)) #[.pointer none,.slice none 0 0,.int .i64 0,.int .u32 0,.nilFunc] 114;rw [World.size_alloc,World.size_alloc] at this;exact this
 replace HW:=HW.alloc (.cells #[.pointer none,.slice none 0 0,.int .i64 0,.int .u32 0,.nilFunc] 114);have hcell:=aA0 (fun w' (kk:Bel ((w.alloc (.cells #[.string p.name,.slice A1 p.vars.length k1,.slice A2 p.rules.length k2] 31)).alloc (.cells #[.slice A3 g.ids.length k3,.slice A4 g.ports.length k4] 25)) w')=>aDh kk);go_enter func49,ntmps49
 go_wp2_with fail
 replace HW:=HW.drew;replace HZ:=aA0 HZ.out.drew
 go_region_held3 (fun w'=>w'.cell? ⟨w.heap.size,0,none⟩=some (.string p.name)/\w'.cell? ⟨w.heap.size,1,none⟩=some (.slice A1 p.vars.length k1)/\w'.cell? ⟨w.heap.size,2,none⟩=some (.slice A2 p.rules.length k2)/\w'.cell? ⟨w.heap.size+1,0,none⟩=some (.slice A3 g.ids.length k3)/\w'.cell? ⟨w.heap.size+1,1,none⟩=some (.slice A4 g.ports.length k4)/\w.heap.size+1<w'.heap.size) (first | exact hcell.out _ HW | exact hcell.out _ (((((HW.setCell (by simp) _).setCell (by simp) _).setCell (by simp) _).setCell (by simp) _).setCell (by simp) _)) (first
  | (go_simp;go_at_call 78;refine (aMv _ p _ g _ (HPV.out _ (aA2 HW)) (HGV.out _ (aA2 HW)) HC.out HG.out HGL.out).mono ?_;rintro e w' ⟨bm,rfl,hMV,hb⟩;have hz:=HZ.out.lt;replace HMV:=aA0 (fun W (hW:aC3 (w.heap.size+1+1+1) w' W) (q1:aK5 W _ p) (q2:aB2 W _ g)=>hMV W (hW.up hz) q1 q2);replace HW:=HW.trans hb;replace HZ:=aA0 (HZ.out.keep hb);clear hb hMV hz)
  | (go_simp;go_at_call 79;refine (aR7 _ g _ (HGV.out _ (aA2 HW)) HG.out).mono ?_;rintro e w' ⟨AN,kn,rfl,hNT,_,_,hb⟩;have hz:=HZ.out.lt;replace HNT:=aA0 (fun W (hW:aC3 (w.heap.size+1+1+1) w' W)=>hNT W (hW.up hz));replace HMV:=aA0 (fun W (hW:aC3 (w.heap.size+1+1+1) w' W)=>HMV.out W (hW.back hb));replace HW:=HW.trans hb;replace HZ:=aA0 (HZ.out.keep hb);clear hb hNT hz)
  | (go_simp;go_at_call 93;refine (aXm _ g _ (HGV.out _ (aA2 HW)) HG.out).mono ?_;rintro e w' ⟨rfl,hb⟩;replace HNT:=aA0 (fun W (hW:aC3 (w.heap.size+1+1+1) w' W)=>HNT.out W (hW.back hb));replace HMV:=aA0 (fun W (hW:aC3 (w.heap.size+1+1+1) w' W)=>HMV.out W (hW.back hb));replace HW:=HW.trans hb;replace HZ:=aA0 (HZ.out.keep hb);clear hb;have z0:=HZ.out.cell 0 (v := .pointer none) rfl;have f0:=HZ.out.frozen 0;have z1:=HZ.out.cell 1 (v := .slice none 0 0) rfl;have f1:=HZ.out.frozen 1;have z2:=HZ.out.cell 2 (v := .int .i64 0) rfl;have f2:=HZ.out.frozen 2;have z3:=HZ.out.cell 3 (v := .int .u32 0) rfl;have f3:=HZ.out.frozen 3;have z4:=HZ.out.cell 4 (v := .nilFunc) rfl;have f4:=HZ.out.frozen 4;have zl:=HZ.out.lt))
 go_wp2_with fail
 have HR9:Blk (((((w'.setCell ⟨w.heap.size+1+1,0,none⟩ (.pointer (some ⟨bm,0,none⟩))).setCell ⟨w.heap.size+1+1,1,none⟩ (.slice AN g.ports.length kn)).setCell ⟨w.heap.size+1+1,2,none⟩ (.int .i64 kind)).setCell ⟨w.heap.size+1+1,3,none⟩ (.int .u32 (aHv g.ports.length (fun _=>true):Nat))).setCell ⟨w.heap.size+1+1,4,none⟩ (.func (.func fs) #[] capsS)) (w.heap.size+1+1) #[.pointer (some ⟨bm,0,none⟩),.slice AN g.ports.length kn,.int .i64 kind,.int .u32 (aHv g.ports.length (fun _=>true):Nat),.func (.func fs) #[] capsS] 114:=(((((HZ.out.set 0 _).set 1 _).set 2 _).set 3 _).set 4 _);have y0:=HR9.cell 0 (v := .pointer (some ⟨bm,0,none⟩)) rfl;have y1:=HR9.cell 1 (v := .slice AN g.ports.length kn) rfl;have y2:=HR9.cell 2 (v := .int .i64 kind) rfl;have y3:=HR9.cell 3 (v := .int .u32 (aHv g.ports.length (fun _=>true):Nat)) rfl;have y4:=HR9.cell 4 (v := .func (.func fs) #[] capsS) rfl;refine bodyPost_ret (v := .agg #[.pointer (some ⟨bm,0,none⟩),.slice AN g.ports.length kn,.int .i64 kind,.int .u32 (aHv g.ports.length (fun _=>true):Nat),.func (.func fs) #[] capsS]) (by simp [results,Tryz.results49,go_sem,y0,y1,y2,y3,y4];try go_simp) rfl ?_
 have hbf:=aA2 HW;have hsz:=hbf.size;refine ⟨bm,AN,kn,rfl,fun W hW q1 q2=>?_,(((((hbf.setCell (by simp;omega) _).setCell (by simp;omega) _).setCell (by simp;omega) _).setCell (by simp;omega) _).setCell (by simp;omega) _)⟩
 have hW':aC3 (w.heap.size+1+1+1) w' W:=(((((hW.up (by omega:w.heap.size<=w.heap.size+1+1+1)).unset (by omega)).unset (by omega)).unset (by omega)).unset (by omega)).unset (by omega)
 exact ⟨HMV.out W hW' q1 q2,HNT.out W hW'⟩
theorem aQs (N0:Nat) (en:Trc->Nat) (ok:Trc->Prop):Seer prog N0 50 #[] aWt en ok (fun M _ w=>∀ k,M k->k<w.heap.size) where
 enter:=fun a b d w=>by kernel_rfl
 dom:=fun M s w h=>h
 keep:=fun M s w W h hz _ k hk=>Nat.lt_of_lt_of_le (h k hk) hz
 grow:=fun M M' s w _ _ h=>h
 call:=fun M s w v t _ h hC _=>by
  have hb:Bel w (w.alloc (.cells (aI7 t.count) 68)):=(Bel.refl w).alloc _;have HB:=aA0 hb;have HM:=aA0 h;clear hb h hC;unfold aWt;unfold aI7 at HB;go_enter func50,ntmps50
  go_wp2_with fail
  go_end0
  exact ⟨⟨_,rfl⟩,M,fun k hk=>Nat.lt_of_lt_of_le (HM.out k hk) HB.out.size,Agr.of_belM HB.out,fun k hk=>hk,fun k hk => .inl hk⟩
open Go.ChangeShapes Go.WideShapes Go.ChangeAt Go.WideMaps Go.WideElems Go.RowKit Go.Deep
abbrev jc0 (P:Program) (f:FuncId) (fn:Func) (s:ChangeSpec) (c:OpenClaim):Bool:=c.wf (OpenSpec.ofChange s)
abbrev jc1 (P:Program) (f:FuncId) (fn:Func) (s:ChangeSpec) (c:OpenClaim):Bool:=laidOutB P
abbrev jc2 (P:Program) (f:FuncId) (fn:Func) (s:ChangeSpec) (c:OpenClaim):Bool:=mapsRowed P
abbrev jc3 (P:Program) (f:FuncId) (fn:Func) (s:ChangeSpec) (c:OpenClaim):Bool:=fn.params.all (P.readableRec ·)
abbrev jc4 (P:Program) (f:FuncId) (fn:Func) (s:ChangeSpec) (c:OpenClaim):Bool:=namedTie P c.named s.vars
abbrev jc5 (P:Program) (f:FuncId) (fn:Func) (s:ChangeSpec) (c:OpenClaim):Bool:=(c.stops==[])
abbrev jc6 (P:Program) (f:FuncId) (fn:Func) (s:ChangeSpec) (c:OpenClaim):Bool:=(P.stops==[])
abbrev jc7 (P:Program) (f:FuncId) (fn:Func) (s:ChangeSpec) (c:OpenClaim):Bool:=(c.knobs==[])
abbrev jc8 (P:Program) (f:FuncId) (fn:Func) (s:ChangeSpec) (c:OpenClaim):Bool:=(P.stopKnobs==[])
abbrev jc9 (P:Program) (f:FuncId) (fn:Func) (s:ChangeSpec) (c:OpenClaim):Bool:=(c.inPlace==P.inPlace f)
abbrev jc10 (P:Program) (f:FuncId) (fn:Func) (s:ChangeSpec) (c:OpenClaim):Bool:=(c.unfollowed==P.unfollowed f)
abbrev jc11 (P:Program) (f:FuncId) (fn:Func) (s:ChangeSpec) (c:OpenClaim):Bool:=(c.recurses==P.recurses f)
abbrev jc12 (P:Program) (f:FuncId) (fn:Func) (s:ChangeSpec) (c:OpenClaim):Bool:=(c.named==P.varsNamed f)
abbrev jc13 (P:Program) (f:FuncId) (fn:Func) (s:ChangeSpec) (c:OpenClaim):Bool:=(c.maps==(fn.params.toList++s.plain.varTypes P).any (P.mapsRec ·))
abbrev jc14 (P:Program) (f:FuncId) (fn:Func) (s:ChangeSpec) (c:OpenClaim):Bool:=(c.ifaces==(fn.params.toList++s.plain.varTypes P).any (P.ifacesRec ·))
abbrev jc15 (P:Program) (f:FuncId) (fn:Func) (s:ChangeSpec) (c:OpenClaim):Bool:=(c.mapsOut==P.mapsAmong fn.resultTypes.toList)
abbrev jc16 (P:Program) (f:FuncId) (fn:Func) (s:ChangeSpec) (c:OpenClaim):Bool:=(c.loops==(fn.params.toList++s.plain.varTypes P).any (P.loopsFrom ·))
abbrev jc17 (P:Program) (f:FuncId) (fn:Func) (s:ChangeSpec) (c:OpenClaim):Bool:=(c.wideKeys==(fn.params.toList++s.plain.varTypes P++fn.resultTypes.toList).any (P.wideKeysFrom ·))
abbrev jc18 (P:Program) (f:FuncId) (fn:Func) (s:ChangeSpec) (c:OpenClaim):Bool:=s.vars.all (P.varReadable ·)
abbrev jc19 (P:Program) (f:FuncId) (fn:Func) (s:ChangeSpec) (c:OpenClaim):Bool:=fn.resultTypes.all (fun t=>P.readableRec t&&decide (t<P.types.size))
abbrev jc20 (P:Program) (f:FuncId) (fn:Func) (s:ChangeSpec) (c:OpenClaim):Bool:=(c.ifacesOut==fn.resultTypes.toList.any (P.ifacesRec ·))
abbrev jc21 (P:Program) (f:FuncId) (fn:Func) (s:ChangeSpec) (c:OpenClaim):Bool:=(c.loopsOut==fn.resultTypes.toList.any (P.loopsFrom ·))
abbrev jc22 (P:Program) (f:FuncId) (fn:Func) (s:ChangeSpec) (c:OpenClaim):Bool:=(c.plainKeys==P.plainKeys)
abbrev jc23 (P:Program) (f:FuncId) (fn:Func) (s:ChangeSpec) (c:OpenClaim):Bool:=c.shortTexts.isNone
abbrev jc24 (P:Program) (f:FuncId) (fn:Func) (s:ChangeSpec) (c:OpenClaim):Bool:=P.stopsHeard
abbrev jc25 (P:Program) (f:FuncId) (fn:Func) (s:ChangeSpec) (c:OpenClaim):Bool:=P.mayEnter
abbrev jc26 (P:Program) (f:FuncId) (fn:Func) (s:ChangeSpec) (c:OpenClaim):Bool:=(c.lifted==P.liftsFinal)
abbrev jc27 (P:Program) (f:FuncId) (fn:Func) (s:ChangeSpec) (c:OpenClaim):Bool:=(P.make==some c.make)
abbrev jc28 (P:Program) (f:FuncId) (fn:Func) (s:ChangeSpec) (c:OpenClaim):Bool:=(c.kinds==(if c.domain.isEmpty then [] else fn.params.toList.map fun t=>match P.underlying t with | some (.int k)=>some k | _=>none))
abbrev jc29 (P:Program) (f:FuncId) (fn:Func) (s:ChangeSpec) (c:OpenClaim):Bool:=(c.pinned==c.pinnedBy)
abbrev jc30 (P:Program) (f:FuncId) (fn:Func) (s:ChangeSpec) (c:OpenClaim):Bool:=(c.veiled==(fn.params.toList++s.plain.varTypes P++fn.resultTypes.toList).any (P.veiledRec ·))
abbrev jc31 (P:Program) (f:FuncId) (fn:Func) (s:ChangeSpec) (c:OpenClaim):Bool:=c.veiledFits P fn.params.toList (fn.params.toList++s.plain.varTypes P++fn.resultTypes.toList)
theorem aEq {a b:Bool} (h:a=true) (k:b=true):(a&&b)=true:=by rw [h,k];rfl
theorem jp1:jc1 prog 3 Tryz.f3 Rows.topPairsConvergeSpec Rows.topPairsConvergeRow=true:=by kernel_rfl
theorem jp2:jc2 prog 3 Tryz.f3 Rows.topPairsConvergeSpec Rows.topPairsConvergeRow=true:=by kernel_rfl
theorem jp6:jc6 prog 3 Tryz.f3 Rows.topPairsConvergeSpec Rows.topPairsConvergeRow=true:=by kernel_rfl
theorem jp8:jc8 prog 3 Tryz.f3 Rows.topPairsConvergeSpec Rows.topPairsConvergeRow=true:=by kernel_rfl
theorem jp22:jc22 prog 3 Tryz.f3 Rows.topPairsConvergeSpec Rows.topPairsConvergeRow=true:=by kernel_rfl
theorem jp24:jc24 prog 3 Tryz.f3 Rows.topPairsConvergeSpec Rows.topPairsConvergeRow=true:=by kernel_rfl
theorem jp25:jc25 prog 3 Tryz.f3 Rows.topPairsConvergeSpec Rows.topPairsConvergeRow=true:=by kernel_rfl
theorem jp26:jc26 prog 3 Tryz.f3 Rows.topPairsConvergeSpec Rows.topPairsConvergeRow=true:=by kernel_rfl
theorem jp27:jc27 prog 3 Tryz.f3 Rows.topPairsConvergeSpec Rows.topPairsConvergeRow=true:=by kernel_rfl
theorem bPh:prog.mainIs=some (Rows.topPairsConvergeCard.stood.harness.1,Rows.topPairsConvergeCard.stood.harness.2.toList):=by kernel_rfl
theorem bPg:true=prog.looks []:=by kernel_rfl
open Go.ChangeShapes Go.WideShapes Go.ChangeAt Go.WideMaps Go.WideElems Go.RowKit
theorem gTab : prog.globalNamed "math/bits.deBruijn32tab" = some 0 := by kernel_rfl
theorem tTab:(prog.globals[0]?).map (·.type)=some 251:=by kernel_rfl
theorem cTab1:prog.cellsOf 5=1:=by kernel_rfl
theorem bPb:prog.cellsOf 251=32:=by kernel_rfl
def aU5:List Int:=bruijn.map fun (n:Nat)=>(n:Int)
abbrev aSa : List (String × DataW Unit) := [("math/bits.deBruijn32tab", Rows.laid_math_bits_deBruijn32tab)]
theorem bDp {W:World} (h:laidMetH prog aSa W):aDl W:=by
 rw [MakeChecks.laidMetH_plain _ _ _ (by kernel_rfl)] at h
 have ht : Lib.TabIs prog W "math/bits.deBruijn32tab" .u8 aU5 :=
  Lib.tabIs_of_head gTab tTab underlying251 underlying5 cTab1 bPb (show laidMet prog [("math/bits.deBruijn32tab", Lib.tabData .u8 aU5)] W from h)
 have hc:∀ i,i<32->W.cell? ⟨0,i,none⟩=some (.int .u8 ((bruijn.getD i 0:Nat):Int)):=fun i hi=>by
  have h1:=ht.cell gTab i (by simpa [aU5,bruijn] using hi)
  rw [h1];have hb:i<bruijn.length:=by simpa [bruijn] using hi
  simp [aU5,List.getD_eq_getElem?_getD,hb]
 refine ⟨?_,hc⟩
 have h0:=hc 0 (by decide)
 rcases Nat.lt_or_ge 0 W.heap.size with h | h
 .exact h
 .simp [World.cell?,Array.getElem?_eq_none h] at h0
theorem bCd (os:Os) (args:Array Value):laidMetH prog aSa ((World.doorLaid prog 400 os).forCall (fun _ _=>0) ⟨#[],args,[]⟩).memory :=
 laidMetH_of_parts3 (fuel:=8) (laidMet_of_run' 8 (by kernel_rfl) (by kernel_rfl)) (by kernel_rfl) (by kernel_rfl)
end Go.Proofs.YtmoebklkkjbigaaGreatDoor

