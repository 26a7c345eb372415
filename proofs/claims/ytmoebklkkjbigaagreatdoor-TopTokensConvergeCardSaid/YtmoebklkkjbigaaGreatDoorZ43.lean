/- Merged. -/
import Derived.Test.YtmoebklkkjbigaaGreatDoorZ38
set_option linter.unusedSimpArgs false
set_option linter.unnecessarySimpa false
set_option linter.unusedVariables false
set_option maxRecDepth 100000
set_option maxHeartbeats 4000000
open Go.Proofs.Tryz

namespace Go.Proofs.YtmoebklkkjbigaaGreatDoor
open Go.RowKit
def aPe (n v:Nat):List (List Link):=(List.range n).map fun i=>if i<v then bBe n i else []
theorem bFv (n:Nat):aPe n 0=List.replicate n []:=by
 apply List.ext_getElem?;intro j
 simp only [aPe,List.getElem?_map,List.getElem?_replicate]
 by_cases h:j<n <;> simp [h]
theorem aYw (n v:Nat):(aPe n v).length=n:=by simp [aPe]
theorem bJc {n v:Nat} (h:v<n):(aPe n v).set v (bBe n v)=aPe n (v+1):=by
 apply List.ext_getElem?;intro j
 by_cases hj:v=j
 .subst hj
  rw [List.getElem?_set_self (by rw [aYw];exact h)]
  simp [aPe,h]
 .rw [List.getElem?_set_ne hj]
  simp only [aPe,List.getElem?_map]
  by_cases h2:j<n
  .simp [h2,show (j<v+1)↔j<v by omega]
  .simp [h2]
theorem bFu (n:Nat):aPe n n=(aBe n).ports:=by
 apply List.map_congr_left
 intro j hj
 rw [if_pos (List.mem_range.1 hj)]
theorem GrR.put {α:Type} {eo ei:TypeId} {sz:Nat} {f:α->List Value} {N:Nat} {w w1:World} {gb c g k:Nat} {hs:List Value} {xss:List (List α)} (hne:eo≠ei) (h:GrR eo ei sz f N w gb c hs xss) {i:Nat} (hi:i<xss.length) {m:List α} (hb:Bel w w1) (hg:w.heap.size<=g)
  (hown:w1.ownsRow N ei sz (.slice (some ⟨g,0,none⟩) m.length k) m.length (m.flatMap f)):GrR eo ei sz f N (w1.setCell ⟨gb,i,none⟩ (.slice (some ⟨g,0,none⟩) m.length k)) gb c (hs.set i (.slice (some ⟨g,0,none⟩) m.length k)) (xss.set i m):=by
 have hlen:=h.len;have ho1:=hb.owns h.own
 have hset:∀ {e size n:Nat} {v:Value} {xs:List Value},eo≠e->w1.ownsRow N e size v n xs->(w1.setCell ⟨gb,i,none⟩ (.slice (some ⟨g,0,none⟩) m.length k)).ownsRow N e size v n xs:=fun he hx =>
  aBi hx (Agr.setCell (E:=fun q=>q=gb) w1 ⟨gb,i,none⟩ _ rfl) (fun q hq e=>by
   subst e
   rcases aAn ho1 hx he with h0 | h0
   .rw [h0] at hq;cases hq
   .rw [hq] at h0;exact h0 (by simp [Value.ownBlock]))
 refine ⟨by rw [List.length_set];exact (ho1.stored i _).1,fun j l hl=>?_,fun j j' u v hjj hu hv=>?_⟩
 .by_cases hj:i=j
  .subst hj
   rw [List.getElem?_set_self hi] at hl;injection hl with hl;subst hl
   exact ⟨some ⟨g,0,none⟩,k,by rw [List.getElem?_set_self (by omega)],hset hne hown⟩
  .rw [List.getElem?_set_ne hj] at hl
   obtain ⟨A2,k2,e2,ho2⟩:=h.rows j l hl;exact ⟨A2,k2,by rw [List.getElem?_set_ne hj];exact e2,hset hne (hb.owns ho2)⟩
 .have hold:∀ (q:Nat) (v:Value),hs[q]?=some v->v.ownBlock=none∨v.ownBlock≠some g:=fun q v hv=>by
   obtain ⟨lm,hlm⟩:∃ lm,xss[q]?=some lm:=⟨_,List.getElem?_eq_getElem (by rw [<- hlen];exact (List.getElem?_eq_some_iff.1 hv).1)⟩
   obtain ⟨A2,k2,e2,ho2⟩:=h.rows q lm hlm;rw [hv] at e2;injection e2 with e2;subst e2
   cases hq:(Value.slice A2 lm.length k2).ownBlock with
   | none=>exact .inl rfl
   | some q2 =>
    right
    have h2:=(ho2.lt q2 hq).2;intro e'
    (try rw [hq] at e')
    have e3:q2=g:=Option.some.inj e';omega
  by_cases hj:i=j
  .subst hj
   rw [List.getElem?_set_self (by omega)] at hu
   injection hu with hu;subst hu
   rw [List.getElem?_set_ne hjj] at hv;exact hold j' v hv
  .rw [List.getElem?_set_ne hj] at hu
   by_cases hj':i=j'
   .subst hj'
    rw [List.getElem?_set_self (by omega)] at hv
    injection hv with hv;subst hv
    rcases hold j u hu with e | e
    .right;rw [e];simp [Value.ownBlock]
    .right
     show some g≠_
     exact Ne.symm e
   .rw [List.getElem?_set_ne hj'] at hv
    exact h.apart j j' u v hjj hu hv
structure RnI (w:World) (n gA gP g4 v:Nat) (wr:World):Prop where
 blk:Blk wr g4 #[.slice (some ⟨gA,0,none⟩) n n,.slice (some ⟨gP,0,none⟩) n n] 25
 ids:wr.ownsRow (w.heap.size+1) 3 1 (.slice (some ⟨gA,0,none⟩) n n) n (idL n n)
 grd:∃ hs,bDu (w.heap.size+1) wr gP n hs (aPe n v)
 bel:Bel (w.alloc (.cells #[.slice none 0 0,.slice none 0 0] 25)) wr
theorem bAf {w:World} {N n gA gP:Nat} {hs:List Value} (hA:w.ownsRow N 3 1 (.slice (some ⟨gA,0,none⟩) n n) n (idL n n)) (hP:bDu N w gP n hs (aPe n n)):aB2 w (.agg #[.slice (some ⟨gA,0,none⟩) n n,.slice (some ⟨gP,0,none⟩) n n]) (aBe n):=by
 have e:idL n n=((List.range n).map fun j:Nat=>(j:Int)).map (Value.int .i64):=by rw [aMg,List.map_map];rfl
 rw [e] at hA;rw [bFu] at hP;have hl:=aF7 n;have h1:=(aKj hA).2.1;have hc:=aCd hA;have hlen:(aBe n).ids.length=n:=by simp [aBe]
 refine ⟨some ⟨gA,0,none⟩,n,some ⟨gP,0,none⟩,n,by rw [hlen,hl],?_,by omega,hc.2,⟨rfl,fun i l hx=>?_⟩,by omega,hc.2⟩
 .exact h1
 .obtain ⟨A,k,c1,_,ho,_⟩:=hP.head hx
  have:=aCd ho;exact ⟨gP,0,rfl,hP.lt.2,A,k,by rw [Nat.zero_add,Nat.mul_one];exact c1,aKk (by decide) (fun _=>rfl) (fun g o x _ kk=>⟨kk 0 _ rfl,kk 1 _ rfl⟩) ho,this.1,this.2⟩
theorem bDa (n:Nat) (h3:3<=n) (hn:n<=24) (w:World) :
  Calls prog 15 #[.int .i64 (n:Int)] w fun e w'=>∃ v,e = .returned (.tuple #[v,.int .i64 0])/\aB2 w' v (aBe n)/\Bel w w':=by
 have d1:decide ((n:Int)<3)=false:=by simp;omega
 have d2:decide ((24:Int)<(n:Int))=false:=by simp;omega
 go_enter func15,ntmps15
 go_wp2_with (refine (aXb n hn _).mono ?_;rintro e w1 ⟨gA,gP,rfl,hA,hP,hb⟩;have HA:=aA0 hA;have HP:=aA0 hP;have HB:=((Bel.refl w).alloc (.cells #[.slice none 0 0,.slice none 0 0] 25)).trans hb;have HB':=aA0 hb;have hlw:=hb.size;clear hA hP hb)
 have hI:RnI w n gA gP w1.heap.size 0 (w1.alloc (.cells #[.slice (some ⟨gA,0,none⟩) n n,.slice (some ⟨gP,0,none⟩) n n] 25)):=by
  have hl:(w.heap.size+1)<=(w.alloc (.cells #[.slice none 0 0,.slice none 0 0] 25)).heap.size+1:=by simp
  refine ⟨Blk.new _ _ _,aAu (((Bel.refl w1).alloc _).owns (by rw [aMg];exact HA.out)) hl,⟨List.replicate n (.slice none 0 0),?_⟩,HB'.out.alloc _⟩
  rw [bFv];have:=GrR.made (α:=Link) (ei:=64) (sz:=2) (f:=bI5) (aAu (((Bel.refl w1).alloc (.cells #[.slice (some ⟨gA,0,none⟩) n n,.slice (some ⟨gP,0,none⟩) n n] 25)).owns HP.out) hl);exact this
 have HX:=aA0 (Blk.new w #[.slice none 0 0,.slice none 0 0] 25);clear HA HP HB';have hg5:w.heap.size+1<=w1.heap.size:=by simp only [World.size_alloc] at hlw;omega
 generalize w1.alloc (.cells #[.slice (some ⟨gA,0,none⟩) n n,.slice (some ⟨gP,0,none⟩) n n] 25)=w2 at *;generalize w1.heap.size=g5 at *;clear hlw HB
 go_loopg [5,16] n (fun m _x z wr=>∃ v:Nat,v<=n/\m=n-v/\z = .int .i64 (v:Int)/\Hid (RnI w n gA gP g5 v wr))
 case atStart=>exact ⟨0,by omega,rfl,rfl,hI⟩
 case round =>
  clear hI;obtain ⟨v,hv,rfl,rfl,HI⟩:=hrel
  by_cases hlt:v<n
  .have hd0:decide (v<n)=true:=by simpa using hlt
   have hz:((n:Int)==0)=false:=by simp;omega
   obtain ⟨p,hp⟩:∃ p:Nat,p=(v+n-1) % n:=⟨_,rfl⟩;obtain ⟨s,hs⟩:∃ s:Nat,s=(v+1) % n:=⟨_,rfl⟩;have hpl:p<n:=by rw [hp];exact Nat.mod_lt _ (by omega)
   have hsl:s<n:=by rw [hs];exact Nat.mod_lt _ (by omega)
   have r1:((v:Int)+(n:Int)-1).tmod (n:Int)=(p:Int):=by
    rw [show (v:Int)+(n:Int)-1=((v+n-1:Nat):Int) by omega,hp];rfl
   have r2:((v:Int)+1).tmod (n:Int)=(s:Int):=by
    rw [show (v:Int)+1=((v+1:Nat):Int) by omega,hs];rfl
   have hn0:¬ n=0:=by omega
   have w1:IntKind.i64.wrap ((v:Int)+(n:Int))=(v:Int)+(n:Int):=IntWalk.i64_in _ (by omega)
   have w2:IntKind.i64.wrap ((v:Int)+(n:Int)-1)=(v:Int)+(n:Int)-1:=IntWalk.i64_in _ (by omega)
   have w3:IntKind.i64.wrap ((v:Int)+1)=(v:Int)+1:=IntWalk.i64_in _ (by omega)
   have hL:Hid (bBe n v=[⟨(p:Int),1⟩,⟨(s:Int),1⟩]):=by rw [hp,hs];rfl
   clear hp hs;have HBK:=aA0 HI.out.blk;have HID:=aA0 HI.out.ids;have HBE:=aA0 HI.out.bel;obtain ⟨hsL,hg⟩:=HI.out.grd;have HG:=aA0 hg;have hgl:=hg.lt;obtain ⟨A0,k0,hc0,hf0,_,_⟩:=hg.head (i:=v) (l:=[]) (by simp [aPe,hlt])
   have hgl2:=hgl.2
   have hcell:Hid (∀ w',Bel wr w'->w'.cell? ⟨g5,1,none⟩=some (.slice (some ⟨gP,0,none⟩) n n)/\g5<w'.heap.size/\gP<w'.heap.size):=fun w' kk =>
    ⟨(HBK.out.keep kk).cell 1 rfl,(HBK.out.keep kk).lt,Nat.lt_of_lt_of_le HG.out.lt.2 kk.size⟩
   clear hg HI
   go_upto_region 7 with fail
   refine aA4.start (fun w'=>w'.cell? ⟨g5,1,none⟩=some (.slice (some ⟨gP,0,none⟩) n n)/\g5<w'.heap.size/\gP<w'.heap.size) 17 (by kernel_rfl) ?_
   have HB:=(Bel.refl wr).drew;have hHeld:=hcell.out _ HB
   (refine aA4.u (v:=?_) 0 19 rfl hHeld ?_ ?_;rotate_left 1;focus (intro w' hSw;(try dsimp only at hSw);go_simp;(try with_reducible rfl);done));(refine aA4.u (v:=?_) 1 20 rfl hHeld ?_ ?_;rotate_left 1;focus (intro w' hSw;(try dsimp only at hSw);go_simp;(try with_reducible rfl);done));(refine aA4.u (v:=?_) 2 21 rfl hHeld ?_ ?_;rotate_left 1;focus (intro w' hSw;(try dsimp only at hSw);go_simp;(try with_reducible rfl);done));(refine aA4.u (v:=?_) 3 22 rfl hHeld ?_ ?_;rotate_left 1;focus (intro w' hSw;(try dsimp only at hSw);go_simp;(try with_reducible rfl);done));(refine aA4.u (v:=?_) 4 23 rfl hHeld ?_ ?_;rotate_left 1;focus (intro w' hSw;(try dsimp only at hSw);go_simp;(try with_reducible rfl);done));(refine aA4.u (v:=?_) 5 24 rfl hHeld ?_ ?_;rotate_left 1;focus (intro w' hSw;(try dsimp only at hSw);go_simp;(try with_reducible rfl);done));(refine aA4.u (v:=?_) 6 25 rfl hHeld ?_ ?_;rotate_left 1;focus (intro w' hSw;(try dsimp only at hSw);go_simp;(try with_reducible rfl);done));(refine aA4.u (v:=?_) 7 26 rfl hHeld ?_ ?_;rotate_left 1;focus (intro w' hSw;(try dsimp only at hSw);go_simp;(try with_reducible rfl);done));(refine aA4.u (v:=?_) 8 27 rfl hHeld ?_ ?_;rotate_left 1;focus (intro w' hSw;(try dsimp only at hSw);go_simp;(try with_reducible rfl);done));(refine aA4.u (v:=?_) 9 28 rfl hHeld ?_ ?_;rotate_left 1;focus (intro w' hSw;(try dsimp only at hSw);go_simp;(try with_reducible rfl);done));(refine aA4.u (v:=?_) 10 29 rfl hHeld ?_ ?_;rotate_left 1;focus (intro w' hSw;(try dsimp only at hSw);go_simp;(try with_reducible rfl);done));(refine aA4.u (v:=?_) 11 30 rfl hHeld ?_ ?_;rotate_left 1;focus (intro w' hSw;(try dsimp only at hSw);go_simp;(try with_reducible rfl);done));(refine aA4.u (v:=?_) 12 31 rfl hHeld ?_ ?_;rotate_left 1;focus (intro w' hSw;(try dsimp only at hSw);go_simp;(try with_reducible rfl);done));(refine aA4.u (v:=?_) 13 32 rfl hHeld ?_ ?_;rotate_left 1;focus (intro w' hSw;(try dsimp only at hSw);go_simp;(try with_reducible rfl);done));(refine aA4.u (v:=?_) 14 33 rfl hHeld ?_ ?_;rotate_left 1;focus (intro w' hSw;(try dsimp only at hSw);go_simp;(try with_reducible rfl);done))
   clear hHeld;have HBa:=HB.alloc (.cells #[.int .i64 (p:Int),.int .i64 1,.int .i64 (s:Int),.int .i64 1] 64);have HN:=aA0 (World.ownsRow_lit (base:=w.heap.size+1) (e:=64) (size:=2) wr.drew #[.int .i64 (p:Int),.int .i64 1,.int .i64 (s:Int),.int .i64 1] 2 (by have:=hgl;show w.heap.size+1<=wr.heap.size;omega) (by unfold maxLen;omega) rfl)
   refine aA4.one (i:=15) (by kernel_rfl) rfl (fun K hK=>?_)
   go_simp
   refine hK.out _ _ (fun _=>hcell.out _ HBa) ?_
   clear hK K
   (try simp only [Act.put,List.setIfInBounds_toArray,List.set_cons_zero,List.set_cons_succ])
   have hHeld:=hcell.out _ HBa
   (refine aA4.u (v:=?_) 16 35 rfl hHeld ?_ ?_;rotate_left 1;focus (intro w' hSw;(try dsimp only at hSw);go_simp;(try with_reducible rfl);done))
   (refine aA4.one (i:=17) (by kernel_rfl) rfl (fun K hK=>?_));go_simp;refine hK.out _ _ (fun h=>absurd rfl h) ?_;clear hK K;refine aA4.done (by kernel_rfl) ?_ _;(try simp only [Act.put,List.setIfInBounds_toArray,List.set_cons_zero,List.set_cons_succ])
   clear hHeld
   go_wp2_with fail
   go_roundg (n-(v+1))
   case rel =>
    have hle1:w.heap.size+1<=wr.drew.heap.size:=by have:=hgl;show w.heap.size+1<=wr.heap.size;omega
    have HP:=HG.out.put (by decide) (i:=v) (by rw [aYw];exact hlt) (m:=bBe n v) (g:=wr.drew.heap.size) (k:=2) HBa (Nat.le_refl _) (by rw [hL.out];exact HN.out)
    rw [bJc hlt] at HP;have HPo:=HBa.owns HG.out.own;have e0:(w.alloc (.cells #[.slice none 0 0,.slice none 0 0] 25)).heap.size=w.heap.size+1:=World.size_alloc _ _
    have hw:((wr.setCell ⟨gP,v,none⟩ (.slice (some ⟨wr.heap.size,0,none⟩) 2 2)).alloc (.cells #[.int .i64 (p:Int),.int .i64 1,.int .i64 (s:Int),.int .i64 1] 64)).drew=(wr.drew.alloc (.cells #[.int .i64 (p:Int),.int .i64 1,.int .i64 (s:Int),.int .i64 1] 64)).setCell ⟨gP,v,none⟩ (.slice (some ⟨wr.heap.size,0,none⟩) 2 2):=by
     rw [World.setCell_alloc_past _ _ _ _ (show gP<wr.drew.heap.size from hgl.2)];rfl
    have hl2:(bBe n v).length=2:=rfl;rw [hl2] at HP
    have hfin:RnI w n gA gP g5 (v+1) ((wr.drew.alloc (.cells #[.int .i64 (p:Int),.int .i64 1,.int .i64 (s:Int),.int .i64 1] 64)).setCell ⟨gP,v,none⟩ (.slice (some ⟨wr.heap.size,0,none⟩) 2 2)):=by
     refine ⟨(HBK.out.keep HBa).other (a:=⟨gP,v,none⟩) (fun e=>?_) _,?_,⟨_,HP⟩,(HBE.out.trans HBa).setCell (p:=⟨gP,v,none⟩) (by rw [e0];exact hgl.1) _⟩
     .exact (HBK.out.keep HBa).apart HPo (by decide) (by rw [e];rfl)
     .exact aBi (HBa.owns HID.out) (Agr.setCell (E:=fun q=>q=gP) _ ⟨gP,v,none⟩ _ rfl) (fun q hq e=>by
       subst e
       rcases aAn HPo (HBa.owns HID.out) (by decide) with h0 | h0
       .rw [h0] at hq;cases hq
       .rw [hq] at h0;exact h0 (by simp [Value.ownBlock]))
    exact ⟨v+1,by omega,rfl,by go_num,by rw [hw];exact hfin⟩
   case measure=>omega
  .obtain rfl:v=n:=by omega
   have hd0:decide (v<v)=false:=by simp
   have y0:=HI.out.blk.cell 0 (v := .slice (some ⟨gA,0,none⟩) v v) rfl;have y1:=HI.out.blk.cell 1 (v := .slice (some ⟨gP,0,none⟩) v v) rfl;have yl:=HI.out.blk.lt;have hXr:=HX.out.keep HI.out.bel;have x0:=hXr.cell 0 (v := .slice none 0 0) rfl;have x1:=hXr.cell 1 (v := .slice none 0 0) rfl;have q0:=hXr.frozen 0;have q1:=hXr.frozen 1;have xl:=hXr.lt
   go_wp2_with fail
   have M:=(hXr.set 0 (.slice (some ⟨gA,0,none⟩) v v)).set 1 (.slice (some ⟨gP,0,none⟩) v v);have m0:=M.cell 0 (v := .slice (some ⟨gA,0,none⟩) v v) rfl;have m1:=M.cell 1 (v := .slice (some ⟨gP,0,none⟩) v v) rfl;have hAF:=aAh (aAh HI.out.ids (a:=⟨w.heap.size,0,none⟩) (by dsimp only;omega) (.slice (some ⟨gA,0,none⟩) v v)) (a:=⟨w.heap.size,1,none⟩) (by dsimp only;omega) (.slice (some ⟨gP,0,none⟩) v v)
   obtain ⟨hs,hg⟩:=HI.out.grd;refine bodyPost_ret (v := .tuple #[.agg #[.slice (some ⟨gA,0,none⟩) v v,.slice (some ⟨gP,0,none⟩) v v],.int .i64 0]) (by simp [results,Tryz.results15,go_sem,m0,m1]) rfl ⟨_,rfl,bAf hAF ((hg.other_cell (a:=⟨w.heap.size,0,none⟩) (by dsimp only;omega) _).other_cell (a:=⟨w.heap.size,1,none⟩) (by dsimp only;omega) _),?_⟩
   exact (((Bel.refl w).alloc _).trans HI.out.bel |>.setCell (Nat.le_refl _) _).setCell (Nat.le_refl _) _
end Go.Proofs.YtmoebklkkjbigaaGreatDoor

