/- Merged. -/
import Derived.Test.YtmoebklkkjbigaaGreatDoorZ33
import Derived.Test.YtmoebklkkjbigaaGreatDoorZ34
import Derived.Test.YtmoebklkkjbigaaGreatDoorZ31
import Derived.Lib.LaidTab
import Derived.LaidMore
import Derived.OpenShut
import Derived.Stop.Joined
set_option linter.unusedSimpArgs false
set_option linter.unnecessarySimpa false
set_option linter.unusedVariables false
set_option maxRecDepth 100000
set_option maxHeartbeats 4000000
open Go.Proofs.Tryz

namespace Go.Proofs.YtmoebklkkjbigaaGreatDoor
open Go.RowKit Go.Maps
theorem bIf {H:Type} {w:World} {P:Program} {k:TypeId} {R:Value->Option (DataW H × List MemPlace)} {b n:Nat} {D:DataW H} (h:w.ownsMap P k R b n D) {N e size m:Nat} {v:Value} {xs:List Value} (ho:w.ownsRow N e size v m xs):v.ownBlock=none∨v.ownBlock≠some b:=by
 obtain ⟨es,clock,hb,_⟩:=h
 rcases ho.2 with ⟨hv,_⟩ | ⟨g,cap,cur,hv,_,hg,_⟩
 .left;rw [hv];rfl
 .right;rw [hv]
  intro e
  have:g=b:=by simpa [Value.ownBlock] using e
  subst this;rw [hg] at hb;cases hb
theorem aM1.off {P:Program} {k e:TypeId} {w:World} {b n:Nat} {ks:List Lit} (h:aM1 P k e w b n ks) {N e' size m:Nat} {v:Value} {xs:List Value} (ho:w.ownsRow N e' size v m xs):v.ownBlock=none∨v.ownBlock≠some b:=by
 obtain ⟨D,h1,_⟩:=h;exact bIf h1 ho
theorem aM1.blk {P:Program} {k e:TypeId} {w:World} {b n:Nat} {ks:List Lit} (h:aM1 P k e w b n ks) {q:Nat} {cs:Array Value} {t:TypeId} (hb:Blk w q cs t):q≠b:=by
 obtain ⟨D,⟨es,clock,h1,_⟩,_⟩:=h;rintro rfl;rw [hb] at h1;cases h1
theorem aM1.setCell {P:Program} {k e:TypeId} {w:World} {b n:Nat} {ks:List Lit} (h:aM1 P k e w b n ks) {a:Addr} (ha:b≠a.block) (u:Value):aM1 P k e (w.setCell a u) b n ks:=by
 obtain ⟨D,h1,h2⟩:=h;exact ⟨D,h1.setCell ha u,h2⟩
def pc (x:Nat × Nat):List Value:=[.int .i64 (x.1:Int),.int .u32 (x.2:Int)]
def aL2 (N:Nat) (w w':World):Prop:=∀ {e size n:Nat} {v:Value} {xs:List Value},(e=39∨e=46)->w.ownsRow N e size v n xs->w'.ownsRow N e size v n xs
theorem aL2.of_bel {N:Nat} {w w':World} (h:Bel w w'):aL2 N w w':=fun _ ho=>h.owns ho
theorem aL2.trans {N:Nat} {a b c:World} (h:aL2 N a b) (k:aL2 N b c):aL2 N a c:=fun he ho=>k he (h he ho)
structure AddI (W0:World) (b3 b6 b7 bm:Nat) (A:Option Addr) (kc n:Nat) (set:List Bool) (G:Nat->Nat->Prop) (Q:List (Nat × Nat)) (w:World):Prop where
 bel:Bel W0 w
 lo:W0.heap.size<=b3/\W0.heap.size<=b6/\W0.heap.size<=b7/\W0.heap.size<=bm
 ne:b3≠b7/\b6≠b7
 leg:Blk w b3 #[.slice A n kc] 45
 mbx:Blk w b6 #[.map (some bm)] 204
 que:∃ Aq cq,Blk w b7 #[.slice Aq Q.length cq] 205/\w.ownsRow W0.heap.size 150 2 (.slice Aq Q.length cq) Q.length (Q.flatMap pc)
 map:∃ ks nm,aM1 prog 150 4 w bm nm ks/\nm<=Q.length/\∀ x,okP x->(sk x∈ks↔x∈Q)
 qup:QuP set n G Q
theorem AddI.keep {W0:World} {b3 b6 b7 bm:Nat} {A:Option Addr} {kc n:Nat} {set:List Bool} {G:Nat->Nat->Prop} {Q:List (Nat × Nat)} {w w':World} (h:AddI W0 b3 b6 b7 bm A kc n set G Q w) (k:Bel w w'):AddI W0 b3 b6 b7 bm A kc n set G Q w':=by
 obtain ⟨Aq,cq,h1,h2⟩:=h.que;obtain ⟨ks,nm,h3,h4,h5⟩:=h.map;exact ⟨h.bel.trans k,h.lo,h.ne,h.leg.keep k,h.mbx.keep k,⟨Aq,cq,h1.keep k,k.owns h2⟩,⟨ks,nm,h3.keep k,h4,h5⟩,h.qup⟩
def bN3 (w:World) (b7 X:Nat):Prop:=∀ v,w.cell? ⟨b7,0,none⟩=some v->v.ownBlock≠some X
theorem bN3.keep {w w':World} {b7 X:Nat} (h:bN3 w b7 X) (k:Bel w w') (hb:b7<w.heap.size):bN3 w' b7 X:=fun v hv=>h v (by rw [<- k.cell hb];exact hv)
theorem bFi:(prog.info? 150).map (fun i=>(i.zero,i.size,i.bytes))=some (some (.agg #[.int .i64 0,.int .u32 0]),2,16):=by kernel_rfl
theorem bGw {W0:World} {b3 b6 b7 bm:Nat} {A:Option Addr} {kc n:Nat} {set:List Bool} {G:Nat->Nat->Prop} {Q:List (Nat × Nat)} {w:World} (h:AddI W0 b3 b6 b7 bm A kc n set G Q w) (hB:aGb W0 A n set) (hn:n<=700) (x:Nat × Nat) (hx:x.1<n) (hx2:x.2<16) (hG:set.getD x.1 false=false->G x.1 x.2) :
  Calls prog 117 #[pv x,.pointer (some ⟨b3,0,none⟩),.pointer (some ⟨b6,0,none⟩),.pointer (some ⟨b7,0,none⟩)] w fun e w'=>(∃ u,e = .returned u)/\(∃ Q',Q'.length<=Q.length+1/\(∃ R,Q'=Q++R)/\AddI W0 b3 b6 b7 bm A kc n set G Q' w')/\aL2 W0.heap.size w w'/\∀ (X:Nat) (cs:Array Value) (t:TypeId),Blk w X cs t->X≠b7->bN3 w b7 X->Blk w' X cs t/\bN3 w' b7 X:=by
 obtain ⟨k,S⟩:=x;dsimp only at hx hx2 hG;have hok:okP (k,S):=⟨by show k<1000000;omega,by show S<4294967296;omega⟩
 obtain ⟨i0,hi0,hi1,hi2,hi3⟩:=aBy bFi;have hb0:=aA0 ((Bel.refl w).alloc (.cells #[.int .i64 (k:Int),.int .u32 (S:Int)] 150));have HI:=aA0 (h.keep hb0.out);have HX:=aA0 (Blk.new w #[.int .i64 (k:Int),.int .u32 (S:Int)] 150);obtain ⟨bA,oA,rfl,hbA,c0⟩:=(hB.keep HI.out.bel).at_ k (by rw [hB.1];exact hx)
 have hgs:set[k]'(by rw [hB.1];exact hx)=set.getD k false:=by simp [List.getD_eq_getElem?_getD,hB.1,hx]
 rw [hgs] at c0;have x1:=HI.out.leg.cell 0 (v := .slice (some ⟨bA,oA,none⟩) n kc) rfl;have x2:=HI.out.leg.lt;have y1:=HI.out.mbx.cell 0 (v := .map (some bm)) rfl;have y2:=HI.out.mbx.lt;obtain ⟨ks,nm,hS,hnm,hks⟩:=HI.out.map;obtain ⟨z,hz,hzi⟩:=hS.look aVe underlying204 underlying4 (aPo _) (pairKey.keyOf hok);rw [hks _ hok] at hzi;have HSM:=aA0 hS;have HKS:=aA0 hks;have HZI:=aA0 hzi;have hkd:decide (k<n)=true:=by simpa using hx
 have hH7:b7<w.heap.size:=by obtain ⟨_,_,hq,_⟩:=h.que;exact hq.lt
 have HBB:=aA0 hB;have hql:=HI.out.qup.len;clear h hB hS hks hzi hgs;unfold pv at hz ⊢;dsimp only at hz ⊢;go_enter func117,ntmps117;cases hc:set.getD k false with
 | true =>
  rw [hc] at c0
  go_wp2_with fail
  go_end0
  exact ⟨⟨_,rfl⟩,⟨Q,by omega,⟨[],by simp⟩,HI.out⟩,aL2.of_bel hb0.out,fun X cs t hb _ hq=>⟨hb.keep hb0.out,hq.keep hb0.out hH7⟩⟩
 | false =>
  rw [hc] at c0;cases z with
  | true =>
   go_wp2_with fail
   go_end0
   exact ⟨⟨_,rfl⟩,⟨Q,by omega,⟨[],by simp⟩,HI.out⟩,aL2.of_bel hb0.out,fun X cs t hb _ hq=>⟨hb.keep hb0.out,hq.keep hb0.out hH7⟩⟩
  | false =>
   have hnq:(k,S) ∉ Q:=fun hm=>by have:=HZI.out.2 hm;cases this
   obtain ⟨Aq,cq,hqb,hqo⟩:=HI.out.que;have HQB:=aA0 hqb;have HQO:=aA0 hqo;obtain ⟨l3,l6,l7,lm⟩:=HI.out.lo;obtain ⟨n37,n67⟩:=HI.out.ne;have m7:=HSM.out.blk hqb;have m3:=HSM.out.blk HI.out.leg;have m6:=HSM.out.blk HI.out.mbx;have mX:=HSM.out.blk HX.out;have hws:=HI.out.bel.size;clear hqb hqo
   go_wp2_with (first
    | (at_mapUpdate;refine aGm _ rfl (.tmp 17) (.tmp 18) (.const (.bool true)) 204 rfl 150 4 aVe underlying204 underlying4 bm nm ks rfl HSM.out (by unfold maxLen;omega) (pv (k,S)) (sk (k,S)) rfl rfl (pairKey.keyOf hok) trivial ?_;intro w2 hset hgr;have HST:=aA0 hset;have HGR:=aA0 hgr;have HB2:=aA0 (HI.out.bel.map lm hgr);have HX2:=aA0 (HX.out.grown hgr (by intro e;injection e with e;exact mX e));have HQ2:=aA0 (HQB.out.grown hgr (by intro e;injection e with e;exact m7 e));have HO2:=aA0 (World.ownsRow.kept HQO.out hgr (HSM.out.off HQO.out));have q7:=HQ2.out.cell 0 (v := .slice Aq Q.length cq) rfl;have q7l:=HQ2.out.lt;have p0:=HX2.out.cell 0 (v := .int .i64 (k:Int)) rfl;have p1:=HX2.out.cell 1 (v := .int .u32 (S:Int)) rfl;have pl:=HX2.out.lt;have hw2:=HB2.out.size;clear hset hgr)
    | (at_builtin;refine aCh _ rfl (.tmp 19) (.tmp 21) 205 rfl W0.heap.size 150 i0 (.agg #[.int .i64 0,.int .u32 0]) 2 16 underlying205 hi0 hi1 hi2 hi3 rfl (by decide) Aq Q.length cq (Q.flatMap pc) (by simp [Act.eval]) (HO2.out.alloc _) w2.heap.size #[.int .i64 (k:Int),.int .u32 (S:Int)] 150 (0,0) (by simp [Act.eval]) (aB4 _ _) rfl (bDt _ _ _ _) (by unfold maxLen;omega) (by omega) (by simp;omega) ?_;intro Aq' cq' w4 hown hgr2 hat;have HN:=aA0 hown;have HG2:=aA0 hgr2;have HQ4:=aA0 ((HQ2.out.alloc (.cells #[.int .i64 (k:Int),.int .u32 (S:Int)] 150)).grown hgr2 ((HQ2.out.alloc (.cells #[.int .i64 (k:Int),.int .u32 (S:Int)] 150)).apart (HO2.out.alloc _) (by decide)));have r7:=HQ4.out.cell 0 (v := .slice Aq Q.length cq) rfl;have r7f:=HQ4.out.frozen 0;have r7l:=HQ4.out.lt;have HAT:=aA0 hat;clear hown hgr2 hat))
   go_end0
   have hA2:=aA0 ((Bel.refl w2).alloc (.cells #[.int .i64 (k:Int),.int .u32 (S:Int)] 150));have hO3:=aA0 (hA2.out.owns HO2.out)
   have hkb:∀ {q:Nat} {cs:Array Value} {t:TypeId},Blk (w.alloc (.cells #[.int .i64 (k:Int),.int .u32 (S:Int)] 150)) q cs t->q≠bm->t≠150->Blk w4 q cs t:=fun hb hne ht =>
    have b1:=(hb.grown HGR.out (by intro e;injection e with e;exact hne e)).keep hA2.out
    b1.grown HG2.out (b1.apart hO3.out ht)
   refine ⟨⟨_,rfl⟩,⟨Q++[(k,S)],by simp,⟨[(k,S)],rfl⟩,?_⟩,?_,?_⟩
   .refine ⟨((HB2.out.trans hA2.out).push hO3.out HG2.out).setCell l7 _,HI.out.lo,HI.out.ne,?_,?_,?_,?_,?_⟩
    .exact (hkb HI.out.leg m3 (by decide)).other (a:=⟨b7,0,none⟩) n37 _
    .exact (hkb HI.out.mbx m6 (by decide)).other (a:=⟨b7,0,none⟩) n67 _
    .refine ⟨Aq',cq',?_,?_⟩
     .rw [List.length_append];exact HQ4.out.set 0 _
     .rw [List.length_append,List.flatMap_append];exact aDg HN.out HQ4.out (by decide) 0 _
    .have hs3:=HST.out.keep hA2.out
     refine ⟨sk (k,S) :: ks,nm+1,(hs3.kept HG2.out (fun e=>?_)).setCell (fun e=>m7 e.symm) _,by simp;omega,fun y hy=>?_⟩
     .rcases hs3.off hO3.out with h0 | h0
      .rw [h0] at e;cases e
      .exact h0 e.symm
     .rw [List.mem_cons,HKS.out y hy,List.mem_append,List.mem_singleton]
      constructor
      .rintro (e | e)
       .exact .inr (pairKey.inj hy hok e)
       .exact .inl e
      .rintro (e | e)
       .exact .inr e
       .exact .inl (by rw [e])
    .exact HI.out.qup.push hnq hx hx2 hc (hG hc)
   .intro e size m v xs he ho
    have o1:=hb0.out.owns ho;have o2:=hA2.out.owns (World.ownsRow.kept o1 HGR.out (HSM.out.off o1));have o3:=World.ownsRow.kept o2 HG2.out (aAr hO3.out o2 (by rcases he with rfl | rfl <;> decide))
    exact aDg o3 HQ4.out (by rcases he with rfl | rfl <;> decide) 0 _
   .intro X cs t hb hX7 hq
    have hb1:=hb.keep hb0.out;have hXm:=HSM.out.blk hb1;have hq1:=(hq.keep hb0.out hH7) _ (HQB.out.cell 0 (v := .slice Aq Q.length cq) rfl);have b2:=(hb1.grown HGR.out (by intro e;injection e with e;exact hXm e)).keep hA2.out
    have b3':=b2.grown HG2.out (fun e=>hq1 e.symm);refine ⟨b3'.other (a:=⟨b7,0,none⟩) hX7 _,fun v hv=>?_⟩
    have hc:=(HQ4.out.set 0 (.slice Aq' (Q.length+1) cq')).cell 0 (v := .slice Aq' (Q.length+1) cq') rfl;rw [hc] at hv;injection hv with hv;subst hv
    rcases HAT.out with e | e
    .rw [e];exact hq1
    .rw [e]
     intro e'
     injection e' with e'
     have:=b2.lt;omega
def bJp (S:Nat):List Value:=[.int .u32 (S:Int)]
abbrev bP0:=GrR (α:=Nat) 39 46 1 bJp
theorem GrR.keepU {N:Nat} {w w':World} {gb c:Nat} {hs:List Value} {xss:List (List Nat)} (h:bP0 N w gb c hs xss) (k:aL2 N w w'):bP0 N w' gb c hs xss :=
 ⟨k (.inl rfl) h.own,fun i l hl=>by obtain ⟨A,c,e,h2⟩:=h.rows i l hl;exact ⟨A,c,e,k (.inr rfl) h2⟩,h.apart⟩
def bDa (n:Nat) (Q:List (Nat × Nat)) (i:Nat):List (List Nat):=(List.range n).map fun k=>aJa Q i k
theorem aVh (n:Nat) (Q:List (Nat × Nat)) (i:Nat):(bDa n Q i).length=n:=by simp [bDa]
theorem bJ7 (n:Nat) (Q:List (Nat × Nat)):bDa n Q 0=List.replicate n []:=by
 apply List.ext_getElem?;intro j
 simp only [bDa,List.getElem?_map,List.getElem?_replicate]
 by_cases h:j<n <;> simp [h,bFo]
theorem aOh {n:Nat} {Q:List (Nat × Nat)} {i k:Nat} (h:k<n):(bDa n Q i)[k]?=some (aJa Q i k):=by simp [bDa,h]
theorem bJ6 {n:Nat} {Q:List (Nat × Nat)} {i k S:Nat} (hi:i<Q.length) (hk:k<n) (hx:Q[i]=(k,S)):(bDa n Q i).set k (aJa Q i k++[S])=bDa n Q (i+1):=by
 apply List.ext_getElem?;intro j
 by_cases hj:k=j
 .subst hj
  rw [List.getElem?_set_self (by rw [aVh];exact hk),aOh hk,aT9 hi,hx,if_pos rfl]
 .rw [List.getElem?_set_ne hj]
  by_cases h2:j<n
  .rw [aOh h2,aOh h2,aT9 hi,hx,if_neg hj]
  .rw [List.getElem?_eq_none (by rw [aVh];omega),List.getElem?_eq_none (by rw [aVh];omega)]
theorem bJ5 {n:Nat} {Q R:List (Nat × Nat)} {i:Nat} (hi:i<=Q.length):bDa n (Q++R) i=bDa n Q i:=by
 apply List.map_congr_left
 intro k _
 unfold aJa;rw [List.take_append_of_le_length hi]
theorem bF0:(prog.info? 39).map (fun i=>(i.zero,i.size,i.bytes))=some (some (.slice none 0 0),1,24):=by kernel_rfl
theorem bK6:(prog.info? 46).map (fun i=>(i.zero,i.size,i.bytes))=some (some (.int .u32 0),1,4):=by kernel_rfl
theorem Blk.ne {w:World} {X Y:Nat} {cs cs':Array Value} {t t':TypeId} (h:Blk w X cs t) (h':Blk w Y cs' t') (hne:t≠t'):X≠Y:=by
 rintro rfl;have:=h.symm.trans h';injection this with this
 injection this with _ this _
 exact hne this
theorem aM8 {N:Nat} {w w2:World} {X:Nat} {cs:Array Value} {t:TypeId} (h:Blk w X cs t) (h1:t≠46) (h2:t≠39) {v:Value} {size m:Nat} {xs:List Value} (ho:w.ownsRow N 46 size v m xs) (hg:w.grownBy w2 v.ownBlock) {gP c n:Nat} {hs:List Value} (hP:w2.ownsRow N 39 1 (.slice (some ⟨gP,0,none⟩) n c) n hs) (i:Nat) (u:Value):Blk (w2.setCell ⟨gP,i,none⟩ u) X cs t:=by
 have b:=h.grown hg (h.apart ho h1);exact b.other (a:=⟨gP,i,none⟩) (fun e=>b.apart hP h2 (by rw [e];rfl)) u
theorem bMa {N:Nat} {w w2:World} {e0 size0 m0:Nat} {v0:Value} {xs0:List Value} (h:w.ownsRow N e0 size0 v0 m0 xs0) (h1:46≠e0) (h2:39≠e0) {v:Value} {size m:Nat} {xs:List Value} (ho:w.ownsRow N 46 size v m xs) (hg:w.grownBy w2 v.ownBlock) {gP c n:Nat} {hs:List Value} (hP:w2.ownsRow N 39 1 (.slice (some ⟨gP,0,none⟩) n c) n hs) (i:Nat) (u:Value):(w2.setCell ⟨gP,i,none⟩ u).ownsRow N e0 size0 v0 m0 xs0:=by
 have b:=World.ownsRow.kept h hg (aAr ho h h1)
 exact aBs b (Agr.setCell (E:=fun q=>q=gP) w2 ⟨gP,i,none⟩ u rfl) (fun q hq e=>by
  subst e
  rcases aAr hP b h2 with h0 | h0
  .rw [h0] at hq;cases hq
  .rw [hq] at h0;exact h0 (by simp [Value.ownBlock]))
theorem AddI.turn {W0:World} {b3 b6 b7 bm:Nat} {A:Option Addr} {kc n:Nat} {set:List Bool} {G:Nat->Nat->Prop} {Q:List (Nat × Nat)} {w w2:World} (h:AddI W0 b3 b6 b7 bm A kc n set G Q w) {v:Value} {size m:Nat} {xs:List Value} (ho:w.ownsRow W0.heap.size 46 size v m xs) (hg:w.grownBy w2 v.ownBlock) {gP c n':Nat} {hs:List Value} (hP:w2.ownsRow W0.heap.size 39 1 (.slice (some ⟨gP,0,none⟩) n' c) n' hs) (i:Nat) (u:Value):AddI W0 b3 b6 b7 bm A kc n set G Q (w2.setCell ⟨gP,i,none⟩ u):=by
 obtain ⟨Aq,cq,h1,h2⟩:=h.que;obtain ⟨ks,nm,h3,h4,h5⟩:=h.map
 have hs2:=h3.kept hg (fun e=>by
  rcases h3.off ho with h0 | h0
  .rw [h0] at e;cases e
  .exact h0 e.symm)
 refine ⟨(h.bel.push ho hg).setCell (aAb hP).1 u,h.lo,h.ne,aM8 h.leg (by decide) (by decide) ho hg hP i u,aM8 h.mbx (by decide) (by decide) ho hg hP i u,⟨Aq,cq,aM8 h1 (by decide) (by decide) ho hg hP i u,bMa h2 (by decide) (by decide) ho hg hP i u⟩,⟨ks,nm,hs2.setCell (fun e=>?_) u,h4,h5⟩,h.qup⟩
 rcases hs2.off hP with h0 | h0
 .simp [Value.ownBlock] at h0
 .exact h0 (by rw [e];simp [Value.ownBlock])
theorem aVl (v:Value) (s:Spc) (A:Option Addr) (kc:Nat) (set:List Bool) (w:World) (h:aDy w v s) (hB:aGb w A s.arcs.length set) (hl:aE3 s=true) (hwf:wfS s) (hv:aD5 s=true)
  (G:Nat->Nat->Prop) (h16:∀ k,s.enabled.getD k 0<16) (hst:∀ k,k<s.arcs.length->set.getD k false=false->G k (s.enabled.getD k 0))
  (hgo:∀ k S,k<s.arcs.length->S<16->set.getD k false=false->G k S->∀ a∈aA8 s.arcs k,set.getD (toK a) false=false->G (toK a) (aEs S a.1 (s.enabled.getD (toK a) 0))) :
  Calls prog 73 #[v,.slice A s.arcs.length kc] w fun e w'=>∃ (gP:Nat) (hs:List Value) (Q:List (Nat × Nat)),e = .returned (.tuple #[.slice (some ⟨gP,0,none⟩) s.arcs.length s.arcs.length,.int .i64 0])/\QuP set s.arcs.length G Q/\bP0 (w.heap.size+1) w' gP s.arcs.length hs (bDa s.arcs.length Q Q.length)/\Bel w w':=by
 have HS:=aA0 (fun w' (k:Bel w w')=>h.keep k);obtain ⟨_,hle,h70⟩:=aBo hl;obtain ⟨AE,cE,AA,cA,rfl,hE,hA,_,_,_,_⟩:=h;have HE:=aA0 (fun w' (k:Bel w w')=>hE.keep k);have HA:=aA0 (fun w' (k:Bel w w')=>hA.keep k);have HSET:=aA0 (fun w' (k:Bel w w')=>hB.keep k);have HTO:=aA0 (aNe hv);have HEN:=aA0 (aDa hv).1;have HWF:=aA0 hwf;have H16:=aA0 h16;have HST:=aA0 hst;have HGO:=aA0 hgo
 have H70:Hid (∀ k,(aA8 s.arcs k).length<=70):=fun k=>by
  unfold aA8;rw [List.getD_eq_getElem?_getD];cases hx:s.arcs[k]? with
  | none=>simp
  | some l=>exact h70 l (List.mem_of_getElem? hx)
 have HW32:Hid (∀ k,∀ x∈aA8 s.arcs k,x.1<4294967296):=fun k x hx=>by
  unfold aA8 at hx;rw [List.getD_eq_getElem?_getD] at hx;cases hk:s.arcs[k]? with
  | none=>rw [hk] at hx;cases hx
  | some l=>rw [hk] at hx;exact hwf.2 l (List.mem_of_getElem? hk) x hx
 clear hl hE hA hB hwf hv h16 hst hgo h70;obtain ⟨i0,hi0,hi1,hi2,hi3⟩:=aBy bF0;obtain ⟨j0,hj0,hj1,hj2,hj3⟩:=aBy bK6;obtain ⟨W0,hW0⟩:∃ W:World,W=w.alloc (.cells #[.slice AE s.enabled.length cE,.slice AA s.arcs.length cA] 42):=⟨_,rfl⟩;have e0:W0.heap.size=w.heap.size+1:=by rw [hW0];exact World.size_alloc _ _
 have HW0:Hid (Bel w W0):=by rw [hW0];exact (Bel.refl w).alloc _
 have HBX:Hid (Blk W0 w.heap.size #[.slice AE s.enabled.length cE,.slice AA s.arcs.length cA] 42):=by rw [hW0];exact Blk.new w _ _
 have hmm:=@run_makeMap prog;go_enter func73,ntmps73
 go_wp2_with fail
 rw [<- hW0]
 have hI:AddI W0 (w.heap.size+1) (w.heap.size+1+1+1) (w.heap.size+1+1+1+1) (w.heap.size+1+1) A kc s.arcs.length set G [] ((((W0.alloc (.cells #[.slice A s.arcs.length kc] 45)).alloc (.map #[] 0)).alloc (.cells #[.map (some (w.heap.size+1+1))] 204)).alloc (.cells #[.slice none 0 0] 205)):=by
  have s1:(W0.alloc (.cells #[.slice A s.arcs.length kc] 45)).heap.size=w.heap.size+1+1:=by rw [World.size_alloc,e0]
  have s2:((W0.alloc (.cells #[.slice A s.arcs.length kc] 45)).alloc (.map #[] 0)).heap.size=w.heap.size+1+1+1:=by rw [World.size_alloc,s1]
  have s3:(((W0.alloc (.cells #[.slice A s.arcs.length kc] 45)).alloc (.map #[] 0)).alloc (.cells #[.map (some (w.heap.size+1+1))] 204)).heap.size=w.heap.size+1+1+1+1:=by rw [World.size_alloc,s2]
  have c3:=Blk.new W0 #[.slice A s.arcs.length kc] 45;rw [e0] at c3;have cm:=aM1.made prog 150 4 (W0.alloc (.cells #[.slice A s.arcs.length kc] 45));rw [s1] at cm;have c6:=Blk.new ((W0.alloc (.cells #[.slice A s.arcs.length kc] 45)).alloc (.map #[] 0)) #[.map (some (w.heap.size+1+1))] 204;rw [s2] at c6;have c7:=Blk.new (((W0.alloc (.cells #[.slice A s.arcs.length kc] 45)).alloc (.map #[] 0)).alloc (.cells #[.map (some (w.heap.size+1+1))] 204)) #[.slice none 0 0] 205;rw [s3] at c7;refine ⟨((((Bel.refl W0).alloc _).alloc _).alloc _).alloc _,⟨by omega,by omega,by omega,by omega⟩,⟨by omega,by omega⟩,((c3.alloc _).alloc _).alloc _,c6.alloc _,⟨none,0,c7,World.ownsRow_nil _ _ _ _⟩,⟨[],0,(cm.keep ((Bel.refl _).alloc _)).keep ((Bel.refl _).alloc _),by simp,fun x _=>by simp⟩,QuP.nil _ _ _⟩
 have hI0:∀ w',Bel W0 w'->w.heap.size<w'.heap.size:=fun w' hb=>by have:=hb.size;omega
 have HI0:=aA0 hI0;have HLW:=aA0 (show w.heap.size+1=W0.heap.size from e0.symm)
 clear hI0 hW0 e0;generalize (((W0.alloc (.cells #[.slice A s.arcs.length kc] 45)).alloc (.map #[] 0)).alloc (.cells #[.map (some (w.heap.size+1+1))] 204)).alloc (.cells #[.slice none 0 0] 205)=w1 at *;generalize w.heap.size+1+1+1+1=b7 at *;generalize w.heap.size+1+1+1=b6 at *;generalize w.heap.size+1+1=bm at *;generalize hb3:w.heap.size+1=b3 at *;have hen:s.enabled.length=s.arcs.length:=HEN.out.symm;rw [hen];clear hen
 go_loopg [9,10,23] s.arcs.length (fun m _x _y z wr=>∃ (k:Nat) (Q:List (Nat × Nat)),k<=s.arcs.length/\m=s.arcs.length-k/\z = .int .i64 (k:Int)/\Hid (AddI W0 b3 b6 b7 bm A kc s.arcs.length set G Q wr))
 case atStart=>exact ⟨0,[],by omega,rfl,rfl,hI⟩
 case round =>
  clear hI;obtain ⟨k,Q,hk,rfl,rfl,HI⟩:=hrel
  by_cases hlt:k<s.arcs.length
  .have hd0:decide (k<s.arcs.length)=true:=by simpa using hlt
   obtain ⟨bE,oE,rfl,hbE,e1⟩:=(HE.out _ (HW0.out.trans HI.out.bel)).at_ k (by rw [<- HEN.out];exact hlt)
   have hgs:s.enabled[k]'(by rw [<- HEN.out];exact hlt)=s.enabled.getD k 0:=by have:=HEN.out;simp [List.getD_eq_getElem?_getD,show k<s.enabled.length by omega]
   rw [hgs] at e1
   go_wp2_with (refine (bGw HI.out (HSET.out _ HW0.out) (by omega) (k,s.enabled.getD k 0) hlt (H16.out k) (fun hc=>HST.out k hlt hc)).mono ?_;rintro e w2 ⟨⟨u,rfl⟩,⟨Q2,_,_,hI2⟩,_⟩;have HI2:=aA0 hI2;clear hI2)
   go_roundg (s.arcs.length-(k+1))
   case rel=>exact ⟨k+1,Q2,by omega,rfl,by go_num,HI2.out⟩
   case measure=>omega
  .obtain rfl:k=s.arcs.length:=by omega
   have hd0:decide (s.arcs.length<s.arcs.length)=false:=by simp
   have x1:=HI.out.leg.cell 0 (v := .slice A s.arcs.length kc) rfl;have x2:=HI.out.leg.lt;have HLO:=HI.out.lo
   go_wp2_with (at_make;refine aB6 _ rfl 145 (.tmp 35) (.tmp 35) rfl W0.heap.size 39 i0 (.slice none 0 0) 1 underlying145 hi0 hi1 hi2 .i64 .i64 s.arcs.length rfl rfl (by rw [hi3];omega) (by unfold maxLen;omega) HI.out.bel.size ?_;intro gP w3 hown hb;rw [aB5 _ rfl] at hown;have HOP:=aA0 hown;have HI3:=aA0 (HI.out.keep hb);clear hown hb)
   have hG:bP0 W0.heap.size w3 gP s.arcs.length (List.replicate s.arcs.length (.slice none 0 0)) (bDa s.arcs.length Q 0):=by rw [bJ7];exact GrR.made HOP.out
   clear x1 x2 HI HOP
   go_loopg [12,13,15,16,17] (16*s.arcs.length) (fun m z _a _b _c _d wr=>∃ (i:Nat) (Q:List (Nat × Nat)) (hs:List Value),i<=Q.length/\m=16*s.arcs.length-i/\z = .int .i64 (i:Int)/\Hid (AddI W0 b3 b6 b7 bm A kc s.arcs.length set G Q wr)/\Hid (bP0 W0.heap.size wr gP s.arcs.length hs (bDa s.arcs.length Q i)))
   case atStart=>exact ⟨0,Q,_,by omega,rfl,rfl,HI3.out,hG⟩
   case round =>
    clear hG HI3;obtain ⟨wo,rfl⟩:∃ wo:World,wo=wr:=⟨_,rfl⟩;obtain ⟨i,Q,hs,hi,rfl,rfl,HI,HG⟩:=hrel;obtain ⟨Aq,cq,hqb,hqo⟩:=HI.out.que;have HQO:=aA0 hqo;have q1:=hqb.cell 0 (v := .slice Aq Q.length cq) rfl;have q2:=hqb.lt;have hql:=HI.out.qup.len;have hq0:decide ((262144:Int)<(Q.length:Int))=false:=by simp;omega
    clear hqo
    by_cases hlt:i<Q.length
    .have hd1:decide (i<Q.length)=true:=by simpa using hlt
     obtain ⟨x,hx⟩:∃ x,x=Q[i]:=⟨_,rfl⟩;obtain ⟨k,S⟩:=x;obtain ⟨hkn,hS16,hkc,hGk⟩:=HI.out.qup.lt _ (List.getElem_mem hlt);rw [<- hx] at hkn hS16 hkc hGk;dsimp only at hkn hS16 hkc hGk;have hqi:Q[i]?=some (k,S):=by rw [List.getElem?_eq_getElem hlt,<- hx]
     obtain ⟨gq,rfl,_,gql,k0,_⟩:=aAn HQO.out (aNs (f:=pc) (size:=2) (fun _=>rfl) Q i (k,S) 0 (.int .i64 (k:Int)) hqi rfl);obtain ⟨gq',eq',_,_,k1,_⟩:=aAn HQO.out (aNs (f:=pc) (size:=2) (fun _=>rfl) Q i (k,S) 1 (.int .u32 (S:Int)) hqi rfl);obtain rfl:gq=gq':=by simpa using eq'
     rw [Nat.add_zero] at k0;have HQX:=aA0 hx.symm;have HGk:=aA0 hGk;clear hx hGk hqi eq'
     go_upto_region 16 with fail
     have HIx:=aA0 (HI.out.keep ((Bel.refl wo).alloc (.cells #[.int .i64 (k:Int),.int .u32 (S:Int)] 150)));have HGx:=aA0 (HG.out.keep ((Bel.refl wo).alloc (.cells #[.int .i64 (k:Int),.int .u32 (S:Int)] 150)));have HBX2:=aA0 (Blk.new wo #[.int .i64 (k:Int),.int .u32 (S:Int)] 150)
     have HNQ:Hid (bN3 (wo.alloc (.cells #[.int .i64 (k:Int),.int .u32 (S:Int)] 150)) b7 wo.heap.size):=fun v hv=>by
      have hc:=(hqb.keep ((Bel.refl wo).alloc (.cells #[.int .i64 (k:Int),.int .u32 (S:Int)] 150))).cell 0 (v := .slice (some ⟨gq,0,none⟩) Q.length cq) rfl;rw [hc] at hv;injection hv with hv;subst hv
      intro e
      have:=(HQO.out.lt _ e).2;omega
     clear HI HG HQO k0 k1 q1 q2 hqb gql;generalize wo.alloc (.cells #[.int .i64 (k:Int),.int .u32 (S:Int)] 150)=wx at *;generalize wo.heap.size=bx at *;obtain ⟨A1,c1,hc,hf,ho,hhi⟩:=HGx.out.head (aOh hkn);have HO:=aA0 ho;have HH:=aA0 hhi;have hgl:=HGx.out.lt;have hpl:=aYu Q i k
     have hcell:Hid (∀ w',Bel wx w'->w'.cell? ⟨bx,0,none⟩=some (.int .i64 (k:Int))/\w'.cell? ⟨bx,1,none⟩=some (.int .u32 (S:Int))/\w'.cell? ⟨gP,k,none⟩=some (.slice A1 (aJa Q i k).length c1)/\bx<w'.heap.size/\gP<w'.heap.size):=fun w' kk =>
      ⟨(HBX2.out.keep kk).cell 0 rfl,(HBX2.out.keep kk).cell 1 rfl,(kk.cell HGx.out.lt.2).trans hc,(HBX2.out.keep kk).lt,Nat.lt_of_lt_of_le HGx.out.lt.2 kk.size⟩
     have hkd:decide (k<s.arcs.length)=true:=by simpa using hkn
     have hwx:=HIx.out.bel.size;clear ho hhi hc hf;have HPE:=aA0 (bJ6 (n:=s.arcs.length) hlt hkn HQX.out);have HPA:=aA0 (aOh (n:=s.arcs.length) (Q:=Q) (i:=i) hkn);generalize aJa Q i k=l at *;refine aA6.start (fun w'=>w'.cell? ⟨bx,0,none⟩=some (.int .i64 (k:Int))/\w'.cell? ⟨bx,1,none⟩=some (.int .u32 (S:Int))/\w'.cell? ⟨gP,k,none⟩=some (.slice A1 l.length c1)/\bx<w'.heap.size/\gP<w'.heap.size) 13 (by kernel_rfl) ?_
     have HB:=(Bel.refl wx).drew;have hHeld:=hcell.out _ HB
     (refine aA6.t (v:=?_) 0 50 rfl rfl (by kernel_rfl) (fun _ _ _ h=>h) hHeld (Or.inl ⟨by rfl,?_⟩) ?_;rotate_left 1;focus (intro w' hSw;(try dsimp only at hSw);go_simp;(try with_reducible rfl);done));(refine aA6.t (v:=?_) 1 51 rfl rfl (by kernel_rfl) (fun _ _ _ h=>h) hHeld (Or.inl ⟨by rfl,?_⟩) ?_;rotate_left 1;focus (intro w' hSw;(try dsimp only at hSw);go_simp;(try with_reducible rfl);done));(refine aA6.t (v:=?_) 2 52 rfl rfl (by kernel_rfl) (fun _ _ _ h=>h) hHeld (Or.inl ⟨by rfl,?_⟩) ?_;rotate_left 1;focus (intro w' hSw;(try dsimp only at hSw);go_simp;(try with_reducible rfl);done));(refine aA6.t (v:=?_) 3 53 rfl rfl (by kernel_rfl) (fun _ _ _ h=>h) hHeld (Or.inl ⟨by rfl,?_⟩) ?_;rotate_left 1;focus (intro w' hSw;(try dsimp only at hSw);go_simp;(try with_reducible rfl);done));(refine aA6.t (v:=?_) 4 54 rfl rfl (by kernel_rfl) (fun _ _ _ h=>h) hHeld (Or.inl ⟨by rfl,?_⟩) ?_;rotate_left 1;focus (intro w' hSw;(try dsimp only at hSw);go_simp;(try with_reducible rfl);done));(refine aA6.t (v:=?_) 5 55 rfl rfl (by kernel_rfl) (fun _ _ _ h=>h) hHeld (Or.inl ⟨by rfl,?_⟩) ?_;rotate_left 1;focus (intro w' hSw;(try dsimp only at hSw);go_simp;(try with_reducible rfl);done));(refine aA6.t (v:=?_) 6 56 rfl rfl (by kernel_rfl) (fun _ _ _ h=>h) hHeld (Or.inl ⟨by rfl,?_⟩) ?_;rotate_left 1;focus (intro w' hSw;(try dsimp only at hSw);go_simp;(try with_reducible rfl);done));(refine aA6.t (v:=?_) 7 57 rfl rfl (by kernel_rfl) (fun _ _ _ h=>h) hHeld (Or.inl ⟨by rfl,?_⟩) ?_;rotate_left 1;focus (intro w' hSw;(try dsimp only at hSw);go_simp;(try with_reducible rfl);done));(refine aA6.t (v:=?_) 8 58 rfl rfl (by kernel_rfl) (fun _ _ _ h=>h) hHeld (Or.inl ⟨by rfl,?_⟩) ?_;rotate_left 1;focus (intro w' hSw;(try dsimp only at hSw);go_simp;(try with_reducible rfl);done));(refine aA6.t (v:=?_) 9 59 rfl rfl (by kernel_rfl) (fun _ _ _ h=>h) hHeld (Or.inl ⟨by rfl,?_⟩) ?_;rotate_left 1;focus (intro w' hSw;(try dsimp only at hSw);go_simp;(try with_reducible rfl);done))
     clear hHeld;have HOa:=aA0 ((show wx.drew.ownsRow W0.heap.size 46 1 (.slice A1 l.length c1) l.length (l.flatMap bJp) from HO.out).alloc (.cells #[.int .u32 (S:Int)] 46))
     have HBa:=HB.alloc (.cells #[.int .u32 (S:Int)] 46);have HNEW:=aA0 (aB4 wx.drew (.cells #[.int .u32 (S:Int)] 46));refine aA6.one (i:=10) (by kernel_rfl) rfl (fun K hK=>?_)
     go_simp
     refine hK.out _ _ (fun _=>hcell.out _ HBa) ?_
     clear hK K
     (try simp only [Act.put,List.setIfInBounds_toArray,List.set_cons_zero,List.set_cons_succ])
     refine aA6.one (i:=11) (by kernel_rfl) rfl (fun K hK=>?_)
     refine aCr _ rfl (.tmp 57) (.tmp 60) 39 rfl W0.heap.size 46 j0 (.int .u32 0) 1 4 underlying39 hj0 hj1 hj2 hj3 rfl (by decide) A1 l.length c1 (l.flatMap bJp) (by simp [Act.eval]) HOa.out wx.heap.size #[.int .u32 (S:Int)] 46 (0,0) (by simp [Act.eval]) HNEW.out rfl (aOe _ _) (by unfold maxLen;omega) (by omega) (by have e9:wx.drew.heap.size=wx.heap.size:=rfl;simp;omega) ?_
     intro A2 c2 w4 hown hgr hat
     have HP:=aA0 (HGx.out.push (by decide) HPA.out HH.out (x:=S) HBa hgr hown hat)
     have HO4:=aA0 (World.ownsRow.kept (HBa.owns HGx.out.own) hgr (aAr HOa.out (HBa.owns HGx.out.own) (by decide)))
     have HI4:=aA0 ((HIx.out.keep HBa).turn HOa.out hgr HO4.out k (.slice A2 (l.length+1) c2));have HX4:=aA0 (aM8 (HBX2.out.keep HBa) (by decide) (by decide) HOa.out hgr HO4.out k (.slice A2 (l.length+1) c2))
     obtain ⟨Aq,cq,hq1,_⟩:=HIx.out.que
     have HNQ4:Hid (bN3 (w4.setCell ⟨gP,k,none⟩ (.slice A2 (l.length+1) c2)) b7 bx):=fun v hv=>by
      have b:=aM8 (hq1.keep HBa) (by decide) (by decide) HOa.out hgr HO4.out k (.slice A2 (l.length+1) c2)
      rw [b.cell 0 (v := .slice Aq Q.length cq) rfl] at hv;injection hv with hv;subst hv
      exact HNQ.out _ (hq1.cell 0 rfl)
     obtain ⟨g1,e1,_,hl4,hc4,hf4⟩:=aAn HO4.out HH.out;obtain rfl:gP=g1:=by simpa using e1
     have hX4:=(HBX2.out.keep HBa).grown hgr ((HBX2.out.keep HBa).apart HOa.out (by decide))
     have hz4:=hX4.cell 0 (v := .int .i64 (k:Int)) rfl;have hz5:=hX4.cell 1 (v := .int .u32 (S:Int)) rfl;have hg4:=hX4.lt;refine hK.out _ _ (fun _=>⟨hz4,hz5,hc4,hg4,hl4⟩) ?_
     clear hK K hown hgr hat
     (try simp only [Act.put,List.setIfInBounds_toArray,List.set_cons_zero,List.set_cons_succ])
     have hHeld:w4.cell? ⟨bx,0,none⟩=some (.int .i64 (k:Int))/\w4.cell? ⟨bx,1,none⟩=some (.int .u32 (S:Int))/\w4.cell? ⟨gP,k,none⟩=some (.slice A1 l.length c1)/\bx<w4.heap.size/\gP<w4.heap.size:=⟨hz4,hz5,hc4,hg4,hl4⟩
     (refine aA6.t (v:=?_) 12 62 rfl rfl (by kernel_rfl) (fun _ _ _ h=>h) hHeld (Or.inl ⟨by rfl,?_⟩) ?_;rotate_left 1;focus (intro w' hSw;(try dsimp only at hSw);go_simp;(try with_reducible rfl);done))
     (refine aA6.one (i:=13) (by kernel_rfl) rfl (fun K hK=>?_));go_simp;refine hK.out _ _ (fun h=>absurd rfl h) ?_;clear hK K;refine aA6.done (by kernel_rfl) ?_ _;(try simp only [Act.put,List.setIfInBounds_toArray,List.set_cons_zero,List.set_cons_succ])
     clear hHeld hz4 hz5 hc4 hg4 hl4 hf4 hX4 hq1 HO4 HB HBa HNEW HOa HO HH HPA;rw [HPE.out] at HP;generalize w4.setCell ⟨gP,k,none⟩ (.slice A2 (l.length+1) c2)=w5 at *;have HPN:=aA0 HP.out;have hbel5:=HI4.out.bel;obtain ⟨bB,oB,R,rc,rfl,hbB,x20,hR,_,_⟩:=(HA.out _ HW0.out).at_ k hkn;have hark:s.arcs[k]=aA8 s.arcs k:=by simp [aA8,hkn]
     rw [hark] at x20 hR;have y2:=(hbel5.cell hbB).trans x20;have hbB2:=Nat.lt_of_lt_of_le hbB hbel5.size;have HRR:=aA0 (fun w' (kk:Bel W0 w')=>hR.keep kk);have y1:=(HBX.out.keep hbel5).cell 1 (v := .slice (some ⟨bB,oB,none⟩) s.arcs.length cA) rfl;have yl:=(HBX.out.keep hbel5).lt;have z0:=HX4.out.cell 0 (v := .int .i64 (k:Int)) rfl;have zl:=HX4.out.lt;have hJ:=H70.out k;clear hR x20 hbB hbel5 HP
     go_wp2_with fail
     clear y1 y2 yl z0 zl hbB2
     go_loopg [15,16,17,70] (aA8 s.arcs k).length (fun m _a _b _c z wr=>∃ (j:Nat) (Q2:List (Nat × Nat)) (hs2:List Value),j<=(aA8 s.arcs k).length/\m=(aA8 s.arcs k).length-j/\z = .int .i64 (j:Int)/\i+1<=Q2.length/\Hid (AddI W0 b3 b6 b7 bm A kc s.arcs.length set G Q2 wr)/\Hid (bP0 W0.heap.size wr gP s.arcs.length hs2 (bDa s.arcs.length Q2 (i+1)))/\Hid (Blk wr bx #[.int .i64 (k:Int),.int .u32 (S:Int)] 150)/\Hid (bN3 wr b7 bx))
     case atStart=>exact ⟨0,Q,_,by omega,rfl,rfl,by omega,HI4.out,HPN.out,HX4.out,HNQ4.out⟩
     case round =>
      clear HI4 HPN HX4 HNQ4;obtain ⟨j,Q2,hs2,hj,rfl,rfl,hi2,HI,HG,HX,HN⟩:=hrel
      by_cases hlt2:j<(aA8 s.arcs k).length
      .have hd1:decide (j<(aA8 s.arcs k).length)=true:=by simpa using hlt2
       obtain ⟨b2,o2,rfl,hb2,c0,c1⟩:=aAc.at_ (HRR.out _ HI.out.bel) j hlt2;have hmem:=List.getElem_mem hlt2;obtain ⟨hx1,hx2⟩:=HTO.out k _ hmem;have hx3:=HW32.out k _ hmem;have hx4:=HGO.out k S hkn hS16 hkc HGk.out _ hmem;generalize (aA8 s.arcs k)[j]=x at *;have htK:x.2=((toK x:Nat):Int):=by unfold toK;omega
       have htl:toK x<s.arcs.length:=by unfold toK;omega
       rw [htK] at c1;have HX4:=aA0 hx4;clear htK hx1 hx2 hmem hx4;generalize toK x=t at *;generalize x.1=T at *;have hAE:=aA0 (aWh (S:=S) (T:=T) (H16.out t));have y0:=(HBX.out.keep HI.out.bel).cell 0 (v := .slice AE s.enabled.length cE) rfl;have y1:=(HBX.out.keep HI.out.bel).cell 1 (v := .slice (some ⟨bB,oB,none⟩) s.arcs.length cA) rfl;have yl:=(HBX.out.keep HI.out.bel).lt;have z0:=HX.out.cell 0 (v := .int .i64 (k:Int)) rfl;have z1:=HX.out.cell 1 (v := .int .u32 (S:Int)) rfl;have zl:=HX.out.lt;have h7l:b7<wr.heap.size:=by obtain ⟨_,_,hq,_⟩:=HI.out.que;exact hq.lt
       have hx7:bx≠b7:=by obtain ⟨_,_,hq,_⟩:=HI.out.que;exact HX.out.ne hq (by decide)
       have hDl:aEs S T (s.enabled.getD t 0)<4294967296:=Nat.lt_of_lt_of_le hAE.out (by decide)
       obtain ⟨D,hD⟩:∃ D,D=aEs S T (s.enabled.getD t 0):=⟨_,rfl⟩;rw [<- hD] at hAE HX4 hDl;have HDD:=aA0 hD;clear hD
       go_wp2_with (first
        | (go_at_call 74;refine (aQe _ s k S T t _ (HS.out _ (HW0.out.trans (HI.out.bel.alloc _))) HWF.out (by omega) hx3 (by have:=HEN.out;omega)).mono ?_;rintro e w6 ⟨rfl,hb⟩;rw [<- HDD.out];unfold pv;dsimp only;have HBC:=aA0 ((((Bel.refl wr).alloc (.cells #[.int .u32 (T:Int),.int .i64 (t:Int)] 108)).trans hb).alloc (.cells #[.int .i64 (t:Int),.int .u32 (D:Int)] 150));clear hb)
        | (refine (bGw (HI.out.keep HBC.out) (HSET.out _ HW0.out) (by omega) (t,D) htl hAE.out (fun hc=>HX4.out hc)).mono ?_;rintro e w8 ⟨⟨u,rfl⟩,⟨Q3,hQl,⟨R3,rfl⟩,hI8⟩,hku,hfr⟩;have HI8:=aA0 hI8;have HG8:=aA0 ((HG.out.keep HBC.out).keepU hku);have HF8:=aA0 (hfr bx _ _ (HX.out.keep HBC.out) hx7 (HN.out.keep HBC.out h7l));clear hI8 hku hfr))
       go_roundg ((aA8 s.arcs k).length-(j+1))
       case rel=>exact ⟨j+1,Q2++R3,hs2,by omega,rfl,by go_num,by rw [List.length_append];omega,HI8.out,by rw [bJ5 hi2];exact HG8.out,HF8.out.1,HF8.out.2⟩
       case measure=>omega
      .obtain rfl:j=(aA8 s.arcs k).length:=by omega
       have hd1:decide ((aA8 s.arcs k).length<(aA8 s.arcs k).length)=false:=by simp
       go_wp2_with fail
       go_roundg (16*s.arcs.length-(i+1))
       case rel=>exact ⟨i+1,Q2,hs2,hi2,rfl,by go_num,HI.out,HG.out⟩
       case measure=>omega
    .have hie:i=Q.length:=by omega
     have hd1:decide (i<Q.length)=false:=by simp;omega
     go_wp2_with fail
     refine bodyPost_ret (v := .tuple #[.slice (some ⟨gP,0,none⟩) s.arcs.length s.arcs.length,.int .i64 0]) (by simp [results,Tryz.results73]) rfl ?_
     refine ⟨gP,hs,Q,rfl,HI.out.qup,?_,HW0.out.trans HI.out.bel⟩
     rw [hb3,HLW.out,<- hie];exact HG.out
theorem bMt (l:List Nat) (m:Nat) (h:m<l.length):(l.flatMap bJp)[m]?=some (.int .u32 (l[m]:Int)):=by
 have:=aNs (f:=bJp) (size:=1) (fun _=>rfl) l m l[m] 0 (.int .u32 (l[m]:Int)) (List.getElem?_eq_getElem h) rfl
 rwa [Nat.mul_one] at this
theorem aNh.put' {P:Program} {k e:TypeId} (A:KeyP P k) {w':World} {b n:Nat} {M:Nat × Nat->Int} {x:Nat × Nat} {c:Int} (hx:okP x) {D:DataW Unit} (h1:IsMap D) (h2:∀ x,okP x->D.atKey (sk x) (.lit (.int .i64 0)) = .lit (.int .i64 (M x))) (h:w'.ownsMap P k (plainElem P e) b n (D.put (sk x) (.lit (.int .i64 c)))):aNh P k e w' b n (bOk M x c):=aNh.put A hx ⟨h1,h2⟩ h
theorem aUq (w:World):(zeroValue 3).run prog w = .ok (.int .i64 0) w:=by kernel_rfl
def bOz (n:Nat) (set:List Bool) (G:Nat->Nat->Prop) (f:Nat->Nat->Int) (M:Nat × Nat->Int):Prop:=∀ k S,k<n->S<16->set.getD k false=false->G k S->0<=M (k,S)/\M (k,S)<=f k S
theorem bOz.put {n:Nat} {set:List Bool} {G:Nat->Nat->Prop} {f:Nat->Nat->Int} {M:Nat × Nat->Int} (h:bOz n set G f M) {k S:Nat} {c:Int} (h0:0<=c) (h1:c<=f k S):bOz n set G f (bOk M (k,S) c):=by
 intro k' S' a b d e
 unfold bOk;split
 .rename_i he
  injection he with e1 e2
  subst e1;subst e2;exact ⟨h0,h1⟩
 .exact h k' S' a b d e
theorem aNh.setCell {P:Program} {k e:TypeId} {w:World} {b n:Nat} {M:Nat × Nat->Int} (h:aNh P k e w b n M) {a:Addr} (ha:b≠a.block) (u:Value):aNh P k e (w.setCell a u) b n M:=by
 obtain ⟨D,h1,h2⟩:=h;exact ⟨D,h1.setCell ha u,h2⟩
theorem aNh.off {P:Program} {k e:TypeId} {w:World} {b n:Nat} {M:Nat × Nat->Int} (h:aNh P k e w b n M) {N e' size m g c:Nat} {xs:List Value} (ho:w.ownsRow N e' size (.slice (some ⟨g,0,none⟩) m c) m xs):(some g:Option Nat)≠some b:=by
 obtain ⟨D,h1,_⟩:=h
 rcases bIf h1 ho with h0 | h0
 .simp [Value.ownBlock] at h0
 .intro e;exact h0 (by rw [<- e];simp [Value.ownBlock])
structure RrI (W0:World) (gr n:Nat) (F:Nat->Int) (r:List Int) (wr:World):Prop where
 bel:Bel W0 wr
 res:wr.ownsRow W0.heap.size 3 1 (.slice (some ⟨gr,0,none⟩) n n) n (r.map (Value.int .i64))
 len:r.length=n
 bnd:∀ k,k<n->0<=r.getD k 0/\r.getD k 0<=F k
theorem RrI.put {W0:World} {n gr:Nat} {F:Nat->Int} {r:List Int} {wr:World} (h:RrI W0 gr n F r wr) {k:Nat} {x:Int} (hk:k<n) (h0:0<=x) (h1:x<=F k):RrI W0 gr n F (r.set k x) (wr.setCell ⟨gr,k,none⟩ (.int .i64 x)):=by
 refine ⟨h.bel.setCell (aAb h.res).1 _,?_,by rw [List.length_set];exact h.len,fun j hj=>?_⟩
 .have:=(h.res.stored k (.int .i64 x)).1
  rw [List.map_set];exact this
 .by_cases e:k=j
  .subst e
   have:(r.set k x).getD k 0=x:=by simp [List.getD_eq_getElem?_getD,h.len,hk]
   rw [this];exact ⟨h0,h1⟩
  .have:(r.set k x).getD j 0=r.getD j 0:=by simp [List.getD_eq_getElem?_getD,List.getElem?_set_ne e]
   rw [this];exact h.bnd j hj
theorem RrI.at_ {W0:World} {n gr:Nat} {F:Nat->Int} {r:List Int} {wr:World} (h:RrI W0 gr n F r wr) {k:Nat} (hk:k<n):wr.cell? ⟨gr,k,none⟩=some (.int .i64 (r.getD k 0))/\wr.frozen? ⟨gr,k,none⟩=false/\gr<wr.heap.size:=by
 obtain ⟨g,e,_,h1,h2,h3⟩:=aAn h.res (j:=k) (u := .int .i64 (r.getD k 0)) (by simp [List.getD_eq_getElem?_getD,h.len,hk])
 obtain rfl:gr=g:=by simpa using e
 exact ⟨h2,h3,h1⟩
theorem bFx (v:Value) (s:Spc) (A:Option Addr) (kc:Nat) (set:List Bool) (w:World) (h:aDy w v s) (hB:aGb w A s.arcs.length set) (hl:aE3 s=true) (hwf:wfS s) (hv:aD5 s=true) (hall:∀ o,OrdP s.arcs set s.arcs.length o->s.arcs.length<=o.length)
  (G:Nat->Nat->Prop) (f:Nat->Nat->Int) (h16:∀ k,s.enabled.getD k 0<16) (hf:RndP s.arcs s.enabled set s.arcs.length G f) :
  Calls prog 32 #[v,.slice A s.arcs.length kc] w fun e w'=>∃ (r:List Int) (Ao:Option Addr) (co:Nat),e = .returned (.tuple #[.slice Ao s.arcs.length co,.int .i64 0])/\r.length=s.arcs.length/\(∀ k,k<s.arcs.length->0<=r.getD k 0/\r.getD k 0<=if set.getD k false then 0 else f k (s.enabled.getD k 0))/\w'.ownsRow (w.heap.size+1) 3 1 (.slice Ao s.arcs.length co) s.arcs.length (r.map (Value.int .i64))/\Bel w w':=by
 have HS:=aA0 (fun w' (k:Bel w w')=>h.keep k);obtain ⟨_,hle,h70⟩:=aBo hl;obtain ⟨AE,cE,AA,cA,rfl,hE,hA,_,_,_,_⟩:=h;have HE:=aA0 (fun w' (k:Bel w w')=>hE.keep k);have HA:=aA0 (fun w' (k:Bel w w')=>hA.keep k);have HSET:=aA0 (fun w' (k:Bel w w')=>hB.keep k);have hsl:set.length=s.arcs.length:=hB.1;have HTO:=aA0 (aNe hv);have HEN:=aA0 (aDa hv).1;have HWF:=aA0 hwf;have HL:=aA0 hl;have HV:=aA0 hv;have HALL:=aA0 hall;have H16:=aA0 h16;have HF:=aA0 hf
 have H70:Hid (∀ k,(aA8 s.arcs k).length<=70):=fun k=>by
  unfold aA8;rw [List.getD_eq_getElem?_getD];cases hx:s.arcs[k]? with
  | none=>simp
  | some l=>exact h70 l (List.mem_of_getElem? hx)
 have HW32:Hid (∀ k,∀ x∈aA8 s.arcs k,x.1<4294967296):=fun k x hx=>by
  unfold aA8 at hx;rw [List.getD_eq_getElem?_getD] at hx;cases hk:s.arcs[k]? with
  | none=>rw [hk] at hx;cases hx
  | some l=>rw [hk] at hx;exact hwf.2 l (List.mem_of_getElem? hk) x hx
 clear hl hE hA hB hwf hv h16 hf h70 hall;obtain ⟨j0,hj0,hj1,hj2,hj3⟩:=aBy aJr;obtain ⟨W0,hW0⟩:∃ W:World,W=w.alloc (.cells #[.slice AE s.enabled.length cE,.slice AA s.arcs.length cA] 42):=⟨_,rfl⟩;have e0:W0.heap.size=w.heap.size+1:=by rw [hW0];exact World.size_alloc _ _
 have HW0:Hid (Bel w W0):=by rw [hW0];exact (Bel.refl w).alloc _
 have HBX:Hid (Blk W0 w.heap.size #[.slice AE s.enabled.length cE,.slice AA s.arcs.length cA] 42):=by rw [hW0];exact Blk.new w _ _
 have hmm:=@run_makeMap prog;go_enter func32,ntmps32
 go_wp2_with (first
  | (go_at_call 72;rw [<- hW0];refine (aTv _ s _ _ set _ (HS.out _ HW0.out) (HSET.out _ HW0.out) HL.out HWF.out HV.out HALL.out).mono ?_;rintro e w1 ⟨o,Ao,co,rfl,ho,hown,hb⟩;have HO:=aA0 ho;have HOW:=aA0 hown;have HB1:=aA0 hb;have x0:=(HBX.out.keep hb).cell 0 (v := .slice AE s.enabled.length cE) rfl;have x1:=(HBX.out.keep hb).cell 1 (v := .slice AA s.arcs.length cA) rfl;have xl:=(HBX.out.keep hb).lt;clear ho hown hb)
  | (go_at_call 73;refine (aVl _ s _ _ set _ (HS.out _ (HW0.out.trans HB1.out)) (HSET.out _ (HW0.out.trans HB1.out)) HL.out HWF.out HV.out G H16.out HF.out.start (fun k S a b c d x e g=>(HF.out.go k S a b c d x e g).1)).mono ?_;rintro e w2 ⟨gP,hs,Q,rfl,hq,hp,hb⟩;have HQ:=aA0 hq;have HP:=aA0 hp;have HB2:=aA0 hb;clear hq hp hb))
 clear x0 x1 xl;have hol:=HO.out.len;have hql:=HQ.out.len;have HOm:=aA0 (HB2.out.owns HOW.out);have HBW:=aA0 (HB1.out.trans HB2.out);have hgP:=HP.out.lt;have HM0:∃ (nm:Nat) (M:Nat × Nat->Int),nm=0/\Hid (aNh prog 150 3 (w2.alloc (.map #[] 0)) w2.heap.size nm M)/\Hid (bOz s.arcs.length set G f M):=⟨0,_,rfl,aNh.made _ _ _ w2,fun k S a b c d=>⟨by omega,by have:=(HF.out.pos k S a b c d).1;show (0:Int)<=f k S;omega⟩⟩
 obtain ⟨nm,M,hnm,HM,HBN⟩:=HM0;have HBm:=aA0 ((Bel.refl w2).alloc (.map #[] 0));clear HOW HB1 HB2;generalize w2.alloc (.map #[] 0)=w3 at *;have hw0s:=HBW.out.size
 go_loopg [11,13,14,15,17,18,19,44] o.length (fun m _a _b _c _d _e _f _g z wr=>∃ (i nm:Nat) (M:Nat × Nat->Int),i<=o.length/\m=o.length-i/\z = .int .i64 (i:Int)/\nm<=i*12000/\Hid (aNh prog 150 3 wr w2.heap.size nm M)/\Hid (bOz s.arcs.length set G f M)/\Hid (Bel w2 wr))
 case atStart=>exact ⟨0,nm,M,by omega,rfl,rfl,by omega,HM.out,HBN.out,HBm.out⟩
 case round =>
  clear HM HBN HBm hnm;obtain ⟨wo,rfl⟩:∃ wo:World,wo=wr:=⟨_,rfl⟩;obtain ⟨i,nm,M,hi,rfl,rfl,hnm,HM,HBN,HB⟩:=hrel
  by_cases hlt:i<o.length
  .have hd0:decide (i<o.length)=true:=by simpa using hlt
   have hkn:o[i]<s.arcs.length:=HO.out.lt _ (List.getElem_mem hlt);obtain ⟨g0,rfl,_,l0,c0,_⟩:=aAn (HB.out.owns HOm.out) (j:=i) (u:=aPv o[i]) (by simp [hlt])
   unfold aPv at c0;obtain ⟨k,hk⟩:∃ k,k=o[i]:=⟨_,rfl⟩;rw [<- hk] at c0 hkn;clear hk;have hkd:decide (k<s.arcs.length)=true:=by simpa using hkn
   obtain ⟨A1,c1,hc2,_,ho,_⟩:=HP.out.head (aOh hkn);have hc:=(HB.out.cell hgP.2).trans hc2;have hgl:=Nat.lt_of_lt_of_le hgP.2 HB.out.size;clear hc2;have hpl:=aYu Q Q.length k;have HPQ:Hid (∀ S,S∈aJa Q Q.length k->k<s.arcs.length/\S<16/\set.getD k false=false/\G k S):=fun S hS=>HQ.out.pend hS;have HROW:=aA0 (fun w' (kk:Bel w2 w')=>kk.owns ho);clear ho;generalize aJa Q Q.length k=l at *
   go_wp2_with fail
   clear c0 hc l0
   go_loopg [13,14,15,17,18,19,53] l.length (fun m _b _c _d _e _f _g z wr=>∃ (j nm:Nat) (M:Nat × Nat->Int),j<=l.length/\m=l.length-j/\z = .int .i64 (j:Int)/\nm<=i*12000+j/\Hid (aNh prog 150 3 wr w2.heap.size nm M)/\Hid (bOz s.arcs.length set G f M)/\Hid (Bel w2 wr))
   case atStart=>exact ⟨0,nm,M,by omega,by omega,rfl,by omega,HM.out,HBN.out,HB.out⟩
   case round =>
    clear HM HBN hnm;obtain ⟨wp,rfl⟩:∃ wp:World,wp=wr:=⟨_,rfl⟩;obtain ⟨j,nm,M,hj,rfl,rfl,hnm,HM,HBN,HBw⟩:=hrel
    by_cases hlt2:j<l.length
    .have hd1:decide (j<l.length)=true:=by simpa using hlt2
     obtain ⟨g1,rfl,_,l1,k1,_⟩:=aAn (HROW.out _ HBw.out) (bMt l j hlt2);obtain ⟨_,hS16,hkc,hGk⟩:=HPQ.out _ (List.getElem_mem hlt2);obtain ⟨S,hS⟩:∃ S,S=l[j]:=⟨_,rfl⟩;rw [<- hS] at k1 hS16 hGk;have HGk:=aA0 hGk;clear hS hGk;have hb0:=aA0 (HBW.out.trans HBw.out);obtain ⟨bB,oB,R,rc,rfl,hbB,x20,hR,_,_⟩:=(HA.out _ HW0.out).at_ k hkn;have hark:s.arcs[k]=aA8 s.arcs k:=by simp [aA8,hkn]
     rw [hark] at x20 hR;have y2:=(hb0.out.cell hbB).trans x20;have hbB2:=Nat.lt_of_lt_of_le hbB hb0.out.size;have HRR:=aA0 (fun w' (kk:Bel W0 w')=>hR.keep kk);have y1:=(HBX.out.keep hb0.out).cell 1 (v := .slice (some ⟨bB,oB,none⟩) s.arcs.length cA) rfl;have yl:=(HBX.out.keep hb0.out).lt;have hJ:=H70.out k;obtain ⟨hp1,hp2⟩:=HF.out.pos k S hkn hS16 hkc HGk.out;clear hR x20 hbB
     go_wp2_with fail
     have HBX2:=aA0 (Blk.new wp #[.int .i64 (k:Int),.int .u32 (S:Int)] 150);have HBq:=aA0 ((Bel.refl wp).alloc (.cells #[.int .i64 (k:Int),.int .u32 (S:Int)] 150));have HMq:=aA0 (HM.out.keep HBq.out);have HBw2:=aA0 (HBw.out.trans HBq.out);clear k1 l1 y2 hbB2 y1 yl hb0 HM HBq HBw;generalize wp.alloc (.cells #[.int .i64 (k:Int),.int .u32 (S:Int)] 150)=wq at *;generalize wp.heap.size=bx at *
     go_loopg [15,17,18,19,66] (aA8 s.arcs k).length (fun m y _a _b _c z wr=>∃ (q:Nat) (most:Int),q<=(aA8 s.arcs k).length/\m=(aA8 s.arcs k).length-q/\y = .int .i64 most/\z = .int .i64 (q:Int)/\1<=most/\most<=f k S/\Hid (Bel wq wr))
     case atStart=>exact ⟨0,1,by omega,by omega,rfl,rfl,by omega,by omega,Bel.refl _⟩
     case round =>
      obtain ⟨q,most,hq,rfl,rfl,rfl,hm1,hm2,HBQ⟩:=hrel;have hbr:=aA0 (HBW.out.trans (HBw2.out.trans HBQ.out))
      by_cases hlt3:q<(aA8 s.arcs k).length
      .have hd2:decide (q<(aA8 s.arcs k).length)=true:=by simpa using hlt3
       obtain ⟨b2,o2,rfl,hb2,c0,c1⟩:=aAc.at_ (HRR.out _ hbr.out) q hlt3;have hmem:=List.getElem_mem hlt3;obtain ⟨hx1,hx2⟩:=HTO.out k _ hmem;have hx3:=HW32.out k _ hmem;have hx4:=HF.out.go k S hkn hS16 hkc HGk.out _ hmem;generalize (aA8 s.arcs k)[q]=x at *;have htK:x.2=((toK x:Nat):Int):=by unfold toK;omega
       have htl:toK x<s.arcs.length:=by unfold toK;omega
       rw [htK] at c1;have HX4:=aA0 hx4;clear htK hx1 hx2 hmem hx4;generalize toK x=t at *;generalize x.1=T at *;obtain ⟨bA,oA,rfl,hbA,a1⟩:=(HSET.out _ (HW0.out.trans hbr.out)).at_ t (by rw [hsl];exact htl)
       have hgs:set[t]'(by rw [hsl];exact htl)=set.getD t false:=by simp [List.getD_eq_getElem?_getD,hsl,htl]
       rw [hgs] at a1;have htd:decide (t<s.arcs.length)=true:=by simpa using htl
       clear hgs;cases hct:set.getD t false with
       | true =>
        rw [hct] at a1
        go_wp2_with fail
        go_roundg ((aA8 s.arcs k).length-(q+1))
        case rel=>exact ⟨q+1,most,by omega,rfl,rfl,by go_num,hm1,hm2,HBQ.out.alloc _⟩
        case measure=>omega
       | false =>
        rw [hct] at a1;have y0:=(HBX.out.keep hbr.out).cell 0 (v := .slice AE s.enabled.length cE) rfl;have y1:=(HBX.out.keep hbr.out).cell 1 (v := .slice (some ⟨bB,oB,none⟩) s.arcs.length cA) rfl;have yl:=(HBX.out.keep hbr.out).lt;have z0:=(HBX2.out.keep HBQ.out).cell 0 (v := .int .i64 (k:Int)) rfl;have z1:=(HBX2.out.keep HBQ.out).cell 1 (v := .int .u32 (S:Int)) rfl;have zl:=(HBX2.out.keep HBQ.out).lt;have hD16:=aWh (S:=S) (T:=T) (H16.out t);obtain ⟨hgt,hc2⟩:=HX4.out hct;obtain ⟨hn0,hn1⟩:=HBN.out t _ htl hD16 hct hgt;have hf9:=(HF.out.pos t _ htl hD16 hct hgt).2;obtain ⟨D,hD⟩:∃ D,D=aEs S T (s.enabled.getD t 0):=⟨_,rfl⟩;rw [<- hD] at hD16 hgt hc2 hn0 hn1 hf9;obtain ⟨mt,hmt⟩:∃ mt,mt=M (t,D):=⟨_,rfl⟩;rw [<- hmt] at hn0 hn1;have HDD:=aA0 hD;have HMT:=aA0 hmt;have hokD:okP (t,D):=⟨by show t<1000000;omega,by show D<4294967296;omega⟩
        clear hD hmt hgt;cases hfu:aSc S T (s.enabled.getD t 0) with
        | true =>
         rw [hfu] at hc2;rw [if_pos rfl] at hc2;have e1:IntKind.i64.wrap (1+mt)=1+mt:=IntWalk.i64_in _ (by omega)
         go_wp2_with (go_at_call 74;refine (aQe _ s k S T t _ (HS.out _ (HW0.out.trans (hbr.out.alloc _))) HWF.out (by omega) hx3 (by have:=HEN.out;omega)).mono ?_;rintro e w6 ⟨rfl,hb⟩;rw [<- HDD.out,hfu];unfold pv;dsimp only;have HBC:=aA0 ((((Bel.refl wr).alloc (.cells #[.int .u32 (T:Int),.int .i64 (t:Int)] 108)).trans hb).alloc (.cells #[.int .i64 (t:Int),.int .u32 (D:Int)] 150));have hlook:=(HMq.out.keep (HBQ.out.trans HBC.out)).look pairKey underlying148 underlying3 (aUq _) (x:=(t,D)) hokD;rw [<- HMT.out] at hlook;unfold pv at hlook;dsimp only at hlook;clear hb)
         go_roundg ((aA8 s.arcs k).length-(q+1))
         case rel=>exact ⟨q+1,max most (1+mt),by omega,rfl,rfl,by go_num,by omega,by omega,HBQ.out.trans HBC.out⟩
         case measure=>omega
        | false =>
         rw [hfu] at hc2;rw [if_neg (by simp)] at hc2
         go_wp2_with (go_at_call 74;refine (aQe _ s k S T t _ (HS.out _ (HW0.out.trans (hbr.out.alloc _))) HWF.out (by omega) hx3 (by have:=HEN.out;omega)).mono ?_;rintro e w6 ⟨rfl,hb⟩;rw [<- HDD.out,hfu];unfold pv;dsimp only;have HBC:=aA0 ((((Bel.refl wr).alloc (.cells #[.int .u32 (T:Int),.int .i64 (t:Int)] 108)).trans hb).alloc (.cells #[.int .i64 (t:Int),.int .u32 (D:Int)] 150));have hlook:=(HMq.out.keep (HBQ.out.trans HBC.out)).look pairKey underlying148 underlying3 (aUq _) (x:=(t,D)) hokD;rw [<- HMT.out] at hlook;unfold pv at hlook;dsimp only at hlook;clear hb)
         go_roundg ((aA8 s.arcs k).length-(q+1))
         case rel=>exact ⟨q+1,max most mt,by omega,rfl,rfl,by go_num,by omega,by omega,HBQ.out.trans HBC.out⟩
         case measure=>omega
      .obtain rfl:q=(aA8 s.arcs k).length:=by omega
       have hd2:decide ((aA8 s.arcs k).length<(aA8 s.arcs k).length)=false:=by simp
       obtain ⟨D,hD1,hD2,hD3⟩:=HMq.out.keep HBQ.out;have HD1:=aA0 hD1;have HD2:=aA0 hD2;have HD3:=aA0 hD3;have z0:=(HBX2.out.keep HBQ.out).cell 0 (v := .int .i64 (k:Int)) rfl;have z1:=(HBX2.out.keep HBQ.out).cell 1 (v := .int .u32 (S:Int)) rfl;have zl:=(HBX2.out.keep HBQ.out).lt;have hok:okP (k,S):=⟨by show k<1000000;omega,by show S<4294967296;omega⟩
       clear hD1 hD2 hD3
       go_wp2_with (at_mapUpdate;refine wpList_mapUpdate_own _ rfl (.tmp 95) (.tmp 96) (.tmp 97) 148 rfl 150 3 aVe underlying148 _ w2.heap.size nm D rfl HD1.out (by unfold maxLen;omega) (pv (k,S)) _ _ rfl rfl (pairKey.keyOf hok) _ [] (plainElem_int underlying3 (WalkArith.wf_i64 (by omega))) ?_;intro w9 hown hgr;have HM9:=aA0 (aNh.put' pairKey hok HD2.out HD3.out hown);have HB9:=aA0 ((HBw2.out.trans HBQ.out).map (Nat.le_refl _) hgr);clear hown hgr)
       go_roundg (l.length-(j+1))
       case rel=>exact ⟨j+1,nm+1,bOk M (k,S) most,by omega,rfl,by go_num,by omega,HM9.out,HBN.out.put (by omega) hm2,HB9.out⟩
       case measure=>omega
    .obtain rfl:j=l.length:=by omega
     have hd1:decide (l.length<l.length)=false:=by simp
     go_wp2_with fail
     go_roundg (o.length-(i+1))
     case rel=>exact ⟨i+1,nm,M,by omega,rfl,by go_num,by omega,HM.out,HBN.out,HBw.out⟩
     case measure=>omega
  .obtain rfl:i=o.length:=by omega
   have hd0:decide (o.length<o.length)=false:=by simp
   have hb0:=aA0 (HBW.out.trans HB.out);have y0:=(HBX.out.keep hb0.out).cell 0 (v := .slice AE s.enabled.length cE) rfl;have yl:=(HBX.out.keep hb0.out).lt
   go_wp2_with (at_make;refine aB6 _ rfl 22 (.tmp 101) (.tmp 101) rfl w2.heap.size 3 j0 (.int .i64 0) 1 underlying22 hj0 hj1 hj2 .i64 .i64 s.arcs.length rfl rfl (by rw [hj3];omega) (by unfold maxLen;omega) HB.out.size ?_;intro gr wm hown hb;rw [aB5 _ rfl] at hown;have HR:=aA0 hown;have HBm:=aA0 (HB.out.trans hb);have HMm:=aA0 (HM.out.keep hb);have y0:=(HBX.out.keep (hb0.out.trans hb)).cell 0 (v := .slice AE s.enabled.length cE) rfl;have yl:=(HBX.out.keep (hb0.out.trans hb)).lt;clear hown hb)
   have hI:RrI w2 gr s.arcs.length (fun k=>if set.getD k false then 0 else f k (s.enabled.getD k 0)) (List.replicate s.arcs.length 0) wm:=by
    refine ⟨HBm.out,by rw [List.map_replicate];exact HR.out,by simp,fun k hk=>?_⟩
    have:(List.replicate s.arcs.length (0:Int)).getD k 0=0:=by simp [List.getD_eq_getElem?_getD,hk]
    rw [this];refine ⟨Int.le_refl _,?_⟩
    show (0:Int)<=(if set.getD k false=true then 0 else f k (s.enabled.getD k 0))
    cases hc:set.getD k false with
    | true=>rw [if_pos rfl];exact Int.le_refl _
    | false=>rw [if_neg (by decide)];have:=(HF.out.pos k _ hk (H16.out k) hc (HF.out.start k hk hc)).1;omega
   have hen:s.enabled.length=s.arcs.length:=HEN.out.symm;rw [hen];clear hen HR HBm y0 yl HB HM hb0
   go_loopg [21,22,106] s.arcs.length (fun m _a _b z wr=>∃ (k:Nat) (r:List Int),k<=s.arcs.length/\m=s.arcs.length-k/\z = .int .i64 (k:Int)/\Hid (RrI w2 gr s.arcs.length (fun k=>if set.getD k false then 0 else f k (s.enabled.getD k 0)) r wr)/\Hid (aNh prog 150 3 wr w2.heap.size nm M))
   case atStart=>exact ⟨0,_,by omega,rfl,rfl,hI,HMm.out⟩
   case round =>
    clear hI HMm;obtain ⟨k,r,hk,rfl,rfl,HI,HM⟩:=hrel;have hbr:=aA0 (HBW.out.trans HI.out.bel)
    by_cases hlt:k<s.arcs.length
    .have hd1:decide (k<s.arcs.length)=true:=by simpa using hlt
     obtain ⟨bE,oE,rfl,hbE,e1⟩:=(HE.out _ (HW0.out.trans hbr.out)).at_ k (by rw [<- HEN.out];exact hlt)
     have hgs:s.enabled[k]'(by rw [<- HEN.out];exact hlt)=s.enabled.getD k 0:=by have:=HEN.out;simp [List.getD_eq_getElem?_getD,show k<s.enabled.length by omega]
     rw [hgs] at e1;obtain ⟨bA,oA,rfl,hbA,a1⟩:=(HSET.out _ (HW0.out.trans hbr.out)).at_ k (by rw [hsl];exact hlt)
     have hgs2:set[k]'(by rw [hsl];exact hlt)=set.getD k false:=by simp [List.getD_eq_getElem?_getD,hsl,hlt]
     rw [hgs2] at a1;clear hgs hgs2;have h16k:=H16.out k;obtain ⟨r1,r2,r3⟩:=HI.out.at_ hlt;obtain ⟨Ek,hEk⟩:∃ z,z=s.enabled.getD k 0:=⟨_,rfl⟩;rw [<- hEk] at e1 h16k;have HEK:=aA0 hEk;clear hEk;cases hc:set.getD k false with
     | true =>
      rw [hc] at a1
      go_wp2_with fail
      go_roundg (s.arcs.length-(k+1))
      case rel=>exact ⟨k+1,r,by omega,rfl,by go_num,HI.out,HM.out⟩
      case measure=>omega
     | false =>
      rw [hc] at a1;have hstk:=HF.out.start k hlt hc;rw [<- HEK.out] at hstk;obtain ⟨hn0,hn1⟩:=HBN.out k _ hlt h16k hc hstk;clear hstk;have hok:okP (k,Ek):=⟨by show k<1000000;omega,by show Ek<4294967296;omega⟩
      have hlook:=HM.out.look pairKey underlying148 underlying3 (aUq _) (x:=(k,Ek)) hok;unfold pv at hlook;dsimp only at hlook
      go_wp2_with fail
      go_roundg (s.arcs.length-(k+1))
      case rel=>exact ⟨k+1,r.set k (M (k,Ek)),by omega,rfl,by go_num,HI.out.put hlt hn0 (by show M (k,Ek)<=(if set.getD k false=true then 0 else f k (s.enabled.getD k 0));rw [hc,if_neg (by decide),<- HEK.out];exact hn1),HM.out.setCell (fun e=>HM.out.off HI.out.res (by rw [e])) _⟩
      case measure=>omega
    .obtain rfl:k=s.arcs.length:=by omega
     have hd1:decide (s.arcs.length<s.arcs.length)=false:=by simp
     go_wp2_with fail
     refine bodyPost_ret (v := .tuple #[.slice (some ⟨gr,0,none⟩) s.arcs.length s.arcs.length,.int .i64 0]) (by simp [results,Tryz.results32]) rfl ?_
     exact ⟨r,_,_,rfl,HI.out.len,HI.out.bnd,aB9 HI.out.res (by omega),HW0.out.trans hbr.out⟩
def aE8 (s:Spc):List Bool:=s.enabled.map fun E=>decide (E=0)
theorem aN8 (s:Spc):(aE8 s).length=s.enabled.length:=by simp [aE8]
theorem bGc {s:Spc} {k:Nat} (hk:k<s.enabled.length):(aE8 s).take (k+1)=(aE8 s).take k++[decide (s.enabled[k]=0)]:=by
 rw [List.take_succ_eq_append_getElem (by rw [aN8];exact hk)]
 simp [aE8]
theorem aNk:(prog.info? 4).map (fun i=>(i.zero,i.size,i.bytes))=some (some (.bool false),1,1):=by kernel_rfl
theorem aVc {w:World} {base:Nat} {e:TypeId} {n c:Nat} {A:Option Addr} {xs:List Value} (h:w.ownsRow base e 1 (.slice A n c) n xs) {m:Nat} (hm:n=m):w.ownsRow base e 1 (.slice A m c) m xs:=by subst hm;exact h
theorem aZ7 (v1:Value) (p:Prg) (v2:Value) (g:Graph) (kind moves rounds:Int) (w:World) (h:aKy w v1 p) (h2:aB7 w v2 g) (hT:aDr w) (hL:aCi p=true) (hG:aC7 g=true) (hfew:(aDx p g).2=0->aE7 p g<=700/\g.ports.length<=5)
  (s:Spc) (hbd:aJl p g kind=(s,0)) (hl:aE3 s=true) (hwf:wfS s) (hv:aD5 s=true) (h16:∀ k,s.enabled.getD k 0<16) (hall:∀ o,OrdP s.arcs (aE8 s) s.arcs.length o->s.arcs.length<=o.length)
  (f:Nat->Int) (hf:CostP s.arcs (aE8 s) s.arcs.length (fun x=>((aAg x.1).length:Int)) f) (hfm:∀ k,k<s.arcs.length->f k<=moves)
  (G:Nat->Nat->Prop) (fr:Nat->Nat->Int) (hr:RndP s.arcs s.enabled (aE8 s) s.arcs.length G fr) (hrm:∀ k,k<s.arcs.length->(aE8 s).getD k false=false->fr k (s.enabled.getD k 0)<=rounds) (hm0:0<=moves) (hr0:0<=rounds) :
  Calls prog 11 #[v1,v2,.int .i64 kind,.int .i64 moves,.int .i64 rounds] w fun e w'=>e = .returned (.bool true)/\Bel w w':=by
 have HPV:=aA0 (fun w' (k:Bel w w')=>h.keep k);have HGV:=aA0 (fun w' (k:Bel w w')=>h2.keep k);have HT:=aA0 (fun w' (k:Bel w w')=>hT.keep k);obtain ⟨A1,k1,A2,k2,rfl,_,_,_,_,_,_⟩:=h;obtain ⟨A3,k3,A4,k4,rfl,_,_,_,_,_,_⟩:=h2;have HL:=aA0 hL;have HG:=aA0 hG;have HFW:=aA0 hfew;have HBD:=aA0 hbd;have HLI:=aA0 hl;have HWF:=aA0 hwf;have HVA:=aA0 hv;have HEN:=aA0 (aDa hv).1;have H16:=aA0 h16;have HALL:=aA0 hall;have HF:=aA0 hf;have HFM:=aA0 hfm;have HR:=aA0 hr;have HRM:=aA0 hrm;have hle:=(aBo hl).1;clear hT hL hG hfew hbd hl hwf hv h16 hall hf hfm hr hrm;obtain ⟨j0,hj0,hj1,hj2,hj3⟩:=aBy aNk;have HB0:=aA0 (((Bel.refl w).alloc (.cells #[.string p.name,.slice A1 p.vars.length k1,.slice A2 p.rules.length k2] 31)).alloc (.cells #[.slice A3 g.ids.length k3,.slice A4 g.ports.length k4] 25));go_enter func11,ntmps11
 go_wp2_with (first
  | (go_at_call 12;go_must (have hbd:=aHw _ p _ g kind _ (HPV.out _ HB0.out) (HGV.out _ HB0.out) (HT.out _ HB0.out) HL.out HG.out HFW.out;rw [HBD.out] at hbd;refine hbd.mono ?_;rintro e w1 ⟨v,rfl,hS,hb⟩;have HS1:=aA0 (fun w' (k:Bel w1 w')=>hS.keep k);obtain ⟨AE,cE,AA,cA,rfl,hE,_⟩:=(id hS:aDy _ _ _);have HE1:=aA0 (fun w' (k:Bel w1 w')=>hE.keep k);have HBw:=aA0 (HB0.out.trans hb);have HBX:=aA0 (Blk.new w1 #[.slice AE s.enabled.length cE,.slice AA s.arcs.length cA] 42);have HB1:=aA0 ((Bel.refl w1).alloc (.cells #[.slice AE s.enabled.length cE,.slice AA s.arcs.length cA] 42));clear hS hb hE hbd))
  | (go_at_call 17;refine (aOk _ s _ (HS1.out _ HB1.out) HWF.out HLI.out).mono ?_;rintro e w2 ⟨rfl,hb⟩;rw [HVA.out];have HB2:=aA0 (HB1.out.trans hb);have HX2:=aA0 (HBX.out.keep hb);clear hb))
 go_loopg [13,14] s.enabled.length (fun m y z wr=>∃ (k:Nat) (A:Option Addr) (c:Nat),k<=s.enabled.length/\m=s.enabled.length-k/\y = .slice A k c/\z = .int .i64 (k:Int)/\Hid (wr.ownsRow w2.heap.size 4 1 (.slice A k c) k (((aE8 s).take k).map Value.bool))/\Hid (Bel w2 wr))
 case atStart=>exact ⟨0,none,0,by omega,rfl,rfl,rfl,World.ownsRow_nil _ _ _ _,Bel.refl _⟩
 case round =>
  obtain ⟨k,A,c,hk,rfl,rfl,rfl,HO,HB⟩:=hrel;have x0:=(HX2.out.keep HB.out).cell 0 (v := .slice AE s.enabled.length cE) rfl;have xl:=(HX2.out.keep HB.out).lt
  by_cases hlt:k<s.enabled.length
  .have hd0:decide (k<s.enabled.length)=true:=by simpa using hlt
   obtain ⟨bE,oE,rfl,hbE,e1⟩:=(HE1.out _ (HB2.out.trans HB.out)).at_ k hlt;have HTS:=aA0 (bGc hlt);generalize s.enabled[k]=E at *;have hbz:((E:Int)==0)=decide (E=0):=by rw [Bool.eq_iff_iff];simp
   generalize decide (E=0)=bz at *;have hwr:=HB.out.size
   go_wp2_with (at_builtin;refine aCh _ rfl (.tmp 41) (.tmp 48) 45 rfl w2.heap.size 4 j0 (.bool false) 1 1 underlying45 hj0 hj1 hj2 hj3 rfl (by decide) A k c (((aE8 s).take k).map Value.bool) (by simp [Act.eval]) (HO.out.alloc _) wr.heap.size #[.bool bz] 4 (0,0) (by simp [Act.eval]) (aB4 _ _) rfl (bM5 _) (by unfold maxLen;omega) (by omega) (by simp;omega) ?_;intro A2 c2 w4 hown hgr hat;have HN:=aA0 hown;have HB4:=aA0 ((HB.out.alloc (.cells #[.bool bz] 4)).push (HO.out.alloc _) hgr);clear hown hgr hat)
   go_roundg (s.enabled.length-(k+1))
   case rel=>exact ⟨k+1,A2,c2,by omega,rfl,rfl,by go_num,by rw [HTS.out,List.map_append];exact HN.out,HB4.out⟩
   case measure=>omega
  .obtain rfl:k=s.enabled.length:=by omega
   have hd0:decide (s.enabled.length<s.enabled.length)=false:=by simp
   have HLG:=aA0 (fun w' (kk:Bel wr w')=>aJy (l:=aE8 s) (aVc (kk.owns (show wr.ownsRow w2.heap.size 4 1 (.slice A s.enabled.length c) s.enabled.length ((aE8 s).map Value.bool) from by have:=HO.out;rwa [List.take_of_length_le (by rw [aN8];omega)] at this)) HEN.out.symm))
   have HBr:=aA0 (HB2.out.trans HB.out);clear HO
   go_upto_region 9 with fail
   rw [show s.enabled.length=s.arcs.length from HEN.out.symm]
   have HXr:=aA0 (HX2.out.keep HB.out);have hnw:=HB.out.size;have x1:=HXr.out.cell 1 (v := .slice AA s.arcs.length cA) rfl
   go_wp2_with (first
    | (go_at_call 31;refine (aSo _ s A c (aE8 s) _ (HS1.out _ HBr.out) (HLG.out _ (Bel.refl wr)) HLI.out HWF.out HVA.out HALL.out f HF.out).mono ?_;rintro e w3 ⟨r1,B1,d1,rfl,hr1,hb1,ho1,hb⟩;have HB3:=aA0 hb;have HO1:=aA0 ho1;have HN1:=aA0 hb1;have q0:=(HXr.out.keep hb).cell 0 (v := .slice AE s.enabled.length cE) rfl;have q1:=(HXr.out.keep hb).cell 1 (v := .slice AA s.arcs.length cA) rfl;have ql:=(HXr.out.keep hb).lt;clear hb ho1 hb1)
    | (go_at_call 32;refine (bFx _ s A c (aE8 s) _ (HS1.out _ (HBr.out.trans HB3.out)) (HLG.out _ HB3.out) HLI.out HWF.out HVA.out HALL.out G fr H16.out HR.out).mono ?_;rintro e w4 ⟨r2,B2,d2,rfl,hr2,hb2,ho2,hb⟩;have HB4:=aA0 hb;have HO2:=aA0 ho2;have HN2:=aA0 hb2;clear hb ho2 hb2))
   have hle2:s.arcs.length<=700:=by have:=HEN.out;omega
   have hI:Bel w4 w4:=Bel.refl w4;clear x0 x1 xl
   go_loopg [19] s.arcs.length (fun m z wr=>∃ k:Nat,k<=s.arcs.length/\m=s.arcs.length-k/\z = .int .i64 (k:Int)/\Hid (Bel w4 wr))
   case atStart=>exact ⟨0,by omega,rfl,rfl,hI⟩
   case round =>
    clear hI;obtain ⟨k,hk,rfl,rfl,HC⟩:=hrel
    by_cases hlt:k<s.arcs.length
    .have hd1:decide (k<s.arcs.length)=true:=by simpa using hlt
     obtain ⟨g1,rfl,_,l1,c1,_⟩:=aAn ((HB4.out.trans HC.out).owns HO1.out) (j:=k) (u := .int .i64 (r1.getD k 0)) (by simp [List.getD_eq_getElem?_getD,hr1,hlt])
     obtain ⟨g2,rfl,_,l2,c2,_⟩:=aAn (HC.out.owns HO2.out) (j:=k) (u := .int .i64 (r2.getD k 0)) (by simp [List.getD_eq_getElem?_getD,hr2,hlt])
     have h1:=HN1.out k hlt;have h2:=HN2.out k hlt;have h3:=HFM.out k hlt
     have h4:r2.getD k 0<=rounds:=by
      cases hc:(aE8 s).getD k false with
      | true=>rw [hc,if_pos rfl] at h2;omega
      | false=>rw [hc,if_neg (by decide)] at h2;have:=HRM.out k hlt hc;omega
     generalize r1.getD k 0=z1 at *;generalize r2.getD k 0=z2 at *;have d1:decide (0<=moves)=true:=by simpa using hm0
     have d2:decide (0<=rounds)=true:=by simpa using hr0
     have d3:decide (moves<z1)=false:=by simp;omega
     have d4:decide (rounds<z2)=false:=by simp;omega
     clear h1 h2 h3 h4
     go_wp2_with fail
     go_roundg (s.arcs.length-(k+1))
     case rel=>exact ⟨k+1,by omega,rfl,by go_num,HC.out⟩
     case measure=>omega
    .obtain rfl:k=s.arcs.length:=by omega
     have hd1:decide (s.arcs.length<s.arcs.length)=false:=by simp
     go_wp2_with fail
     refine bodyPost_ret (v := .bool true) (by simp [results,Tryz.results11]) rfl ⟨rfl,?_⟩
     exact HBw.out.trans (HBr.out.trans (HB3.out.trans (HB4.out.trans HC.out)))
open Go.RowKit
theorem bF9:(prog.info? 64).map (fun i=>(i.zero,i.size,i.bytes))=some (some (.agg #[.int .i64 0,.int .i64 0]),2,16):=by kernel_rfl
def bLu (l:Link):List Value:=[.int .i64 l.to,.int .i64 l.weight]
def bKi (v u:Nat):Bool := !(u==v)&&(min v u+1==max v u)
def aH3 (v k:Nat):List Link:=((List.range k).filter fun u=>bKi v u).map fun u:Nat=>(⟨(u:Int),1⟩:Link)
def aIo (n v k:Nat):List (List Link):=(List.range n).map fun i=>if i<v then aH3 i n else if i=v then aH3 v k else []
theorem bEx (n:Nat):aIo n 0 0=List.replicate n []:=by
 apply List.ext_getElem?;intro j
 simp only [aIo,List.getElem?_map,List.getElem?_replicate]
 by_cases h:j<n
 .simp [h,aH3]
 .simp [h]
theorem bEw (n v:Nat):aIo n v n=aIo n (v+1) 0:=by
 apply List.map_congr_left
 intro j _
 by_cases h:j<v
 .simp [h,show j<v+1 by omega]
 .by_cases h2:j=v
  .subst h2;simp
  .simp [h,h2,show ¬ j<v+1 by omega,aH3]
theorem aUk {n v k:Nat} (h:v<n):(aIo n v k)[v]?=some (aH3 v k):=by simp [aIo,h]
theorem aXq (n v k:Nat):(aIo n v k).length=n:=by simp [aIo]
theorem bJj {v k:Nat} (h:bKi v k=true):aH3 v (k+1)=aH3 v k++[⟨(k:Int),1⟩]:=by simp [aH3,List.range_succ,h]
theorem bMo {v k:Nat} (h:bKi v k=false):aH3 v (k+1)=aH3 v k:=by simp [aH3,List.range_succ,h]
theorem bCl {n v k:Nat} (h:bKi v k=false):aIo n v (k+1)=aIo n v k:=by unfold aIo;rw [bMo h]
theorem bHw {n v k:Nat} (hv:v<n) (h:bKi v k=true):(aIo n v k).set v (aH3 v k++[⟨(k:Int),1⟩])=aIo n v (k+1):=by
 apply List.ext_getElem?;intro j
 by_cases hj:v=j
 .subst hj
  rw [List.getElem?_set_self (by rw [aXq];exact hv),aUk hv,bJj h]
 .rw [List.getElem?_set_ne hj]
  simp only [aIo,List.getElem?_map]
  by_cases h2:j<n
  .simp only [List.getElem?_range h2,Option.map_some,if_neg (Ne.symm hj)]
  .rw [List.getElem?_eq_none (by simp;omega)];rfl
theorem bMn (v k:Nat):(aH3 v k).length<=k:=by
 unfold aH3;rw [List.length_map];exact Nat.le_trans (List.length_filter_le _ _) (by simp)
theorem GrR.other_cell {α:Type} {eo ei:TypeId} {sz:Nat} {f:α->List Value} {N:Nat} {w:World} {gb c:Nat} {hs:List Value} {xss:List (List α)} (h:GrR eo ei sz f N w gb c hs xss) {a:Addr} (ha:a.block<N) (u:Value):GrR eo ei sz f N (w.setCell a u) gb c hs xss :=
 ⟨aAi h.own ha u,fun i l hl=>by obtain ⟨A,k,e,h2⟩:=h.rows i l hl;exact ⟨A,k,e,aAi h2 ha u⟩,h.apart⟩
abbrev bKk:=GrR (α:=Link) 60 64 2 bLu
theorem aRm (a b:Nat) (ha:a<=100) (w:World):Calls prog 47 #[.int .i64 (a:Int),.int .i64 (b:Int)] w fun e w'=>e = .returned (.bool (a+1==b))/\w=w':=by
 have e2:((a:Int)+1==(b:Int))=(a+1==b):=by rw [Bool.eq_iff_iff];simp;omega
 go_enter func47,ntmps47;go_wp2;go_ret;exact ⟨rfl,rfl⟩
structure RlI (w:World) (n gA gP g5 v k:Nat) (wr:World):Prop where
 blk:Blk wr g5 #[.slice (some ⟨gA,0,none⟩) n n,.slice (some ⟨gP,0,none⟩) n n] 25
 ids:wr.ownsRow (w.heap.size+1) 3 1 (.slice (some ⟨gA,0,none⟩) n n) n (idL n n)
 grd:∃ hs,bKk (w.heap.size+1) wr gP n hs (aIo n v k)
 bel:Bel (w.alloc (.cells #[.slice none 0 0,.slice none 0 0] 25)) wr
theorem aXr {w:World} {n gA gP g5 v k:Nat} {wr:World} (h:bKi v k=false):RlI w n gA gP g5 v k wr=RlI w n gA gP g5 v (k+1) wr:=by
 apply propext
 constructor
 .intro h';exact ⟨h'.blk,h'.ids,by rw [bCl h];exact h'.grd,h'.bel⟩
 .intro h';exact ⟨h'.blk,h'.ids,by rw [<- bCl h];exact h'.grd,h'.bel⟩
theorem bBi (n:Nat) (hn:n<=24) (w:World) :
  Calls prog 91 #[.int .i64 (n:Int),.func (.func 47) #[] #[]] w fun e w'=>∃ gA gP hs,e = .returned (.agg #[.slice (some ⟨gA,0,none⟩) n n,.slice (some ⟨gP,0,none⟩) n n])/\w'.ownsRow (w.heap.size+1) 3 1 (.slice (some ⟨gA,0,none⟩) n n) n (idL n n)/\bKk (w.heap.size+1) w' gP n hs (aIo n n 0)/\Bel w w':=by
 obtain ⟨j0,hj0,hj1,hj2,hj3⟩:=aBy bF9;go_enter func91,ntmps91
 go_wp2_with (refine (bHm n hn _).mono ?_;rintro e w1 ⟨gA,gP,rfl,hA,hP,hb⟩;have HA:=aA0 hA;have HP:=aA0 hP;have HB:=((Bel.refl w).alloc (.cells #[.slice none 0 0,.slice none 0 0] 25)).trans hb;have HB':=aA0 hb;have hlw:=hb.size;clear hA hP hb)
 have hI:RlI w n gA gP w1.heap.size 0 0 (w1.alloc (.cells #[.slice (some ⟨gA,0,none⟩) n n,.slice (some ⟨gP,0,none⟩) n n] 25)):=by
  have hl:(w.heap.size+1)<=(w.alloc (.cells #[.slice none 0 0,.slice none 0 0] 25)).heap.size+1:=by simp
  refine ⟨Blk.new _ _ _,aB9 (((Bel.refl w1).alloc _).owns (by rw [aUn];exact HA.out)) hl,⟨List.replicate n (.slice none 0 0),?_⟩,HB'.out.alloc _⟩
  rw [bEx];have:=GrR.made (α:=Link) (ei:=64) (sz:=2) (f:=bLu) (aB9 (((Bel.refl w1).alloc (.cells #[.slice (some ⟨gA,0,none⟩) n n,.slice (some ⟨gP,0,none⟩) n n] 25)).owns HP.out) hl);exact this
 have HX:=aA0 (Blk.new w #[.slice none 0 0,.slice none 0 0] 25);clear HA HP HB';have hg5:w.heap.size+1<=w1.heap.size:=by simp only [World.size_alloc] at hlw;omega
 generalize w1.alloc (.cells #[.slice (some ⟨gA,0,none⟩) n n,.slice (some ⟨gP,0,none⟩) n n] 25)=w2 at *;generalize w1.heap.size=g5 at *;clear hlw HB
 go_loopg [6,7,11] n (fun m _x _y z wr=>∃ v:Nat,v<=n/\m=n-v/\z = .int .i64 (v:Int)/\Hid (RlI w n gA gP g5 v 0 wr))
 case atStart=>exact ⟨0,by omega,rfl,rfl,hI⟩
 case round =>
  clear hI;obtain ⟨wo,rfl⟩:∃ wo:World,wo=wr:=⟨_,rfl⟩;obtain ⟨v,hv,rfl,rfl,HI⟩:=hrel
  by_cases hlt:v<n
  .have hd0:decide (v<n)=true:=by simpa using hlt
   go_wp2_with fail
   go_loopg [7,15] n (fun m _y z wr=>∃ k:Nat,k<=n/\m=n-k/\z = .int .i64 (k:Int)/\Hid (RlI w n gA gP g5 v k wr))
   case atStart=>exact ⟨0,by omega,rfl,rfl,HI.out⟩
   case round =>
    clear HI;obtain ⟨k,hk,rfl,rfl,HI⟩:=hrel
    by_cases hlt2:k<n
    .have hd1:decide (k<n)=true:=by simpa using hlt2
     by_cases hvk:v=k
     .subst hvk
      have hno:bKi v v=false:=by simp [bKi]
      go_wp2_with fail
      go_roundg (n-(v+1))
      case rel=>exact ⟨v+1,by omega,rfl,by go_num,by rw [<- aXr hno];exact HI.out⟩
      case measure=>omega
     .have hd2:((v:Int) != (k:Int))=true:=by simp;omega
      have em:min (v:Int) (k:Int)=((min v k:Nat):Int):=by omega
      have eM:max (v:Int) (k:Int)=((max v k:Nat):Int):=by omega
      have hrel:bKi v k=(min v k+1==max v k):=by unfold bKi;rw [show (k==v)=false by simp;omega];rfl
      cases hr:(min v k+1==max v k) with
      | false =>
       rw [hr] at hrel
       go_wp2_with (refine (aRm (min v k) (max v k) (by omega) _).mono ?_;rintro e w' ⟨rfl,rfl⟩;rw [hr])
       go_roundg (n-(k+1))
       case rel=>exact ⟨k+1,by omega,rfl,by go_num,by rw [<- aXr hrel];exact HI.out⟩
       case measure=>omega
      | true =>
       rw [hr] at hrel
       go_wp2_with (refine (aRm (min v k) (max v k) (by omega) _).mono ?_;rintro e w' ⟨rfl,rfl⟩;rw [hr])
       obtain ⟨hb,hids,⟨hs,hg⟩,hbel⟩:=HI.out;obtain ⟨A,c',hc,hf,ho,hhi⟩:=hg.head (aUk (k:=k) hlt);have HG:=aA0 hg;have HO:=aA0 ho;have HH:=aA0 hhi;have HBK:=aA0 hb;have HID:=aA0 hids;have HBE:=aA0 hbel;have hgl:=hg.lt;have hle:=bMn v k
       have hcell:Hid (∀ w',Bel wr w'->w'.cell? ⟨g5,1,none⟩=some (.slice (some ⟨gP,0,none⟩) n n)/\w'.cell? ⟨gP,v,none⟩=some (.slice A (aH3 v k).length c')/\g5<w'.heap.size/\gP<w'.heap.size):=fun w' kk =>
        ⟨(HBK.out.keep kk).cell 1 rfl,(kk.cell HG.out.lt.2).trans hc,(HBK.out.keep kk).lt,Nat.lt_of_lt_of_le HG.out.lt.2 kk.size⟩
       clear hb hids hg hbel ho hhi;refine aA6.start (fun w'=>w'.cell? ⟨g5,1,none⟩=some (.slice (some ⟨gP,0,none⟩) n n)/\w'.cell? ⟨gP,v,none⟩=some (.slice A (aH3 v k).length c')/\g5<w'.heap.size/\gP<w'.heap.size) 13 (by kernel_rfl) ?_
       have HB:=(Bel.refl wr).drew;have hHeld:=hcell.out _ HB
       (refine aA6.t (v:=?_) 0 31 rfl rfl (by kernel_rfl) (fun _ _ _ h=>h) hHeld (Or.inl ⟨by rfl,?_⟩) ?_;rotate_left 1;focus (intro w' hSw;(try dsimp only at hSw);go_simp;(try with_reducible rfl);done));(refine aA6.t (v:=?_) 1 32 rfl rfl (by kernel_rfl) (fun _ _ _ h=>h) hHeld (Or.inl ⟨by rfl,?_⟩) ?_;rotate_left 1;focus (intro w' hSw;(try dsimp only at hSw);go_simp;(try with_reducible rfl);done));(refine aA6.t (v:=?_) 2 33 rfl rfl (by kernel_rfl) (fun _ _ _ h=>h) hHeld (Or.inl ⟨by rfl,?_⟩) ?_;rotate_left 1;focus (intro w' hSw;(try dsimp only at hSw);go_simp;(try with_reducible rfl);done));(refine aA6.t (v:=?_) 3 34 rfl rfl (by kernel_rfl) (fun _ _ _ h=>h) hHeld (Or.inl ⟨by rfl,?_⟩) ?_;rotate_left 1;focus (intro w' hSw;(try dsimp only at hSw);go_simp;(try with_reducible rfl);done));(refine aA6.t (v:=?_) 4 35 rfl rfl (by kernel_rfl) (fun _ _ _ h=>h) hHeld (Or.inl ⟨by rfl,?_⟩) ?_;rotate_left 1;focus (intro w' hSw;(try dsimp only at hSw);go_simp;(try with_reducible rfl);done));(refine aA6.t (v:=?_) 5 36 rfl rfl (by kernel_rfl) (fun _ _ _ h=>h) hHeld (Or.inl ⟨by rfl,?_⟩) ?_;rotate_left 1;focus (intro w' hSw;(try dsimp only at hSw);go_simp;(try with_reducible rfl);done));(refine aA6.t (v:=?_) 6 37 rfl rfl (by kernel_rfl) (fun _ _ _ h=>h) hHeld (Or.inl ⟨by rfl,?_⟩) ?_;rotate_left 1;focus (intro w' hSw;(try dsimp only at hSw);go_simp;(try with_reducible rfl);done));(refine aA6.t (v:=?_) 7 38 rfl rfl (by kernel_rfl) (fun _ _ _ h=>h) hHeld (Or.inl ⟨by rfl,?_⟩) ?_;rotate_left 1;focus (intro w' hSw;(try dsimp only at hSw);go_simp;(try with_reducible rfl);done));(refine aA6.t (v:=?_) 8 39 rfl rfl (by kernel_rfl) (fun _ _ _ h=>h) hHeld (Or.inl ⟨by rfl,?_⟩) ?_;rotate_left 1;focus (intro w' hSw;(try dsimp only at hSw);go_simp;(try with_reducible rfl);done));(refine aA6.t (v:=?_) 9 40 rfl rfl (by kernel_rfl) (fun _ _ _ h=>h) hHeld (Or.inl ⟨by rfl,?_⟩) ?_;rotate_left 1;focus (intro w' hSw;(try dsimp only at hSw);go_simp;(try with_reducible rfl);done))
       clear hHeld;have HOa:=aA0 ((show wr.drew.ownsRow (w.heap.size+1) 64 2 (.slice A (aH3 v k).length c') (aH3 v k).length ((aH3 v k).flatMap bLu) from HO.out).alloc (.cells #[.int .i64 (k:Int),.int .i64 1] 64))
       have HBa:=HB.alloc (.cells #[.int .i64 (k:Int),.int .i64 1] 64);have HNEW:=aA0 (aB4 wr.drew (.cells #[.int .i64 (k:Int),.int .i64 1] 64));refine aA6.one (i:=10) (by kernel_rfl) rfl (fun K hK=>?_)
       go_simp
       refine hK.out _ _ (fun _=>hcell.out _ HBa) ?_
       clear hK K
       (try simp only [Act.put,List.setIfInBounds_toArray,List.set_cons_zero,List.set_cons_succ])
       refine aA6.one (i:=11) (by kernel_rfl) rfl (fun K hK=>?_)
       refine aCr _ rfl (.tmp 38) (.tmp 41) 60 rfl (w.heap.size+1) 64 j0 (.agg #[.int .i64 0,.int .i64 0]) 2 16 underlying60 hj0 hj1 hj2 hj3 rfl (by decide) A (aH3 v k).length c' ((aH3 v k).flatMap bLu) (by simp [Act.eval]) HOa.out wr.heap.size #[.int .i64 (k:Int),.int .i64 1] 64 (0,0) (by simp [Act.eval]) HNEW.out rfl (bDt _ _ _ _) (by unfold maxLen;omega) (by omega) (by have e9:wr.drew.heap.size=wr.heap.size:=rfl;simp;omega) ?_
       intro A2 c2 w4 hown hgr hat
       have HP:=aA0 (HG.out.push (by decide) (aUk (k:=k) hlt) HH.out (x:=⟨(k:Int),1⟩) HBa hgr hown hat)
       have HB4:=aA0 ((HBK.out.keep HBa).grown hgr ((HBK.out.keep HBa).apart HOa.out (by decide)))
       have HO4:=aA0 (World.ownsRow.kept (HBa.owns HG.out.own) hgr (aAr HOa.out (HBa.owns HG.out.own) (by decide)))
       have HI4:=aA0 (World.ownsRow.kept (HBa.owns HID.out) hgr (aAr HOa.out (HBa.owns HID.out) (by decide)))
       have e0:(w.alloc (.cells #[.slice none 0 0,.slice none 0 0] 25)).heap.size=w.heap.size+1:=World.size_alloc _ _;have HE4:=aA0 (((HBE.out.trans HBa).push (by rw [e0];exact HOa.out) hgr).setCell (p:=⟨gP,v,none⟩) (by rw [e0];exact hgl.1) (.slice A2 ((aH3 v k).length+1) c2))
       obtain ⟨g1,e1,_,hl4,hc4,hf4⟩:=aAn HO4.out HH.out;obtain rfl:gP=g1:=by simpa using e1
       have hz4:=HB4.out.cell 1 (v := .slice (some ⟨gP,0,none⟩) n n) rfl;have hg4:=HB4.out.lt;refine hK.out _ _ (fun _=>⟨hz4,hc4,hg4,hl4⟩) ?_
       clear hK K hown hgr hat
       (try simp only [Act.put,List.setIfInBounds_toArray,List.set_cons_zero,List.set_cons_succ])
       have hHeld:w4.cell? ⟨g5,1,none⟩=some (.slice (some ⟨gP,0,none⟩) n n)/\w4.cell? ⟨gP,v,none⟩=some (.slice A (aH3 v k).length c')/\g5<w4.heap.size/\gP<w4.heap.size:=⟨hz4,hc4,hg4,hl4⟩
       (refine aA6.t (v:=?_) 12 43 rfl rfl (by kernel_rfl) (fun _ _ _ h=>h) hHeld (Or.inl ⟨by rfl,?_⟩) ?_;rotate_left 1;focus (intro w' hSw;(try dsimp only at hSw);go_simp;(try with_reducible rfl);done))
       (refine aA6.one (i:=13) (by kernel_rfl) rfl (fun K hK=>?_));go_simp;refine hK.out _ _ (fun h=>absurd rfl h) ?_;clear hK K;refine aA6.done (by kernel_rfl) ?_ _;(try simp only [Act.put,List.setIfInBounds_toArray,List.set_cons_zero,List.set_cons_succ])
       clear hHeld
       go_wp2_with fail
       go_roundg (n-(k+1))
       case rel =>
        rw [bHw hlt hrel] at HP;refine ⟨k+1,by omega,rfl,by go_num,HB4.out.other (a:=⟨gP,v,none⟩) (fun e=>?_) _,?_,⟨_,HP.out⟩,HE4.out⟩
        .exact HB4.out.apart HO4.out (by decide) (by rw [e];rfl)
        .exact aBs HI4.out (Agr.setCell (E:=fun q=>q=gP) w4 ⟨gP,v,none⟩ _ rfl) (fun q hq e=>by
          subst e
          rcases aAr HO4.out HI4.out (by decide) with h0 | h0
          .rw [h0] at hq;cases hq
          .rw [hq] at h0;exact h0 (by simp [Value.ownBlock]))
       case measure=>omega
    .obtain rfl:k=n:=by omega
     have hd1:decide (k<k)=false:=by simp
     go_wp2_with fail
     go_roundg (k-(v+1))
     case rel=>exact ⟨v+1,by omega,rfl,by go_num,HI.out.blk,HI.out.ids,by rw [<- bEw];exact HI.out.grd,HI.out.bel⟩
     case measure=>omega
  .obtain rfl:v=n:=by omega
   have hd0:decide (v<v)=false:=by simp
   have y0:=HI.out.blk.cell 0 (v := .slice (some ⟨gA,0,none⟩) v v) rfl;have y1:=HI.out.blk.cell 1 (v := .slice (some ⟨gP,0,none⟩) v v) rfl;have yl:=HI.out.blk.lt;have hXr:=HX.out.keep HI.out.bel;have x0:=hXr.cell 0 (v := .slice none 0 0) rfl;have x1:=hXr.cell 1 (v := .slice none 0 0) rfl;have q0:=hXr.frozen 0;have q1:=hXr.frozen 1;have xl:=hXr.lt
   go_wp2_with fail
   have M:=(hXr.set 0 (.slice (some ⟨gA,0,none⟩) v v)).set 1 (.slice (some ⟨gP,0,none⟩) v v);have m0:=M.cell 0 (v := .slice (some ⟨gA,0,none⟩) v v) rfl;have m1:=M.cell 1 (v := .slice (some ⟨gP,0,none⟩) v v) rfl;have hAF:=aAi (aAi HI.out.ids (a:=⟨w.heap.size,0,none⟩) (by dsimp only;omega) (.slice (some ⟨gA,0,none⟩) v v)) (a:=⟨w.heap.size,1,none⟩) (by dsimp only;omega) (.slice (some ⟨gP,0,none⟩) v v)
   obtain ⟨hs,hg⟩:=HI.out.grd;refine bodyPost_ret (v := .agg #[.slice (some ⟨gA,0,none⟩) v v,.slice (some ⟨gP,0,none⟩) v v]) (by simp [results,Tryz.results91,go_sem,m0,m1]) rfl ⟨gA,gP,hs,rfl,hAF,(hg.other_cell (a:=⟨w.heap.size,0,none⟩) (by dsimp only;omega) _).other_cell (a:=⟨w.heap.size,1,none⟩) (by dsimp only;omega) _,?_⟩
   exact (((Bel.refl w).alloc _).trans HI.out.bel |>.setCell (Nat.le_refl _) _).setCell (Nat.le_refl _) _
theorem GrR.lower {α:Type} {eo ei:TypeId} {sz:Nat} {f:α->List Value} {N N':Nat} {w:World} {gb c:Nat} {hs:List Value} {xss:List (List α)} (h:GrR eo ei sz f N w gb c hs xss) (hN:N'<=N):GrR eo ei sz f N' w gb c hs xss :=
 ⟨aB9 h.own hN,fun i l hl=>by obtain ⟨A,k,e,h2⟩:=h.rows i l hl;exact ⟨A,k,e,aB9 h2 hN⟩,h.apart⟩
def aJ9 (n:Nat):Graph:=⟨(List.range n).map fun j:Nat=>(j:Int),aIo n n 0⟩
theorem bEv {w:World} {N n gA gP:Nat} {hs:List Value} (hA:w.ownsRow N 3 1 (.slice (some ⟨gA,0,none⟩) n n) n (idL n n)) (hP:bKk N w gP n hs (aIo n n 0)):aB7 w (.agg #[.slice (some ⟨gA,0,none⟩) n n,.slice (some ⟨gP,0,none⟩) n n]) (aJ9 n):=by
 have e:idL n n=((List.range n).map fun j:Nat=>(j:Int)).map (Value.int .i64):=by rw [aUn,List.map_map];rfl
 rw [e] at hA;have hl:=aXq n n 0;have h1:=(aN0 hA).2.1;have hc:=aCv hA;have hlen:(aJ9 n).ids.length=n:=by simp [aJ9]
 have hlen2:(aJ9 n).ports.length=n:=hl;refine ⟨some ⟨gA,0,none⟩,n,some ⟨gP,0,none⟩,n,by rw [hlen,hlen2],?_,by omega,hc.2,⟨rfl,fun i l hx=>?_⟩,by omega,hc.2⟩
 .exact h1
 .obtain ⟨A,k,c1,_,ho,_⟩:=hP.head hx
  have:=aCv ho;exact ⟨gP,0,rfl,hP.lt.2,A,k,by rw [Nat.zero_add,Nat.mul_one];exact c1,aOg (by decide) (fun _=>rfl) (fun g o x _ kk=>⟨kk 0 _ rfl,kk 1 _ rfl⟩) ho,this.1,this.2⟩
theorem bFg (n:Nat) (h1:1<=n) (hn:n<=24) (w:World) :
  Calls prog 46 #[.int .i64 (n:Int),.func (.func 47) #[] #[]] w fun e w'=>∃ gA gP hs,e = .returned (.tuple #[.agg #[.slice (some ⟨gA,0,none⟩) n n,.slice (some ⟨gP,0,none⟩) n n],.int .i64 0])/\w'.ownsRow (w.heap.size+1) 3 1 (.slice (some ⟨gA,0,none⟩) n n) n (idL n n)/\bKk (w.heap.size+1) w' gP n hs (aIo n n 0)/\Bel w w':=by
 have d1:decide ((n:Int)<1)=false:=by simp;omega
 have d2:decide ((24:Int)<(n:Int))=false:=by simp;omega
 go_enter func46,ntmps46
 go_wp2_with (refine (bBi n hn _).mono ?_;rintro e w1 ⟨gA,gP,hs,rfl,hA,hP,hb⟩;have HA:=aA0 hA;have HP:=aA0 hP;have HX:=aA0 ((Blk.new w #[.slice none 0 0,.slice none 0 0] 25).keep hb);have HB:=aA0 (((Bel.refl w).alloc (.cells #[.slice none 0 0,.slice none 0 0] 25)).trans hb);have x0:=HX.out.cell 0 (v := .slice none 0 0) rfl;have x1:=HX.out.cell 1 (v := .slice none 0 0) rfl;have q0:=HX.out.frozen 0;have q1:=HX.out.frozen 1;have xl:=HX.out.lt;clear hA hP hb)
 have M:=(HX.out.set 0 (.slice (some ⟨gA,0,none⟩) n n)).set 1 (.slice (some ⟨gP,0,none⟩) n n);have m0:=M.cell 0 (v := .slice (some ⟨gA,0,none⟩) n n) rfl;have m1:=M.cell 1 (v := .slice (some ⟨gP,0,none⟩) n n) rfl;have hle:w.heap.size+1<=(w.alloc (.cells #[.slice none 0 0,.slice none 0 0] 25)).heap.size+1:=by simp
 have hAF:=aAi (aAi (aB9 HA.out hle) (a:=⟨w.heap.size,0,none⟩) (by dsimp only;omega) (.slice (some ⟨gA,0,none⟩) n n)) (a:=⟨w.heap.size,1,none⟩) (by dsimp only;omega) (.slice (some ⟨gP,0,none⟩) n n)
 have hPF:=((HP.out.lower hle).other_cell (a:=⟨w.heap.size,0,none⟩) (by dsimp only;omega) (.slice (some ⟨gA,0,none⟩) n n)).other_cell (a:=⟨w.heap.size,1,none⟩) (by dsimp only;omega) (.slice (some ⟨gP,0,none⟩) n n)
 refine bodyPost_ret (v := .tuple #[.agg #[.slice (some ⟨gA,0,none⟩) n n,.slice (some ⟨gP,0,none⟩) n n],.int .i64 0]) (by simp [results,Tryz.results46,go_sem,m0,m1]) rfl ?_
 exact ⟨gA,gP,hs,rfl,hAF,hPF,(HB.out.setCell (Nat.le_refl _) _).setCell (Nat.le_refl _) _⟩
theorem bMe (n:Nat) (h1:1<=n) (hn:n<=24) (w:World) :
  Calls prog 24 #[.int .i64 (n:Int)] w fun e w'=>∃ v,e = .returned (.tuple #[v,.int .i64 0])/\aB7 w' v (aJ9 n)/\Bel w w':=by
 go_enter func24,ntmps24
 go_wp2_with (refine (bFg n h1 hn _).mono ?_;rintro e w1 ⟨gA,gP,hs,rfl,hA,hP,hb⟩;have HA:=aA0 hA;have HP:=aA0 hP;have HX:=aA0 ((Blk.new w #[.slice none 0 0,.slice none 0 0] 25).keep hb);have HB:=aA0 (((Bel.refl w).alloc (.cells #[.slice none 0 0,.slice none 0 0] 25)).trans hb);have x0:=HX.out.cell 0 (v := .slice none 0 0) rfl;have x1:=HX.out.cell 1 (v := .slice none 0 0) rfl;have q0:=HX.out.frozen 0;have q1:=HX.out.frozen 1;have xl:=HX.out.lt;clear hA hP hb)
 have M:=(HX.out.set 0 (.slice (some ⟨gA,0,none⟩) n n)).set 1 (.slice (some ⟨gP,0,none⟩) n n);have m0:=M.cell 0 (v := .slice (some ⟨gA,0,none⟩) n n) rfl;have m1:=M.cell 1 (v := .slice (some ⟨gP,0,none⟩) n n) rfl;have hle:w.heap.size+1<=(w.alloc (.cells #[.slice none 0 0,.slice none 0 0] 25)).heap.size+1:=by simp
 have hAF:=aAi (aAi (aB9 HA.out hle) (a:=⟨w.heap.size,0,none⟩) (by dsimp only;omega) (.slice (some ⟨gA,0,none⟩) n n)) (a:=⟨w.heap.size,1,none⟩) (by dsimp only;omega) (.slice (some ⟨gP,0,none⟩) n n)
 have hPF:=((HP.out.lower hle).other_cell (a:=⟨w.heap.size,0,none⟩) (by dsimp only;omega) (.slice (some ⟨gA,0,none⟩) n n)).other_cell (a:=⟨w.heap.size,1,none⟩) (by dsimp only;omega) (.slice (some ⟨gP,0,none⟩) n n)
 refine bodyPost_ret (v := .tuple #[.agg #[.slice (some ⟨gA,0,none⟩) n n,.slice (some ⟨gP,0,none⟩) n n],.int .i64 0]) (by simp [results,Tryz.results24,go_sem,m0,m1]) rfl ?_
 exact ⟨_,rfl,bEv hAF hPF,(HB.out.setCell (Nat.le_refl _) _).setCell (Nat.le_refl _) _⟩
theorem aQx (N0:Nat) (en:Trc->Nat) (ok:Trc->Prop):Seer prog N0 50 #[] aWy en ok (fun M _ w=>∀ k,M k->k<w.heap.size) where
 enter:=fun a b d w=>by kernel_rfl
 dom:=fun M s w h=>h
 keep:=fun M s w W h hz _ k hk=>Nat.lt_of_lt_of_le (h k hk) hz
 grow:=fun M M' s w _ _ h=>h
 call:=fun M s w v t _ h hC _=>by
  have hb:Bel w (w.alloc (.cells (aIk t.count) 68)):=(Bel.refl w).alloc _;have HB:=aA0 hb;have HM:=aA0 h;clear hb h hC;unfold aWy;unfold aIk at HB;go_enter func50,ntmps50
  go_wp2_with fail
  go_end0
  exact ⟨⟨_,rfl⟩,M,fun k hk=>Nat.lt_of_lt_of_le (HM.out k hk) HB.out.size,Agr.of_belM HB.out,fun k hk=>hk,fun k hk => .inl hk⟩
theorem bCu {p:Prg} {g:Graph} {kind:Int} {n k:Nat} (hk:k<n):aA8 (lsF p g kind n) k=aFg p g kind (aAw p g k):=by
 unfold aA8;rw [aA7 (show k<(lsF p g kind n).length by rw [aEx];exact hk),bN9 p g kind hk]
theorem aPn {p:Prg} {g:Graph} {kind:Int} {n k:Nat} (hf:aD8 p g=0) (hn:aE7 p g=(n:Int)) (hkd:aGx kind=true) (h5:g.ports.length<=5) (hk:k<n) {a:Nat × Int} (ha:a∈aA8 (lsF p g kind n) k) :
  ∃ T,T∈(aAq g kind (aAe p g (aAw p g k))).1/\a.1=T/\toK a<n/\aAw p g (toK a)=aAd p g (aAw p g k) T/\aC0 p g (aAw p g k)=0/\aC0 p g (aAd p g (aAw p g k) T)=0:=by
 rw [bCu hk] at ha;have hm:aC0 p g (aAw p g k)=0:=aDz hf (by omega)
 unfold aFg at ha;obtain ⟨T,hT,rfl⟩:=List.mem_map.1 ha;obtain ⟨_,_,t3⟩:=aIj hm hkd h5 hT;obtain ⟨r1,r2⟩:=aI7 t3;refine ⟨T,hT,rfl,?_,aX0 t3,hm,t3⟩
 show (bAz p g (aAd p g (aAw p g k) T)).toNat<n
 omega
def aRo (T:Nat):Nat:=(aAg T).length
theorem aNq (f:Nat->Bool):∀ n,((List.range n).filter f).length=aDn n fun v=>if f v then 1 else 0
 | 0=>rfl
 | n+1=>by
  rw [List.range_succ,List.filter_append,List.length_append,aNq f n];simp only [aDn]
  cases h:f n <;> simp [h]
theorem aZ5 {n:Nat} {f:Nat->Nat} (h:∀ i,n<=i->f i=0):∀ m,aDn (n+m) f=aDn n f
 | 0=>rfl
 | m+1=>by
  show aDn (n+m) f+f (n+m)=_
  rw [aZ5 h m,h _ (by omega)];rfl
theorem bBg {T n:Nat} (hn:n<=32) (hT:T<2 ^ n):aRo T=aDn n fun v=>if T.testBit v then 1 else 0:=by
 unfold aRo aAg;rw [aNq]
 have h:=aZ5 (n:=n) (f:=fun v=>if T.testBit v then 1 else 0) (fun i hi=>by
  rw [Nat.testBit_lt_two_pow (Nat.lt_of_lt_of_le hT (Nat.pow_le_pow_right (by decide) hi))];rfl) (32-n)
 rw [show n+(32-n)=32 by omega] at h
 exact h
theorem bBf {T:Nat} (hT:T<4294967296) (h0:T≠0):1<=aRo T:=by
 obtain ⟨v,m,e,hv,e1,e2,e3⟩:=aDl hT h0;unfold aRo;rw [e3];simp
theorem aI3 {p:Prg} {g:Graph} {c:aA2} {kind:Int} (hm:aC0 p g c=0) (h5:g.ports.length<=5) (hk:kind=1∨kind=2) {T:Nat} (hT:T∈(aAq g kind (aAe p g c)).1) :
  T≠0/\T<2 ^ g.ports.length/\(∀ v,T.testBit v=true->v<c.length/\0<=aAk p.rules g c v)/\(∀ v u,T.testBit v=true->u∈aEr g v->T.testBit u=false):=by
 have hg:=(aAm (aBr hm).1).2.1;have hle:=hg.le;have hkb:aGx kind=true:=by rcases hk with rfl | rfl <;> decide
 have h32:=aJn hm h5;have hlt:aAe p g c<4294967296:=by omega
 obtain ⟨h1,h2⟩:=aFy hlt hT;have hp:=(aCu hlt hkb (aCf h32).1 h1).1 hT;have h3:=aBh hp;have hp2:aAj g 2 (aAe p g c) T=true:=aLe hg h1 (aHd hm) (by rcases hk with rfl | rfl <;> rfl) hp
 have hen:∀ v,T.testBit v=true->v<c.length/\0<=aAk p.rules g c v:=fun v hv=>by
  have:=aAf.1 h2 v (aGv h1 hv) hv;rw [aE0] at this;simpa using this
 refine ⟨h3.1,?_,hen,fun v u hv hu=>?_⟩
 .apply Nat.lt_pow_two_of_testBit
  intro i hi
  cases hb:T.testBit i with
  | false=>rfl
  | true=>have:=(hen i hb).1;rw [aBk hm] at this;omega
 .have hi:aI2 g T=true:=by
   unfold aAj at hp2;rw [if_neg h3.1,h3.2,if_neg (by decide),if_neg (by decide),if_pos rfl] at hp2
   exact hp2
  have h4:=(aFl h1).1 hi v hv;cases hb:T.testBit u with
  | false=>rfl
  | true =>
   obtain ⟨hun,hvn,_⟩:=aEd hg hu
   have h5:(aO8 g v).testBit u=true:=by
    unfold aEr at hu;rw [aA7 hvn] at hu;obtain ⟨l,hl,e⟩:=List.mem_map.1 hu;exact (aHi hvn).2 ⟨l,hl,e⟩
   have:=aHa.1 h4 u h5;rw [hb] at this;cases this
theorem aI6 (g:Graph) (c:aA2) (v:Nat) (f:Int->Bool) (e:Ex) (fe:Nat->Int) (he:∀ k:Nat,aBb g c v (k:Int) e=fe (aCg g v k).to.toNat) :
  ((List.range (g.ports.getD v []).length).map fun (k:Nat)=>aBb g c v (k:Int) e).any f=(aEr g v).any fun u=>f (fe u):=by
 have h:=bJd (g.ports.getD v []) (fun l=>f (fe l.to.toNat));rw [List.any_map] at h ⊢;unfold aEr;rw [List.any_map];rw [Function.comp_def] at *;rw [<- Function.comp_def] at *
 have e1:(f ∘ fun (k:Nat)=>aBb g c v (k:Int) e)=fun (k:Nat)=>f (fe ((g.ports.getD v []).getD k default).to.toNat):=by
  funext k
  show f (aBb g c v (k:Int) e)=_
  rw [he k];rfl
 rw [e1];exact h
def aZ6 (p:Prg) (g:Graph) (kind:Int) (n:Nat):Spc:=⟨esF p g n,lsF p g kind n⟩
def aJb (s:Spc):List Bool:=s.enabled.map fun E=>decide (E=0)
theorem aQk {p:Prg} {g:Graph} {kind:Int} {n:Nat} (hf:aD8 p g=0) (hn:aE7 p g=(n:Int)) (h2:n<=700) (hk:aGx kind=true):aJl p g kind=(aZ6 p g kind n,0):=by
 have ht:aDx p g=((n:Int),0):=by
  unfold aDx;rw [if_neg (by rw [hf];simp),if_neg (by omega),hn]
 unfold aJl;rw [ht];simp only [hk]
 unfold bDn aZ6 esF lsF;simp [hn]
theorem aW3 {p:Prg} {g:Graph} {kind:Int} {n k:Nat} (hk:k<n):(aJb (aZ6 p g kind n)).getD k false=decide (aAe p g (aAw p g k)=0):=by
 unfold aJb aZ6 esF;simp [List.getD_eq_getElem?_getD,hk]
theorem bHn {p:Prg} {g:Graph} {n k:Nat} (hk:k<n):(esF p g n).getD k 0=aAe p g (aAw p g k):=by
 unfold esF;simp [List.getD_eq_getElem?_getD,hk]
theorem es_16 {p:Prg} {g:Graph} {n:Nat} (hf:aD8 p g=0) (hn:aE7 p g=(n:Int)) (h4:g.ports.length<=4) (k:Nat):(esF p g n).getD k 0<16:=by
 by_cases hk:k<n
 .rw [bHn hk]
  have hm:aC0 p g (aAw p g k)=0:=aDz hf (by omega)
  have:=aHd hm;have h2:2 ^ g.ports.length<=2 ^ 4:=Nat.pow_le_pow_right (by decide) h4
  omega
 .rw [List.getD_eq_getElem?_getD,List.getElem?_eq_none (by rw [aGp];omega)];decide
theorem aW1 {p:Prg} {g:Graph} {kind:Int} {n k:Nat} (hf:aD8 p g=0) (hn:aE7 p g=(n:Int)) (hk:aGx kind=true) (h5:g.ports.length<=5) (hkn:k<n) (he:aAe p g (aAw p g k)≠0):0<(aA8 (lsF p g kind n) k).length:=by
 have hv:=aLw hf hn hk h5;unfold aD5 at hv;simp only [Bool.and_eq_true,decide_eq_true_eq,List.all_eq_true,List.mem_range] at hv
 have h1:=hv.2 k (by rw [aGp];exact hkn)
 unfold aBz at h1;rw [Bool.and_eq_true,Bool.and_eq_true,bHn hkn] at h1;have h2:=h1.1.2;rw [beq_iff_eq] at h2;have h3:decide (aAe p g (aAw p g k)≠0)=true:=by simpa using he
 rw [h3] at h2;exact of_decide_eq_true h2.symm
theorem bCs {p:Prg} {g:Graph} {kind:Int} {n:Nat} (hf:aD8 p g=0) (hn:aE7 p g=(n:Int)) (h2:n<=700) (h4:g.ports.length<=4) (hkd:kind=1∨kind=2) (F:aA2->Int) {B:Int} (hB:B<=1000) (hF:∀ c,aC0 p g c=0->0<=F c/\F c<=B)
  (hs:∀ c,aC0 p g c=0->∀ T∈(aAq g kind (aAe p g c)).1,(aRo T:Int)+F (aAd p g c T)<=F c) :
  ∃ (s:Spc) (f:Nat->Int) (G:Nat->Nat->Prop) (fr:Nat->Nat->Int),aJl p g kind=(s,0)/\aE3 s=true/\wfS s/\aD5 s=true/\(∀ k,s.enabled.getD k 0<16)/\(∀ o,OrdP s.arcs (aJb s) s.arcs.length o->s.arcs.length<=o.length)/\CostP s.arcs (aJb s) s.arcs.length (fun x=>((aAg x.1).length:Int)) f/\(∀ k,k<s.arcs.length->f k<=B)/\RndP s.arcs s.enabled (aJb s) s.arcs.length G fr/\(∀ k,k<s.arcs.length->(aJb s).getD k false=false->fr k (s.enabled.getD k 0)<=B):=by
 have hk:aGx kind=true:=by rcases hkd with rfl | rfl <;> decide
 have h5:g.ports.length<=5:=by omega
 have hlen:(aZ6 p g kind n).arcs.length=n:=aEx p g kind n;have hmem:∀ k,k<n->aC0 p g (aAw p g k)=0:=fun k hkn=>aDz hf (by omega)
 have hterm:∀ k,k<n->(aJb (aZ6 p g kind n)).getD k false=false->aAe p g (aAw p g k)≠0:=fun k hkn h=>by
  rw [aW3 hkn] at h;exact of_decide_eq_false h
 -- an arc
 have harc:∀ k,k<n->∀ a∈aA8 (lsF p g kind n) k,toK a<n/\1<=(aRo a.1:Int)/\(aRo a.1:Int)+F (aAw p g (toK a))<=F (aAw p g k):=fun k hkn a ha=>by
  obtain ⟨T,hT,e1,e2,e3,e4,_⟩:=aPn hf hn hk h5 hkn ha;obtain ⟨t0,t1,_,_⟩:=aI3 e4 h5 hkd hT;have h1:=hs _ e4 T hT;have hT32:T<4294967296:=Nat.lt_of_lt_of_le t1 (Nat.le_trans (Nat.pow_le_pow_right (by decide) h5) (by decide))
  have h3:=bBf hT32 t0;rw [e1,e3];exact ⟨e2,by omega,h1⟩
 have hpos:∀ k,k<n->(aJb (aZ6 p g kind n)).getD k false=false->1<=F (aAw p g k):=fun k hkn h=>by
  have hb:=aW1 hf hn hk h5 hkn (hterm k hkn h);obtain ⟨a,ha⟩:=List.exists_mem_of_length_pos hb;obtain ⟨c1,c2,c3⟩:=harc k hkn a ha;have:=(hF _ (hmem _ c1)).1;omega
 refine ⟨aZ6 p g kind n,fun k=>F (aAw p g k),fun _ _=>True,fun k _=>F (aAw p g k),aQk hf hn h2 hk,aRy hf hn h2 h5,bDo hf hn hk h5,aLw hf hn hk h5,es_16 hf hn h4,?_,?_,?_,?_,?_⟩
 .intro o ho
  rw [hlen] at ho ⊢;refine bLl (ho.all (fun k=>F (aAw p g k)) (fun k hkn=>(hF _ (hmem k hkn)).1) (fun k hkn h=>aW1 hf hn hk h5 hkn (hterm k hkn h)) (fun k hkn h a ha=>?_))
  obtain ⟨c1,c2,c3⟩:=harc k hkn a ha;exact ⟨c1,by omega⟩
 .rw [hlen]
  refine ⟨fun k hkn h a ha=>?_,fun k hkn=>⟨(hF _ (hmem k hkn)).1,by have:=(hF _ (hmem k hkn)).2;omega⟩⟩
  obtain ⟨c1,c2,c3⟩:=harc k hkn a ha;exact ⟨by omega,c3⟩
 .intro k hkn
  rw [hlen] at hkn;exact (hF _ (hmem k hkn)).2
 .rw [hlen]
  refine ⟨fun _ _ _=>trivial,fun k S hkn _ h _ a ha _=>⟨trivial,?_⟩,fun k S hkn _ h _=>⟨hpos k hkn h,by have:=(hF _ (hmem k hkn)).2;omega⟩⟩
  obtain ⟨c1,c2,c3⟩:=harc k hkn a ha;split <;> omega
 .intro k hkn h
  rw [hlen] at hkn;exact (hF _ (hmem k hkn)).2
def pairsP:Prg:=⟨ba [112,97,105,114,115],[⟨ba [112],3,0,0,0,0⟩],
 [⟨ba [97,99,99,101,112,116],[⟨41,0⟩,⟨35,0⟩,⟨5,0⟩,⟨4,0⟩,⟨21,0⟩,⟨35,0⟩,⟨12,0⟩,⟨17,0⟩],[⟨0,[⟨23,0⟩,⟨35,0⟩,⟨12,0⟩,⟨17,0⟩]⟩]⟩,
  ⟨ba [112,114,111,112,111,115,101],[⟨41,0⟩,⟨35,0⟩,⟨5,0⟩,⟨4,0⟩,⟨21,0⟩,⟨35,0⟩,⟨12,0⟩,⟨4,0⟩],[⟨0,[⟨23,0⟩,⟨35,0⟩,⟨12,0⟩,⟨4,0⟩]⟩]⟩,
  ⟨ba [119,105,116,104,100,114,97,119],[⟨21,0⟩,⟨41,0⟩,⟨41,0⟩,⟨35,0⟩,⟨11,0⟩,⟨5,0⟩,⟨36,0⟩,⟨12,0⟩,⟨4,0⟩,⟨36,0⟩,⟨12,0⟩,⟨17,0⟩],[⟨0,[⟨4,0⟩]⟩]⟩]⟩
theorem bPw:prP=pairsP:=by kernel_rfl
theorem aYq:aBw pairsP=0:=by decide +kernel
theorem bFk {g:Graph} (hg:aF2 g=true):aD8 pairsP g=0:=by
 unfold aD8;rw [aYq,hg];rfl
theorem bJ2 (g:Graph) (v:Nat):aJc pairsP g v=[(-1,((g.ports.getD v []).length:Int)-1)]:=rfl
theorem bDk:∀ {T:List (List (Int × Int))},(∀ t∈T,1<=aAy t/\aAy t<=4)->1<=aAv T/\aAv T<=((4 ^ T.length:Nat):Int)
 | [],_=>by simp [aAv]
 | t :: T,h=>by
  obtain ⟨h1,h2⟩:=h t (by simp)
  obtain ⟨h3,h4⟩:=bDk (T:=T) (fun x hx=>h x (by simp [hx]))
  have e:((4 ^ (t :: T).length:Nat):Int)=4*((4 ^ T.length:Nat):Int):=by rw [List.length_cons,Nat.pow_succ];omega
  rw [e];unfold aAv;constructor
  .have:=Int.mul_le_mul h1 h3 (by decide) (by omega);omega
  .exact Int.mul_le_mul h2 h4 (by omega) (by decide)
theorem bFl {g:Graph} (hg:GOK g) (h4:g.ports.length<=4):∃ n:Nat,aE7 pairsP g=(n:Int)/\n<=256:=by
 have h:∀ t∈aAa pairsP g,1<=aAy t/\aAy t<=4:=by
  intro t ht
  unfold aAa at ht;obtain ⟨v,hv,rfl⟩:=List.mem_map.1 ht;rw [List.mem_range,hg.ids] at hv;rw [bJ2];have hl:=aCt hv (hg.links v hv);have e:g.ports.getD v []=g.ports[v]:=by simp [List.getD_eq_getElem?_getD,hv]
  rw [e];simp only [aAy]
  omega
 obtain ⟨h1,h2⟩:=bDk h;have hl:(aAa pairsP g).length=g.ports.length:=by unfold aAa;rw [List.length_map,List.length_range,hg.ids]
 rw [hl] at h2;have h3:4 ^ g.ports.length<=4 ^ 4:=Nat.pow_le_pow_right (by decide) h4
 refine ⟨(aAv (aAa pairsP g)).toNat,?_,?_⟩
 .show aAv _=_;omega
 .omega
open Go.ChangeShapes Go.WideShapes Go.ChangeAt Go.WideMaps Go.WideElems Go.RowKit
theorem gTab : prog.globalNamed "math/bits.deBruijn32tab" = some 0 := by kernel_rfl
theorem tTab:(prog.globals[0]?).map (·.type)=some 251:=by kernel_rfl
theorem cTab1:prog.cellsOf 5=1:=by kernel_rfl
theorem bPf:prog.cellsOf 251=32:=by kernel_rfl
def aU9:List Int:=bruijn.map fun (n:Nat)=>(n:Int)
abbrev aSe : List (String × DataW Unit) := [("math/bits.deBruijn32tab", Rows.laid_math_bits_deBruijn32tab)]
theorem bDs {W:World} (h:laidMetH prog aSe W):aDr W:=by
 rw [MakeChecks.laidMetH_plain _ _ _ (by kernel_rfl)] at h
 have ht : Lib.TabIs prog W "math/bits.deBruijn32tab" .u8 aU9 :=
  Lib.tabIs_of_head gTab tTab underlying251 underlying5 cTab1 bPf (show laidMet prog [("math/bits.deBruijn32tab", Lib.tabData .u8 aU9)] W from h)
 have hc:∀ i,i<32->W.cell? ⟨0,i,none⟩=some (.int .u8 ((bruijn.getD i 0:Nat):Int)):=fun i hi=>by
  have h1:=ht.cell gTab i (by simpa [aU9,bruijn] using hi)
  rw [h1];have hb:i<bruijn.length:=by simpa [bruijn] using hi
  simp [aU9,List.getD_eq_getElem?_getD,hb]
 refine ⟨?_,hc⟩
 have h0:=hc 0 (by decide)
 rcases Nat.lt_or_ge 0 W.heap.size with h | h
 .exact h
 .simp [World.cell?,Array.getElem?_eq_none h] at h0
theorem bCe (os:Os) (args:Array Value):laidMetH prog aSe ((World.doorLaid prog 400 os).forCall (fun _ _=>0) ⟨#[],args,[]⟩).memory :=
 laidMetH_of_parts3 (fuel:=8) (laidMet_of_run' 8 (by kernel_rfl) (by kernel_rfl)) (by kernel_rfl) (by kernel_rfl)
end Go.Proofs.YtmoebklkkjbigaaGreatDoor

