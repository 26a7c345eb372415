/- Merged. -/
import Derived.Test.YtmoebklkkjbigaaGreatDoorZ26
set_option linter.unusedSimpArgs false
set_option linter.unnecessarySimpa false
set_option linter.unusedVariables false
set_option maxRecDepth 100000
set_option maxHeartbeats 4000000
open Go.Proofs.Tryz

namespace Go.Proofs.YtmoebklkkjbigaaGreatDoor
open Go.RowKit
theorem Agr.grownV {A B:World} {row:Option Nat} {E:Nat->Prop} (h:A.grownBy B row) (hE:∀ k,some k=row->E k):Agr E A B :=
 ⟨h.os,h.tape,h.output,h.size,fun k hk hn=>h.block k hk (fun e=>hn (hE k e))⟩
theorem aBs {E:Nat->Prop} {A B:World} {base e size n:Nat} {v:Value} {xs:List Value} (h:A.ownsRow base e size v n xs) (hA:Agr E A B) (hE:∀ k,v.ownBlock=some k->¬ E k):B.ownsRow base e size v n xs:=by
 obtain ⟨Ad,c,rfl⟩:=aRj h
 rcases h.2 with ⟨hv,h0⟩ | ⟨g,cap,cur,hv,_⟩
 .rw [hv];subst h0;exact ⟨h.1,.inl ⟨rfl,rfl⟩⟩
 .injection hv with hAd hc
  subst hAd;exact aHk h hA (hE g rfl)
structure GrR {α:Type} (eo ei:TypeId) (sz:Nat) (f:α->List Value) (N:Nat) (w:World) (gb c:Nat) (hs:List Value) (xss:List (List α)):Prop where
 own:w.ownsRow N eo 1 (.slice (some ⟨gb,0,none⟩) xss.length c) xss.length hs
 rows:∀ (i:Nat) (l:List α),xss[i]?=some l->∃ (A:Option Addr) (k:Nat),hs[i]?=some (.slice A l.length k)/\w.ownsRow N ei sz (.slice A l.length k) l.length (l.flatMap f)
 apart:∀ (i j:Nat) (u v:Value),i≠j->hs[i]?=some u->hs[j]?=some v->v.ownBlock=none∨v.ownBlock≠u.ownBlock
section
variable {α:Type} {eo ei:TypeId} {sz:Nat} {f:α->List Value} {N:Nat} {w:World} {gb c:Nat} {hs:List Value} {xss:List (List α)}
theorem GrR.len (h:GrR eo ei sz f N w gb c hs xss):hs.length=xss.length:=by have:=h.own.1;omega
theorem GrR.keep {w':World} (h:GrR eo ei sz f N w gb c hs xss) (k:Bel w w'):GrR eo ei sz f N w' gb c hs xss :=
 ⟨k.owns h.own,fun i l hl=>by obtain ⟨A,c,e,h2⟩:=h.rows i l hl;exact ⟨A,c,e,k.owns h2⟩,h.apart⟩
theorem GrR.made {n:Nat} (h:w.ownsRow N eo 1 (.slice (some ⟨gb,0,none⟩) n c) n (List.replicate n (.slice none 0 0))):GrR eo ei sz f N w gb c (List.replicate n (.slice none 0 0)) (List.replicate n ([]:List α)):=by
 refine ⟨by rw [List.length_replicate];exact h,fun i l hl=>?_,fun i j u v _ _ hv=>?_⟩
 .rw [List.getElem?_replicate] at hl
  split at hl
  .rename_i hi
   injection hl with hl;subst hl
   exact ⟨none,0,by rw [List.getElem?_replicate,if_pos hi];rfl,World.ownsRow_nil _ _ _ _⟩
  .cases hl
 .rw [List.getElem?_replicate] at hv
  split at hv
  .injection hv with hv;subst hv;exact .inl rfl
  .cases hv
theorem GrR.lt (h:GrR eo ei sz f N w gb c hs xss):N<=gb/\gb<w.heap.size:=aAb h.own
theorem GrR.head (h:GrR eo ei sz f N w gb c hs xss) {i:Nat} {l:List α} (hl:xss[i]?=some l):∃ A k,w.cell? ⟨gb,i,none⟩=some (.slice A l.length k)/\w.frozen? ⟨gb,i,none⟩=false/\w.ownsRow N ei sz (.slice A l.length k) l.length (l.flatMap f)/\hs[i]?=some (.slice A l.length k):=by
 obtain ⟨A,k,e,ho⟩:=h.rows i l hl;obtain ⟨g,e1,_,_,hc,hf⟩:=aAn h.own e;injection e1 with e1;injection e1 with e1;subst e1
 exact ⟨A,k,hc,hf,ho,e⟩
theorem GrR.push (hne:eo≠ei) (h:GrR eo ei sz f N w gb c hs xss) {i:Nat} {l:List α} (hl:xss[i]?=some l) {A:Option Addr} {k:Nat} (hi:hs[i]?=some (.slice A l.length k)) {x:α} {w0 w1:World} {A':Option Addr} {k':Nat} (hb:Bel w w0)
  (hgr:w0.grownBy w1 (Value.slice A l.length k).ownBlock) (hown:w1.ownsRow N ei sz (.slice A' (l.length+1) k') (l.length+1) (l.flatMap f++f x))
  (hat:(Value.slice A' (l.length+1) k').ownBlock=(Value.slice A l.length k).ownBlock∨(Value.slice A' (l.length+1) k').ownBlock=some w0.heap.size) :
  GrR eo ei sz f N (w1.setCell ⟨gb,i,none⟩ (.slice A' (l.length+1) k')) gb c (hs.set i (.slice A' (l.length+1) k')) (xss.set i (l++[x])):=by
 have hlen:=h.len;have hil:i<xss.length:=(List.getElem?_eq_some_iff.1 hl).1;obtain ⟨A0,k0,e0,ho0⟩:=h.rows i l hl;rw [hi] at e0;injection e0 with e0;injection e0 with e1 _ e2;subst e1;subst e2
 have ho1:=World.ownsRow.kept (hb.owns h.own) hgr (aAr (hb.owns ho0) (hb.owns h.own) hne.symm)
 have hset:∀ {e size n:Nat} {v:Value} {xs:List Value},eo≠e->w1.ownsRow N e size v n xs->(w1.setCell ⟨gb,i,none⟩ (.slice A' (l.length+1) k')).ownsRow N e size v n xs:=fun he hx =>
  aBs hx (Agr.setCell (E:=fun q=>q=gb) w1 ⟨gb,i,none⟩ _ rfl) (fun q hq e=>by
   subst e
   rcases aAr ho1 hx he with h0 | h0
   .rw [h0] at hq;cases hq
   .rw [hq] at h0;exact h0 (by simp [Value.ownBlock]))
 refine ⟨by rw [List.length_set];exact (ho1.stored i _).1,fun j m hm=>?_,fun j j' u v hjj hu hv=>?_⟩
 .by_cases hj:i=j
  .subst hj
   rw [List.getElem?_set_self hil] at hm;injection hm with hm;subst hm
   refine ⟨A',k',by rw [List.getElem?_set_self (by omega),List.length_append];rfl,?_⟩
   rw [List.length_append,List.flatMap_append,List.flatMap_cons,List.flatMap_nil,List.append_nil];exact hset hne hown
  .rw [List.getElem?_set_ne hj] at hm
   obtain ⟨A2,k2,e2,ho2⟩:=h.rows j m hm;exact ⟨A2,k2,by rw [List.getElem?_set_ne hj];exact e2,hset hne (World.ownsRow.kept (hb.owns ho2) hgr (h.apart i j _ _ hj hi e2))⟩
 .have hold:∀ m v,i≠m->hs[m]?=some v->v.ownBlock=none∨v.ownBlock≠(Value.slice A' (l.length+1) k').ownBlock:=fun m v hm hv=>by
   rcases hat with e | e
   .rw [e];exact h.apart i m _ _ hm hi hv
   .obtain ⟨lm,hlm⟩:∃ lm,xss[m]?=some lm:=⟨_,List.getElem?_eq_getElem (by rw [<- hlen];exact (List.getElem?_eq_some_iff.1 hv).1)⟩
    obtain ⟨A2,k2,e2,ho2⟩:=h.rows m lm hlm;rw [hv] at e2;injection e2 with e2;subst e2
    cases hq:(Value.slice A2 lm.length k2).ownBlock with
    | none=>exact .inl rfl
    | some q =>
     right;rw [e]
     have:=((hb.owns ho2).lt q hq).2;intro e';injection e' with e';omega
  by_cases hj:i=j
  .subst hj
   rw [List.getElem?_set_self (by omega)] at hu
   injection hu with hu;subst hu
   rw [List.getElem?_set_ne hjj] at hv;exact hold j' v hjj hv
  .rw [List.getElem?_set_ne hj] at hu
   by_cases hj':i=j'
   .subst hj'
    rw [List.getElem?_set_self (by omega)] at hv
    injection hv with hv;subst hv
    rcases hold j u hj hu with e | e
    .cases hq:(Value.slice A' (l.length+1) k').ownBlock with
     | none=>exact .inl rfl
     | some q=>right;rw [e];simp
    .exact .inr (Ne.symm e)
   .rw [List.getElem?_set_ne hj'] at hv
    exact h.apart j j' u v hjj hu hv
end
theorem GrR.bel {α:Type} {eo ei:TypeId} {sz:Nat} {f:α->List Value} {w wr w0 w1:World} {gb c:Nat} {hs:List Value} {xss:List (List α)} (h:GrR eo ei sz f w.heap.size wr gb c hs xss) (hk:Bel w wr) {i:Nat} {l:List α} (hl:xss[i]?=some l) {A:Option Addr} {k:Nat} (hi:hs[i]?=some (.slice A l.length k)) (hb:Bel wr w0)
  (hgr:w0.grownBy w1 (Value.slice A l.length k).ownBlock) (v:Value):Bel w (w1.setCell ⟨gb,i,none⟩ v):=by
 obtain ⟨A0,k0,e0,ho0⟩:=h.rows i l hl;rw [hi] at e0;injection e0 with e0;injection e0 with e1 _ e2;subst e1;subst e2
 exact ((hk.trans hb).push (hb.owns ho0) hgr).setCell h.lt.1 v
attribute [local go_sem] Oper.semAt_some
theorem aQj {S:Nat} (hS:S<4294967296):bits .and .u32 (S:Int) (-(S:Int) % 4294967296)=((lsb S:Nat):Int):=by
 by_cases h0:S=0
 .subst h0;rfl
 .exact bCa hS h0
def aBc (g:Graph) (s v:Nat):Nat:=if aO8 g v&&&s=0 then s|||2 ^ v else s
theorem aNu (g:Graph) (l:List Nat):aLn g l=l.foldl (aBc g) 0:=rfl
theorem aNv {g:Graph} {s v:Nat} (hs:s<4294967296) (hv:v<32):aBc g s v<4294967296:=by
 unfold aBc;split
 .exact Nat.or_lt_two_pow (n:=32) hs (aLj hv)
 .exact hs
theorem aZ0 (A:Option Addr) (c:Nat) (g:Graph) (E wi x:Nat) (w:World) (hN:aOw w A g) (hT:aDr w) (hg:GOK g) (hE:E<4294967296) (hW:wi<4294967296)
  (hx:(wi&&&E=0/\lsb E=x)∨(wi&&&E≠0/\wi&&&E=x)) (hw:∀ v,x.testBit v=true->v<g.ports.length) :
  Calls prog 96 #[.slice A g.ports.length c,.int .i64 2,.int .u32 (E:Int),.int .u32 (wi:Int)] w fun e w'=>e = .returned (.int .u32 (aLn g (aAg x):Nat))/\Bel w w':=by
 have HN:=aA0 (fun w' (k:Bel w w')=>hN.keep k);have HT:=aA0 (fun w' (k:Bel w w')=>hT.keep k);have hle:=hg.le;have hba:=aCz hW hE;have hbl:=aQj hE
 have hxl:x<4294967296:=by
  rcases hx with ⟨_,h⟩ | ⟨_,h⟩
  .rw [<- h];exact bCv hE
  .rw [<- h];exact Nat.lt_of_le_of_lt Nat.and_le_right hE
 rcases hx with ⟨h1,h2⟩ | ⟨h1,h2⟩
 .have z:(((wi&&&E:Nat):Int)==0)=true:=by simpa using h1
  rw [h2] at hbl;clear h1 h2;generalize wi&&&E=m at *;refine aFj func96 rfl ?_
  simp only [ntmps96,List.size_toArray,List.length_cons,List.length_nil,Nat.reduceAdd,Nat.reduceSub,Array.replicate_succ,Array.replicate_zero,List.push_toArray,List.append_toArray,List.nil_append,List.cons_append]
  go_wp2_with (go_at_call 85;refine (aF5 _ _).mono ?_;rintro e w' ⟨rfl,rfl⟩)
  obtain ⟨W0,hW0⟩:∃ W0,((w.alloc (.cells #[.slice A g.ports.length c] 98)).alloc (.cells #[.int .u32 0] 46)).alloc (.cells #[.int .u32 (x:Int)] 46)=W0:=⟨_,rfl⟩;have b1:Boxed W0 w.heap.size 98 (.slice A g.ports.length c):=by rw [<- hW0];exact ((Boxed.new w _ _).alloc _).alloc _
  have b2:Boxed W0 (w.heap.size+1) 46 (.int .u32 0):=by
   rw [<- hW0];have:=Boxed.new (w.alloc (.cells #[.slice A g.ports.length c] 98)) 46 (.int .u32 0);rw [World.size_alloc] at this;exact this.alloc _
  have b3:Boxed W0 (w.heap.size+1+1) 46 (.int .u32 (x:Int)):=by
   rw [<- hW0];have:=Boxed.new ((w.alloc (.cells #[.slice A g.ports.length c] 98)).alloc (.cells #[.int .u32 0] 46)) 46 (.int .u32 (x:Int));rw [World.size_alloc,World.size_alloc] at this;exact this
  have hb0:Bel w W0:=by rw [<- hW0];exact (((Bel.refl w).alloc _).alloc _).alloc _
  have hz0:W0.heap.size=w.heap.size+1+1+1:=by rw [<- hW0];simp
  rw [hW0];clear hW0;refine (wpIn_wide (n:=5)).1 ?_
  refine aFq (n:=5) rfl (by decide) (gf:=125) (lb:=#[.pointer (some ⟨w.heap.size+1+1,0,none⟩)]) (by simp [go_sem]) trivial (enters_of func125 (by kernel_rfl) rfl)
   (aJx 4 _ x W0 (by decide) hxl b3 (HT.out _ hb0)) (by rintro k rfl;omega) (by rintro k rfl;exact (HT.out _ hb0).1) (fun _=>rfl) (fun k=>k=w.heap.size+1+1∨k=W0.heap.size∨k=W0.heap.size+1) (fun k=>Iff.rfl)
   (fun pre W=>Boxed W w.heap.size 98 (.slice A g.ports.length c)/\Boxed W (w.heap.size+1) 46 (.int .u32 (pre.foldl (aBc g) 0:Nat))/\pre.foldl (aBc g) 0<4294967296/\Bel w W)
   (fun c pre W=>False)
   (fun s A B ⟨h1,h2,h3,h4⟩ hg=>⟨hg.boxed h1 (by omega),hg.boxed h2 (by omega),h3,hg.belE h4 (by omega)⟩)
   (fun c s A B h hg=>h)
   ⟨b1,b2,by show (0:Nat)<4294967296;decide,hb0⟩
   (fun v a' W=>a'={ tmps:=#[.slice A g.ports.length c,.int .i64 2,.int .u32 (E:Int),.int .u32 (x:Int),.pointer (some ⟨w.heap.size,0,none⟩),undef,undef,undef,.int .u32 0,.pointer (some ⟨w.heap.size+1,0,none⟩),.int .i64 (v:Int),.int .u32 (wi:Int),.int .u32 (E:Int),.int .u32 (m:Int),.int .u32 (m:Int),.bool true,.int .u32 (E:Int),.int .u32 (E:Int),.int .u32 (-(E:Int) % 4294967296),.int .u32 (x:Int),.int .i64 2,.bool false,.bool false,undef,undef,undef,undef,.bool true,.bool true,.int .u32 (x:Int),.func (.func 125) #[] #[.pointer (some ⟨w.heap.size+1+1,0,none⟩)],.int .i64 (v:Int),undef,undef,undef,undef,undef,undef,undef,undef,undef,undef,undef,undef,undef,undef,undef,undef],defers:=[] })
   (fun _ _ _ _ h _=>h) ?assign ?body ?done ?stop
  case assign =>
   intro pre v W K hp hI hl hK
   gi_wp2
   exact hK _ _ (aBg.refl _ _) hI rfl
  case body =>
   rintro pre v a' W hp ⟨h1,h2,h3,h4⟩ rfl hl ⟨r,hr⟩;have hv:v∈aAg x:=hp.subset (by simp)
   have hvn:=hw v (aCb.1 hv).2;obtain ⟨b,o,e,hb,hc⟩:=(HN.out _ h4).at_ hvn;subst e;have HFS:Hid ((pre++[v]).foldl (aBc g) 0=aBc g (pre.foldl (aBc g) 0) v):=by show _=_;rw [List.foldl_append];rfl
   have HLT:Hid (aBc g (pre.foldl (aBc g) 0) v<4294967296):=aNv h3 (by omega)
   have HGS:Hid (aBc g (pre.foldl (aBc g) 0) v=if aO8 g v&&&pre.foldl (aBc g) 0=0 then pre.foldl (aBc g) 0|||2 ^ v else pre.foldl (aBc g) 0):=rfl
   obtain ⟨c1,f1,l1⟩:=aAt h1;obtain ⟨c2,f2,l2⟩:=aAt h2;have q:=aCz (bAx hg v) h3;have q2:=aKl h3 (show v<32 by omega)
   have hdv:decide (v<g.ports.length)=true:=by simpa using hvn
   generalize pre.foldl (aBc g) 0=s at *;generalize hnv:aO8 g v=N at *;refine wpIn_block (wpIn_seq ?_)
   refine aA6.startIn (fun w'=>w'.cell? ⟨w.heap.size,0,none⟩=some (.slice (some ⟨b,o,none⟩) g.ports.length c)/\w'.cell? ⟨w.heap.size+1,0,none⟩=some (.int .u32 (s:Int))/\w'.cell? ⟨b,o+v,none⟩=some (.int .u32 (N:Int))/\w.heap.size<w'.heap.size/\w.heap.size+1<w'.heap.size/\b<w'.heap.size) 6 (by kernel_rfl) (by kernel_rfl) (by rintro ⟨_,_,h⟩;exact h) ?_
   have hHeld:W.drew.cell? ⟨w.heap.size,0,none⟩=some (.slice (some ⟨b,o,none⟩) g.ports.length c)/\W.drew.cell? ⟨w.heap.size+1,0,none⟩=some (.int .u32 (s:Int))/\W.drew.cell? ⟨b,o+v,none⟩=some (.int .u32 (N:Int))/\w.heap.size<W.drew.heap.size/\w.heap.size+1<W.drew.heap.size/\b<W.drew.heap.size:=⟨c1,c2,hc,l1,l2,hb⟩
   by_cases hz:N&&&s=0
   .rw [hz] at q
    rw [if_pos hz] at HGS
    (refine aA6.t (v:=?_) 0 32 rfl rfl (by kernel_rfl) (fun _ _ _ h=>h) hHeld (Or.inl ⟨by rfl,?_⟩) ?_;rotate_left 1;focus (intro w' hSw;(try dsimp only at hSw);go_simp;(try with_reducible rfl);done))
    (refine aA6.t (v:=?_) 1 33 rfl rfl (by kernel_rfl) (fun _ _ _ h=>h) hHeld (Or.inl ⟨by rfl,?_⟩) ?_;rotate_left 1;focus (intro w' hSw;(try dsimp only at hSw);go_simp;(try with_reducible rfl);done))
    (refine aA6.t (v:=?_) 2 34 rfl rfl (by kernel_rfl) (fun _ _ _ h=>h) hHeld (Or.inl ⟨by rfl,?_⟩) ?_;rotate_left 1;focus (intro w' hSw;(try dsimp only at hSw);go_simp;(try with_reducible rfl);done))
    (refine aA6.t (v:=?_) 3 35 rfl rfl (by kernel_rfl) (fun _ _ _ h=>h) hHeld (Or.inl ⟨by rfl,?_⟩) ?_;rotate_left 1;focus (intro w' hSw;(try dsimp only at hSw);go_simp;(try with_reducible rfl);done))
    (refine aA6.t (v:=?_) 4 36 rfl rfl (by kernel_rfl) (fun _ _ _ h=>h) hHeld (Or.inl ⟨by rfl,?_⟩) ?_;rotate_left 1;focus (intro w' hSw;(try dsimp only at hSw);go_simp;(try with_reducible rfl);done))
    (refine aA6.t (v:=?_) 5 37 rfl rfl (by kernel_rfl) (fun _ _ _ h=>h) hHeld (Or.inl ⟨by rfl,?_⟩) ?_;rotate_left 1;focus (intro w' hSw;(try dsimp only at hSw);go_simp;(try with_reducible rfl);done))
    refine aA6.one (i:=6) (by kernel_rfl) rfl (fun K hK=>?_)
    go_simp
    refine hK.out _ _ (fun h=>absurd rfl h) ?_
    refine aA6.done (by kernel_rfl) ?_ _
    (try simp only [Act.put,List.setIfInBounds_toArray,List.set_cons_zero,List.set_cons_succ])
    change Code.wpIn _ _ _ _ _ _ _
    gi_wp2
    refine aA6.startIn (fun w'=>w'.cell? ⟨w.heap.size,0,none⟩=some (.slice (some ⟨b,o,none⟩) g.ports.length c)/\w'.cell? ⟨w.heap.size+1,0,none⟩=some (.int .u32 (s:Int))/\w'.cell? ⟨b,o+v,none⟩=some (.int .u32 (N:Int))/\w.heap.size<w'.heap.size/\w.heap.size+1<w'.heap.size/\b<w'.heap.size) 4 (by kernel_rfl) (by kernel_rfl) (by rintro ⟨_,_,h⟩;exact h) ?_
    have hHeld:W.drew.drew.cell? ⟨w.heap.size,0,none⟩=some (.slice (some ⟨b,o,none⟩) g.ports.length c)/\W.drew.drew.cell? ⟨w.heap.size+1,0,none⟩=some (.int .u32 (s:Int))/\W.drew.drew.cell? ⟨b,o+v,none⟩=some (.int .u32 (N:Int))/\w.heap.size<W.drew.drew.heap.size/\w.heap.size+1<W.drew.drew.heap.size/\b<W.drew.drew.heap.size:=⟨c1,c2,hc,l1,l2,hb⟩
    (refine aA6.t (v:=?_) 0 39 rfl rfl (by kernel_rfl) (fun _ _ _ h=>h) hHeld (Or.inl ⟨by rfl,?_⟩) ?_;rotate_left 1;focus (intro w' hSw;(try dsimp only at hSw);go_simp;(try with_reducible rfl);done))
    (refine aA6.t (v:=?_) 1 40 rfl rfl (by kernel_rfl) (fun _ _ _ h=>h) hHeld (Or.inl ⟨by rfl,?_⟩) ?_;rotate_left 1;focus (intro w' hSw;(try dsimp only at hSw);go_simp;(try with_reducible rfl);done))
    (refine aA6.t (v:=?_) 2 41 rfl rfl (by kernel_rfl) (fun _ _ _ h=>h) hHeld (Or.inl ⟨by rfl,?_⟩) ?_;rotate_left 1;focus (intro w' hSw;(try dsimp only at hSw);go_simp;(try with_reducible rfl);done))
    (refine aA6.t (v:=?_) 3 42 rfl rfl (by kernel_rfl) (fun _ _ _ h=>h) hHeld (Or.inl ⟨by rfl,?_⟩) ?_;rotate_left 1;focus (intro w' hSw;(try dsimp only at hSw);go_simp;(try with_reducible rfl);done))
    (refine aA6.one (i:=4) (by kernel_rfl) rfl (fun K hK=>?_));go_simp;refine hK.out _ _ (fun h=>absurd rfl h) ?_;clear hK K;refine aA6.done (by kernel_rfl) ?_ _;(try simp only [Act.put,List.setIfInBounds_toArray,List.set_cons_zero,List.set_cons_succ])
    rw [show IntKind.u32.wrap (2 ^ v)=2 ^ v % 4294967296 from rfl,q2,<- HGS.out]
    gi_wp2
    have h2':=h2.set (.int .u32 (aBc g s v:Nat));refine ⟨aBg.drew (aBg.drew (aBg.setCell _ _ _ ?_)),?_,?_,?_,((h4.setCell (by simp) _).drew).drew⟩
    .have:=hT.1
     rintro ((h | h | h) | h) <;> (dsimp only at h;omega)
    .exact (Below.heap_setCell _ _ _ _ (by simp)).trans h1
    .rw [HFS.out];exact h2'
    .rw [HFS.out];exact HLT.out
   .have hq:(((N&&&s:Nat):Int)==0)=false:=by simpa using hz
    rw [if_neg hz] at HGS;generalize N&&&s=Z at *
    (refine aA6.t (v:=?_) 0 32 rfl rfl (by kernel_rfl) (fun _ _ _ h=>h) hHeld (Or.inl ⟨by rfl,?_⟩) ?_;rotate_left 1;focus (intro w' hSw;(try dsimp only at hSw);go_simp;(try with_reducible rfl);done))
    (refine aA6.t (v:=?_) 1 33 rfl rfl (by kernel_rfl) (fun _ _ _ h=>h) hHeld (Or.inl ⟨by rfl,?_⟩) ?_;rotate_left 1;focus (intro w' hSw;(try dsimp only at hSw);go_simp;(try with_reducible rfl);done))
    (refine aA6.t (v:=?_) 2 34 rfl rfl (by kernel_rfl) (fun _ _ _ h=>h) hHeld (Or.inl ⟨by rfl,?_⟩) ?_;rotate_left 1;focus (intro w' hSw;(try dsimp only at hSw);go_simp;(try with_reducible rfl);done))
    (refine aA6.t (v:=?_) 3 35 rfl rfl (by kernel_rfl) (fun _ _ _ h=>h) hHeld (Or.inl ⟨by rfl,?_⟩) ?_;rotate_left 1;focus (intro w' hSw;(try dsimp only at hSw);go_simp;(try with_reducible rfl);done))
    (refine aA6.t (v:=?_) 4 36 rfl rfl (by kernel_rfl) (fun _ _ _ h=>h) hHeld (Or.inl ⟨by rfl,?_⟩) ?_;rotate_left 1;focus (intro w' hSw;(try dsimp only at hSw);go_simp;(try with_reducible rfl);done))
    (refine aA6.t (v:=?_) 5 37 rfl rfl (by kernel_rfl) (fun _ _ _ h=>h) hHeld (Or.inl ⟨by rfl,?_⟩) ?_;rotate_left 1;focus (intro w' hSw;(try dsimp only at hSw);go_simp;(try with_reducible rfl);done))
    refine aA6.one (i:=6) (by kernel_rfl) rfl (fun K hK=>?_)
    go_simp
    refine hK.out _ _ (fun h=>absurd rfl h) ?_
    refine aA6.done (by kernel_rfl) ?_ _
    (try simp only [Act.put,List.setIfInBounds_toArray,List.set_cons_zero,List.set_cons_succ])
    change Code.wpIn _ _ _ _ _ _ _
    gi_wp2
    refine ⟨aBg.of_bel ((Bel.refl W).drew),h1,?_,?_,h4.drew⟩
    .rw [HFS.out,HGS.out];exact h2
    .rw [HFS.out];exact HLT.out
  case done =>
   rintro W ⟨h1,h2,h3,h4⟩ hK;obtain ⟨c2,f2,l2⟩:=aAt h2;rw [<- aNu] at *;go_wp2;refine aDd (B:=w.heap.size) (aE9.push (aE9.nil _ _) (by omega) hK (by simp)) ?_
   intro W' hA hs
   exact ⟨.int .u32 (aLn g (aAg x):Nat),by simp [results,Tryz.results96,go_sem],rfl,hA.bel h4⟩
  case stop =>
   rintro c' pre W hp h hK;exact h.elim
 .have z:(((wi&&&E:Nat):Int)==0)=false:=by simpa using h1
  rw [h2] at hba z;clear h1 h2;refine aFj func96 rfl ?_
  simp only [ntmps96,List.size_toArray,List.length_cons,List.length_nil,Nat.reduceAdd,Nat.reduceSub,Array.replicate_succ,Array.replicate_zero,List.push_toArray,List.append_toArray,List.nil_append,List.cons_append]
  go_wp2_with (go_at_call 85;refine (aF5 _ _).mono ?_;rintro e w' ⟨rfl,rfl⟩)
  obtain ⟨W0,hW0⟩:∃ W0,((w.alloc (.cells #[.slice A g.ports.length c] 98)).alloc (.cells #[.int .u32 0] 46)).alloc (.cells #[.int .u32 (x:Int)] 46)=W0:=⟨_,rfl⟩;have b1:Boxed W0 w.heap.size 98 (.slice A g.ports.length c):=by rw [<- hW0];exact ((Boxed.new w _ _).alloc _).alloc _
  have b2:Boxed W0 (w.heap.size+1) 46 (.int .u32 0):=by
   rw [<- hW0];have:=Boxed.new (w.alloc (.cells #[.slice A g.ports.length c] 98)) 46 (.int .u32 0);rw [World.size_alloc] at this;exact this.alloc _
  have b3:Boxed W0 (w.heap.size+1+1) 46 (.int .u32 (x:Int)):=by
   rw [<- hW0];have:=Boxed.new ((w.alloc (.cells #[.slice A g.ports.length c] 98)).alloc (.cells #[.int .u32 0] 46)) 46 (.int .u32 (x:Int));rw [World.size_alloc,World.size_alloc] at this;exact this
  have hb0:Bel w W0:=by rw [<- hW0];exact (((Bel.refl w).alloc _).alloc _).alloc _
  have hz0:W0.heap.size=w.heap.size+1+1+1:=by rw [<- hW0];simp
  rw [hW0];clear hW0;refine (wpIn_wide (n:=5)).1 ?_
  refine aFq (n:=5) rfl (by decide) (gf:=125) (lb:=#[.pointer (some ⟨w.heap.size+1+1,0,none⟩)]) (by simp [go_sem]) trivial (enters_of func125 (by kernel_rfl) rfl)
   (aJx 4 _ x W0 (by decide) hxl b3 (HT.out _ hb0)) (by rintro k rfl;omega) (by rintro k rfl;exact (HT.out _ hb0).1) (fun _=>rfl) (fun k=>k=w.heap.size+1+1∨k=W0.heap.size∨k=W0.heap.size+1) (fun k=>Iff.rfl)
   (fun pre W=>Boxed W w.heap.size 98 (.slice A g.ports.length c)/\Boxed W (w.heap.size+1) 46 (.int .u32 (pre.foldl (aBc g) 0:Nat))/\pre.foldl (aBc g) 0<4294967296/\Bel w W)
   (fun c pre W=>False)
   (fun s A B ⟨h1,h2,h3,h4⟩ hg=>⟨hg.boxed h1 (by omega),hg.boxed h2 (by omega),h3,hg.belE h4 (by omega)⟩)
   (fun c s A B h hg=>h)
   ⟨b1,b2,by show (0:Nat)<4294967296;decide,hb0⟩
   (fun v a' W=>a'={ tmps:=#[.slice A g.ports.length c,.int .i64 2,.int .u32 (E:Int),.int .u32 (x:Int),.pointer (some ⟨w.heap.size,0,none⟩),undef,undef,undef,.int .u32 0,.pointer (some ⟨w.heap.size+1,0,none⟩),.int .i64 (v:Int),.int .u32 (wi:Int),.int .u32 (E:Int),.int .u32 (x:Int),.int .u32 (x:Int),.bool false,undef,undef,undef,undef,.int .i64 2,.bool false,.bool false,undef,undef,undef,undef,.bool true,.bool true,.int .u32 (x:Int),.func (.func 125) #[] #[.pointer (some ⟨w.heap.size+1+1,0,none⟩)],.int .i64 (v:Int),undef,undef,undef,undef,undef,undef,undef,undef,undef,undef,undef,undef,undef,undef,undef,undef],defers:=[] })
   (fun _ _ _ _ h _=>h) ?assign ?body ?done ?stop
  case assign =>
   intro pre v W K hp hI hl hK
   gi_wp2
   exact hK _ _ (aBg.refl _ _) hI rfl
  case body =>
   rintro pre v a' W hp ⟨h1,h2,h3,h4⟩ rfl hl ⟨r,hr⟩;have hv:v∈aAg x:=hp.subset (by simp)
   have hvn:=hw v (aCb.1 hv).2;obtain ⟨b,o,e,hb,hc⟩:=(HN.out _ h4).at_ hvn;subst e;have HFS:Hid ((pre++[v]).foldl (aBc g) 0=aBc g (pre.foldl (aBc g) 0) v):=by show _=_;rw [List.foldl_append];rfl
   have HLT:Hid (aBc g (pre.foldl (aBc g) 0) v<4294967296):=aNv h3 (by omega)
   have HGS:Hid (aBc g (pre.foldl (aBc g) 0) v=if aO8 g v&&&pre.foldl (aBc g) 0=0 then pre.foldl (aBc g) 0|||2 ^ v else pre.foldl (aBc g) 0):=rfl
   obtain ⟨c1,f1,l1⟩:=aAt h1;obtain ⟨c2,f2,l2⟩:=aAt h2;have q:=aCz (bAx hg v) h3;have q2:=aKl h3 (show v<32 by omega)
   have hdv:decide (v<g.ports.length)=true:=by simpa using hvn
   generalize pre.foldl (aBc g) 0=s at *;generalize hnv:aO8 g v=N at *;refine wpIn_block (wpIn_seq ?_)
   refine aA6.startIn (fun w'=>w'.cell? ⟨w.heap.size,0,none⟩=some (.slice (some ⟨b,o,none⟩) g.ports.length c)/\w'.cell? ⟨w.heap.size+1,0,none⟩=some (.int .u32 (s:Int))/\w'.cell? ⟨b,o+v,none⟩=some (.int .u32 (N:Int))/\w.heap.size<w'.heap.size/\w.heap.size+1<w'.heap.size/\b<w'.heap.size) 6 (by kernel_rfl) (by kernel_rfl) (by rintro ⟨_,_,h⟩;exact h) ?_
   have hHeld:W.drew.cell? ⟨w.heap.size,0,none⟩=some (.slice (some ⟨b,o,none⟩) g.ports.length c)/\W.drew.cell? ⟨w.heap.size+1,0,none⟩=some (.int .u32 (s:Int))/\W.drew.cell? ⟨b,o+v,none⟩=some (.int .u32 (N:Int))/\w.heap.size<W.drew.heap.size/\w.heap.size+1<W.drew.heap.size/\b<W.drew.heap.size:=⟨c1,c2,hc,l1,l2,hb⟩
   by_cases hz:N&&&s=0
   .rw [hz] at q
    rw [if_pos hz] at HGS
    (refine aA6.t (v:=?_) 0 32 rfl rfl (by kernel_rfl) (fun _ _ _ h=>h) hHeld (Or.inl ⟨by rfl,?_⟩) ?_;rotate_left 1;focus (intro w' hSw;(try dsimp only at hSw);go_simp;(try with_reducible rfl);done))
    (refine aA6.t (v:=?_) 1 33 rfl rfl (by kernel_rfl) (fun _ _ _ h=>h) hHeld (Or.inl ⟨by rfl,?_⟩) ?_;rotate_left 1;focus (intro w' hSw;(try dsimp only at hSw);go_simp;(try with_reducible rfl);done))
    (refine aA6.t (v:=?_) 2 34 rfl rfl (by kernel_rfl) (fun _ _ _ h=>h) hHeld (Or.inl ⟨by rfl,?_⟩) ?_;rotate_left 1;focus (intro w' hSw;(try dsimp only at hSw);go_simp;(try with_reducible rfl);done))
    (refine aA6.t (v:=?_) 3 35 rfl rfl (by kernel_rfl) (fun _ _ _ h=>h) hHeld (Or.inl ⟨by rfl,?_⟩) ?_;rotate_left 1;focus (intro w' hSw;(try dsimp only at hSw);go_simp;(try with_reducible rfl);done))
    (refine aA6.t (v:=?_) 4 36 rfl rfl (by kernel_rfl) (fun _ _ _ h=>h) hHeld (Or.inl ⟨by rfl,?_⟩) ?_;rotate_left 1;focus (intro w' hSw;(try dsimp only at hSw);go_simp;(try with_reducible rfl);done))
    (refine aA6.t (v:=?_) 5 37 rfl rfl (by kernel_rfl) (fun _ _ _ h=>h) hHeld (Or.inl ⟨by rfl,?_⟩) ?_;rotate_left 1;focus (intro w' hSw;(try dsimp only at hSw);go_simp;(try with_reducible rfl);done))
    refine aA6.one (i:=6) (by kernel_rfl) rfl (fun K hK=>?_)
    go_simp
    refine hK.out _ _ (fun h=>absurd rfl h) ?_
    refine aA6.done (by kernel_rfl) ?_ _
    (try simp only [Act.put,List.setIfInBounds_toArray,List.set_cons_zero,List.set_cons_succ])
    change Code.wpIn _ _ _ _ _ _ _
    gi_wp2
    refine aA6.startIn (fun w'=>w'.cell? ⟨w.heap.size,0,none⟩=some (.slice (some ⟨b,o,none⟩) g.ports.length c)/\w'.cell? ⟨w.heap.size+1,0,none⟩=some (.int .u32 (s:Int))/\w'.cell? ⟨b,o+v,none⟩=some (.int .u32 (N:Int))/\w.heap.size<w'.heap.size/\w.heap.size+1<w'.heap.size/\b<w'.heap.size) 4 (by kernel_rfl) (by kernel_rfl) (by rintro ⟨_,_,h⟩;exact h) ?_
    have hHeld:W.drew.drew.cell? ⟨w.heap.size,0,none⟩=some (.slice (some ⟨b,o,none⟩) g.ports.length c)/\W.drew.drew.cell? ⟨w.heap.size+1,0,none⟩=some (.int .u32 (s:Int))/\W.drew.drew.cell? ⟨b,o+v,none⟩=some (.int .u32 (N:Int))/\w.heap.size<W.drew.drew.heap.size/\w.heap.size+1<W.drew.drew.heap.size/\b<W.drew.drew.heap.size:=⟨c1,c2,hc,l1,l2,hb⟩
    (refine aA6.t (v:=?_) 0 39 rfl rfl (by kernel_rfl) (fun _ _ _ h=>h) hHeld (Or.inl ⟨by rfl,?_⟩) ?_;rotate_left 1;focus (intro w' hSw;(try dsimp only at hSw);go_simp;(try with_reducible rfl);done))
    (refine aA6.t (v:=?_) 1 40 rfl rfl (by kernel_rfl) (fun _ _ _ h=>h) hHeld (Or.inl ⟨by rfl,?_⟩) ?_;rotate_left 1;focus (intro w' hSw;(try dsimp only at hSw);go_simp;(try with_reducible rfl);done))
    (refine aA6.t (v:=?_) 2 41 rfl rfl (by kernel_rfl) (fun _ _ _ h=>h) hHeld (Or.inl ⟨by rfl,?_⟩) ?_;rotate_left 1;focus (intro w' hSw;(try dsimp only at hSw);go_simp;(try with_reducible rfl);done))
    (refine aA6.t (v:=?_) 3 42 rfl rfl (by kernel_rfl) (fun _ _ _ h=>h) hHeld (Or.inl ⟨by rfl,?_⟩) ?_;rotate_left 1;focus (intro w' hSw;(try dsimp only at hSw);go_simp;(try with_reducible rfl);done))
    (refine aA6.one (i:=4) (by kernel_rfl) rfl (fun K hK=>?_));go_simp;refine hK.out _ _ (fun h=>absurd rfl h) ?_;clear hK K;refine aA6.done (by kernel_rfl) ?_ _;(try simp only [Act.put,List.setIfInBounds_toArray,List.set_cons_zero,List.set_cons_succ])
    rw [show IntKind.u32.wrap (2 ^ v)=2 ^ v % 4294967296 from rfl,q2,<- HGS.out]
    gi_wp2
    have h2':=h2.set (.int .u32 (aBc g s v:Nat));refine ⟨aBg.drew (aBg.drew (aBg.setCell _ _ _ ?_)),?_,?_,?_,((h4.setCell (by simp) _).drew).drew⟩
    .have:=hT.1
     rintro ((h | h | h) | h) <;> (dsimp only at h;omega)
    .exact (Below.heap_setCell _ _ _ _ (by simp)).trans h1
    .rw [HFS.out];exact h2'
    .rw [HFS.out];exact HLT.out
   .have hq:(((N&&&s:Nat):Int)==0)=false:=by simpa using hz
    rw [if_neg hz] at HGS;generalize N&&&s=Z at *
    (refine aA6.t (v:=?_) 0 32 rfl rfl (by kernel_rfl) (fun _ _ _ h=>h) hHeld (Or.inl ⟨by rfl,?_⟩) ?_;rotate_left 1;focus (intro w' hSw;(try dsimp only at hSw);go_simp;(try with_reducible rfl);done))
    (refine aA6.t (v:=?_) 1 33 rfl rfl (by kernel_rfl) (fun _ _ _ h=>h) hHeld (Or.inl ⟨by rfl,?_⟩) ?_;rotate_left 1;focus (intro w' hSw;(try dsimp only at hSw);go_simp;(try with_reducible rfl);done))
    (refine aA6.t (v:=?_) 2 34 rfl rfl (by kernel_rfl) (fun _ _ _ h=>h) hHeld (Or.inl ⟨by rfl,?_⟩) ?_;rotate_left 1;focus (intro w' hSw;(try dsimp only at hSw);go_simp;(try with_reducible rfl);done))
    (refine aA6.t (v:=?_) 3 35 rfl rfl (by kernel_rfl) (fun _ _ _ h=>h) hHeld (Or.inl ⟨by rfl,?_⟩) ?_;rotate_left 1;focus (intro w' hSw;(try dsimp only at hSw);go_simp;(try with_reducible rfl);done))
    (refine aA6.t (v:=?_) 4 36 rfl rfl (by kernel_rfl) (fun _ _ _ h=>h) hHeld (Or.inl ⟨by rfl,?_⟩) ?_;rotate_left 1;focus (intro w' hSw;(try dsimp only at hSw);go_simp;(try with_reducible rfl);done))
    (refine aA6.t (v:=?_) 5 37 rfl rfl (by kernel_rfl) (fun _ _ _ h=>h) hHeld (Or.inl ⟨by rfl,?_⟩) ?_;rotate_left 1;focus (intro w' hSw;(try dsimp only at hSw);go_simp;(try with_reducible rfl);done))
    refine aA6.one (i:=6) (by kernel_rfl) rfl (fun K hK=>?_)
    go_simp
    refine hK.out _ _ (fun h=>absurd rfl h) ?_
    refine aA6.done (by kernel_rfl) ?_ _
    (try simp only [Act.put,List.setIfInBounds_toArray,List.set_cons_zero,List.set_cons_succ])
    change Code.wpIn _ _ _ _ _ _ _
    gi_wp2
    refine ⟨aBg.of_bel ((Bel.refl W).drew),h1,?_,?_,h4.drew⟩
    .rw [HFS.out,HGS.out];exact h2
    .rw [HFS.out];exact HLT.out
  case done =>
   rintro W ⟨h1,h2,h3,h4⟩ hK;obtain ⟨c2,f2,l2⟩:=aAt h2;rw [<- aNu] at *;go_wp2;refine aDd (B:=w.heap.size) (aE9.push (aE9.nil _ _) (by omega) hK (by simp)) ?_
   intro W' hA hs
   exact ⟨.int .u32 (aLn g (aAg x):Nat),by simp [results,Tryz.results96,go_sem],rfl,hA.bel h4⟩
  case stop =>
   rintro c' pre W hp h hK;exact h.elim
theorem aL7 (g:Graph):∀ (l:List Nat) (s:Nat),s<4294967296->(∀ v∈l,v<32)->l.foldl (aBc g) s<4294967296
 | [],_,h,_=>h
 | v :: l,_,h,hl=>aL7 g l _ (aNv h (hl v List.mem_cons_self)) fun u hu=>hl u (List.mem_cons_of_mem _ hu)
theorem bFw (g:Graph) (kind:Int) {E:Nat} (wi:Nat) (hE:E<4294967296):aCp g kind E wi<4294967296:=by
 have hx:(if wi&&&E=0 then lsb E else wi&&&E)<4294967296:=by
  split
  .exact bCv hE
  .exact Nat.lt_of_le_of_lt Nat.and_le_right hE
 unfold aCp;generalize (if wi&&&E=0 then lsb E else wi&&&E)=x at *
 dsimp only;split
 .exact bCv hx
 .split
  .rw [aNu];exact aL7 g _ _ (by decide) fun v hv=>(aCb.1 hv).1
  .split
   .exact hE
   .exact hx
theorem bBj (A:Option Addr) (c:Nat) (g:Graph) (kind:Int) (E wi:Nat) (w:World) (hN:aOw w A g) (hT:aDr w) (hg:GOK g) (hE:E<2 ^ g.ports.length) (hW:wi<4294967296) :
  Calls prog 96 #[.slice A g.ports.length c,.int .i64 kind,.int .u32 (E:Int),.int .u32 (wi:Int)] w fun e w'=>e = .returned (.int .u32 (aCp g kind E wi:Nat))/\Bel w w':=by
 have hle:=hg.le;have hE32:E<4294967296:=Nat.lt_of_lt_of_le hE (Nat.pow_le_pow_right (n:=2) (by decide) (show g.ports.length<=32 by omega))
 obtain ⟨x,hx⟩:∃ x,(if wi&&&E=0 then lsb E else wi&&&E)=x:=⟨_,rfl⟩
 have hF:aCp g kind E wi=if kind=1 then lsb x else if kind=2 then aLn g (aAg x) else if kind=4 then E else x:=by unfold aCp;rw [hx]
 have hxE:x<=E:=by
  rw [<- hx];split
  .exact Nat.and_le_left
  .exact Nat.and_le_right
 have hx2:(wi&&&E=0/\lsb E=x)∨(wi&&&E≠0/\wi&&&E=x):=by
  by_cases h:wi&&&E=0
  .rw [if_pos h] at hx;exact .inl ⟨h,hx⟩
  .rw [if_neg h] at hx;exact .inr ⟨h,hx⟩
 rw [hF]
 by_cases k2:kind=2
 .subst k2
  rw [if_neg (by decide),if_pos rfl]
  refine aZ0 A c g E wi x w hN hT hg hE32 hW hx2 fun v hv=>?_
  rcases Nat.lt_or_ge v g.ports.length with h | h
  .exact h
  .have e:2 ^ g.ports.length<=2 ^ v:=Nat.pow_le_pow_right (by decide) h
   rw [Nat.testBit_lt_two_pow (by omega)] at hv;cases hv
 have k2':(kind==2)=false:=by simpa using k2
 have HB:Hid (Bel w (w.alloc (.cells #[.slice A g.ports.length c] 98))):=(Bel.refl w).alloc _;have hba:=aCz hW hE32;have hbl:=aQj hE32;have HBX:=aQj (S:=x) (by omega)
 have HR:Hid ((if kind=1 then lsb x else if kind=2 then aLn g (aAg x) else if kind=4 then E else x)=if kind=1 then lsb x else if kind=4 then E else x):=by show _=_;rw [if_neg k2]
 rw [HR.out];obtain ⟨r,hr⟩:∃ r,(if kind=1 then lsb x else if kind=4 then E else x)=r:=⟨_,rfl⟩
 have K:((kind==1)=true/\Hid (lsb x=r))∨((kind==1)=false/\(kind==4)=true/\Hid (E=r))∨((kind==1)=false/\(kind==4)=false/\Hid (x=r)):=by
  by_cases k1:kind=1
  .rw [if_pos k1] at hr;exact .inl ⟨by simpa using k1,hr⟩
  .rw [if_neg k1] at hr
   by_cases k4:kind=4
   .rw [if_pos k4] at hr;exact .inr (.inl ⟨by simpa using k1,by simpa using k4,hr⟩)
   .rw [if_neg k4] at hr;exact .inr (.inr ⟨by simpa using k1,by simpa using k4,hr⟩)
 rw [hr];clear hF hx HR hr hN hT hg hE k2
 rcases hx2 with ⟨h1,h2⟩ | ⟨h1,h2⟩
 .have z:(((wi&&&E:Nat):Int)==0)=true:=by simpa using h1
  rw [h2] at hbl;clear h1 h2;generalize wi&&&E=m at *
  rcases K with ⟨k1,hr⟩ | ⟨k1,k4,hr⟩ | ⟨k1,k4,hr⟩
  all_goals
   go_enter func96,ntmps96
   go_wp2_with fail
   go_ret;exact ⟨aA9 (by rw [<- hr.out]),HB.out⟩
 .have z:(((wi&&&E:Nat):Int)==0)=false:=by simpa using h1
  rw [h2] at hba z;clear h1 h2
  rcases K with ⟨k1,hr⟩ | ⟨k1,k4,hr⟩ | ⟨k1,k4,hr⟩
  all_goals
   go_enter func96,ntmps96
   go_wp2_with fail
   go_ret;exact ⟨aA9 (by rw [<- hr.out]),HB.out⟩
end Go.Proofs.YtmoebklkkjbigaaGreatDoor

namespace Go.Proofs.YtmoebklkkjbigaaGreatDoor
open Go.RowKit
def bKg (p:Prg) (g:Graph) (kind:Int) (c:aA2) (n:Int):Int:=if aC0 p g c≠0 then aC0 p g c else if aGx kind=false then 12 else if 4096<n then 3 else 0
theorem aWo {p:Prg} {g:Graph} {kind:Int} {c:aA2} {n:Int} (h:bKg p g kind c n=0):aC0 p g c=0/\aGx kind=true/\n<=4096:=by
 unfold bKg at h;split at h
 .exact absurd h (by assumption)
 .rename_i h1
  split at h
  .cases h
  .rename_i h2
   split at h
   .cases h
   .rename_i h3
    exact ⟨by simpa using h1,by simpa using h2,by omega⟩
theorem aPa (v1:Value) (p:Prg) (v2:Value) (g:Graph) (v3:Value) (c:aA2) (kind n:Int) (w:World) (h:aKy w v1 p) (h2:aB7 w v2 g) (h3:aD7 w v3 c) (hL:aCi p=true) (hG:aC7 g=true) (hC:aI4 c=true) :
  Calls prog 48 #[v1,v2,.int .i64 kind,v3,.int .i64 n] w fun e w'=>e = .returned (.int .i64 (bKg p g kind c n))/\Bel w w':=by
 have HPV:=aA0 (fun w' (k:Bel w w')=>h.keep k);have HGV:=aA0 (fun w' (k:Bel w w')=>h2.keep k);have HCV:=aA0 (fun w' (k:Bel w w')=>h3.keep k);obtain ⟨A1,k1,A2,k2,rfl,_,_,_,_,_,_⟩:=h;obtain ⟨A3,k3,A4,k4,rfl,_,_,_,_,_,_⟩:=h2;obtain ⟨A5,k5,rfl,_,_,_⟩:=h3;have HW:=Bel.refl ((w.alloc (.cells #[.string p.name,.slice A1 p.vars.length k1,.slice A2 p.rules.length k2] 31)).alloc (.cells #[.slice A3 g.ids.length k3,.slice A4 g.ports.length k4] 25));have HL:=aA0 hL;have HGL:=aA0 hG;have HCL:=aA0 hC;clear hL hG hC;have HF:Hid (bKg p g kind c n=if aC0 p g c≠0 then aC0 p g c else if aGx kind=false then 12 else if 4096<n then 3 else 0):=rfl
 by_cases hm:aC0 p g c=0
 .rw [if_neg (by simpa using hm)] at HF
  have HM:=aA0 hm;clear hm;cases hk:aGx kind with
  | false =>
   rw [hk,if_pos rfl] at HF;have HK:=aA0 hk;clear hk;go_enter func48,ntmps48
   go_wp2_with (first
    | (go_at_call 92;refine (aHf _ p _ g _ c _ (HPV.out _ (aA3 HW)) (HGV.out _ (aA3 HW)) (HCV.out _ (aA3 HW)) HL.out HGL.out HCL.out).mono ?_;rintro e w' ⟨rfl,hb⟩;rw [HM.out];replace HW:=HW.trans hb;clear hb;(try clear p0 p1 p2 g0 g1 gsz);obtain ⟨p0,p1,p2,g0,g1,gsz⟩:=aDk HW)
    | (go_at_call 34;refine (aD1 kind _).mono ?_;rintro e w' ⟨rfl,rfl⟩;rw [HK.out]))
   go_ret;exact ⟨aA9 (by rw [HF.out]),aA3 HW⟩
  | true =>
   rw [hk,if_neg (by decide)] at HF
   have HK:=aA0 hk;clear hk
   by_cases hn:4096<n
   .rw [if_pos hn] at HF
    have hd:decide (4096<n)=true:=by simpa using hn
    clear hn;go_enter func48,ntmps48
    go_wp2_with (first
     | (go_at_call 92;refine (aHf _ p _ g _ c _ (HPV.out _ (aA3 HW)) (HGV.out _ (aA3 HW)) (HCV.out _ (aA3 HW)) HL.out HGL.out HCL.out).mono ?_;rintro e w' ⟨rfl,hb⟩;rw [HM.out];replace HW:=HW.trans hb;clear hb;(try clear p0 p1 p2 g0 g1 gsz);obtain ⟨p0,p1,p2,g0,g1,gsz⟩:=aDk HW)
     | (go_at_call 34;refine (aD1 kind _).mono ?_;rintro e w' ⟨rfl,rfl⟩;rw [HK.out]))
    go_ret;exact ⟨aA9 (by rw [HF.out]),aA3 HW⟩
   .rw [if_neg hn] at HF
    have hd:decide (4096<n)=false:=by simpa using hn
    clear hn;go_enter func48,ntmps48
    go_wp2_with (first
     | (go_at_call 92;refine (aHf _ p _ g _ c _ (HPV.out _ (aA3 HW)) (HGV.out _ (aA3 HW)) (HCV.out _ (aA3 HW)) HL.out HGL.out HCL.out).mono ?_;rintro e w' ⟨rfl,hb⟩;rw [HM.out];replace HW:=HW.trans hb;clear hb;(try clear p0 p1 p2 g0 g1 gsz);obtain ⟨p0,p1,p2,g0,g1,gsz⟩:=aDk HW)
     | (go_at_call 34;refine (aD1 kind _).mono ?_;rintro e w' ⟨rfl,rfl⟩;rw [HK.out]))
    go_ret;exact ⟨aA9 (by rw [HF.out]),aA3 HW⟩
 .rw [if_pos hm] at HF
  have hmb:(aC0 p g c != 0)=true:=by simpa using hm
  clear hm;go_enter func48,ntmps48
  go_wp2_with (go_at_call 92;refine (aHf _ p _ g _ c _ (HPV.out _ (aA3 HW)) (HGV.out _ (aA3 HW)) (HCV.out _ (aA3 HW)) HL.out HGL.out HCL.out).mono ?_;rintro e w' ⟨rfl,hb⟩;replace HW:=HW.trans hb;clear hb;(try clear p0 p1 p2 g0 g1 gsz);obtain ⟨p0,p1,p2,g0,g1,gsz⟩:=aDk HW)
  go_ret;exact ⟨aA9 (by rw [HF.out]),aA3 HW⟩
end Go.Proofs.YtmoebklkkjbigaaGreatDoor

