/- Merged. -/
import Derived.Test.YtdcjnhoabbdanaaGreatDoorZ28
set_option linter.unusedSimpArgs false
set_option linter.unnecessarySimpa false
set_option linter.unusedVariables false
set_option maxRecDepth 100000
set_option maxHeartbeats 4000000
open Go.Proofs.Tryz

namespace Go.Proofs.YtdcjnhoabbdanaaGreatDoor
open Go.RowKit
attribute [local go_sem] Oper.semAt_some
theorem aMv {S:Nat} (hS:S<4294967296):bits .and .u32 (S:Int) (-(S:Int) % 4294967296)=((lsb S:Nat):Int):=by
 by_cases h0:S=0
 .subst h0;rfl
 .exact aUo hS h0
def aBd (g:Graph) (s v:Nat):Nat:=if aNv g v&&&s=0 then s|||2 ^ v else s
theorem aL5 (g:Graph) (l:List Nat):aJm g l=l.foldl (aBd g) 0:=rfl
theorem aL6 {g:Graph} {s v:Nat} (hs:s<4294967296) (hv:v<32):aBd g s v<4294967296:=by
 unfold aBd;split
 .exact Nat.or_lt_two_pow (n:=32) hs (aVf hv)
 .exact hs
theorem aSo (A:Option Addr) (c:Nat) (g:Graph) (E wi x:Nat) (w:World) (hN:aKw w A g) (hT:aCt w) (hg:GOK g) (hE:E<4294967296) (hW:wi<4294967296)
  (hx:(wi&&&E=0/\lsb E=x)∨(wi&&&E≠0/\wi&&&E=x)) (hw:∀ v,x.testBit v=true->v<g.ports.length) :
  Calls prog 71 #[.slice A g.ports.length c,.int .i64 2,.int .u32 (E:Int),.int .u32 (wi:Int)] w fun e w'=>e = .returned (.int .u32 (aJm g (aAl x):Nat))/\Bel w w':=by
 have HN:=aA0 (fun w' (k:Bel w w')=>hN.keep k);have HT:=aA0 (fun w' (k:Bel w w')=>hT.keep k);have hle:=hg.le;have hba:=aCv hW hE;have hbl:=aMv hE
 have hxl:x<4294967296:=by
  rcases hx with ⟨_,h⟩ | ⟨_,h⟩
  .rw [<- h];exact aXz hE
  .rw [<- h];exact Nat.lt_of_le_of_lt Nat.and_le_right hE
 rcases hx with ⟨h1,h2⟩ | ⟨h1,h2⟩
 .have z:(((wi&&&E:Nat):Int)==0)=true:=by simpa using h1
  rw [h2] at hbl;clear h1 h2;generalize wi&&&E=m at *;refine aJj func71 rfl ?_
  simp only [ntmps71,List.size_toArray,List.length_cons,List.length_nil,Nat.reduceAdd,Nat.reduceSub,Array.replicate_succ,Array.replicate_zero,List.push_toArray,List.append_toArray,List.nil_append,List.cons_append]
  go_wp2_with (go_at_call 96;refine (aH9 _ _).mono ?_;rintro e w' ⟨rfl,rfl⟩)
  obtain ⟨W0,hW0⟩:∃ W0,((w.alloc (.cells #[.slice A g.ports.length c] 66)).alloc (.cells #[.int .u32 0] 34)).alloc (.cells #[.int .u32 (x:Int)] 34)=W0:=⟨_,rfl⟩;have b1:Boxed W0 w.heap.size 66 (.slice A g.ports.length c):=by rw [<- hW0];exact ((Boxed.new w _ _).alloc _).alloc _
  have b2:Boxed W0 (w.heap.size+1) 34 (.int .u32 0):=by
   rw [<- hW0];have:=Boxed.new (w.alloc (.cells #[.slice A g.ports.length c] 66)) 34 (.int .u32 0);rw [World.size_alloc] at this;exact this.alloc _
  have b3:Boxed W0 (w.heap.size+1+1) 34 (.int .u32 (x:Int)):=by
   rw [<- hW0];have:=Boxed.new ((w.alloc (.cells #[.slice A g.ports.length c] 66)).alloc (.cells #[.int .u32 0] 34)) 34 (.int .u32 (x:Int));rw [World.size_alloc,World.size_alloc] at this;exact this
  have hb0:Bel w W0:=by rw [<- hW0];exact (((Bel.refl w).alloc _).alloc _).alloc _
  have hz0:W0.heap.size=w.heap.size+1+1+1:=by rw [<- hW0];simp
  rw [hW0];clear hW0;refine (wpIn_wide (n:=5)).1 ?_
  refine aK0 (n:=5) rfl (by decide) (gf:=119) (lb:=#[.pointer (some ⟨w.heap.size+1+1,0,none⟩)]) (by simp [go_sem]) trivial (enters_of func119 (by kernel_rfl) rfl)
   (aNw 4 _ x W0 (by decide) hxl b3 (HT.out _ hb0)) (by rintro k rfl;omega) (by rintro k rfl;exact (HT.out _ hb0).1) (fun _=>rfl) (fun k=>k=w.heap.size+1+1∨k=W0.heap.size∨k=W0.heap.size+1) (fun k=>Iff.rfl)
   (fun pre W=>Boxed W w.heap.size 66 (.slice A g.ports.length c)/\Boxed W (w.heap.size+1) 34 (.int .u32 (pre.foldl (aBd g) 0:Nat))/\pre.foldl (aBd g) 0<4294967296/\Bel w W)
   (fun c pre W=>False)
   (fun s A B ⟨h1,h2,h3,h4⟩ hg=>⟨hg.boxed h1 (by omega),hg.boxed h2 (by omega),h3,hg.belE h4 (by omega)⟩)
   (fun c s A B h hg=>h)
   ⟨b1,b2,by show (0:Nat)<4294967296;decide,hb0⟩
   (fun v a' W=>a'={ tmps:=#[.slice A g.ports.length c,.int .i64 2,.int .u32 (E:Int),.int .u32 (x:Int),.pointer (some ⟨w.heap.size,0,none⟩),undef,undef,undef,.int .u32 0,.pointer (some ⟨w.heap.size+1,0,none⟩),.int .i64 (v:Int),.int .u32 (wi:Int),.int .u32 (E:Int),.int .u32 (m:Int),.int .u32 (m:Int),.bool true,.int .u32 (E:Int),.int .u32 (E:Int),.int .u32 (-(E:Int) % 4294967296),.int .u32 (x:Int),.int .i64 2,.bool false,.bool false,undef,undef,undef,undef,.bool true,.bool true,.int .u32 (x:Int),.func (.func 119) #[] #[.pointer (some ⟨w.heap.size+1+1,0,none⟩)],.int .i64 (v:Int),undef,undef,undef,undef,undef,undef,undef,undef,undef,undef,undef,undef,undef,undef,undef,undef],defers:=[] })
   (fun _ _ _ _ h _=>h) ?assign ?body ?done ?stop
  case assign =>
   intro pre v W K hp hI hl hK
   gi_wp2
   exact hK _ _ (aCm.refl _ _) hI rfl
  case body =>
   rintro pre v a' W hp ⟨h1,h2,h3,h4⟩ rfl hl ⟨r,hr⟩;have hv:v∈aAl x:=hp.subset (by simp)
   have hvn:=hw v (aE4.1 hv).2;obtain ⟨b,o,e,hb,hc⟩:=(HN.out _ h4).at_ hvn;subst e;have HFS:Hid ((pre++[v]).foldl (aBd g) 0=aBd g (pre.foldl (aBd g) 0) v):=by show _=_;rw [List.foldl_append];rfl
   have HLT:Hid (aBd g (pre.foldl (aBd g) 0) v<4294967296):=aL6 h3 (by omega)
   have HGS:Hid (aBd g (pre.foldl (aBd g) 0) v=if aNv g v&&&pre.foldl (aBd g) 0=0 then pre.foldl (aBd g) 0|||2 ^ v else pre.foldl (aBd g) 0):=rfl
   obtain ⟨c1,f1,l1⟩:=aA4 h1;obtain ⟨c2,f2,l2⟩:=aA4 h2;have q:=aCv (aU0 hg v) h3;have q2:=aG6 h3 (show v<32 by omega)
   have hdv:decide (v<g.ports.length)=true:=by simpa using hvn
   generalize pre.foldl (aBd g) 0=s at *;generalize hnv:aNv g v=N at *;refine wpIn_block (wpIn_seq ?_)
   refine aA7.startIn (fun w'=>w'.cell? ⟨w.heap.size,0,none⟩=some (.slice (some ⟨b,o,none⟩) g.ports.length c)/\w'.cell? ⟨w.heap.size+1,0,none⟩=some (.int .u32 (s:Int))/\w'.cell? ⟨b,o+v,none⟩=some (.int .u32 (N:Int))/\w.heap.size<w'.heap.size/\w.heap.size+1<w'.heap.size/\b<w'.heap.size) 6 (by kernel_rfl) (by kernel_rfl) (by rintro ⟨_,_,h⟩;exact h) ?_
   have hHeld:W.drew.cell? ⟨w.heap.size,0,none⟩=some (.slice (some ⟨b,o,none⟩) g.ports.length c)/\W.drew.cell? ⟨w.heap.size+1,0,none⟩=some (.int .u32 (s:Int))/\W.drew.cell? ⟨b,o+v,none⟩=some (.int .u32 (N:Int))/\w.heap.size<W.drew.heap.size/\w.heap.size+1<W.drew.heap.size/\b<W.drew.heap.size:=⟨c1,c2,hc,l1,l2,hb⟩
   by_cases hz:N&&&s=0
   .rw [hz] at q
    rw [if_pos hz] at HGS
    (refine aA7.t (v:=?_) 0 32 rfl rfl (by kernel_rfl) (fun _ _ _ h=>h) hHeld (Or.inl ⟨by rfl,?_⟩) ?_;rotate_left 1;focus (intro w' hSw;(try dsimp only at hSw);go_simp;(try with_reducible rfl);done))
    (refine aA7.t (v:=?_) 1 33 rfl rfl (by kernel_rfl) (fun _ _ _ h=>h) hHeld (Or.inl ⟨by rfl,?_⟩) ?_;rotate_left 1;focus (intro w' hSw;(try dsimp only at hSw);go_simp;(try with_reducible rfl);done))
    (refine aA7.t (v:=?_) 2 34 rfl rfl (by kernel_rfl) (fun _ _ _ h=>h) hHeld (Or.inl ⟨by rfl,?_⟩) ?_;rotate_left 1;focus (intro w' hSw;(try dsimp only at hSw);go_simp;(try with_reducible rfl);done))
    (refine aA7.t (v:=?_) 3 35 rfl rfl (by kernel_rfl) (fun _ _ _ h=>h) hHeld (Or.inl ⟨by rfl,?_⟩) ?_;rotate_left 1;focus (intro w' hSw;(try dsimp only at hSw);go_simp;(try with_reducible rfl);done))
    (refine aA7.t (v:=?_) 4 36 rfl rfl (by kernel_rfl) (fun _ _ _ h=>h) hHeld (Or.inl ⟨by rfl,?_⟩) ?_;rotate_left 1;focus (intro w' hSw;(try dsimp only at hSw);go_simp;(try with_reducible rfl);done))
    (refine aA7.t (v:=?_) 5 37 rfl rfl (by kernel_rfl) (fun _ _ _ h=>h) hHeld (Or.inl ⟨by rfl,?_⟩) ?_;rotate_left 1;focus (intro w' hSw;(try dsimp only at hSw);go_simp;(try with_reducible rfl);done))
    refine aA7.one (i:=6) (by kernel_rfl) rfl (fun K hK=>?_)
    go_simp
    refine hK.out _ _ (fun h=>absurd rfl h) ?_
    refine aA7.done (by kernel_rfl) ?_ _
    (try simp only [Act.put,List.setIfInBounds_toArray,List.set_cons_zero,List.set_cons_succ])
    change Code.wpIn _ _ _ _ _ _ _
    gi_wp2
    refine aA7.startIn (fun w'=>w'.cell? ⟨w.heap.size,0,none⟩=some (.slice (some ⟨b,o,none⟩) g.ports.length c)/\w'.cell? ⟨w.heap.size+1,0,none⟩=some (.int .u32 (s:Int))/\w'.cell? ⟨b,o+v,none⟩=some (.int .u32 (N:Int))/\w.heap.size<w'.heap.size/\w.heap.size+1<w'.heap.size/\b<w'.heap.size) 4 (by kernel_rfl) (by kernel_rfl) (by rintro ⟨_,_,h⟩;exact h) ?_
    have hHeld:W.drew.drew.cell? ⟨w.heap.size,0,none⟩=some (.slice (some ⟨b,o,none⟩) g.ports.length c)/\W.drew.drew.cell? ⟨w.heap.size+1,0,none⟩=some (.int .u32 (s:Int))/\W.drew.drew.cell? ⟨b,o+v,none⟩=some (.int .u32 (N:Int))/\w.heap.size<W.drew.drew.heap.size/\w.heap.size+1<W.drew.drew.heap.size/\b<W.drew.drew.heap.size:=⟨c1,c2,hc,l1,l2,hb⟩
    (refine aA7.t (v:=?_) 0 39 rfl rfl (by kernel_rfl) (fun _ _ _ h=>h) hHeld (Or.inl ⟨by rfl,?_⟩) ?_;rotate_left 1;focus (intro w' hSw;(try dsimp only at hSw);go_simp;(try with_reducible rfl);done))
    (refine aA7.t (v:=?_) 1 40 rfl rfl (by kernel_rfl) (fun _ _ _ h=>h) hHeld (Or.inl ⟨by rfl,?_⟩) ?_;rotate_left 1;focus (intro w' hSw;(try dsimp only at hSw);go_simp;(try with_reducible rfl);done))
    (refine aA7.t (v:=?_) 2 41 rfl rfl (by kernel_rfl) (fun _ _ _ h=>h) hHeld (Or.inl ⟨by rfl,?_⟩) ?_;rotate_left 1;focus (intro w' hSw;(try dsimp only at hSw);go_simp;(try with_reducible rfl);done))
    (refine aA7.t (v:=?_) 3 42 rfl rfl (by kernel_rfl) (fun _ _ _ h=>h) hHeld (Or.inl ⟨by rfl,?_⟩) ?_;rotate_left 1;focus (intro w' hSw;(try dsimp only at hSw);go_simp;(try with_reducible rfl);done))
    (refine aA7.one (i:=4) (by kernel_rfl) rfl (fun K hK=>?_));go_simp;refine hK.out _ _ (fun h=>absurd rfl h) ?_;clear hK K;refine aA7.done (by kernel_rfl) ?_ _;(try simp only [Act.put,List.setIfInBounds_toArray,List.set_cons_zero,List.set_cons_succ])
    rw [show IntKind.u32.wrap (2 ^ v)=2 ^ v % 4294967296 from rfl,q2,<- HGS.out]
    gi_wp2
    have h2':=h2.set (.int .u32 (aBd g s v:Nat));refine ⟨aCm.drew (aCm.drew (aCm.setCell _ _ _ ?_)),?_,?_,?_,((h4.setCell (by simp) _).drew).drew⟩
    .have:=hT.1
     rintro ((h | h | h) | h) <;> (dsimp only at h;omega)
    .exact (Below.heap_setCell _ _ _ _ (by simp)).trans h1
    .rw [HFS.out];exact h2'
    .rw [HFS.out];exact HLT.out
   .have hq:(((N&&&s:Nat):Int)==0)=false:=by simpa using hz
    rw [if_neg hz] at HGS;generalize N&&&s=Z at *
    (refine aA7.t (v:=?_) 0 32 rfl rfl (by kernel_rfl) (fun _ _ _ h=>h) hHeld (Or.inl ⟨by rfl,?_⟩) ?_;rotate_left 1;focus (intro w' hSw;(try dsimp only at hSw);go_simp;(try with_reducible rfl);done))
    (refine aA7.t (v:=?_) 1 33 rfl rfl (by kernel_rfl) (fun _ _ _ h=>h) hHeld (Or.inl ⟨by rfl,?_⟩) ?_;rotate_left 1;focus (intro w' hSw;(try dsimp only at hSw);go_simp;(try with_reducible rfl);done))
    (refine aA7.t (v:=?_) 2 34 rfl rfl (by kernel_rfl) (fun _ _ _ h=>h) hHeld (Or.inl ⟨by rfl,?_⟩) ?_;rotate_left 1;focus (intro w' hSw;(try dsimp only at hSw);go_simp;(try with_reducible rfl);done))
    (refine aA7.t (v:=?_) 3 35 rfl rfl (by kernel_rfl) (fun _ _ _ h=>h) hHeld (Or.inl ⟨by rfl,?_⟩) ?_;rotate_left 1;focus (intro w' hSw;(try dsimp only at hSw);go_simp;(try with_reducible rfl);done))
    (refine aA7.t (v:=?_) 4 36 rfl rfl (by kernel_rfl) (fun _ _ _ h=>h) hHeld (Or.inl ⟨by rfl,?_⟩) ?_;rotate_left 1;focus (intro w' hSw;(try dsimp only at hSw);go_simp;(try with_reducible rfl);done))
    (refine aA7.t (v:=?_) 5 37 rfl rfl (by kernel_rfl) (fun _ _ _ h=>h) hHeld (Or.inl ⟨by rfl,?_⟩) ?_;rotate_left 1;focus (intro w' hSw;(try dsimp only at hSw);go_simp;(try with_reducible rfl);done))
    refine aA7.one (i:=6) (by kernel_rfl) rfl (fun K hK=>?_)
    go_simp
    refine hK.out _ _ (fun h=>absurd rfl h) ?_
    refine aA7.done (by kernel_rfl) ?_ _
    (try simp only [Act.put,List.setIfInBounds_toArray,List.set_cons_zero,List.set_cons_succ])
    change Code.wpIn _ _ _ _ _ _ _
    gi_wp2
    refine ⟨aCm.of_bel ((Bel.refl W).drew),h1,?_,?_,h4.drew⟩
    .rw [HFS.out,HGS.out];exact h2
    .rw [HFS.out];exact HLT.out
  case done =>
   rintro W ⟨h1,h2,h3,h4⟩ hK;obtain ⟨c2,f2,l2⟩:=aA4 h2;rw [<- aL5] at *;go_wp2;refine aFw (B:=w.heap.size) (aFn.push (aFn.nil _ _) (by omega) hK (by simp)) ?_
   intro W' hA hs
   exact ⟨.int .u32 (aJm g (aAl x):Nat),by simp [results,Tryz.results71,go_sem],rfl,hA.bel h4⟩
  case stop =>
   rintro c' pre W hp h hK;exact h.elim
 .have z:(((wi&&&E:Nat):Int)==0)=false:=by simpa using h1
  rw [h2] at hba z;clear h1 h2;refine aJj func71 rfl ?_
  simp only [ntmps71,List.size_toArray,List.length_cons,List.length_nil,Nat.reduceAdd,Nat.reduceSub,Array.replicate_succ,Array.replicate_zero,List.push_toArray,List.append_toArray,List.nil_append,List.cons_append]
  go_wp2_with (go_at_call 96;refine (aH9 _ _).mono ?_;rintro e w' ⟨rfl,rfl⟩)
  obtain ⟨W0,hW0⟩:∃ W0,((w.alloc (.cells #[.slice A g.ports.length c] 66)).alloc (.cells #[.int .u32 0] 34)).alloc (.cells #[.int .u32 (x:Int)] 34)=W0:=⟨_,rfl⟩;have b1:Boxed W0 w.heap.size 66 (.slice A g.ports.length c):=by rw [<- hW0];exact ((Boxed.new w _ _).alloc _).alloc _
  have b2:Boxed W0 (w.heap.size+1) 34 (.int .u32 0):=by
   rw [<- hW0];have:=Boxed.new (w.alloc (.cells #[.slice A g.ports.length c] 66)) 34 (.int .u32 0);rw [World.size_alloc] at this;exact this.alloc _
  have b3:Boxed W0 (w.heap.size+1+1) 34 (.int .u32 (x:Int)):=by
   rw [<- hW0];have:=Boxed.new ((w.alloc (.cells #[.slice A g.ports.length c] 66)).alloc (.cells #[.int .u32 0] 34)) 34 (.int .u32 (x:Int));rw [World.size_alloc,World.size_alloc] at this;exact this
  have hb0:Bel w W0:=by rw [<- hW0];exact (((Bel.refl w).alloc _).alloc _).alloc _
  have hz0:W0.heap.size=w.heap.size+1+1+1:=by rw [<- hW0];simp
  rw [hW0];clear hW0;refine (wpIn_wide (n:=5)).1 ?_
  refine aK0 (n:=5) rfl (by decide) (gf:=119) (lb:=#[.pointer (some ⟨w.heap.size+1+1,0,none⟩)]) (by simp [go_sem]) trivial (enters_of func119 (by kernel_rfl) rfl)
   (aNw 4 _ x W0 (by decide) hxl b3 (HT.out _ hb0)) (by rintro k rfl;omega) (by rintro k rfl;exact (HT.out _ hb0).1) (fun _=>rfl) (fun k=>k=w.heap.size+1+1∨k=W0.heap.size∨k=W0.heap.size+1) (fun k=>Iff.rfl)
   (fun pre W=>Boxed W w.heap.size 66 (.slice A g.ports.length c)/\Boxed W (w.heap.size+1) 34 (.int .u32 (pre.foldl (aBd g) 0:Nat))/\pre.foldl (aBd g) 0<4294967296/\Bel w W)
   (fun c pre W=>False)
   (fun s A B ⟨h1,h2,h3,h4⟩ hg=>⟨hg.boxed h1 (by omega),hg.boxed h2 (by omega),h3,hg.belE h4 (by omega)⟩)
   (fun c s A B h hg=>h)
   ⟨b1,b2,by show (0:Nat)<4294967296;decide,hb0⟩
   (fun v a' W=>a'={ tmps:=#[.slice A g.ports.length c,.int .i64 2,.int .u32 (E:Int),.int .u32 (x:Int),.pointer (some ⟨w.heap.size,0,none⟩),undef,undef,undef,.int .u32 0,.pointer (some ⟨w.heap.size+1,0,none⟩),.int .i64 (v:Int),.int .u32 (wi:Int),.int .u32 (E:Int),.int .u32 (x:Int),.int .u32 (x:Int),.bool false,undef,undef,undef,undef,.int .i64 2,.bool false,.bool false,undef,undef,undef,undef,.bool true,.bool true,.int .u32 (x:Int),.func (.func 119) #[] #[.pointer (some ⟨w.heap.size+1+1,0,none⟩)],.int .i64 (v:Int),undef,undef,undef,undef,undef,undef,undef,undef,undef,undef,undef,undef,undef,undef,undef,undef],defers:=[] })
   (fun _ _ _ _ h _=>h) ?assign ?body ?done ?stop
  case assign =>
   intro pre v W K hp hI hl hK
   gi_wp2
   exact hK _ _ (aCm.refl _ _) hI rfl
  case body =>
   rintro pre v a' W hp ⟨h1,h2,h3,h4⟩ rfl hl ⟨r,hr⟩;have hv:v∈aAl x:=hp.subset (by simp)
   have hvn:=hw v (aE4.1 hv).2;obtain ⟨b,o,e,hb,hc⟩:=(HN.out _ h4).at_ hvn;subst e;have HFS:Hid ((pre++[v]).foldl (aBd g) 0=aBd g (pre.foldl (aBd g) 0) v):=by show _=_;rw [List.foldl_append];rfl
   have HLT:Hid (aBd g (pre.foldl (aBd g) 0) v<4294967296):=aL6 h3 (by omega)
   have HGS:Hid (aBd g (pre.foldl (aBd g) 0) v=if aNv g v&&&pre.foldl (aBd g) 0=0 then pre.foldl (aBd g) 0|||2 ^ v else pre.foldl (aBd g) 0):=rfl
   obtain ⟨c1,f1,l1⟩:=aA4 h1;obtain ⟨c2,f2,l2⟩:=aA4 h2;have q:=aCv (aU0 hg v) h3;have q2:=aG6 h3 (show v<32 by omega)
   have hdv:decide (v<g.ports.length)=true:=by simpa using hvn
   generalize pre.foldl (aBd g) 0=s at *;generalize hnv:aNv g v=N at *;refine wpIn_block (wpIn_seq ?_)
   refine aA7.startIn (fun w'=>w'.cell? ⟨w.heap.size,0,none⟩=some (.slice (some ⟨b,o,none⟩) g.ports.length c)/\w'.cell? ⟨w.heap.size+1,0,none⟩=some (.int .u32 (s:Int))/\w'.cell? ⟨b,o+v,none⟩=some (.int .u32 (N:Int))/\w.heap.size<w'.heap.size/\w.heap.size+1<w'.heap.size/\b<w'.heap.size) 6 (by kernel_rfl) (by kernel_rfl) (by rintro ⟨_,_,h⟩;exact h) ?_
   have hHeld:W.drew.cell? ⟨w.heap.size,0,none⟩=some (.slice (some ⟨b,o,none⟩) g.ports.length c)/\W.drew.cell? ⟨w.heap.size+1,0,none⟩=some (.int .u32 (s:Int))/\W.drew.cell? ⟨b,o+v,none⟩=some (.int .u32 (N:Int))/\w.heap.size<W.drew.heap.size/\w.heap.size+1<W.drew.heap.size/\b<W.drew.heap.size:=⟨c1,c2,hc,l1,l2,hb⟩
   by_cases hz:N&&&s=0
   .rw [hz] at q
    rw [if_pos hz] at HGS
    (refine aA7.t (v:=?_) 0 32 rfl rfl (by kernel_rfl) (fun _ _ _ h=>h) hHeld (Or.inl ⟨by rfl,?_⟩) ?_;rotate_left 1;focus (intro w' hSw;(try dsimp only at hSw);go_simp;(try with_reducible rfl);done))
    (refine aA7.t (v:=?_) 1 33 rfl rfl (by kernel_rfl) (fun _ _ _ h=>h) hHeld (Or.inl ⟨by rfl,?_⟩) ?_;rotate_left 1;focus (intro w' hSw;(try dsimp only at hSw);go_simp;(try with_reducible rfl);done))
    (refine aA7.t (v:=?_) 2 34 rfl rfl (by kernel_rfl) (fun _ _ _ h=>h) hHeld (Or.inl ⟨by rfl,?_⟩) ?_;rotate_left 1;focus (intro w' hSw;(try dsimp only at hSw);go_simp;(try with_reducible rfl);done))
    (refine aA7.t (v:=?_) 3 35 rfl rfl (by kernel_rfl) (fun _ _ _ h=>h) hHeld (Or.inl ⟨by rfl,?_⟩) ?_;rotate_left 1;focus (intro w' hSw;(try dsimp only at hSw);go_simp;(try with_reducible rfl);done))
    (refine aA7.t (v:=?_) 4 36 rfl rfl (by kernel_rfl) (fun _ _ _ h=>h) hHeld (Or.inl ⟨by rfl,?_⟩) ?_;rotate_left 1;focus (intro w' hSw;(try dsimp only at hSw);go_simp;(try with_reducible rfl);done))
    (refine aA7.t (v:=?_) 5 37 rfl rfl (by kernel_rfl) (fun _ _ _ h=>h) hHeld (Or.inl ⟨by rfl,?_⟩) ?_;rotate_left 1;focus (intro w' hSw;(try dsimp only at hSw);go_simp;(try with_reducible rfl);done))
    refine aA7.one (i:=6) (by kernel_rfl) rfl (fun K hK=>?_)
    go_simp
    refine hK.out _ _ (fun h=>absurd rfl h) ?_
    refine aA7.done (by kernel_rfl) ?_ _
    (try simp only [Act.put,List.setIfInBounds_toArray,List.set_cons_zero,List.set_cons_succ])
    change Code.wpIn _ _ _ _ _ _ _
    gi_wp2
    refine aA7.startIn (fun w'=>w'.cell? ⟨w.heap.size,0,none⟩=some (.slice (some ⟨b,o,none⟩) g.ports.length c)/\w'.cell? ⟨w.heap.size+1,0,none⟩=some (.int .u32 (s:Int))/\w'.cell? ⟨b,o+v,none⟩=some (.int .u32 (N:Int))/\w.heap.size<w'.heap.size/\w.heap.size+1<w'.heap.size/\b<w'.heap.size) 4 (by kernel_rfl) (by kernel_rfl) (by rintro ⟨_,_,h⟩;exact h) ?_
    have hHeld:W.drew.drew.cell? ⟨w.heap.size,0,none⟩=some (.slice (some ⟨b,o,none⟩) g.ports.length c)/\W.drew.drew.cell? ⟨w.heap.size+1,0,none⟩=some (.int .u32 (s:Int))/\W.drew.drew.cell? ⟨b,o+v,none⟩=some (.int .u32 (N:Int))/\w.heap.size<W.drew.drew.heap.size/\w.heap.size+1<W.drew.drew.heap.size/\b<W.drew.drew.heap.size:=⟨c1,c2,hc,l1,l2,hb⟩
    (refine aA7.t (v:=?_) 0 39 rfl rfl (by kernel_rfl) (fun _ _ _ h=>h) hHeld (Or.inl ⟨by rfl,?_⟩) ?_;rotate_left 1;focus (intro w' hSw;(try dsimp only at hSw);go_simp;(try with_reducible rfl);done))
    (refine aA7.t (v:=?_) 1 40 rfl rfl (by kernel_rfl) (fun _ _ _ h=>h) hHeld (Or.inl ⟨by rfl,?_⟩) ?_;rotate_left 1;focus (intro w' hSw;(try dsimp only at hSw);go_simp;(try with_reducible rfl);done))
    (refine aA7.t (v:=?_) 2 41 rfl rfl (by kernel_rfl) (fun _ _ _ h=>h) hHeld (Or.inl ⟨by rfl,?_⟩) ?_;rotate_left 1;focus (intro w' hSw;(try dsimp only at hSw);go_simp;(try with_reducible rfl);done))
    (refine aA7.t (v:=?_) 3 42 rfl rfl (by kernel_rfl) (fun _ _ _ h=>h) hHeld (Or.inl ⟨by rfl,?_⟩) ?_;rotate_left 1;focus (intro w' hSw;(try dsimp only at hSw);go_simp;(try with_reducible rfl);done))
    (refine aA7.one (i:=4) (by kernel_rfl) rfl (fun K hK=>?_));go_simp;refine hK.out _ _ (fun h=>absurd rfl h) ?_;clear hK K;refine aA7.done (by kernel_rfl) ?_ _;(try simp only [Act.put,List.setIfInBounds_toArray,List.set_cons_zero,List.set_cons_succ])
    rw [show IntKind.u32.wrap (2 ^ v)=2 ^ v % 4294967296 from rfl,q2,<- HGS.out]
    gi_wp2
    have h2':=h2.set (.int .u32 (aBd g s v:Nat));refine ⟨aCm.drew (aCm.drew (aCm.setCell _ _ _ ?_)),?_,?_,?_,((h4.setCell (by simp) _).drew).drew⟩
    .have:=hT.1
     rintro ((h | h | h) | h) <;> (dsimp only at h;omega)
    .exact (Below.heap_setCell _ _ _ _ (by simp)).trans h1
    .rw [HFS.out];exact h2'
    .rw [HFS.out];exact HLT.out
   .have hq:(((N&&&s:Nat):Int)==0)=false:=by simpa using hz
    rw [if_neg hz] at HGS;generalize N&&&s=Z at *
    (refine aA7.t (v:=?_) 0 32 rfl rfl (by kernel_rfl) (fun _ _ _ h=>h) hHeld (Or.inl ⟨by rfl,?_⟩) ?_;rotate_left 1;focus (intro w' hSw;(try dsimp only at hSw);go_simp;(try with_reducible rfl);done))
    (refine aA7.t (v:=?_) 1 33 rfl rfl (by kernel_rfl) (fun _ _ _ h=>h) hHeld (Or.inl ⟨by rfl,?_⟩) ?_;rotate_left 1;focus (intro w' hSw;(try dsimp only at hSw);go_simp;(try with_reducible rfl);done))
    (refine aA7.t (v:=?_) 2 34 rfl rfl (by kernel_rfl) (fun _ _ _ h=>h) hHeld (Or.inl ⟨by rfl,?_⟩) ?_;rotate_left 1;focus (intro w' hSw;(try dsimp only at hSw);go_simp;(try with_reducible rfl);done))
    (refine aA7.t (v:=?_) 3 35 rfl rfl (by kernel_rfl) (fun _ _ _ h=>h) hHeld (Or.inl ⟨by rfl,?_⟩) ?_;rotate_left 1;focus (intro w' hSw;(try dsimp only at hSw);go_simp;(try with_reducible rfl);done))
    (refine aA7.t (v:=?_) 4 36 rfl rfl (by kernel_rfl) (fun _ _ _ h=>h) hHeld (Or.inl ⟨by rfl,?_⟩) ?_;rotate_left 1;focus (intro w' hSw;(try dsimp only at hSw);go_simp;(try with_reducible rfl);done))
    (refine aA7.t (v:=?_) 5 37 rfl rfl (by kernel_rfl) (fun _ _ _ h=>h) hHeld (Or.inl ⟨by rfl,?_⟩) ?_;rotate_left 1;focus (intro w' hSw;(try dsimp only at hSw);go_simp;(try with_reducible rfl);done))
    refine aA7.one (i:=6) (by kernel_rfl) rfl (fun K hK=>?_)
    go_simp
    refine hK.out _ _ (fun h=>absurd rfl h) ?_
    refine aA7.done (by kernel_rfl) ?_ _
    (try simp only [Act.put,List.setIfInBounds_toArray,List.set_cons_zero,List.set_cons_succ])
    change Code.wpIn _ _ _ _ _ _ _
    gi_wp2
    refine ⟨aCm.of_bel ((Bel.refl W).drew),h1,?_,?_,h4.drew⟩
    .rw [HFS.out,HGS.out];exact h2
    .rw [HFS.out];exact HLT.out
  case done =>
   rintro W ⟨h1,h2,h3,h4⟩ hK;obtain ⟨c2,f2,l2⟩:=aA4 h2;rw [<- aL5] at *;go_wp2;refine aFw (B:=w.heap.size) (aFn.push (aFn.nil _ _) (by omega) hK (by simp)) ?_
   intro W' hA hs
   exact ⟨.int .u32 (aJm g (aAl x):Nat),by simp [results,Tryz.results71,go_sem],rfl,hA.bel h4⟩
  case stop =>
   rintro c' pre W hp h hK;exact h.elim
theorem aJ7 (g:Graph):∀ (l:List Nat) (s:Nat),s<4294967296->(∀ v∈l,v<32)->l.foldl (aBd g) s<4294967296
 | [],_,h,_=>h
 | v :: l,_,h,hl=>aJ7 g l _ (aL6 h (hl v List.mem_cons_self)) fun u hu=>hl u (List.mem_cons_of_mem _ hu)
theorem aWk (g:Graph) (kind:Int) {E:Nat} (wi:Nat) (hE:E<4294967296):aCg g kind E wi<4294967296:=by
 have hx:(if wi&&&E=0 then lsb E else wi&&&E)<4294967296:=by
  split
  .exact aXz hE
  .exact Nat.lt_of_le_of_lt Nat.and_le_right hE
 unfold aCg;generalize (if wi&&&E=0 then lsb E else wi&&&E)=x at *
 dsimp only;split
 .exact aXz hx
 .split
  .rw [aL5];exact aJ7 g _ _ (by decide) fun v hv=>(aE4.1 hv).1
  .split
   .exact hE
   .exact hx
theorem aUe (A:Option Addr) (c:Nat) (g:Graph) (kind:Int) (E wi:Nat) (w:World) (hN:aKw w A g) (hT:aCt w) (hg:GOK g) (hE:E<2 ^ g.ports.length) (hW:wi<4294967296) :
  Calls prog 71 #[.slice A g.ports.length c,.int .i64 kind,.int .u32 (E:Int),.int .u32 (wi:Int)] w fun e w'=>e = .returned (.int .u32 (aCg g kind E wi:Nat))/\Bel w w':=by
 have hle:=hg.le;have hE32:E<4294967296:=Nat.lt_of_lt_of_le hE (Nat.pow_le_pow_right (n:=2) (by decide) (show g.ports.length<=32 by omega))
 obtain ⟨x,hx⟩:∃ x,(if wi&&&E=0 then lsb E else wi&&&E)=x:=⟨_,rfl⟩
 have hF:aCg g kind E wi=if kind=1 then lsb x else if kind=2 then aJm g (aAl x) else if kind=4 then E else x:=by unfold aCg;rw [hx]
 have hxE:x<=E:=by
  rw [<- hx];split
  .exact Nat.and_le_left
  .exact Nat.and_le_right
 have hx2:(wi&&&E=0/\lsb E=x)∨(wi&&&E≠0/\wi&&&E=x):=by
  by_cases h:wi&&&E=0
  .rw [if_pos h] at hx;exact .inl ⟨h,hx⟩
  .rw [if_neg h] at hx;exact .inr ⟨h,hx⟩
 rw [hF]
 by_cases k2:kind=2
 .subst k2
  rw [if_neg (by decide),if_pos rfl]
  refine aSo A c g E wi x w hN hT hg hE32 hW hx2 fun v hv=>?_
  rcases Nat.lt_or_ge v g.ports.length with h | h
  .exact h
  .have e:2 ^ g.ports.length<=2 ^ v:=Nat.pow_le_pow_right (by decide) h
   rw [Nat.testBit_lt_two_pow (by omega)] at hv;cases hv
 have k2':(kind==2)=false:=by simpa using k2
 have HB:Hid (Bel w (w.alloc (.cells #[.slice A g.ports.length c] 66))):=(Bel.refl w).alloc _;have hba:=aCv hW hE32;have hbl:=aMv hE32;have HBX:=aMv (S:=x) (by omega)
 have HR:Hid ((if kind=1 then lsb x else if kind=2 then aJm g (aAl x) else if kind=4 then E else x)=if kind=1 then lsb x else if kind=4 then E else x):=by show _=_;rw [if_neg k2]
 rw [HR.out];obtain ⟨r,hr⟩:∃ r,(if kind=1 then lsb x else if kind=4 then E else x)=r:=⟨_,rfl⟩
 have K:((kind==1)=true/\Hid (lsb x=r))∨((kind==1)=false/\(kind==4)=true/\Hid (E=r))∨((kind==1)=false/\(kind==4)=false/\Hid (x=r)):=by
  by_cases k1:kind=1
  .rw [if_pos k1] at hr;exact .inl ⟨by simpa using k1,hr⟩
  .rw [if_neg k1] at hr
   by_cases k4:kind=4
   .rw [if_pos k4] at hr;exact .inr (.inl ⟨by simpa using k1,by simpa using k4,hr⟩)
   .rw [if_neg k4] at hr;exact .inr (.inr ⟨by simpa using k1,by simpa using k4,hr⟩)
 rw [hr];clear hF hx HR hr hN hT hg hE k2
 rcases hx2 with ⟨h1,h2⟩ | ⟨h1,h2⟩
 .have z:(((wi&&&E:Nat):Int)==0)=true:=by simpa using h1
  rw [h2] at hbl;clear h1 h2;generalize wi&&&E=m at *
  rcases K with ⟨k1,hr⟩ | ⟨k1,k4,hr⟩ | ⟨k1,k4,hr⟩
  all_goals
   go_enter func71,ntmps71
   go_wp2_with fail
   go_ret;exact ⟨aA5 (by rw [<- hr.out]),HB.out⟩
 .have z:(((wi&&&E:Nat):Int)==0)=false:=by simpa using h1
  rw [h2] at hba z;clear h1 h2
  rcases K with ⟨k1,hr⟩ | ⟨k1,k4,hr⟩ | ⟨k1,k4,hr⟩
  all_goals
   go_enter func71,ntmps71
   go_wp2_with fail
   go_ret;exact ⟨aA5 (by rw [<- hr.out]),HB.out⟩
end Go.Proofs.YtdcjnhoabbdanaaGreatDoor

namespace Go.Proofs.YtdcjnhoabbdanaaGreatDoor
open Go.RowKit
def aI0 (p:Prg) (g:Graph) (kind:Int) (c:aA6) (n:Int):Int:=if aD1 p g c≠0 then aD1 p g c else if aJp kind=false then 12 else if 4096<n then 3 else 0
theorem aDc {p:Prg} {g:Graph} {kind:Int} {c:aA6} {n:Int} (h:aI0 p g kind c n=0):aD1 p g c=0/\aJp kind=true/\n<=4096:=by
 unfold aI0 at h;split at h
 .exact absurd h (by assumption)
 .rename_i h1
  split at h
  .cases h
  .rename_i h2
   split at h
   .cases h
   .rename_i h3
    exact ⟨by simpa using h1,by simpa using h2,by omega⟩
theorem aF3 (v1:Value) (p:Prg) (v2:Value) (g:Graph) (v3:Value) (c:aA6) (kind n:Int) (w:World) (h:aEi w v1 p) (h2:aAn w v2 g) (h3:aAw w v3 c) (hL:aAu p=true) (hG:aB3 g=true) (hC:aBs c=true) :
  Calls prog 35 #[v1,v2,.int .i64 kind,v3,.int .i64 n] w fun e w'=>e = .returned (.int .i64 (aI0 p g kind c n))/\Bel w w':=by
 have HPV:=aA0 (fun w' (k:Bel w w')=>h.keep k);have HGV:=aA0 (fun w' (k:Bel w w')=>h2.keep k);have HCV:=aA0 (fun w' (k:Bel w w')=>h3.keep k);obtain ⟨A1,k1,A2,k2,rfl,_,_,_,_,_,_⟩:=h;obtain ⟨A3,k3,A4,k4,rfl,_,_,_,_,_,_⟩:=h2;obtain ⟨A5,k5,rfl,_,_,_⟩:=h3;have HW:=Bel.refl ((w.alloc (.cells #[.string p.name,.slice A1 p.vars.length k1,.slice A2 p.rules.length k2] 25)).alloc (.cells #[.slice A3 g.ids.length k3,.slice A4 g.ports.length k4] 29));have HL:=aA0 hL;have HGL:=aA0 hG;have HCL:=aA0 hC;clear hL hG hC;have HF:Hid (aI0 p g kind c n=if aD1 p g c≠0 then aD1 p g c else if aJp kind=false then 12 else if 4096<n then 3 else 0):=rfl
 by_cases hm:aD1 p g c=0
 .rw [if_neg (by simpa using hm)] at HF
  have HM:=aA0 hm;clear hm;cases hk:aJp kind with
  | false =>
   rw [hk,if_pos rfl] at HF;have HK:=aA0 hk;clear hk;go_enter func35,ntmps35
   go_wp2_with (first
    | (go_at_call 58;refine (aG8 _ p _ g _ c _ (HPV.out _ (aA1 HW)) (HGV.out _ (aA1 HW)) (HCV.out _ (aA1 HW)) HL.out HGL.out HCL.out).mono ?_;rintro e w' ⟨rfl,hb⟩;rw [HM.out];replace HW:=HW.trans hb;clear hb;(try clear p0 p1 p2 g0 g1 gsz);obtain ⟨p0,p1,p2,g0,g1,gsz⟩:=aAd HW)
    | (go_at_call 59;refine (aFr kind _).mono ?_;rintro e w' ⟨rfl,rfl⟩;rw [HK.out]))
   go_ret;exact ⟨aA5 (by rw [HF.out]),aA1 HW⟩
  | true =>
   rw [hk,if_neg (by decide)] at HF
   have HK:=aA0 hk;clear hk
   by_cases hn:4096<n
   .rw [if_pos hn] at HF
    have hd:decide (4096<n)=true:=by simpa using hn
    clear hn;go_enter func35,ntmps35
    go_wp2_with (first
     | (go_at_call 58;refine (aG8 _ p _ g _ c _ (HPV.out _ (aA1 HW)) (HGV.out _ (aA1 HW)) (HCV.out _ (aA1 HW)) HL.out HGL.out HCL.out).mono ?_;rintro e w' ⟨rfl,hb⟩;rw [HM.out];replace HW:=HW.trans hb;clear hb;(try clear p0 p1 p2 g0 g1 gsz);obtain ⟨p0,p1,p2,g0,g1,gsz⟩:=aAd HW)
     | (go_at_call 59;refine (aFr kind _).mono ?_;rintro e w' ⟨rfl,rfl⟩;rw [HK.out]))
    go_ret;exact ⟨aA5 (by rw [HF.out]),aA1 HW⟩
   .rw [if_neg hn] at HF
    have hd:decide (4096<n)=false:=by simpa using hn
    clear hn;go_enter func35,ntmps35
    go_wp2_with (first
     | (go_at_call 58;refine (aG8 _ p _ g _ c _ (HPV.out _ (aA1 HW)) (HGV.out _ (aA1 HW)) (HCV.out _ (aA1 HW)) HL.out HGL.out HCL.out).mono ?_;rintro e w' ⟨rfl,hb⟩;rw [HM.out];replace HW:=HW.trans hb;clear hb;(try clear p0 p1 p2 g0 g1 gsz);obtain ⟨p0,p1,p2,g0,g1,gsz⟩:=aAd HW)
     | (go_at_call 59;refine (aFr kind _).mono ?_;rintro e w' ⟨rfl,rfl⟩;rw [HK.out]))
    go_ret;exact ⟨aA5 (by rw [HF.out]),aA1 HW⟩
 .rw [if_pos hm] at HF
  have hmb:(aD1 p g c != 0)=true:=by simpa using hm
  clear hm;go_enter func35,ntmps35
  go_wp2_with (go_at_call 58;refine (aG8 _ p _ g _ c _ (HPV.out _ (aA1 HW)) (HGV.out _ (aA1 HW)) (HCV.out _ (aA1 HW)) HL.out HGL.out HCL.out).mono ?_;rintro e w' ⟨rfl,hb⟩;replace HW:=HW.trans hb;clear hb;(try clear p0 p1 p2 g0 g1 gsz);obtain ⟨p0,p1,p2,g0,g1,gsz⟩:=aAd HW)
  go_ret;exact ⟨aA5 (by rw [HF.out]),aA1 HW⟩
theorem aD3 (v1:Value) (p:Prg) (v2:Value) (g:Graph) (v3:Value) (c:aA6) (kind n:Int) (w:World) (h:aEi w v1 p) (h2:aAn w v2 g) (h3:aAw w v3 c) (hL:aAu p=true) (hG:aB3 g=true) (hC:aBs c=true) :
  Calls prog 39 #[v1,v2,.int .i64 kind,v3,.int .i64 n] w fun e w'=>e = .returned (.int .i64 (aI0 p g kind c n))/\Bel w w':=by
 have HPV:=aA0 (fun w' (k:Bel w w')=>h.keep k);have HGV:=aA0 (fun w' (k:Bel w w')=>h2.keep k);have HCV:=aA0 (fun w' (k:Bel w w')=>h3.keep k);obtain ⟨A1,k1,A2,k2,rfl,_,_,_,_,_,_⟩:=h;obtain ⟨A3,k3,A4,k4,rfl,_,_,_,_,_,_⟩:=h2;obtain ⟨A5,k5,rfl,_,_,_⟩:=h3;have HW:=Bel.refl ((w.alloc (.cells #[.string p.name,.slice A1 p.vars.length k1,.slice A2 p.rules.length k2] 25)).alloc (.cells #[.slice A3 g.ids.length k3,.slice A4 g.ports.length k4] 29));have HL:=aA0 hL;have HGL:=aA0 hG;have HCL:=aA0 hC;clear hL hG hC;have HF:Hid (aI0 p g kind c n=if aD1 p g c≠0 then aD1 p g c else if aJp kind=false then 12 else if 4096<n then 3 else 0):=rfl
 by_cases hm:aD1 p g c=0
 .rw [if_neg (by simpa using hm)] at HF
  have HM:=aA0 hm;clear hm;cases hk:aJp kind with
  | false =>
   rw [hk,if_pos rfl] at HF;have HK:=aA0 hk;clear hk;go_enter func39,ntmps39
   go_wp2_with (first
    | (go_at_call 64;refine (aCq _ p _ g _ c _ (HPV.out _ (aA1 HW)) (HGV.out _ (aA1 HW)) (HCV.out _ (aA1 HW)) HL.out HGL.out HCL.out).mono ?_;rintro e w' ⟨rfl,hb⟩;rw [HM.out];replace HW:=HW.trans hb;clear hb;(try clear p0 p1 p2 g0 g1 gsz);obtain ⟨p0,p1,p2,g0,g1,gsz⟩:=aAd HW)
    | (go_at_call 48;refine (aFi kind _).mono ?_;rintro e w' ⟨rfl,rfl⟩;rw [HK.out]))
   go_ret;exact ⟨aA5 (by rw [HF.out]),aA1 HW⟩
  | true =>
   rw [hk,if_neg (by decide)] at HF
   have HK:=aA0 hk;clear hk
   by_cases hn:4096<n
   .rw [if_pos hn] at HF
    have hd:decide (4096<n)=true:=by simpa using hn
    clear hn;go_enter func39,ntmps39
    go_wp2_with (first
     | (go_at_call 64;refine (aCq _ p _ g _ c _ (HPV.out _ (aA1 HW)) (HGV.out _ (aA1 HW)) (HCV.out _ (aA1 HW)) HL.out HGL.out HCL.out).mono ?_;rintro e w' ⟨rfl,hb⟩;rw [HM.out];replace HW:=HW.trans hb;clear hb;(try clear p0 p1 p2 g0 g1 gsz);obtain ⟨p0,p1,p2,g0,g1,gsz⟩:=aAd HW)
     | (go_at_call 48;refine (aFi kind _).mono ?_;rintro e w' ⟨rfl,rfl⟩;rw [HK.out]))
    go_ret;exact ⟨aA5 (by rw [HF.out]),aA1 HW⟩
   .rw [if_neg hn] at HF
    have hd:decide (4096<n)=false:=by simpa using hn
    clear hn;go_enter func39,ntmps39
    go_wp2_with (first
     | (go_at_call 64;refine (aCq _ p _ g _ c _ (HPV.out _ (aA1 HW)) (HGV.out _ (aA1 HW)) (HCV.out _ (aA1 HW)) HL.out HGL.out HCL.out).mono ?_;rintro e w' ⟨rfl,hb⟩;rw [HM.out];replace HW:=HW.trans hb;clear hb;(try clear p0 p1 p2 g0 g1 gsz);obtain ⟨p0,p1,p2,g0,g1,gsz⟩:=aAd HW)
     | (go_at_call 48;refine (aFi kind _).mono ?_;rintro e w' ⟨rfl,rfl⟩;rw [HK.out]))
    go_ret;exact ⟨aA5 (by rw [HF.out]),aA1 HW⟩
 .rw [if_pos hm] at HF
  have hmb:(aD1 p g c != 0)=true:=by simpa using hm
  clear hm;go_enter func39,ntmps39
  go_wp2_with (go_at_call 64;refine (aCq _ p _ g _ c _ (HPV.out _ (aA1 HW)) (HGV.out _ (aA1 HW)) (HCV.out _ (aA1 HW)) HL.out HGL.out HCL.out).mono ?_;rintro e w' ⟨rfl,hb⟩;replace HW:=HW.trans hb;clear hb;(try clear p0 p1 p2 g0 g1 gsz);obtain ⟨p0,p1,p2,g0,g1,gsz⟩:=aAd HW)
  go_ret;exact ⟨aA5 (by rw [HF.out]),aA1 HW⟩
def aD0 (p:Prg) (g:Graph) (kind:Int) (c:aA6) (l m:List Nat):Option (Trc × Trc) :=
 match aB1 p g kind (aAe p g c) l with
 | none=>none
 | some a=>match aB1 p g kind (aAe p g a.last) m with
  | none=>none
  | some b=>some (a,b)
variable {p:Prg} {g:Graph} {kind:Int} {c:aA6}
theorem aWl {l m:List Nat} (h:aB1 p g kind (aAe p g c) (l++m)=none):aD0 p g kind c l m=none:=by
 rw [aQr] at h;unfold aD0;cases ha:aB1 p g kind (aAe p g c) l with
 | none=>rfl
 | some a =>
  rw [ha] at h;have h2:aB1 p g kind a m=none:=h;show (match aB1 p g kind (aAe p g a.last) m with | none=>none | some b=>some (a,b))=none
  rw [aPk.1 h2]
structure LassoP (p:Prg) (g:Graph) (kind:Int) (c:aA6) (l m:List Nat) (t a b:Trc):Prop where
 round:aD0 p g kind c l m=some (a,b)
 last:b.last=t.last
 first:aB1 p g kind (aAe p g c) l=some a
 second:aB1 p g kind (aAe p g a.last) m=some b
 okA:OkT p g a
 okB:OkT p g b
 /-- the states on the way -/
 way:∀ i,i<=m.length->∃ u,aB1 p g kind (aAe p g c) ((l++m).take (l.length+i))=some u/\b.enabled[i]?=some (aAk p g u.last)/\(i=0->u=a)
theorem aU8 {l:List Nat} {t u:Trc} (k:Nat) (ht:OkT p g t) (hS:∀ S∈l,S<4294967296) (h:aB1 p g kind t l=some u):∃ v,aB1 p g kind t (l.take k)=some v/\OkT p g v/\∃ X,u.enabled=v.enabled++X:=by
 have e:l=l.take k++l.drop k:=(List.take_append_drop k l).symm;rw [e,aF1] at h;cases hv:aB1 p g kind t (l.take k) with
 | none=>rw [hv] at h;cases h
 | some v =>
  rw [hv] at h;have h2:aB1 p g kind v (l.drop k)=some u:=h;obtain ⟨_,X,_,_,h3,_⟩:=aEp (u:=v) rfl h2;exact ⟨v,rfl,aHa ht (fun S hS'=>hS S (List.mem_of_mem_take hS')) hv,X,h3⟩
theorem aL9 {l m:List Nat} {t:Trc} (hm:aD1 p g c=0) (hl:∀ S∈l,S<4294967296) (hm':∀ S∈m,S<4294967296) (h:aB1 p g kind (aAe p g c) (l++m)=some t):∃ a b,LassoP p g kind c l m t a b:=by
 have h0:=h;rw [aQr] at h;cases ha:aB1 p g kind (aAe p g c) l with
 | none=>rw [ha] at h;cases h
 | some a =>
  rw [ha] at h;have h2:aB1 p g kind a m=some t:=h;have okA:=aHa (OkT.start hm) hl ha;obtain ⟨b,X,b1,b2,_⟩:=aEp (u:=aAe p g a.last) (t:=a) rfl h2;have okS:OkT p g (aAe p g a.last):=OkT.start okA.mem;have okB:=aHa okS hm' b1;refine ⟨a,b,⟨?_,b2,ha,b1,okA,okB,fun i hi=>?_⟩⟩
  .unfold aD0;rw [ha]
   show (match aB1 p g kind (aAe p g a.last) m with | none=>none | some b=>some (a,b))=_
   rw [b1]
  .obtain ⟨v,v1,v2,X2,v3⟩:=aU8 i okS hm' b1
   obtain ⟨u,_,u1,u2,_⟩:=aEp (u:=a) (t:=aAe p g a.last) rfl v1;refine ⟨u,?_,?_,fun e=>?_⟩
   .rw [List.take_append,List.take_of_length_le (by omega),Nat.add_sub_cancel_left,aF1,ha];exact u1
   .have hlen:v.enabled.length=i+1:=by
     rw [v2.len,aGb v1];simp [aAe];omega
    have hne:v.enabled≠[]:=fun e=>by rw [e] at hlen;simp at hlen
    have hlast:=v2.now;rw [List.getLast?_eq_getElem?,hlen] at hlast;rw [v3,List.getElem?_append_left (by omega),u2]
    simpa using hlast
   .subst e
    have:aB1 p g kind a []=some u:=by simpa using u1
    unfold aB1 at this;exact (Option.some.inj this).symm
def aOn (n:Nat) (m:List Nat) (a b:Trc):Bool:=decide (a.last=b.last)&&aGp n (b.enabled.zip m)
theorem aYr (n:Nat):aBw n (fun _=>true)=2 ^ n-1:=by
 apply Nat.eq_of_testBit_eq
 intro v
 rw [aEv,Nat.testBit_two_pow_sub_one,Bool.and_true]
theorem aI5 (v2:Value) (g:Graph) (w:World) (h2:aAn w v2 g) (hg:GOK g) :
  Calls prog 54 #[v2] w fun e w'=>e = .returned (.int .u32 (aBw g.ports.length (fun _=>true):Nat))/\Bel w w':=by
 obtain ⟨A3,k3,A4,k4,rfl,_,_,_,_,_,_⟩:=h2;have hle:=hg.le;have hid:=hg.ids;have HB:Hid (Bel w (w.alloc (.cells #[.slice A3 g.ids.length k3,.slice A4 g.ports.length k4] 29))):=(Bel.refl w).alloc _;have d1:decide (g.ids.length<32)=true:=by simp;omega
 have HF:Hid (aBw g.ports.length (fun _=>true)=2 ^ g.ports.length-1):=aYr _;have HID:=aA0 hid;clear hid;go_enter func54,ntmps54
 go_wp2_with fail
 go_ret;refine ⟨aA5 ?_,HB.out⟩
 rw [HF.out,HID.out];have hp:2 ^ g.ports.length<4294967296:=aVf (by omega)
 have hp0:0<2 ^ g.ports.length:=Nat.two_pow_pos _;rw [Nat.min_eq_left (by omega)]
 have e1:(2:Int) ^ g.ports.length=((2 ^ g.ports.length:Nat):Int):=by rw [Int.natCast_pow];rfl
 rw [e1];omega
theorem aAx.unset {N k o:Nat} {v:Value} {w W:World} (h:aAx N (w.setCell ⟨k,o,none⟩ v) W) (hk:k<N):aAx N w W :=
 ⟨by have:=h.1;simpa using this,fun i hN hi=>(h.2 i hN (by simpa using hi)).trans (Below.heap_setCell _ _ _ _ (show i≠k by omega))⟩
def aX4 (p:Prg) (g:Graph) (v1 v2:Value) (kind:Int) (fs:FuncId) (capsS:Array Value) (w:World) (e:Ending) (w':World):Prop :=
 ∃ B A cn,e = .returned (.agg #[.pointer (some ⟨B,0,none⟩),.slice A g.ports.length cn,.int .i64 kind,.int .u32 (aBw g.ports.length (fun _=>true):Nat),.func (.func fs) #[] capsS]) /\
  (∀ W,aAx w.heap.size w' W->aEi W v1 p->aAn W v2 g->aDb W B p g/\aKw W A g)/\Bel w w'
theorem aKj (v1:Value) (p:Prg) (v2:Value) (g:Graph) (kind:Int) (fs:FuncId) (capsS:Array Value) (w:World) (h:aEi w v1 p) (h2:aAn w v2 g) (hc:aBr p=0) (hg:GOK g) (hG:aB3 g=true) :
  Calls prog 36 #[v1,v2,.int .i64 kind,.func (.func fs) #[] capsS] w (aX4 p g v1 v2 kind fs capsS w):=by
 have HPV:=aA0 (fun w' (k:Bel w w')=>h.keep k);have HGV:=aA0 (fun w' (k:Bel w w')=>h2.keep k);obtain ⟨A1,k1,A2,k2,rfl,_,_,_,_,_,_⟩:=h;obtain ⟨A3,k3,A4,k4,rfl,_,_,_,_,_,_⟩:=h2;have HW:=Bel.refl ((w.alloc (.cells #[.string p.name,.slice A1 p.vars.length k1,.slice A2 p.rules.length k2] 25)).alloc (.cells #[.slice A3 g.ids.length k3,.slice A4 g.ports.length k4] 29));have HC:=aA0 hc;have HG:=aA0 hg;have HGL:=aA0 hG;have HMV:Hid True:=trivial;have HNT:Hid True:=trivial;clear hc hg hG
 have HZ:Hid (Blk (((w.alloc (.cells #[.string p.name,.slice A1 p.vars.length k1,.slice A2 p.rules.length k2] 25)).alloc (.cells #[.slice A3 g.ids.length k3,.slice A4 g.ports.length k4] 29)).alloc (.cells #[.pointer none,.slice none 0 0,.int .i64 0,.int .u32 0,.nilFunc] 69)) (w.heap.size+1+1) #[.pointer none,.slice none 0 0,.int .i64 0,.int .u32 0,.nilFunc] 69):=by
  have:=Blk.new ((w.alloc (.cells #[.string p.name,.slice A1 p.vars.length k1,.slice A2 p.rules.length k2] 25)).alloc (.cells #[.slice A3 g.ids.length k3,.slice A4 g.ports.length k4] 29)) #[.pointer none,.slice none 0 0,.int .i64 0,.int .u32 0,.nilFunc] 69;rw [World.size_alloc,World.size_alloc] at this;exact this
 replace HW:=HW.alloc (.cells #[.pointer none,.slice none 0 0,.int .i64 0,.int .u32 0,.nilFunc] 69);have hcell:=aA0 (fun w' (kk:Bel ((w.alloc (.cells #[.string p.name,.slice A1 p.vars.length k1,.slice A2 p.rules.length k2] 25)).alloc (.cells #[.slice A3 g.ids.length k3,.slice A4 g.ports.length k4] 29)) w')=>aAd kk);go_enter func36,ntmps36
 go_wp2_with fail
 replace HW:=HW.drew;replace HZ:=aA0 HZ.out.drew
 go_region_held3 (fun w'=>w'.cell? ⟨w.heap.size,0,none⟩=some (.string p.name)/\w'.cell? ⟨w.heap.size,1,none⟩=some (.slice A1 p.vars.length k1)/\w'.cell? ⟨w.heap.size,2,none⟩=some (.slice A2 p.rules.length k2)/\w'.cell? ⟨w.heap.size+1,0,none⟩=some (.slice A3 g.ids.length k3)/\w'.cell? ⟨w.heap.size+1,1,none⟩=some (.slice A4 g.ports.length k4)/\w.heap.size+1<w'.heap.size) (first | exact hcell.out _ HW | exact hcell.out _ (((((HW.setCell (by simp) _).setCell (by simp) _).setCell (by simp) _).setCell (by simp) _).setCell (by simp) _)) (first
  | (go_simp;go_at_call 60;refine (aQm _ p _ g _ (HPV.out _ (aA1 HW)) (HGV.out _ (aA1 HW)) HC.out HG.out HGL.out).mono ?_;rintro e w' ⟨bm,rfl,hMV,hb⟩;have hz:=HZ.out.lt;replace HMV:=aA0 (fun W (hW:aAx (w.heap.size+1+1+1) w' W) (q1:aEi W _ p) (q2:aAn W _ g)=>hMV W (hW.up hz) q1 q2);replace HW:=HW.trans hb;replace HZ:=aA0 (HZ.out.keep hb);clear hb hMV hz)
  | (go_simp;go_at_call 61;refine (aU2 _ g _ (HGV.out _ (aA1 HW)) HG.out).mono ?_;rintro e w' ⟨AN,kn,rfl,hNT,_,_,hb⟩;have hz:=HZ.out.lt;replace HNT:=aA0 (fun W (hW:aAx (w.heap.size+1+1+1) w' W)=>hNT W (hW.up hz));replace HMV:=aA0 (fun W (hW:aAx (w.heap.size+1+1+1) w' W)=>HMV.out W (hW.back hb));replace HW:=HW.trans hb;replace HZ:=aA0 (HZ.out.keep hb);clear hb hNT hz)
  | (go_simp;go_at_call 54;refine (aI5 _ g _ (HGV.out _ (aA1 HW)) HG.out).mono ?_;rintro e w' ⟨rfl,hb⟩;replace HNT:=aA0 (fun W (hW:aAx (w.heap.size+1+1+1) w' W)=>HNT.out W (hW.back hb));replace HMV:=aA0 (fun W (hW:aAx (w.heap.size+1+1+1) w' W)=>HMV.out W (hW.back hb));replace HW:=HW.trans hb;replace HZ:=aA0 (HZ.out.keep hb);clear hb;have z0:=HZ.out.cell 0 (v := .pointer none) rfl;have f0:=HZ.out.frozen 0;have z1:=HZ.out.cell 1 (v := .slice none 0 0) rfl;have f1:=HZ.out.frozen 1;have z2:=HZ.out.cell 2 (v := .int .i64 0) rfl;have f2:=HZ.out.frozen 2;have z3:=HZ.out.cell 3 (v := .int .u32 0) rfl;have f3:=HZ.out.frozen 3;have z4:=HZ.out.cell 4 (v := .nilFunc) rfl;have f4:=HZ.out.frozen 4;have zl:=HZ.out.lt))
 go_wp2_with fail
 have HR9:Blk (((((w'.setCell ⟨w.heap.size+1+1,0,none⟩ (.pointer (some ⟨bm,0,none⟩))).setCell ⟨w.heap.size+1+1,1,none⟩ (.slice AN g.ports.length kn)).setCell ⟨w.heap.size+1+1,2,none⟩ (.int .i64 kind)).setCell ⟨w.heap.size+1+1,3,none⟩ (.int .u32 (aBw g.ports.length (fun _=>true):Nat))).setCell ⟨w.heap.size+1+1,4,none⟩ (.func (.func fs) #[] capsS)) (w.heap.size+1+1) #[.pointer (some ⟨bm,0,none⟩),.slice AN g.ports.length kn,.int .i64 kind,.int .u32 (aBw g.ports.length (fun _=>true):Nat),.func (.func fs) #[] capsS] 69:=(((((HZ.out.set 0 _).set 1 _).set 2 _).set 3 _).set 4 _);have y0:=HR9.cell 0 (v := .pointer (some ⟨bm,0,none⟩)) rfl;have y1:=HR9.cell 1 (v := .slice AN g.ports.length kn) rfl;have y2:=HR9.cell 2 (v := .int .i64 kind) rfl;have y3:=HR9.cell 3 (v := .int .u32 (aBw g.ports.length (fun _=>true):Nat)) rfl;have y4:=HR9.cell 4 (v := .func (.func fs) #[] capsS) rfl;refine bodyPost_ret (v := .agg #[.pointer (some ⟨bm,0,none⟩),.slice AN g.ports.length kn,.int .i64 kind,.int .u32 (aBw g.ports.length (fun _=>true):Nat),.func (.func fs) #[] capsS]) (by simp [results,Tryz.results36,go_sem,y0,y1,y2,y3,y4];try go_simp) rfl ?_
 have hbf:=aA1 HW;have hsz:=hbf.size;refine ⟨bm,AN,kn,rfl,fun W hW q1 q2=>?_,(((((hbf.setCell (by simp;omega) _).setCell (by simp;omega) _).setCell (by simp;omega) _).setCell (by simp;omega) _).setCell (by simp;omega) _)⟩
 have hW':aAx (w.heap.size+1+1+1) w' W:=(((((hW.up (by omega:w.heap.size<=w.heap.size+1+1+1)).unset (by omega)).unset (by omega)).unset (by omega)).unset (by omega)).unset (by omega)
 exact ⟨HMV.out W hW' q1 q2,HNT.out W hW'⟩
theorem bBb:aBw 24 (fun _=>true)=16777215:=by decide +kernel
theorem aOw (k:Cnt) (n:Nat) (w:World) (h:OkK k n) (hn:n<=120) :
  Calls prog 95 #[aIr k] w fun e w'=>e = .returned (.bool true)/\Bel w w':=by
 obtain ⟨st,mv,ro,be,pe⟩:=k;obtain ⟨h1,h2,h3,h4,h5,h6,h7,h8⟩:=h;dsimp only at h1 h2 h3 h4 h5 h6 h7 h8;have s0:0<=st:=by omega
 have s1:st<=120:=by omega
 have b0:0<=be:=by omega
 have b1:be<=120:=by omega
 have r1:ro<=120:=by omega
 have d3:decide (ro<0)=false:=by simp;omega
 have d4:decide (be<ro)=false:=by simp;omega
 have d6:decide (1<be-ro)=false:=by simp;omega
 have d5:decide (st<be)=false:=by simp;omega
 have d2:decide (st<=4096)=true:=by simp;omega
 have d7:decide (st<=mv)=true:=by simp;omega
 have d8:decide (mv<=24*st)=true:=by simp;omega
 have e6:IntKind.i64.wrap (24*st)=24*st:=IntWalk.i64_in _ ⟨by omega,by omega⟩
 have hz:=aQ1 h8;clear h5 h6 h7 h8 h2 h3 h1;have HB:Hid (Blk (w.alloc (.cells #[.int .i64 st,.int .i64 mv,.int .i64 ro,.int .i64 be,.int .u32 (pe:Int)] 36)) w.heap.size #[.int .i64 st,.int .i64 mv,.int .i64 ro,.int .i64 be,.int .u32 (pe:Int)] 36):=Blk.new _ _ _;have HE:Hid (Bel w (w.alloc (.cells #[.int .i64 st,.int .i64 mv,.int .i64 ro,.int .i64 be,.int .u32 (pe:Int)] 36))):=(Bel.refl w).alloc _;unfold aIr;dsimp only;go_enter func95,ntmps95
 go_wp2_with fail
 generalize w.alloc (.cells #[.int .i64 st,.int .i64 mv,.int .i64 ro,.int .i64 be,.int .u32 (pe:Int)] 36)=W at *;have hc:W.cell? ⟨w.heap.size,0,none⟩=some (.int .i64 st)/\W.cell? ⟨w.heap.size,1,none⟩=some (.int .i64 mv)/\W.cell? ⟨w.heap.size,4,none⟩=some (.int .u32 (pe:Int))/\w.heap.size<W.heap.size:=⟨HB.out.cell 0 rfl,HB.out.cell 1 rfl,HB.out.cell 4 rfl,HB.out.lt⟩
 go_region_held3 (fun w'=>w'.cell? ⟨w.heap.size,0,none⟩=some (.int .i64 st)/\w'.cell? ⟨w.heap.size,1,none⟩=some (.int .i64 mv)/\w'.cell? ⟨w.heap.size,4,none⟩=some (.int .u32 (pe:Int))/\w.heap.size<w'.heap.size) (exact hc) (first
  | (go_simp;go_at_call 73;refine (aFl 24 _ (by decide)).mono ?_;rintro e w2 ⟨rfl,rfl⟩;rw [bBb]))
 go_wp2_with fail
 go_ret;exact ⟨rfl,HE.out.drew⟩
theorem aQu (S:Nat) (w:World) (hS:S<4294967296) :
  Calls prog 45 #[.int .u32 (S:Int)] w fun e w'=>e = .returned (.int .i64 ((aAl S).length:Int))/\Bel w w':=(aIe S w hS).mono fun _ _ h=>⟨h.1,h.2 ▸ Bel.refl _⟩
theorem aWi (k:Cnt) (n S A:Nat) (w:World) (h:OkK k n) (hn:n<=120) (h0:S≠0) (hS:S<16777216) (hA:A<16777216) :
  Calls prog 69 #[aIr k,.int .u32 (S:Int),.int .u32 (A:Int)] w fun e w'=>e = .returned (.tuple #[aIr (aMd k S A),.int .i64 0])/\Bel w w':=by
 have HK:=aA0 h;have HP:Hid (∀ s∈[S,A],s<16777216):=fun s hs=>(List.mem_cons.1 hs).elim (fun e=>e ▸ hS) fun e=>(List.mem_singleton.1 e) ▸ hA;obtain ⟨st,mv,ro,be,pe⟩:=k;obtain ⟨h1,h2,h3,h4,h5,h6,h7,h8⟩:=h;dsimp only at h1 h2 h3 h4 h5 h6 h7 h8;have z0:((S:Int)==0)=false:=by simp;omega
 have z0':(S==0)=false:=by simp;omega
 have d1:(st==4096)=false:=by simp;omega
 have hel:=aN5 (S:=S) (n:=24) (by decide) hS
 have HF:Hid (aMd ⟨st,mv,ro,be,pe⟩ S A=if aD4 pe S&&&A=0 then ⟨st+1,mv+(aAl S).length,ro+1,ro+1,A⟩ else ⟨st+1,mv+(aAl S).length,ro,ro+1,aD4 pe S&&&A⟩):=rfl
 have HS32:Hid (S<4294967296):=by show _<_;omega
 have hbn:=aCw pe S;have hba:=aCv (S:=aD4 pe S) (T:=A) (aMg _ _) (by omega)
 have hor:=aKz (S:=S) (T:=A) (by omega) (by omega)
 have hno:=aQ1 (S:=S|||A) (Nat.or_lt_two_pow (n:=24) hS hA);generalize S|||A=SA at *;generalize aD4 pe S=D at *;have HB0:Hid (Blk ((w.alloc (.cells #[.int .i64 st,.int .i64 mv,.int .i64 ro,.int .i64 be,.int .u32 (pe:Int)] 36)).alloc (.cells #[.int .i64 0,.int .i64 0,.int .i64 0,.int .i64 0,.int .u32 0] 36)) w.heap.size #[.int .i64 st,.int .i64 mv,.int .i64 ro,.int .i64 be,.int .u32 (pe:Int)] 36):=(Blk.new _ _ _).alloc _
 have HB1:Hid (Blk ((w.alloc (.cells #[.int .i64 st,.int .i64 mv,.int .i64 ro,.int .i64 be,.int .u32 (pe:Int)] 36)).alloc (.cells #[.int .i64 0,.int .i64 0,.int .i64 0,.int .i64 0,.int .u32 0] 36)) (w.heap.size+1) #[.int .i64 0,.int .i64 0,.int .i64 0,.int .i64 0,.int .u32 0] 36):=by
  have:=Blk.new (w.alloc (.cells #[.int .i64 st,.int .i64 mv,.int .i64 ro,.int .i64 be,.int .u32 (pe:Int)] 36)) #[.int .i64 0,.int .i64 0,.int .i64 0,.int .i64 0,.int .u32 0] 36;rw [World.size_alloc] at this;exact this
 have HW:=Bel.refl ((w.alloc (.cells #[.int .i64 st,.int .i64 mv,.int .i64 ro,.int .i64 be,.int .u32 (pe:Int)] 36)).alloc (.cells #[.int .i64 0,.int .i64 0,.int .i64 0,.int .i64 0,.int .u32 0] 36));have HE:Hid (Bel w ((w.alloc (.cells #[.int .i64 st,.int .i64 mv,.int .i64 ro,.int .i64 be,.int .u32 (pe:Int)] 36)).alloc (.cells #[.int .i64 0,.int .i64 0,.int .i64 0,.int .i64 0,.int .u32 0] 36))):=((Bel.refl w).alloc _).alloc _;have s0:0<=st:=by omega
 have s1:st<=120:=by omega
 have m1:0<=mv:=by omega
 have m2:mv<=3000:=by omega
 have r1:ro<=120:=by omega
 clear h0 hS hA h8 h1 h2 h3 h5 h6 h7;unfold aIr;dsimp only;go_enter func69,ntmps69
 go_wp2_with (first
  | (go_at_call 95;refine (aOw ⟨st,mv,ro,be,pe⟩ n _ HK.out hn).mono ?_;rintro e w1 ⟨rfl,hb1⟩;replace HW:=HW.trans hb1)
  | (go_at_call 73;refine (aFl 24 _ (by decide)).mono ?_;rintro e w2 ⟨rfl,rfl⟩;rw [bBb];replace HB0:=aA0 (Blk.keep HB0.out HW);replace HB1:=aA0 (Blk.keep HB1.out HW);have c0:=HB0.out.cell 0 (v := .int .i64 st) rfl;have c1:=HB0.out.cell 1 (v := .int .i64 mv) rfl;have c2:=HB0.out.cell 2 (v := .int .i64 ro) rfl;have c3:=HB0.out.cell 3 (v := .int .i64 be) rfl;have c4:=HB0.out.cell 4 (v := .int .u32 (pe:Int)) rfl;have f0:=HB0.out.frozen 0;have lb:=HB0.out.lt))
 have HA:Hid (Blk (w1.setCell ⟨w.heap.size,0,none⟩ (.int .i64 (st+1))) w.heap.size #[.int .i64 (st+1),.int .i64 mv,.int .i64 ro,.int .i64 be,.int .u32 (pe:Int)] 36):=HB0.out.set 0 _;have HZ:Hid (Blk (w1.setCell ⟨w.heap.size,0,none⟩ (.int .i64 (st+1))) (w.heap.size+1) #[.int .i64 0,.int .i64 0,.int .i64 0,.int .i64 0,.int .u32 0] 36):=HB1.out.other (by simp) _
 have HL:Hid (Bel w (w1.setCell ⟨w.heap.size,0,none⟩ (.int .i64 (st+1)))):=(HE.out.trans HW).setCell (Nat.le_refl _) _;clear c0 c1 c2 c3 c4 f0 lb HB0 HB1;generalize w1.setCell ⟨w.heap.size,0,none⟩ (.int .i64 (st+1))=W at *;refine aA7.start (fun w'=>w'.cell? ⟨w.heap.size,1,none⟩=some (.int .i64 mv)/\w.heap.size<w'.heap.size) 6 (by kernel_rfl) ?_
 have hHeld:W.drew.cell? ⟨w.heap.size,1,none⟩=some (.int .i64 mv)/\w.heap.size<W.drew.heap.size:=⟨HA.out.cell 1 rfl,HA.out.lt⟩
 (refine aA7.t (v:=?_) 0 34 rfl rfl (by kernel_rfl) (fun _ _ _ h=>h) hHeld (Or.inl ⟨by rfl,?_⟩) ?_;rotate_left 1;focus (intro w' hSw;(try dsimp only at hSw);go_simp;(try with_reducible rfl);done))
 (refine aA7.t (v:=?_) 1 35 rfl rfl (by kernel_rfl) (fun _ _ _ h=>h) hHeld (Or.inl ⟨by rfl,?_⟩) ?_;rotate_left 1;focus (intro w' hSw;(try dsimp only at hSw);go_simp;(try with_reducible rfl);done))
 (refine aA7.t (v:=?_) 2 36 rfl rfl (by kernel_rfl) (fun _ _ _ h=>h) hHeld (Or.inl ⟨by rfl,?_⟩) ?_;rotate_left 1;focus (intro w' hSw;(try dsimp only at hSw);go_simp;(try with_reducible rfl);done))
 refine aA7.one (i:=3) (by kernel_rfl) rfl (fun K hK=>?_)
 go_simp
 go_at_call 45
 refine (aQu S _ HS32.out).mono ?_
 rintro e w3 ⟨rfl,hb3⟩
 (try go_simp)
 have hb3':Bel W w3:=(Bel.refl W).drew.trans hb3;replace HA:=aA0 (HA.out.keep hb3');replace HZ:=aA0 (HZ.out.keep hb3');replace HL:=aA0 (HL.out.trans hb3');refine hK.out _ _ (fun _=>⟨HA.out.cell 1 rfl,HA.out.lt⟩) ?_
 clear hK K hHeld hb3 hb3';have hHeld:w3.cell? ⟨w.heap.size,1,none⟩=some (.int .i64 mv)/\w.heap.size<w3.heap.size:=⟨HA.out.cell 1 rfl,HA.out.lt⟩
 (try simp only [Act.put,List.setIfInBounds_toArray,List.set_cons_zero,List.set_cons_succ])
 (refine aA7.t (v:=?_) 4 38 rfl rfl (by kernel_rfl) (fun _ _ _ h=>h) hHeld (Or.inl ⟨by rfl,?_⟩) ?_;rotate_left 1;focus (intro w' hSw;(try dsimp only at hSw);go_simp;(try with_reducible rfl);done))
 (refine aA7.t (v:=?_) 5 39 rfl rfl (by kernel_rfl) (fun _ _ _ h=>h) hHeld (Or.inl ⟨by rfl,?_⟩) ?_;rotate_left 1;focus (intro w' hSw;(try dsimp only at hSw);go_simp;(try with_reducible rfl);done))
 have f1:=HA.out.frozen 1;have lb:=HA.out.lt;have e6:IntKind.i64.wrap (mv+((aAl S).length:Int))=mv+((aAl S).length:Int):=IntWalk.i64_in _ ⟨by omega,by omega⟩
 (refine aA7.one (i:=6) (by kernel_rfl) rfl (fun K hK=>?_));go_simp;refine hK.out _ _ (fun h=>absurd rfl h) ?_;clear hK K;refine aA7.done (by kernel_rfl) ?_ _;(try simp only [Act.put,List.setIfInBounds_toArray,List.set_cons_zero,List.set_cons_succ])
 clear f1 lb hHeld e6;replace HA:Hid (Blk (w3.setCell ⟨w.heap.size,1,none⟩ (.int .i64 (mv+((aAl S).length:Int)))) w.heap.size #[.int .i64 (st+1),.int .i64 (mv+((aAl S).length:Int)),.int .i64 ro,.int .i64 be,.int .u32 (pe:Int)] 36):=HA.out.set 1 _;replace HZ:Hid (Blk (w3.setCell ⟨w.heap.size,1,none⟩ (.int .i64 (mv+((aAl S).length:Int)))) (w.heap.size+1) #[.int .i64 0,.int .i64 0,.int .i64 0,.int .i64 0,.int .u32 0] 36):=HZ.out.other (by simp) _
 replace HL:Hid (Bel w (w3.setCell ⟨w.heap.size,1,none⟩ (.int .i64 (mv+((aAl S).length:Int))))):=HL.out.setCell (Nat.le_refl _) _;generalize w3.setCell ⟨w.heap.size,1,none⟩ (.int .i64 (mv+((aAl S).length:Int)))=W4 at *;generalize mv+((aAl S).length:Int)=mn at *
 by_cases hz:D&&&A=0
 .rw [if_pos hz] at HF
  rw [hz] at hba;clear hz;have c0:=HA.out.cell 0 (v := .int .i64 (st+1)) rfl;have c1:=HA.out.cell 1 (v := .int .i64 mn) rfl;have c2:=HA.out.cell 2 (v := .int .i64 ro) rfl;have c3:=HA.out.cell 3 (v := .int .i64 be) rfl;have c4:=HA.out.cell 4 (v := .int .u32 (pe:Int)) rfl;have f3:=HA.out.frozen 3;have f4:=HA.out.frozen 4;have lb:=HA.out.lt
  go_upto_region 12 with fail
  clear c0 c1 c2 c3 c4 f3 f4 lb;replace HA:Hid (Blk ((W4.setCell ⟨w.heap.size,3,none⟩ (.int .i64 (ro+1))).setCell ⟨w.heap.size,4,none⟩ (.int .u32 0)) w.heap.size #[.int .i64 (st+1),.int .i64 mn,.int .i64 ro,.int .i64 (ro+1),.int .u32 0] 36):=((HA.out.set 3 _).set 4 _);replace HZ:Hid (Blk ((W4.setCell ⟨w.heap.size,3,none⟩ (.int .i64 (ro+1))).setCell ⟨w.heap.size,4,none⟩ (.int .u32 0)) (w.heap.size+1) #[.int .i64 0,.int .i64 0,.int .i64 0,.int .i64 0,.int .u32 0] 36):=((HZ.out.other (by simp) _).other (by simp) _)
  replace HL:Hid (Bel w ((W4.setCell ⟨w.heap.size,3,none⟩ (.int .i64 (ro+1))).setCell ⟨w.heap.size,4,none⟩ (.int .u32 0))):=((HL.out.setCell (Nat.le_refl _) _).setCell (Nat.le_refl _) _);generalize (W4.setCell ⟨w.heap.size,3,none⟩ (.int .i64 (ro+1))).setCell ⟨w.heap.size,4,none⟩ (.int .u32 0)=W5 at *;have c0:=HA.out.cell 0 (v := .int .i64 (st+1)) rfl;have c1:=HA.out.cell 1 (v := .int .i64 mn) rfl;have c2:=HA.out.cell 2 (v := .int .i64 ro) rfl;have c3:=HA.out.cell 3 (v := .int .i64 (ro+1)) rfl;have c4:=HA.out.cell 4 (v := .int .u32 0) rfl;have f2:=HA.out.frozen 2;have f4:=HA.out.frozen 4;have lb:=HA.out.lt
  go_upto_region 13 with fail
  clear c0 c1 c2 c3 c4 f2 f4 lb;replace HA:Hid (Blk ((W5.setCell ⟨w.heap.size,2,none⟩ (.int .i64 (ro+1))).setCell ⟨w.heap.size,4,none⟩ (.int .u32 (A:Int))) w.heap.size #[.int .i64 (st+1),.int .i64 mn,.int .i64 (ro+1),.int .i64 (ro+1),.int .u32 (A:Int)] 36):=((HA.out.set 2 _).set 4 _);replace HZ:Hid (Blk ((W5.setCell ⟨w.heap.size,2,none⟩ (.int .i64 (ro+1))).setCell ⟨w.heap.size,4,none⟩ (.int .u32 (A:Int))) (w.heap.size+1) #[.int .i64 0,.int .i64 0,.int .i64 0,.int .i64 0,.int .u32 0] 36):=((HZ.out.other (by simp) _).other (by simp) _)
  replace HL:Hid (Bel w ((W5.setCell ⟨w.heap.size,2,none⟩ (.int .i64 (ro+1))).setCell ⟨w.heap.size,4,none⟩ (.int .u32 (A:Int)))):=((HL.out.setCell (Nat.le_refl _) _).setCell (Nat.le_refl _) _);generalize (W5.setCell ⟨w.heap.size,2,none⟩ (.int .i64 (ro+1))).setCell ⟨w.heap.size,4,none⟩ (.int .u32 (A:Int))=W6 at *;have c0:=HA.out.cell 0 (v := .int .i64 (st+1)) rfl;have c1:=HA.out.cell 1 (v := .int .i64 mn) rfl;have c2:=HA.out.cell 2 (v := .int .i64 (ro+1)) rfl;have c3:=HA.out.cell 3 (v := .int .i64 (ro+1)) rfl;have c4:=HA.out.cell 4 (v := .int .u32 (A:Int)) rfl;have lb:=HA.out.lt;have z1:=HZ.out.cell 0 (v := .int .i64 0) rfl;have g0:=HZ.out.frozen 0;have z2:=HZ.out.cell 1 (v := .int .i64 0) rfl;have g1:=HZ.out.frozen 1;have z3:=HZ.out.cell 2 (v := .int .i64 0) rfl;have g2:=HZ.out.frozen 2;have z4:=HZ.out.cell 3 (v := .int .i64 0) rfl;have g3:=HZ.out.frozen 3;have z5:=HZ.out.cell 4 (v := .int .u32 0) rfl;have g4:=HZ.out.frozen 4;have gl:=HZ.out.lt;clear hba
  go_wp2_with fail
  have HZ2:Blk (((((W6.setCell ⟨w.heap.size+1,0,none⟩ (.int .i64 (st+1))).setCell ⟨w.heap.size+1,1,none⟩ (.int .i64 mn)).setCell ⟨w.heap.size+1,2,none⟩ (.int .i64 (ro+1))).setCell ⟨w.heap.size+1,3,none⟩ (.int .i64 (ro+1))).setCell ⟨w.heap.size+1,4,none⟩ (.int .u32 (A:Int))) (w.heap.size+1) #[.int .i64 (st+1),.int .i64 mn,.int .i64 (ro+1),.int .i64 (ro+1),.int .u32 (A:Int)] 36:=(((((HZ.out.set 0 _).set 1 _).set 2 _).set 3 _).set 4 _);have y0:=HZ2.cell 0 (v := .int .i64 (st+1)) rfl;have y1:=HZ2.cell 1 (v := .int .i64 mn) rfl;have y2:=HZ2.cell 2 (v := .int .i64 (ro+1)) rfl;have y3:=HZ2.cell 3 (v := .int .i64 (ro+1)) rfl;have y4:=HZ2.cell 4 (v := .int .u32 (A:Int)) rfl;refine bodyPost_ret (v := .tuple #[aIr ⟨st+1,mn,ro+1,ro+1,A⟩,.int .i64 0]) (by simp [results,Tryz.results69,go_sem,y0,y1,y2,y3,y4,aIr];try go_simp) rfl ?_
  rw [HF.out];exact ⟨rfl,(((((HL.out.setCell (by simp) _).setCell (by simp) _).setCell (by simp) _).setCell (by simp) _).setCell (by simp) _)⟩
 .rw [if_neg hz] at HF
  have hzb:(((D&&&A:Nat):Int)==0)=false:=by simpa using hz
  have hzb':(D&&&A==0)=false:=by simpa using hz
  generalize D&&&A=P at *;clear hz;have c0:=HA.out.cell 0 (v := .int .i64 (st+1)) rfl;have c1:=HA.out.cell 1 (v := .int .i64 mn) rfl;have c2:=HA.out.cell 2 (v := .int .i64 ro) rfl;have c3:=HA.out.cell 3 (v := .int .i64 be) rfl;have c4:=HA.out.cell 4 (v := .int .u32 (pe:Int)) rfl;have f3:=HA.out.frozen 3;have f4:=HA.out.frozen 4;have lb:=HA.out.lt
  go_upto_region 13 with fail
  clear c0 c1 c2 c3 c4 f3 f4 lb;replace HA:Hid (Blk ((W4.setCell ⟨w.heap.size,3,none⟩ (.int .i64 (ro+1))).setCell ⟨w.heap.size,4,none⟩ (.int .u32 (P:Int))) w.heap.size #[.int .i64 (st+1),.int .i64 mn,.int .i64 ro,.int .i64 (ro+1),.int .u32 (P:Int)] 36):=((HA.out.set 3 _).set 4 _);replace HZ:Hid (Blk ((W4.setCell ⟨w.heap.size,3,none⟩ (.int .i64 (ro+1))).setCell ⟨w.heap.size,4,none⟩ (.int .u32 (P:Int))) (w.heap.size+1) #[.int .i64 0,.int .i64 0,.int .i64 0,.int .i64 0,.int .u32 0] 36):=((HZ.out.other (by simp) _).other (by simp) _)
  replace HL:Hid (Bel w ((W4.setCell ⟨w.heap.size,3,none⟩ (.int .i64 (ro+1))).setCell ⟨w.heap.size,4,none⟩ (.int .u32 (P:Int)))):=((HL.out.setCell (Nat.le_refl _) _).setCell (Nat.le_refl _) _);generalize (W4.setCell ⟨w.heap.size,3,none⟩ (.int .i64 (ro+1))).setCell ⟨w.heap.size,4,none⟩ (.int .u32 (P:Int))=W6 at *;have c0:=HA.out.cell 0 (v := .int .i64 (st+1)) rfl;have c1:=HA.out.cell 1 (v := .int .i64 mn) rfl;have c2:=HA.out.cell 2 (v := .int .i64 ro) rfl;have c3:=HA.out.cell 3 (v := .int .i64 (ro+1)) rfl;have c4:=HA.out.cell 4 (v := .int .u32 (P:Int)) rfl;have lb:=HA.out.lt;have z1:=HZ.out.cell 0 (v := .int .i64 0) rfl;have g0:=HZ.out.frozen 0;have z2:=HZ.out.cell 1 (v := .int .i64 0) rfl;have g1:=HZ.out.frozen 1;have z3:=HZ.out.cell 2 (v := .int .i64 0) rfl;have g2:=HZ.out.frozen 2;have z4:=HZ.out.cell 3 (v := .int .i64 0) rfl;have g3:=HZ.out.frozen 3;have z5:=HZ.out.cell 4 (v := .int .u32 0) rfl;have g4:=HZ.out.frozen 4;have gl:=HZ.out.lt;clear hba
  go_wp2_with fail
  have HZ2:Blk (((((W6.setCell ⟨w.heap.size+1,0,none⟩ (.int .i64 (st+1))).setCell ⟨w.heap.size+1,1,none⟩ (.int .i64 mn)).setCell ⟨w.heap.size+1,2,none⟩ (.int .i64 ro)).setCell ⟨w.heap.size+1,3,none⟩ (.int .i64 (ro+1))).setCell ⟨w.heap.size+1,4,none⟩ (.int .u32 (P:Int))) (w.heap.size+1) #[.int .i64 (st+1),.int .i64 mn,.int .i64 ro,.int .i64 (ro+1),.int .u32 (P:Int)] 36:=(((((HZ.out.set 0 _).set 1 _).set 2 _).set 3 _).set 4 _);have y0:=HZ2.cell 0 (v := .int .i64 (st+1)) rfl;have y1:=HZ2.cell 1 (v := .int .i64 mn) rfl;have y2:=HZ2.cell 2 (v := .int .i64 ro) rfl;have y3:=HZ2.cell 3 (v := .int .i64 (ro+1)) rfl;have y4:=HZ2.cell 4 (v := .int .u32 (P:Int)) rfl;refine bodyPost_ret (v := .tuple #[aIr ⟨st+1,mn,ro,ro+1,P⟩,.int .i64 0]) (by simp [results,Tryz.results69,go_sem,y0,y1,y2,y3,y4,aIr];try go_simp) rfl ?_
  rw [HF.out];exact ⟨rfl,(((((HL.out.setCell (by simp) _).setCell (by simp) _).setCell (by simp) _).setCell (by simp) _).setCell (by simp) _)⟩
theorem aCr (v2:Value) (g:Graph) (kind:Int) (E:Nat) (w:World) (h2:aAn w v2 g) (hg:GOK g) (hG:aB3 g=true) (hk:aJp kind=true) (hE:E<2 ^ g.ports.length) :
  Calls prog 44 #[v2,.int .i64 kind,.int .u32 (E:Int)] w fun e w'=>e = .returned (.bool true)/\Bel w w':=by
 have HGV:=aA0 (fun w' (k:Bel w w')=>h2.keep k);obtain ⟨A3,k3,A4,k4,rfl,_,_,_,_,_,_⟩:=h2;have HGL:=aA0 hG;have hle:=hg.le;have HGT:Hid (aDr g=true):=(aDj g).2 hg;have hE32:E<4294967296:=Nat.lt_of_lt_of_le hE (Nat.pow_le_pow_right (n:=2) (by decide) (show g.ports.length<=32 by omega))
 have HKB:=aA0 hk;obtain ⟨M,hM⟩:∃ M,aBw g.ports.length (fun _=>true)=M:=⟨_,rfl⟩;have HM:=aA0 hM;have HD:=aEl (T:=M) hE32;have hwb:=aIo (E:=E) (show g.ports.length<=32 by omega) hE
 rw [hM] at hwb;rw [hwb] at HD;have hbn:=aCw E M;have hz:((aD4 E M:Int)==0)=true:=by simp at HD ⊢;omega
 have hz':(aD4 E M==0)=true:=by simp at HD ⊢;omega
 have HW:=Bel.refl (w.alloc (.cells #[.slice A3 g.ids.length k3,.slice A4 g.ports.length k4] 29));have q0:=aA9 HW 0 (v := .slice A3 g.ids.length k3) rfl;have q1:=aA9 HW 1 (v := .slice A4 g.ports.length k4) rfl;have q2:=aAy HW;clear hG hg hk hM hwb HD hE;go_enter func44,ntmps44
 go_wp2_with (first
  | (go_at_call 72;refine (aC2 _ g _ (HGV.out _ (aA3 HW)) HGL.out).mono ?_;rintro e w' ⟨rfl,hb⟩;rw [HGT.out];replace HW:=HW.trans hb;clear hb q0 q1 q2;have q0:=aA9 HW 0 (v := .slice A3 g.ids.length k3) rfl;have q1:=aA9 HW 1 (v := .slice A4 g.ports.length k4) rfl;have q2:=aAy HW)
  | (go_at_call 48;refine (aFi _ _).mono ?_;rintro e w' ⟨rfl,rfl⟩;rw [HKB.out])
  | (go_at_call 73;refine (aFl g.ports.length _ (by omega)).mono ?_;rintro e w' ⟨rfl,rfl⟩;rw [HM.out]))
 go_ret;exact ⟨rfl,aA3 HW⟩
theorem aJe (v2:Value) (g:Graph) (kind:Int) (E S:Nat) (w:World) (h2:aAn w v2 g) (hg:GOK g) (hG:aB3 g=true) (hk:aJp kind=true) (hE:E<2 ^ g.ports.length) (hS:S<4294967296) :
  Calls prog 19 #[v2,.int .i64 kind,.int .u32 (E:Int),.int .u32 (S:Int)] w fun e w'=>e = .returned (.bool (aBh g kind E S))/\Bel w w':=by
 have HF:Hid (aBh g kind E S=if S=0 then false else if aBe S E=false then false else if kind=1 then (S&&&(S-1))==0 else if kind=2 then aI7 g S else if kind=4 then S==E else true):=rfl
 have HGV:=aA0 (fun w' (k:Bel w w')=>h2.keep k);obtain ⟨A3,k3,A4,k4,rfl,_,_,_,_,_,_⟩:=h2;have HGL:=aA0 hG;have HGO:=aA0 hg;have hle:=hg.le;have hE32:E<4294967296:=Nat.lt_of_lt_of_le hE (Nat.pow_le_pow_right (n:=2) (by decide) (show g.ports.length<=32 by omega))
 have HKB:=aA0 hk;have HE:=aA0 hE;have hkk:1<=kind/\kind<=4:=by unfold aJp at hk;simpa using hk
 have hbn:=aCw S E;have HD:=aEl (T:=E) hS;have HIS:Hid (aBe S E=true->aP8 g S=aI7 g S):=fun h=>aW5 hg hS (aT2 h (aIo (by omega) hE))
 have HW:=Bel.refl (w.alloc (.cells #[.slice A3 g.ids.length k3,.slice A4 g.ports.length k4] 29));have q0:=aA9 HW 0 (v := .slice A3 g.ids.length k3) rfl;have q1:=aA9 HW 1 (v := .slice A4 g.ports.length k4) rfl;have q2:=aAy HW;clear hG hg hk hE
 by_cases h0:S=0
 .subst h0
  rw [if_pos rfl] at HF;have z0:(((0:Nat):Int)==0)=true:=rfl;clear HD hbn;go_enter func19,ntmps19
  go_wp2_with (go_at_call 44;refine (aCr _ g kind E _ (HGV.out _ (aA3 HW)) HGO.out HGL.out HKB.out HE.out).mono ?_;rintro e w' ⟨rfl,hb⟩;replace HW:=HW.trans hb;clear hb q0 q1 q2;have q0:=aA9 HW 0 (v := .slice A3 g.ids.length k3) rfl;have q1:=aA9 HW 1 (v := .slice A4 g.ports.length k4) rfl;have q2:=aAy HW)
  go_ret;exact ⟨aA2 (by rw [HF.out]),aA3 HW⟩
 .rw [if_neg h0] at HF
  have HCB:Hid ((S&&&(S-1)==0)=decide ((aAl S).length=1)):=aWp hS h0;have z0:((S:Int)==0)=false:=by simp;omega
  have z0':(S==0)=false:=by simp;omega
  cases hw:aBe S E with
  | false =>
   rw [hw,if_pos rfl] at HF;rw [hw] at HD;have hz:((aD4 S E:Int) != 0)=true:=by simp at HD ⊢;omega
   have hz':(aD4 S E != 0)=true:=by simp at HD ⊢;omega
   clear HD hw HIS h0;go_enter func19,ntmps19
   go_wp2_with (go_at_call 44;refine (aCr _ g kind E _ (HGV.out _ (aA3 HW)) HGO.out HGL.out HKB.out HE.out).mono ?_;rintro e w' ⟨rfl,hb⟩;replace HW:=HW.trans hb;clear hb q0 q1 q2;have q0:=aA9 HW 0 (v := .slice A3 g.ids.length k3) rfl;have q1:=aA9 HW 1 (v := .slice A4 g.ports.length k4) rfl;have q2:=aAy HW)
   go_ret;exact ⟨aA2 (by rw [HF.out]),aA3 HW⟩
  | true =>
   rw [hw,if_neg (by decide)] at HF
   rw [hw] at HD;have hz:((aD4 S E:Int) != 0)=false:=by simp at HD ⊢;omega
   have hz':(aD4 S E != 0)=false:=by simp at HD ⊢;omega
   have HI:=aA0 (HIS.out hw);clear HD hw HIS h0
   by_cases c1:kind=1
   .subst c1
    rw [if_pos rfl,HCB.out] at HF;have hcc:(((aAl S).length:Int)==1)=decide ((aAl S).length=1):=by rw [Bool.eq_iff_iff];simp;omega
    obtain ⟨bb,hbb⟩:∃ bb,decide ((aAl S).length=1)=bb:=⟨_,rfl⟩;rw [hbb] at HF hcc;clear hbb;go_enter func19,ntmps19
    go_wp2_with (first
     | (go_at_call 44;refine (aCr _ g 1 E _ (HGV.out _ (aA3 HW)) HGO.out HGL.out HKB.out HE.out).mono ?_;rintro e w' ⟨rfl,hb⟩;replace HW:=HW.trans hb;clear hb q0 q1 q2;have q0:=aA9 HW 0 (v := .slice A3 g.ids.length k3) rfl;have q1:=aA9 HW 1 (v := .slice A4 g.ports.length k4) rfl;have q2:=aAy HW)
     | (go_at_call 45;refine (aIe S _ hS).mono ?_;rintro e w' ⟨rfl,rfl⟩))
    go_ret;exact ⟨aA2 (by rw [HF.out]),aA3 HW⟩
   .rw [if_neg c1] at HF
    by_cases c2:kind=2
    .subst c2
     rw [if_pos rfl] at HF;clear c1;go_enter func19,ntmps19
     go_wp2_with (first
      | (go_at_call 44;refine (aCr _ g 2 E _ (HGV.out _ (aA3 HW)) HGO.out HGL.out HKB.out HE.out).mono ?_;rintro e w' ⟨rfl,hb⟩;replace HW:=HW.trans hb;clear hb q0 q1 q2;have q0:=aA9 HW 0 (v := .slice A3 g.ids.length k3) rfl;have q1:=aA9 HW 1 (v := .slice A4 g.ports.length k4) rfl;have q2:=aAy HW)
      | (go_at_call 46;refine (aSc _ g S _ (HGV.out _ (aA3 HW)) HGO.out HGL.out hS).mono ?_;rintro e w' ⟨rfl,hb⟩;rw [HI.out];replace HW:=HW.trans hb;clear hb q0 q1 q2))
     go_ret;exact ⟨aA2 (by rw [HF.out]),aA3 HW⟩
    .rw [if_neg c2] at HF
     by_cases c4:kind=4
     .subst c4
      rw [if_pos rfl] at HF;have hcc:((S:Int)==(E:Int))=(S==E):=by rw [Bool.eq_iff_iff];simp;omega
      clear c1 c2;obtain ⟨bb,hbb⟩:∃ bb,(S==E)=bb:=⟨_,rfl⟩;rw [hbb] at HF hcc;go_enter func19,ntmps19
      go_wp2_with (go_at_call 44;refine (aCr _ g 4 E _ (HGV.out _ (aA3 HW)) HGO.out HGL.out HKB.out HE.out).mono ?_;rintro e w' ⟨rfl,hb⟩;replace HW:=HW.trans hb;clear hb q0 q1 q2;have q0:=aA9 HW 0 (v := .slice A3 g.ids.length k3) rfl;have q1:=aA9 HW 1 (v := .slice A4 g.ports.length k4) rfl;have q2:=aAy HW)
      go_ret;exact ⟨aA2 (by rw [HF.out]),aA3 HW⟩
     .rw [if_neg c4] at HF
      obtain rfl:kind=3:=by omega
      clear c1 c2 c4;go_enter func19,ntmps19
      go_wp2_with (go_at_call 44;refine (aCr _ g 3 E _ (HGV.out _ (aA3 HW)) HGO.out HGL.out HKB.out HE.out).mono ?_;rintro e w' ⟨rfl,hb⟩;replace HW:=HW.trans hb;clear hb q0 q1 q2;have q0:=aA9 HW 0 (v := .slice A3 g.ids.length k3) rfl;have q1:=aA9 HW 1 (v := .slice A4 g.ports.length k4) rfl;have q2:=aAy HW)
      go_ret;exact ⟨aA2 (by rw [HF.out]),aA3 HW⟩
end Go.Proofs.YtdcjnhoabbdanaaGreatDoor

