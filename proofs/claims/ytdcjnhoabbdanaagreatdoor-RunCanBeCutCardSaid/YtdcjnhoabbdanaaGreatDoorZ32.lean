/- Merged. -/
import Derived.Test.YtdcjnhoabbdanaaGreatDoorZ31
import Derived.JoinedOf
import Derived.Test.YtdcjnhoabbdanaaGreatDoorTie
import Derived.Test.YtdcjnhoabbdanaaGreatDoorCards
import Derived.SevenTiedAt
set_option linter.unusedSimpArgs false
set_option linter.unnecessarySimpa false
set_option linter.unusedVariables false
set_option maxRecDepth 100000
set_option maxHeartbeats 4000000
open Go.Proofs.Tryz

namespace Go.Proofs.YtdcjnhoabbdanaaGreatDoor
open Go.RowKit
attribute [local go_sem] Oper.semAt_some
theorem aLp {S:Nat} (hS:S<4294967296):bits .and .u32 (S:Int) (-(S:Int) % 4294967296)=((lsb S:Nat):Int):=by
 by_cases h0:S=0
 .subst h0;rfl
 .exact aSn hS h0
def aAz (g:Graph) (s v:Nat):Nat:=if aIr g v&&&s=0 then s|||2 ^ v else s
theorem aJv (g:Graph) (l:List Nat):aE0 g l=l.foldl (aAz g) 0:=rfl
theorem aJw {g:Graph} {s v:Nat} (hs:s<4294967296) (hv:v<32):aAz g s v<4294967296:=by
 unfold aAz;split
 .exact Nat.or_lt_two_pow (n:=32) hs (aJp hv)
 .exact hs
theorem aQo (A:Option Addr) (c:Nat) (g:Graph) (E wi x:Nat) (w:World) (hN:aKc w A g) (hT:aC3 w) (hg:GOK g) (hE:E<4294967296) (hW:wi<4294967296)
  (hx:(wi&&&E=0/\lsb E=x)∨(wi&&&E≠0/\wi&&&E=x)) (hw:∀ v,x.testBit v=true->v<g.ports.length) :
  Calls prog 71 #[.slice A g.ports.length c,.int .i64 2,.int .u32 (E:Int),.int .u32 (wi:Int)] w fun e w'=>e = .returned (.int .u32 (aE0 g (aAe x):Nat))/\Bel w w':=by
 have HN:=aA0 (fun w' (k:Bel w w')=>hN.keep k);have HT:=aA0 (fun w' (k:Bel w w')=>hT.keep k);have hle:=hg.le;have hba:=aCi hW hE;have hbl:=aLp hE
 have hxl:x<4294967296:=by
  rcases hx with ⟨_,h⟩ | ⟨_,h⟩
  .rw [<- h];exact aSu hE
  .rw [<- h];exact Nat.lt_of_le_of_lt Nat.and_le_right hE
 rcases hx with ⟨h1,h2⟩ | ⟨h1,h2⟩
 .have z:(((wi&&&E:Nat):Int)==0)=true:=by simpa using h1
  rw [h2] at hbl;clear h1 h2;generalize wi&&&E=m at *;refine aIg func71 rfl ?_
  simp only [ntmps71,List.size_toArray,List.length_cons,List.length_nil,Nat.reduceAdd,Nat.reduceSub,Array.replicate_succ,Array.replicate_zero,List.push_toArray,List.append_toArray,List.nil_append,List.cons_append]
  go_wp2_with (go_at_call 96;refine (aG7 _ _).mono ?_;rintro e w' ⟨rfl,rfl⟩)
  obtain ⟨W0,hW0⟩:∃ W0,((w.alloc (.cells #[.slice A g.ports.length c] 66)).alloc (.cells #[.int .u32 0] 34)).alloc (.cells #[.int .u32 (x:Int)] 34)=W0:=⟨_,rfl⟩;have b1:Boxed W0 w.heap.size 66 (.slice A g.ports.length c):=by rw [<- hW0];exact ((Boxed.new w _ _).alloc _).alloc _
  have b2:Boxed W0 (w.heap.size+1) 34 (.int .u32 0):=by
   rw [<- hW0];have:=Boxed.new (w.alloc (.cells #[.slice A g.ports.length c] 66)) 34 (.int .u32 0);rw [World.size_alloc] at this;exact this.alloc _
  have b3:Boxed W0 (w.heap.size+1+1) 34 (.int .u32 (x:Int)):=by
   rw [<- hW0];have:=Boxed.new ((w.alloc (.cells #[.slice A g.ports.length c] 66)).alloc (.cells #[.int .u32 0] 34)) 34 (.int .u32 (x:Int));rw [World.size_alloc,World.size_alloc] at this;exact this
  have hb0:Bel w W0:=by rw [<- hW0];exact (((Bel.refl w).alloc _).alloc _).alloc _
  have hz0:W0.heap.size=w.heap.size+1+1+1:=by rw [<- hW0];simp
  rw [hW0];clear hW0;refine (wpIn_wide (n:=5)).1 ?_
  refine aIq (n:=5) rfl (by decide) (gf:=119) (lb:=#[.pointer (some ⟨w.heap.size+1+1,0,none⟩)]) (by simp [go_sem]) trivial (enters_of func119 (by kernel_rfl) rfl)
   (aMd 4 _ x W0 (by decide) hxl b3 (HT.out _ hb0)) (by rintro k rfl;omega) (by rintro k rfl;exact (HT.out _ hb0).1) (fun _=>rfl) (fun k=>k=w.heap.size+1+1∨k=W0.heap.size∨k=W0.heap.size+1) (fun k=>Iff.rfl)
   (fun pre W=>Boxed W w.heap.size 66 (.slice A g.ports.length c)/\Boxed W (w.heap.size+1) 34 (.int .u32 (pre.foldl (aAz g) 0:Nat))/\pre.foldl (aAz g) 0<4294967296/\Bel w W)
   (fun c pre W=>False)
   (fun s A B ⟨h1,h2,h3,h4⟩ hg=>⟨hg.boxed h1 (by omega),hg.boxed h2 (by omega),h3,hg.belE h4 (by omega)⟩)
   (fun c s A B h hg=>h)
   ⟨b1,b2,by show (0:Nat)<4294967296;decide,hb0⟩
   (fun v a' W=>a'={ tmps:=#[.slice A g.ports.length c,.int .i64 2,.int .u32 (E:Int),.int .u32 (x:Int),.pointer (some ⟨w.heap.size,0,none⟩),undef,undef,undef,.int .u32 0,.pointer (some ⟨w.heap.size+1,0,none⟩),.int .i64 (v:Int),.int .u32 (wi:Int),.int .u32 (E:Int),.int .u32 (m:Int),.int .u32 (m:Int),.bool true,.int .u32 (E:Int),.int .u32 (E:Int),.int .u32 (-(E:Int) % 4294967296),.int .u32 (x:Int),.int .i64 2,.bool false,.bool false,undef,undef,undef,undef,.bool true,.bool true,.int .u32 (x:Int),.func (.func 119) #[] #[.pointer (some ⟨w.heap.size+1+1,0,none⟩)],.int .i64 (v:Int),undef,undef,undef,undef,undef,undef,undef,undef,undef,undef,undef,undef,undef,undef,undef,undef],defers:=[] })
   (fun _ _ _ _ h _=>h) ?assign ?body ?done ?stop
  case assign =>
   intro pre v W K hp hI hl hK
   gi_wp2
   exact hK _ _ (aC1.refl _ _) hI rfl
  case body =>
   rintro pre v a' W hp ⟨h1,h2,h3,h4⟩ rfl hl ⟨r,hr⟩;have hv:v∈aAe x:=hp.subset (by simp)
   have hvn:=hw v (aCe.1 hv).2;obtain ⟨b,o,e,hb,hc⟩:=(HN.out _ h4).at_ hvn;subst e;have HFS:Hid ((pre++[v]).foldl (aAz g) 0=aAz g (pre.foldl (aAz g) 0) v):=by show _=_;rw [List.foldl_append];rfl
   have HLT:Hid (aAz g (pre.foldl (aAz g) 0) v<4294967296):=aJw h3 (by omega)
   have HGS:Hid (aAz g (pre.foldl (aAz g) 0) v=if aIr g v&&&pre.foldl (aAz g) 0=0 then pre.foldl (aAz g) 0|||2 ^ v else pre.foldl (aAz g) 0):=rfl
   obtain ⟨c1,f1,l1⟩:=aAw h1;obtain ⟨c2,f2,l2⟩:=aAw h2;have q:=aCi (aS4 hg v) h3;have q2:=aHm h3 (show v<32 by omega)
   have hdv:decide (v<g.ports.length)=true:=by simpa using hvn
   generalize pre.foldl (aAz g) 0=s at *;generalize hnv:aIr g v=N at *;refine wpIn_block (wpIn_seq ?_)
   refine aA6.startIn (fun w'=>w'.cell? ⟨w.heap.size,0,none⟩=some (.slice (some ⟨b,o,none⟩) g.ports.length c)/\w'.cell? ⟨w.heap.size+1,0,none⟩=some (.int .u32 (s:Int))/\w'.cell? ⟨b,o+v,none⟩=some (.int .u32 (N:Int))/\w.heap.size<w'.heap.size/\w.heap.size+1<w'.heap.size/\b<w'.heap.size) 6 (by kernel_rfl) (by kernel_rfl) (by rintro ⟨_,_,h⟩;exact h) ?_
   have hHeld:W.drew.cell? ⟨w.heap.size,0,none⟩=some (.slice (some ⟨b,o,none⟩) g.ports.length c)/\W.drew.cell? ⟨w.heap.size+1,0,none⟩=some (.int .u32 (s:Int))/\W.drew.cell? ⟨b,o+v,none⟩=some (.int .u32 (N:Int))/\w.heap.size<W.drew.heap.size/\w.heap.size+1<W.drew.heap.size/\b<W.drew.heap.size:=⟨c1,c2,hc,l1,l2,hb⟩
   by_cases hz:N&&&s=0
   .rw [hz] at q
    rw [if_pos hz] at HGS
    (refine aA6.t (v:=?_) 0 32 rfl rfl (by kernel_rfl) (fun _ _ _ h=>h) hHeld (Or.inl ⟨by rfl,?_⟩) ?_;rotate_left 1;focus (intro w' hSw;(try dsimp only at hSw);go_simp;(try with_reducible rfl);done))
    (refine aA6.t (v:=?_) 1 33 rfl rfl (by kernel_rfl) (fun _ _ _ h=>h) hHeld (Or.inl ⟨by rfl,?_⟩) ?_;rotate_left 1;focus (intro w' hSw;(try dsimp only at hSw);go_simp;(try with_reducible rfl);done))
    (refine aA6.t (v:=?_) 2 34 rfl rfl (by kernel_rfl) (fun _ _ _ h=>h) hHeld (Or.inl ⟨by rfl,?_⟩) ?_;rotate_left 1;focus (intro w' hSw;(try dsimp only at hSw);go_simp;(try with_reducible rfl);done))
    (refine aA6.t (v:=?_) 3 35 rfl rfl (by kernel_rfl) (fun _ _ _ h=>h) hHeld (Or.inl ⟨by rfl,?_⟩) ?_;rotate_left 1;focus (intro w' hSw;(try dsimp only at hSw);go_simp;(try with_reducible rfl);done))
    (refine aA6.t (v:=?_) 4 36 rfl rfl (by kernel_rfl) (fun _ _ _ h=>h) hHeld (Or.inl ⟨by rfl,?_⟩) ?_;rotate_left 1;focus (intro w' hSw;(try dsimp only at hSw);go_simp;(try with_reducible rfl);done))
    (refine aA6.t (v:=?_) 5 37 rfl rfl (by kernel_rfl) (fun _ _ _ h=>h) hHeld (Or.inl ⟨by rfl,?_⟩) ?_;rotate_left 1;focus (intro w' hSw;(try dsimp only at hSw);go_simp;(try with_reducible rfl);done))
    refine aA6.one (i:=6) (by kernel_rfl) rfl (fun K hK=>?_)
    go_simp
    refine hK.out _ _ (fun h=>absurd rfl h) ?_
    refine aA6.done (by kernel_rfl) ?_ _
    (try simp only [Act.put,List.setIfInBounds_toArray,List.set_cons_zero,List.set_cons_succ])
    change Code.wpIn _ _ _ _ _ _ _
    gi_wp2
    refine aA6.startIn (fun w'=>w'.cell? ⟨w.heap.size,0,none⟩=some (.slice (some ⟨b,o,none⟩) g.ports.length c)/\w'.cell? ⟨w.heap.size+1,0,none⟩=some (.int .u32 (s:Int))/\w'.cell? ⟨b,o+v,none⟩=some (.int .u32 (N:Int))/\w.heap.size<w'.heap.size/\w.heap.size+1<w'.heap.size/\b<w'.heap.size) 4 (by kernel_rfl) (by kernel_rfl) (by rintro ⟨_,_,h⟩;exact h) ?_
    have hHeld:W.drew.drew.cell? ⟨w.heap.size,0,none⟩=some (.slice (some ⟨b,o,none⟩) g.ports.length c)/\W.drew.drew.cell? ⟨w.heap.size+1,0,none⟩=some (.int .u32 (s:Int))/\W.drew.drew.cell? ⟨b,o+v,none⟩=some (.int .u32 (N:Int))/\w.heap.size<W.drew.drew.heap.size/\w.heap.size+1<W.drew.drew.heap.size/\b<W.drew.drew.heap.size:=⟨c1,c2,hc,l1,l2,hb⟩
    (refine aA6.t (v:=?_) 0 39 rfl rfl (by kernel_rfl) (fun _ _ _ h=>h) hHeld (Or.inl ⟨by rfl,?_⟩) ?_;rotate_left 1;focus (intro w' hSw;(try dsimp only at hSw);go_simp;(try with_reducible rfl);done))
    (refine aA6.t (v:=?_) 1 40 rfl rfl (by kernel_rfl) (fun _ _ _ h=>h) hHeld (Or.inl ⟨by rfl,?_⟩) ?_;rotate_left 1;focus (intro w' hSw;(try dsimp only at hSw);go_simp;(try with_reducible rfl);done))
    (refine aA6.t (v:=?_) 2 41 rfl rfl (by kernel_rfl) (fun _ _ _ h=>h) hHeld (Or.inl ⟨by rfl,?_⟩) ?_;rotate_left 1;focus (intro w' hSw;(try dsimp only at hSw);go_simp;(try with_reducible rfl);done))
    (refine aA6.t (v:=?_) 3 42 rfl rfl (by kernel_rfl) (fun _ _ _ h=>h) hHeld (Or.inl ⟨by rfl,?_⟩) ?_;rotate_left 1;focus (intro w' hSw;(try dsimp only at hSw);go_simp;(try with_reducible rfl);done))
    (refine aA6.one (i:=4) (by kernel_rfl) rfl (fun K hK=>?_));go_simp;refine hK.out _ _ (fun h=>absurd rfl h) ?_;clear hK K;refine aA6.done (by kernel_rfl) ?_ _;(try simp only [Act.put,List.setIfInBounds_toArray,List.set_cons_zero,List.set_cons_succ])
    rw [show IntKind.u32.wrap (2 ^ v)=2 ^ v % 4294967296 from rfl,q2,<- HGS.out]
    gi_wp2
    have h2':=h2.set (.int .u32 (aAz g s v:Nat));refine ⟨aC1.drew (aC1.drew (aC1.setCell _ _ _ ?_)),?_,?_,?_,((h4.setCell (by simp) _).drew).drew⟩
    .have:=hT.1
     rintro ((h | h | h) | h) <;> (dsimp only at h;omega)
    .exact (Below.heap_setCell _ _ _ _ (by simp)).trans h1
    .rw [HFS.out];exact h2'
    .rw [HFS.out];exact HLT.out
   .have hq:(((N&&&s:Nat):Int)==0)=false:=by simpa using hz
    rw [if_neg hz] at HGS;generalize N&&&s=Z at *
    (refine aA6.t (v:=?_) 0 32 rfl rfl (by kernel_rfl) (fun _ _ _ h=>h) hHeld (Or.inl ⟨by rfl,?_⟩) ?_;rotate_left 1;focus (intro w' hSw;(try dsimp only at hSw);go_simp;(try with_reducible rfl);done))
    (refine aA6.t (v:=?_) 1 33 rfl rfl (by kernel_rfl) (fun _ _ _ h=>h) hHeld (Or.inl ⟨by rfl,?_⟩) ?_;rotate_left 1;focus (intro w' hSw;(try dsimp only at hSw);go_simp;(try with_reducible rfl);done))
    (refine aA6.t (v:=?_) 2 34 rfl rfl (by kernel_rfl) (fun _ _ _ h=>h) hHeld (Or.inl ⟨by rfl,?_⟩) ?_;rotate_left 1;focus (intro w' hSw;(try dsimp only at hSw);go_simp;(try with_reducible rfl);done))
    (refine aA6.t (v:=?_) 3 35 rfl rfl (by kernel_rfl) (fun _ _ _ h=>h) hHeld (Or.inl ⟨by rfl,?_⟩) ?_;rotate_left 1;focus (intro w' hSw;(try dsimp only at hSw);go_simp;(try with_reducible rfl);done))
    (refine aA6.t (v:=?_) 4 36 rfl rfl (by kernel_rfl) (fun _ _ _ h=>h) hHeld (Or.inl ⟨by rfl,?_⟩) ?_;rotate_left 1;focus (intro w' hSw;(try dsimp only at hSw);go_simp;(try with_reducible rfl);done))
    (refine aA6.t (v:=?_) 5 37 rfl rfl (by kernel_rfl) (fun _ _ _ h=>h) hHeld (Or.inl ⟨by rfl,?_⟩) ?_;rotate_left 1;focus (intro w' hSw;(try dsimp only at hSw);go_simp;(try with_reducible rfl);done))
    refine aA6.one (i:=6) (by kernel_rfl) rfl (fun K hK=>?_)
    go_simp
    refine hK.out _ _ (fun h=>absurd rfl h) ?_
    refine aA6.done (by kernel_rfl) ?_ _
    (try simp only [Act.put,List.setIfInBounds_toArray,List.set_cons_zero,List.set_cons_succ])
    change Code.wpIn _ _ _ _ _ _ _
    gi_wp2
    refine ⟨aC1.of_bel ((Bel.refl W).drew),h1,?_,?_,h4.drew⟩
    .rw [HFS.out,HGS.out];exact h2
    .rw [HFS.out];exact HLT.out
  case done =>
   rintro W ⟨h1,h2,h3,h4⟩ hK;obtain ⟨c2,f2,l2⟩:=aAw h2;rw [<- aJv] at *;go_wp2;refine aEx (B:=w.heap.size) (aEr.push (aEr.nil _ _) (by omega) hK (by simp)) ?_
   intro W' hA hs
   exact ⟨.int .u32 (aE0 g (aAe x):Nat),by simp [results,Tryz.results71,go_sem],rfl,hA.bel h4⟩
  case stop =>
   rintro c' pre W hp h hK;exact h.elim
 .have z:(((wi&&&E:Nat):Int)==0)=false:=by simpa using h1
  rw [h2] at hba z;clear h1 h2;refine aIg func71 rfl ?_
  simp only [ntmps71,List.size_toArray,List.length_cons,List.length_nil,Nat.reduceAdd,Nat.reduceSub,Array.replicate_succ,Array.replicate_zero,List.push_toArray,List.append_toArray,List.nil_append,List.cons_append]
  go_wp2_with (go_at_call 96;refine (aG7 _ _).mono ?_;rintro e w' ⟨rfl,rfl⟩)
  obtain ⟨W0,hW0⟩:∃ W0,((w.alloc (.cells #[.slice A g.ports.length c] 66)).alloc (.cells #[.int .u32 0] 34)).alloc (.cells #[.int .u32 (x:Int)] 34)=W0:=⟨_,rfl⟩;have b1:Boxed W0 w.heap.size 66 (.slice A g.ports.length c):=by rw [<- hW0];exact ((Boxed.new w _ _).alloc _).alloc _
  have b2:Boxed W0 (w.heap.size+1) 34 (.int .u32 0):=by
   rw [<- hW0];have:=Boxed.new (w.alloc (.cells #[.slice A g.ports.length c] 66)) 34 (.int .u32 0);rw [World.size_alloc] at this;exact this.alloc _
  have b3:Boxed W0 (w.heap.size+1+1) 34 (.int .u32 (x:Int)):=by
   rw [<- hW0];have:=Boxed.new ((w.alloc (.cells #[.slice A g.ports.length c] 66)).alloc (.cells #[.int .u32 0] 34)) 34 (.int .u32 (x:Int));rw [World.size_alloc,World.size_alloc] at this;exact this
  have hb0:Bel w W0:=by rw [<- hW0];exact (((Bel.refl w).alloc _).alloc _).alloc _
  have hz0:W0.heap.size=w.heap.size+1+1+1:=by rw [<- hW0];simp
  rw [hW0];clear hW0;refine (wpIn_wide (n:=5)).1 ?_
  refine aIq (n:=5) rfl (by decide) (gf:=119) (lb:=#[.pointer (some ⟨w.heap.size+1+1,0,none⟩)]) (by simp [go_sem]) trivial (enters_of func119 (by kernel_rfl) rfl)
   (aMd 4 _ x W0 (by decide) hxl b3 (HT.out _ hb0)) (by rintro k rfl;omega) (by rintro k rfl;exact (HT.out _ hb0).1) (fun _=>rfl) (fun k=>k=w.heap.size+1+1∨k=W0.heap.size∨k=W0.heap.size+1) (fun k=>Iff.rfl)
   (fun pre W=>Boxed W w.heap.size 66 (.slice A g.ports.length c)/\Boxed W (w.heap.size+1) 34 (.int .u32 (pre.foldl (aAz g) 0:Nat))/\pre.foldl (aAz g) 0<4294967296/\Bel w W)
   (fun c pre W=>False)
   (fun s A B ⟨h1,h2,h3,h4⟩ hg=>⟨hg.boxed h1 (by omega),hg.boxed h2 (by omega),h3,hg.belE h4 (by omega)⟩)
   (fun c s A B h hg=>h)
   ⟨b1,b2,by show (0:Nat)<4294967296;decide,hb0⟩
   (fun v a' W=>a'={ tmps:=#[.slice A g.ports.length c,.int .i64 2,.int .u32 (E:Int),.int .u32 (x:Int),.pointer (some ⟨w.heap.size,0,none⟩),undef,undef,undef,.int .u32 0,.pointer (some ⟨w.heap.size+1,0,none⟩),.int .i64 (v:Int),.int .u32 (wi:Int),.int .u32 (E:Int),.int .u32 (x:Int),.int .u32 (x:Int),.bool false,undef,undef,undef,undef,.int .i64 2,.bool false,.bool false,undef,undef,undef,undef,.bool true,.bool true,.int .u32 (x:Int),.func (.func 119) #[] #[.pointer (some ⟨w.heap.size+1+1,0,none⟩)],.int .i64 (v:Int),undef,undef,undef,undef,undef,undef,undef,undef,undef,undef,undef,undef,undef,undef,undef,undef],defers:=[] })
   (fun _ _ _ _ h _=>h) ?assign ?body ?done ?stop
  case assign =>
   intro pre v W K hp hI hl hK
   gi_wp2
   exact hK _ _ (aC1.refl _ _) hI rfl
  case body =>
   rintro pre v a' W hp ⟨h1,h2,h3,h4⟩ rfl hl ⟨r,hr⟩;have hv:v∈aAe x:=hp.subset (by simp)
   have hvn:=hw v (aCe.1 hv).2;obtain ⟨b,o,e,hb,hc⟩:=(HN.out _ h4).at_ hvn;subst e;have HFS:Hid ((pre++[v]).foldl (aAz g) 0=aAz g (pre.foldl (aAz g) 0) v):=by show _=_;rw [List.foldl_append];rfl
   have HLT:Hid (aAz g (pre.foldl (aAz g) 0) v<4294967296):=aJw h3 (by omega)
   have HGS:Hid (aAz g (pre.foldl (aAz g) 0) v=if aIr g v&&&pre.foldl (aAz g) 0=0 then pre.foldl (aAz g) 0|||2 ^ v else pre.foldl (aAz g) 0):=rfl
   obtain ⟨c1,f1,l1⟩:=aAw h1;obtain ⟨c2,f2,l2⟩:=aAw h2;have q:=aCi (aS4 hg v) h3;have q2:=aHm h3 (show v<32 by omega)
   have hdv:decide (v<g.ports.length)=true:=by simpa using hvn
   generalize pre.foldl (aAz g) 0=s at *;generalize hnv:aIr g v=N at *;refine wpIn_block (wpIn_seq ?_)
   refine aA6.startIn (fun w'=>w'.cell? ⟨w.heap.size,0,none⟩=some (.slice (some ⟨b,o,none⟩) g.ports.length c)/\w'.cell? ⟨w.heap.size+1,0,none⟩=some (.int .u32 (s:Int))/\w'.cell? ⟨b,o+v,none⟩=some (.int .u32 (N:Int))/\w.heap.size<w'.heap.size/\w.heap.size+1<w'.heap.size/\b<w'.heap.size) 6 (by kernel_rfl) (by kernel_rfl) (by rintro ⟨_,_,h⟩;exact h) ?_
   have hHeld:W.drew.cell? ⟨w.heap.size,0,none⟩=some (.slice (some ⟨b,o,none⟩) g.ports.length c)/\W.drew.cell? ⟨w.heap.size+1,0,none⟩=some (.int .u32 (s:Int))/\W.drew.cell? ⟨b,o+v,none⟩=some (.int .u32 (N:Int))/\w.heap.size<W.drew.heap.size/\w.heap.size+1<W.drew.heap.size/\b<W.drew.heap.size:=⟨c1,c2,hc,l1,l2,hb⟩
   by_cases hz:N&&&s=0
   .rw [hz] at q
    rw [if_pos hz] at HGS
    (refine aA6.t (v:=?_) 0 32 rfl rfl (by kernel_rfl) (fun _ _ _ h=>h) hHeld (Or.inl ⟨by rfl,?_⟩) ?_;rotate_left 1;focus (intro w' hSw;(try dsimp only at hSw);go_simp;(try with_reducible rfl);done))
    (refine aA6.t (v:=?_) 1 33 rfl rfl (by kernel_rfl) (fun _ _ _ h=>h) hHeld (Or.inl ⟨by rfl,?_⟩) ?_;rotate_left 1;focus (intro w' hSw;(try dsimp only at hSw);go_simp;(try with_reducible rfl);done))
    (refine aA6.t (v:=?_) 2 34 rfl rfl (by kernel_rfl) (fun _ _ _ h=>h) hHeld (Or.inl ⟨by rfl,?_⟩) ?_;rotate_left 1;focus (intro w' hSw;(try dsimp only at hSw);go_simp;(try with_reducible rfl);done))
    (refine aA6.t (v:=?_) 3 35 rfl rfl (by kernel_rfl) (fun _ _ _ h=>h) hHeld (Or.inl ⟨by rfl,?_⟩) ?_;rotate_left 1;focus (intro w' hSw;(try dsimp only at hSw);go_simp;(try with_reducible rfl);done))
    (refine aA6.t (v:=?_) 4 36 rfl rfl (by kernel_rfl) (fun _ _ _ h=>h) hHeld (Or.inl ⟨by rfl,?_⟩) ?_;rotate_left 1;focus (intro w' hSw;(try dsimp only at hSw);go_simp;(try with_reducible rfl);done))
    (refine aA6.t (v:=?_) 5 37 rfl rfl (by kernel_rfl) (fun _ _ _ h=>h) hHeld (Or.inl ⟨by rfl,?_⟩) ?_;rotate_left 1;focus (intro w' hSw;(try dsimp only at hSw);go_simp;(try with_reducible rfl);done))
    refine aA6.one (i:=6) (by kernel_rfl) rfl (fun K hK=>?_)
    go_simp
    refine hK.out _ _ (fun h=>absurd rfl h) ?_
    refine aA6.done (by kernel_rfl) ?_ _
    (try simp only [Act.put,List.setIfInBounds_toArray,List.set_cons_zero,List.set_cons_succ])
    change Code.wpIn _ _ _ _ _ _ _
    gi_wp2
    refine aA6.startIn (fun w'=>w'.cell? ⟨w.heap.size,0,none⟩=some (.slice (some ⟨b,o,none⟩) g.ports.length c)/\w'.cell? ⟨w.heap.size+1,0,none⟩=some (.int .u32 (s:Int))/\w'.cell? ⟨b,o+v,none⟩=some (.int .u32 (N:Int))/\w.heap.size<w'.heap.size/\w.heap.size+1<w'.heap.size/\b<w'.heap.size) 4 (by kernel_rfl) (by kernel_rfl) (by rintro ⟨_,_,h⟩;exact h) ?_
    have hHeld:W.drew.drew.cell? ⟨w.heap.size,0,none⟩=some (.slice (some ⟨b,o,none⟩) g.ports.length c)/\W.drew.drew.cell? ⟨w.heap.size+1,0,none⟩=some (.int .u32 (s:Int))/\W.drew.drew.cell? ⟨b,o+v,none⟩=some (.int .u32 (N:Int))/\w.heap.size<W.drew.drew.heap.size/\w.heap.size+1<W.drew.drew.heap.size/\b<W.drew.drew.heap.size:=⟨c1,c2,hc,l1,l2,hb⟩
    (refine aA6.t (v:=?_) 0 39 rfl rfl (by kernel_rfl) (fun _ _ _ h=>h) hHeld (Or.inl ⟨by rfl,?_⟩) ?_;rotate_left 1;focus (intro w' hSw;(try dsimp only at hSw);go_simp;(try with_reducible rfl);done))
    (refine aA6.t (v:=?_) 1 40 rfl rfl (by kernel_rfl) (fun _ _ _ h=>h) hHeld (Or.inl ⟨by rfl,?_⟩) ?_;rotate_left 1;focus (intro w' hSw;(try dsimp only at hSw);go_simp;(try with_reducible rfl);done))
    (refine aA6.t (v:=?_) 2 41 rfl rfl (by kernel_rfl) (fun _ _ _ h=>h) hHeld (Or.inl ⟨by rfl,?_⟩) ?_;rotate_left 1;focus (intro w' hSw;(try dsimp only at hSw);go_simp;(try with_reducible rfl);done))
    (refine aA6.t (v:=?_) 3 42 rfl rfl (by kernel_rfl) (fun _ _ _ h=>h) hHeld (Or.inl ⟨by rfl,?_⟩) ?_;rotate_left 1;focus (intro w' hSw;(try dsimp only at hSw);go_simp;(try with_reducible rfl);done))
    (refine aA6.one (i:=4) (by kernel_rfl) rfl (fun K hK=>?_));go_simp;refine hK.out _ _ (fun h=>absurd rfl h) ?_;clear hK K;refine aA6.done (by kernel_rfl) ?_ _;(try simp only [Act.put,List.setIfInBounds_toArray,List.set_cons_zero,List.set_cons_succ])
    rw [show IntKind.u32.wrap (2 ^ v)=2 ^ v % 4294967296 from rfl,q2,<- HGS.out]
    gi_wp2
    have h2':=h2.set (.int .u32 (aAz g s v:Nat));refine ⟨aC1.drew (aC1.drew (aC1.setCell _ _ _ ?_)),?_,?_,?_,((h4.setCell (by simp) _).drew).drew⟩
    .have:=hT.1
     rintro ((h | h | h) | h) <;> (dsimp only at h;omega)
    .exact (Below.heap_setCell _ _ _ _ (by simp)).trans h1
    .rw [HFS.out];exact h2'
    .rw [HFS.out];exact HLT.out
   .have hq:(((N&&&s:Nat):Int)==0)=false:=by simpa using hz
    rw [if_neg hz] at HGS;generalize N&&&s=Z at *
    (refine aA6.t (v:=?_) 0 32 rfl rfl (by kernel_rfl) (fun _ _ _ h=>h) hHeld (Or.inl ⟨by rfl,?_⟩) ?_;rotate_left 1;focus (intro w' hSw;(try dsimp only at hSw);go_simp;(try with_reducible rfl);done))
    (refine aA6.t (v:=?_) 1 33 rfl rfl (by kernel_rfl) (fun _ _ _ h=>h) hHeld (Or.inl ⟨by rfl,?_⟩) ?_;rotate_left 1;focus (intro w' hSw;(try dsimp only at hSw);go_simp;(try with_reducible rfl);done))
    (refine aA6.t (v:=?_) 2 34 rfl rfl (by kernel_rfl) (fun _ _ _ h=>h) hHeld (Or.inl ⟨by rfl,?_⟩) ?_;rotate_left 1;focus (intro w' hSw;(try dsimp only at hSw);go_simp;(try with_reducible rfl);done))
    (refine aA6.t (v:=?_) 3 35 rfl rfl (by kernel_rfl) (fun _ _ _ h=>h) hHeld (Or.inl ⟨by rfl,?_⟩) ?_;rotate_left 1;focus (intro w' hSw;(try dsimp only at hSw);go_simp;(try with_reducible rfl);done))
    (refine aA6.t (v:=?_) 4 36 rfl rfl (by kernel_rfl) (fun _ _ _ h=>h) hHeld (Or.inl ⟨by rfl,?_⟩) ?_;rotate_left 1;focus (intro w' hSw;(try dsimp only at hSw);go_simp;(try with_reducible rfl);done))
    (refine aA6.t (v:=?_) 5 37 rfl rfl (by kernel_rfl) (fun _ _ _ h=>h) hHeld (Or.inl ⟨by rfl,?_⟩) ?_;rotate_left 1;focus (intro w' hSw;(try dsimp only at hSw);go_simp;(try with_reducible rfl);done))
    refine aA6.one (i:=6) (by kernel_rfl) rfl (fun K hK=>?_)
    go_simp
    refine hK.out _ _ (fun h=>absurd rfl h) ?_
    refine aA6.done (by kernel_rfl) ?_ _
    (try simp only [Act.put,List.setIfInBounds_toArray,List.set_cons_zero,List.set_cons_succ])
    change Code.wpIn _ _ _ _ _ _ _
    gi_wp2
    refine ⟨aC1.of_bel ((Bel.refl W).drew),h1,?_,?_,h4.drew⟩
    .rw [HFS.out,HGS.out];exact h2
    .rw [HFS.out];exact HLT.out
  case done =>
   rintro W ⟨h1,h2,h3,h4⟩ hK;obtain ⟨c2,f2,l2⟩:=aAw h2;rw [<- aJv] at *;go_wp2;refine aEx (B:=w.heap.size) (aEr.push (aEr.nil _ _) (by omega) hK (by simp)) ?_
   intro W' hA hs
   exact ⟨.int .u32 (aE0 g (aAe x):Nat),by simp [results,Tryz.results71,go_sem],rfl,hA.bel h4⟩
  case stop =>
   rintro c' pre W hp h hK;exact h.elim
theorem aI6 (g:Graph):∀ (l:List Nat) (s:Nat),s<4294967296->(∀ v∈l,v<32)->l.foldl (aAz g) s<4294967296
 | [],_,h,_=>h
 | v :: l,_,h,hl=>aI6 g l _ (aJw h (hl v List.mem_cons_self)) fun u hu=>hl u (List.mem_cons_of_mem _ hu)
theorem aUk (g:Graph) (kind:Int) {E:Nat} (wi:Nat) (hE:E<4294967296):aAl g kind E wi<4294967296:=by
 have hx:(if wi&&&E=0 then lsb E else wi&&&E)<4294967296:=by
  split
  .exact aSu hE
  .exact Nat.lt_of_le_of_lt Nat.and_le_right hE
 unfold aAl;generalize (if wi&&&E=0 then lsb E else wi&&&E)=x at *
 dsimp only;split
 .exact aSu hx
 .split
  .rw [aJv];exact aI6 g _ _ (by decide) fun v hv=>(aCe.1 hv).1
  .split
   .exact hE
   .exact hx
theorem aSd (A:Option Addr) (c:Nat) (g:Graph) (kind:Int) (E wi:Nat) (w:World) (hN:aKc w A g) (hT:aC3 w) (hg:GOK g) (hE:E<2 ^ g.ports.length) (hW:wi<4294967296) :
  Calls prog 71 #[.slice A g.ports.length c,.int .i64 kind,.int .u32 (E:Int),.int .u32 (wi:Int)] w fun e w'=>e = .returned (.int .u32 (aAl g kind E wi:Nat))/\Bel w w':=by
 have hle:=hg.le;have hE32:E<4294967296:=Nat.lt_of_lt_of_le hE (Nat.pow_le_pow_right (n:=2) (by decide) (show g.ports.length<=32 by omega))
 obtain ⟨x,hx⟩:∃ x,(if wi&&&E=0 then lsb E else wi&&&E)=x:=⟨_,rfl⟩
 have hF:aAl g kind E wi=if kind=1 then lsb x else if kind=2 then aE0 g (aAe x) else if kind=4 then E else x:=by unfold aAl;rw [hx]
 have hxE:x<=E:=by
  rw [<- hx];split
  .exact Nat.and_le_left
  .exact Nat.and_le_right
 have hx2:(wi&&&E=0/\lsb E=x)∨(wi&&&E≠0/\wi&&&E=x):=by
  by_cases h:wi&&&E=0
  .rw [if_pos h] at hx;exact .inl ⟨h,hx⟩
  .rw [if_neg h] at hx;exact .inr ⟨h,hx⟩
 rw [hF]
 by_cases k2:kind=2
 .subst k2
  rw [if_neg (by decide),if_pos rfl]
  refine aQo A c g E wi x w hN hT hg hE32 hW hx2 fun v hv=>?_
  rcases Nat.lt_or_ge v g.ports.length with h | h
  .exact h
  .have e:2 ^ g.ports.length<=2 ^ v:=Nat.pow_le_pow_right (by decide) h
   rw [Nat.testBit_lt_two_pow (by omega)] at hv;cases hv
 have k2':(kind==2)=false:=by simpa using k2
 have HB:Hid (Bel w (w.alloc (.cells #[.slice A g.ports.length c] 66))):=(Bel.refl w).alloc _;have hba:=aCi hW hE32;have hbl:=aLp hE32;have HBX:=aLp (S:=x) (by omega)
 have HR:Hid ((if kind=1 then lsb x else if kind=2 then aE0 g (aAe x) else if kind=4 then E else x)=if kind=1 then lsb x else if kind=4 then E else x):=by show _=_;rw [if_neg k2]
 rw [HR.out];obtain ⟨r,hr⟩:∃ r,(if kind=1 then lsb x else if kind=4 then E else x)=r:=⟨_,rfl⟩
 have K:((kind==1)=true/\Hid (lsb x=r))∨((kind==1)=false/\(kind==4)=true/\Hid (E=r))∨((kind==1)=false/\(kind==4)=false/\Hid (x=r)):=by
  by_cases k1:kind=1
  .rw [if_pos k1] at hr;exact .inl ⟨by simpa using k1,hr⟩
  .rw [if_neg k1] at hr
   by_cases k4:kind=4
   .rw [if_pos k4] at hr;exact .inr (.inl ⟨by simpa using k1,by simpa using k4,hr⟩)
   .rw [if_neg k4] at hr;exact .inr (.inr ⟨by simpa using k1,by simpa using k4,hr⟩)
 rw [hr];clear hF hx HR hr hN hT hg hE k2
 rcases hx2 with ⟨h1,h2⟩ | ⟨h1,h2⟩
 .have z:(((wi&&&E:Nat):Int)==0)=true:=by simpa using h1
  rw [h2] at hbl;clear h1 h2;generalize wi&&&E=m at *
  rcases K with ⟨k1,hr⟩ | ⟨k1,k4,hr⟩ | ⟨k1,k4,hr⟩
  all_goals
   go_enter func71,ntmps71
   go_wp2_with fail
   go_ret;exact ⟨aA4 (by rw [<- hr.out]),HB.out⟩
 .have z:(((wi&&&E:Nat):Int)==0)=false:=by simpa using h1
  rw [h2] at hba z;clear h1 h2
  rcases K with ⟨k1,hr⟩ | ⟨k1,k4,hr⟩ | ⟨k1,k4,hr⟩
  all_goals
   go_enter func71,ntmps71
   go_wp2_with fail
   go_ret;exact ⟨aA4 (by rw [<- hr.out]),HB.out⟩
end Go.Proofs.YtdcjnhoabbdanaaGreatDoor

namespace Go.Proofs.YtdcjnhoabbdanaaGreatDoor
open Go.RowKit
def aMy (p:Prg) (g:Graph) (kind:Int) (c:aA5) (n:Int):Int:=if aD5 p g c≠0 then aD5 p g c else if aDk kind=false then 12 else if 4096<n then 3 else 0
theorem aFq {p:Prg} {g:Graph} {kind:Int} {c:aA5} {n:Int} (h:aMy p g kind c n=0):aD5 p g c=0/\aDk kind=true/\n<=4096:=by
 unfold aMy at h;split at h
 .exact absurd h (by assumption)
 .rename_i h1
  split at h
  .cases h
  .rename_i h2
   split at h
   .cases h
   .rename_i h3
    exact ⟨by simpa using h1,by simpa using h2,by omega⟩
theorem aCp (v1:Value) (p:Prg) (v2:Value) (g:Graph) (v3:Value) (c:aA5) (kind n:Int) (w:World) (h:aEo w v1 p) (h2:aAm w v2 g) (h3:aAr w v3 c) (hL:aAq p=true) (hG:aB2 g=true) (hC:aBr c=true) :
  Calls prog 35 #[v1,v2,.int .i64 kind,v3,.int .i64 n] w fun e w'=>e = .returned (.int .i64 (aMy p g kind c n))/\Bel w w':=by
 have HPV:=aA0 (fun w' (k:Bel w w')=>h.keep k);have HGV:=aA0 (fun w' (k:Bel w w')=>h2.keep k);have HCV:=aA0 (fun w' (k:Bel w w')=>h3.keep k);obtain ⟨A1,k1,A2,k2,rfl,_,_,_,_,_,_⟩:=h;obtain ⟨A3,k3,A4,k4,rfl,_,_,_,_,_,_⟩:=h2;obtain ⟨A5,k5,rfl,_,_,_⟩:=h3;have HW:=Bel.refl ((w.alloc (.cells #[.string p.name,.slice A1 p.vars.length k1,.slice A2 p.rules.length k2] 25)).alloc (.cells #[.slice A3 g.ids.length k3,.slice A4 g.ports.length k4] 29));have HL:=aA0 hL;have HGL:=aA0 hG;have HCL:=aA0 hC;clear hL hG hC;have HF:Hid (aMy p g kind c n=if aD5 p g c≠0 then aD5 p g c else if aDk kind=false then 12 else if 4096<n then 3 else 0):=rfl
 by_cases hm:aD5 p g c=0
 .rw [if_neg (by simpa using hm)] at HF
  have HM:=aA0 hm;clear hm;cases hk:aDk kind with
  | false =>
   rw [hk,if_pos rfl] at HF;have HK:=aA0 hk;clear hk;go_enter func35,ntmps35
   go_wp2_with (first
    | (go_at_call 58;refine (aFc _ p _ g _ c _ (HPV.out _ (aA1 HW)) (HGV.out _ (aA1 HW)) (HCV.out _ (aA1 HW)) HL.out HGL.out HCL.out).mono ?_;rintro e w' ⟨rfl,hb⟩;rw [HM.out];replace HW:=HW.trans hb;clear hb;(try clear p0 p1 p2 g0 g1 gsz);obtain ⟨p0,p1,p2,g0,g1,gsz⟩:=aAf HW)
    | (go_at_call 59;refine (aEu kind _).mono ?_;rintro e w' ⟨rfl,rfl⟩;rw [HK.out]))
   go_ret;exact ⟨aA4 (by rw [HF.out]),aA1 HW⟩
  | true =>
   rw [hk,if_neg (by decide)] at HF
   have HK:=aA0 hk;clear hk
   by_cases hn:4096<n
   .rw [if_pos hn] at HF
    have hd:decide (4096<n)=true:=by simpa using hn
    clear hn;go_enter func35,ntmps35
    go_wp2_with (first
     | (go_at_call 58;refine (aFc _ p _ g _ c _ (HPV.out _ (aA1 HW)) (HGV.out _ (aA1 HW)) (HCV.out _ (aA1 HW)) HL.out HGL.out HCL.out).mono ?_;rintro e w' ⟨rfl,hb⟩;rw [HM.out];replace HW:=HW.trans hb;clear hb;(try clear p0 p1 p2 g0 g1 gsz);obtain ⟨p0,p1,p2,g0,g1,gsz⟩:=aAf HW)
     | (go_at_call 59;refine (aEu kind _).mono ?_;rintro e w' ⟨rfl,rfl⟩;rw [HK.out]))
    go_ret;exact ⟨aA4 (by rw [HF.out]),aA1 HW⟩
   .rw [if_neg hn] at HF
    have hd:decide (4096<n)=false:=by simpa using hn
    clear hn;go_enter func35,ntmps35
    go_wp2_with (first
     | (go_at_call 58;refine (aFc _ p _ g _ c _ (HPV.out _ (aA1 HW)) (HGV.out _ (aA1 HW)) (HCV.out _ (aA1 HW)) HL.out HGL.out HCL.out).mono ?_;rintro e w' ⟨rfl,hb⟩;rw [HM.out];replace HW:=HW.trans hb;clear hb;(try clear p0 p1 p2 g0 g1 gsz);obtain ⟨p0,p1,p2,g0,g1,gsz⟩:=aAf HW)
     | (go_at_call 59;refine (aEu kind _).mono ?_;rintro e w' ⟨rfl,rfl⟩;rw [HK.out]))
    go_ret;exact ⟨aA4 (by rw [HF.out]),aA1 HW⟩
 .rw [if_pos hm] at HF
  have hmb:(aD5 p g c != 0)=true:=by simpa using hm
  clear hm;go_enter func35,ntmps35
  go_wp2_with (go_at_call 58;refine (aFc _ p _ g _ c _ (HPV.out _ (aA1 HW)) (HGV.out _ (aA1 HW)) (HCV.out _ (aA1 HW)) HL.out HGL.out HCL.out).mono ?_;rintro e w' ⟨rfl,hb⟩;replace HW:=HW.trans hb;clear hb;(try clear p0 p1 p2 g0 g1 gsz);obtain ⟨p0,p1,p2,g0,g1,gsz⟩:=aAf HW)
  go_ret;exact ⟨aA4 (by rw [HF.out]),aA1 HW⟩
variable {p:Prg} {g:Graph} {kind:Int} {c:aA5}
theorem aWp (n:Nat):aD8 n (fun _=>true)=2 ^ n-1:=by
 apply Nat.eq_of_testBit_eq
 intro v
 rw [aHw,Nat.testBit_two_pow_sub_one,Bool.and_true]
theorem aPs (v2:Value) (g:Graph) (w:World) (h2:aAm w v2 g) (hg:GOK g) :
  Calls prog 54 #[v2] w fun e w'=>e = .returned (.int .u32 (aD8 g.ports.length (fun _=>true):Nat))/\Bel w w':=by
 obtain ⟨A3,k3,A4,k4,rfl,_,_,_,_,_,_⟩:=h2;have hle:=hg.le;have hid:=hg.ids;have HB:Hid (Bel w (w.alloc (.cells #[.slice A3 g.ids.length k3,.slice A4 g.ports.length k4] 29))):=(Bel.refl w).alloc _;have d1:decide (g.ids.length<32)=true:=by simp;omega
 have HF:Hid (aD8 g.ports.length (fun _=>true)=2 ^ g.ports.length-1):=aWp _;have HID:=aA0 hid;clear hid;go_enter func54,ntmps54
 go_wp2_with fail
 go_ret;refine ⟨aA4 ?_,HB.out⟩
 rw [HF.out,HID.out];have hp:2 ^ g.ports.length<4294967296:=aJp (by omega)
 have hp0:0<2 ^ g.ports.length:=Nat.two_pow_pos _;rw [Nat.min_eq_left (by omega)]
 have e1:(2:Int) ^ g.ports.length=((2 ^ g.ports.length:Nat):Int):=by rw [Int.natCast_pow];rfl
 rw [e1];omega
theorem aBl.unset {N k o:Nat} {v:Value} {w W:World} (h:aBl N (w.setCell ⟨k,o,none⟩ v) W) (hk:k<N):aBl N w W :=
 ⟨by have:=h.1;simpa using this,fun i hN hi=>(h.2 i hN (by simpa using hi)).trans (Below.heap_setCell _ _ _ _ (show i≠k by omega))⟩
def aV3 (p:Prg) (g:Graph) (v1 v2:Value) (kind:Int) (fs:FuncId) (capsS:Array Value) (w:World) (e:Ending) (w':World):Prop :=
 ∃ B A cn,e = .returned (.agg #[.pointer (some ⟨B,0,none⟩),.slice A g.ports.length cn,.int .i64 kind,.int .u32 (aD8 g.ports.length (fun _=>true):Nat),.func (.func fs) #[] capsS]) /\
  (∀ W,aBl w.heap.size w' W->aEo W v1 p->aAm W v2 g->aD1 W B p g/\aKc W A g)/\Bel w w'
theorem aEl (v1:Value) (p:Prg) (v2:Value) (g:Graph) (kind:Int) (fs:FuncId) (capsS:Array Value) (w:World) (h:aEo w v1 p) (h2:aAm w v2 g) (hc:aB8 p=0) (hg:GOK g) (hG:aB2 g=true) :
  Calls prog 36 #[v1,v2,.int .i64 kind,.func (.func fs) #[] capsS] w (aV3 p g v1 v2 kind fs capsS w):=by
 have HPV:=aA0 (fun w' (k:Bel w w')=>h.keep k);have HGV:=aA0 (fun w' (k:Bel w w')=>h2.keep k);obtain ⟨A1,k1,A2,k2,rfl,_,_,_,_,_,_⟩:=h;obtain ⟨A3,k3,A4,k4,rfl,_,_,_,_,_,_⟩:=h2;have HW:=Bel.refl ((w.alloc (.cells #[.string p.name,.slice A1 p.vars.length k1,.slice A2 p.rules.length k2] 25)).alloc (.cells #[.slice A3 g.ids.length k3,.slice A4 g.ports.length k4] 29));have HC:=aA0 hc;have HG:=aA0 hg;have HGL:=aA0 hG;have HMV:Hid True:=trivial;have HNT:Hid True:=trivial;clear hc hg hG
 have HZ:Hid (Blk (((w.alloc (.cells #[.string p.name,.slice A1 p.vars.length k1,.slice A2 p.rules.length k2] 25)).alloc (.cells #[.slice A3 g.ids.length k3,.slice A4 g.ports.length k4] 29)).alloc (.cells #[.pointer none,.slice none 0 0,.int .i64 0,.int .u32 0,.nilFunc] 69)) (w.heap.size+1+1) #[.pointer none,.slice none 0 0,.int .i64 0,.int .u32 0,.nilFunc] 69):=by
  have:=Blk.new ((w.alloc (.cells #[.string p.name,.slice A1 p.vars.length k1,.slice A2 p.rules.length k2] 25)).alloc (.cells #[.slice A3 g.ids.length k3,.slice A4 g.ports.length k4] 29)) #[.pointer none,.slice none 0 0,.int .i64 0,.int .u32 0,.nilFunc] 69;rw [World.size_alloc,World.size_alloc] at this;exact this
 replace HW:=HW.alloc (.cells #[.pointer none,.slice none 0 0,.int .i64 0,.int .u32 0,.nilFunc] 69);have hcell:=aA0 (fun w' (kk:Bel ((w.alloc (.cells #[.string p.name,.slice A1 p.vars.length k1,.slice A2 p.rules.length k2] 25)).alloc (.cells #[.slice A3 g.ids.length k3,.slice A4 g.ports.length k4] 29)) w')=>aAf kk);go_enter func36,ntmps36
 go_wp2_with fail
 replace HW:=HW.drew;replace HZ:=aA0 HZ.out.drew
 go_region_held3 (fun w'=>w'.cell? ⟨w.heap.size,0,none⟩=some (.string p.name)/\w'.cell? ⟨w.heap.size,1,none⟩=some (.slice A1 p.vars.length k1)/\w'.cell? ⟨w.heap.size,2,none⟩=some (.slice A2 p.rules.length k2)/\w'.cell? ⟨w.heap.size+1,0,none⟩=some (.slice A3 g.ids.length k3)/\w'.cell? ⟨w.heap.size+1,1,none⟩=some (.slice A4 g.ports.length k4)/\w.heap.size+1<w'.heap.size) (first | exact hcell.out _ HW | exact hcell.out _ (((((HW.setCell (by simp) _).setCell (by simp) _).setCell (by simp) _).setCell (by simp) _).setCell (by simp) _)) (first
  | (go_simp;go_at_call 60;refine (aOq _ p _ g _ (HPV.out _ (aA1 HW)) (HGV.out _ (aA1 HW)) HC.out HG.out HGL.out).mono ?_;rintro e w' ⟨bm,rfl,hMV,hb⟩;have hz:=HZ.out.lt;replace HMV:=aA0 (fun W (hW:aBl (w.heap.size+1+1+1) w' W) (q1:aEo W _ p) (q2:aAm W _ g)=>hMV W (hW.up hz) q1 q2);replace HW:=HW.trans hb;replace HZ:=aA0 (HZ.out.keep hb);clear hb hMV hz)
  | (go_simp;go_at_call 61;refine (aS6 _ g _ (HGV.out _ (aA1 HW)) HG.out).mono ?_;rintro e w' ⟨AN,kn,rfl,hNT,_,_,hb⟩;have hz:=HZ.out.lt;replace HNT:=aA0 (fun W (hW:aBl (w.heap.size+1+1+1) w' W)=>hNT W (hW.up hz));replace HMV:=aA0 (fun W (hW:aBl (w.heap.size+1+1+1) w' W)=>HMV.out W (hW.back hb));replace HW:=HW.trans hb;replace HZ:=aA0 (HZ.out.keep hb);clear hb hNT hz)
  | (go_simp;go_at_call 54;refine (aPs _ g _ (HGV.out _ (aA1 HW)) HG.out).mono ?_;rintro e w' ⟨rfl,hb⟩;replace HNT:=aA0 (fun W (hW:aBl (w.heap.size+1+1+1) w' W)=>HNT.out W (hW.back hb));replace HMV:=aA0 (fun W (hW:aBl (w.heap.size+1+1+1) w' W)=>HMV.out W (hW.back hb));replace HW:=HW.trans hb;replace HZ:=aA0 (HZ.out.keep hb);clear hb;have z0:=HZ.out.cell 0 (v := .pointer none) rfl;have f0:=HZ.out.frozen 0;have z1:=HZ.out.cell 1 (v := .slice none 0 0) rfl;have f1:=HZ.out.frozen 1;have z2:=HZ.out.cell 2 (v := .int .i64 0) rfl;have f2:=HZ.out.frozen 2;have z3:=HZ.out.cell 3 (v := .int .u32 0) rfl;have f3:=HZ.out.frozen 3;have z4:=HZ.out.cell 4 (v := .nilFunc) rfl;have f4:=HZ.out.frozen 4;have zl:=HZ.out.lt))
 go_wp2_with fail
 have HR9:Blk (((((w'.setCell ⟨w.heap.size+1+1,0,none⟩ (.pointer (some ⟨bm,0,none⟩))).setCell ⟨w.heap.size+1+1,1,none⟩ (.slice AN g.ports.length kn)).setCell ⟨w.heap.size+1+1,2,none⟩ (.int .i64 kind)).setCell ⟨w.heap.size+1+1,3,none⟩ (.int .u32 (aD8 g.ports.length (fun _=>true):Nat))).setCell ⟨w.heap.size+1+1,4,none⟩ (.func (.func fs) #[] capsS)) (w.heap.size+1+1) #[.pointer (some ⟨bm,0,none⟩),.slice AN g.ports.length kn,.int .i64 kind,.int .u32 (aD8 g.ports.length (fun _=>true):Nat),.func (.func fs) #[] capsS] 69:=(((((HZ.out.set 0 _).set 1 _).set 2 _).set 3 _).set 4 _);have y0:=HR9.cell 0 (v := .pointer (some ⟨bm,0,none⟩)) rfl;have y1:=HR9.cell 1 (v := .slice AN g.ports.length kn) rfl;have y2:=HR9.cell 2 (v := .int .i64 kind) rfl;have y3:=HR9.cell 3 (v := .int .u32 (aD8 g.ports.length (fun _=>true):Nat)) rfl;have y4:=HR9.cell 4 (v := .func (.func fs) #[] capsS) rfl;refine bodyPost_ret (v := .agg #[.pointer (some ⟨bm,0,none⟩),.slice AN g.ports.length kn,.int .i64 kind,.int .u32 (aD8 g.ports.length (fun _=>true):Nat),.func (.func fs) #[] capsS]) (by simp [results,Tryz.results36,go_sem,y0,y1,y2,y3,y4];try go_simp) rfl ?_
 have hbf:=aA1 HW;have hsz:=hbf.size;refine ⟨bm,AN,kn,rfl,fun W hW q1 q2=>?_,(((((hbf.setCell (by simp;omega) _).setCell (by simp;omega) _).setCell (by simp;omega) _).setCell (by simp;omega) _).setCell (by simp;omega) _)⟩
 have hW':aBl (w.heap.size+1+1+1) w' W:=(((((hW.up (by omega:w.heap.size<=w.heap.size+1+1+1)).unset (by omega)).unset (by omega)).unset (by omega)).unset (by omega)).unset (by omega)
 exact ⟨HMV.out W hW' q1 q2,HNT.out W hW'⟩
theorem aG6 (N0:Nat) (en:Trc->Nat) (ok:Trc->Prop):Seer prog N0 37 #[] aN0 en ok (fun M _ w=>∀ k,M k->k<w.heap.size) where
 enter:=fun a b d w=>by kernel_rfl
 dom:=fun M s w h=>h
 keep:=fun M s w W h hz _ k hk=>Nat.lt_of_lt_of_le (h k hk) hz
 grow:=fun M M' s w _ _ h=>h
 call:=fun M s w v t _ h hC _=>by
  have hb:Bel w (w.alloc (.cells (aC8 t.count) 36)):=(Bel.refl w).alloc _;have HB:=aA0 hb;have HM:=aA0 h;clear hb h hC;unfold aN0;unfold aC8 at HB;go_enter func37,ntmps37
  go_wp2_with fail
  go_end0
  exact ⟨⟨_,rfl⟩,M,fun k hk=>Nat.lt_of_lt_of_le (HM.out k hk) HB.out.size,Agr.of_belM HB.out,fun k hk=>hk,fun k hk => .inl hk⟩
def aI4 (x:Value × Trc):List Value:=(aC8 x.2.count).toList
structure WatchI (bx by':Nat) (M C:Nat->Prop) (s:List (Value × Trc)) (w:World) (AX:Option Addr) (cX:Nat) (AY:Option Addr) (cY:Nat) (hs:List Value):Prop where
 box1:Boxed w bx 51 (.slice AX s.length cX)
 box2:Boxed w by' 52 (.slice AY s.length cY)
 row1:w.ownsRow (by'+1) 30 1 (.slice AX s.length cX) s.length hs
 row2:w.ownsRow (by'+1) 36 5 (.slice AY s.length cY) s.length (s.flatMap aI4)
 in1:∀ k,k=bx∨k=by'∨ob AX s.length cX=some k∨ob AY s.length cY=some k∨C k->M k
 off:∀ k,C k->k≠bx/\k≠by'/\ob AX s.length cX≠some k/\ob AY s.length cY≠some k
 dom:∀ k,M k->k<w.heap.size
 lt:bx<by'
 rows:∀ (u:Nat) (x:Value × Trc),s[u]?=some x->∃ v,hs[u]?=some v/\∀ W,w.heap.size<=W.heap.size->(∀ k,C k->W.heap[k]?=w.heap[k]?)->aAr W v x.2.last
theorem aT4 {M:Nat->Prop} {w W:World} {base e size n c m:Nat} {A:Option Addr} {xs:List Value} (h:w.ownsRow base e size (.slice A n c) m xs) (hk:∀ k,M k->W.heap[k]?=w.heap[k]?) (hM:∀ k,ob A n c=some k->M k):W.ownsRow base e size (.slice A n c) m xs:=by
 refine ⟨h.1,?_⟩
 rcases h.2 with hn | ⟨g,cap,cur,hv,hb,hg,hr⟩
 .exact .inl hn
 .refine .inr ⟨g,cap,cur,hv,hb,?_,hr⟩
  injection hv with hA hn hc
  subst hA;rw [hk g (hM g (by simp [ob,Value.ownBlock]))];exact hg
section
variable {bx by':Nat} {M C:Nat->Prop} {s:List (Value × Trc)} {w W:World} {AX:Option Addr} {cX:Nat} {AY:Option Addr} {cY:Nat} {hs:List Value}
theorem WatchI.keep (h:WatchI bx by' M C s w AX cX AY cY hs) (hz:w.heap.size<=W.heap.size) (hk:∀ k,M k->W.heap[k]?=w.heap[k]?):WatchI bx by' M C s W AX cX AY cY hs where
 box1:=(hk bx (h.in1 _ (.inl rfl))).trans h.box1
 box2:=(hk by' (h.in1 _ (.inr (.inl rfl)))).trans h.box2
 row1:=aT4 h.row1 hk fun k e=>h.in1 k (.inr (.inr (.inl e)))
 row2:=aT4 h.row2 hk fun k e=>h.in1 k (.inr (.inr (.inr (.inl e))))
 in1:=h.in1
 off:=h.off
 dom:=fun k hm=>Nat.lt_of_lt_of_le (h.dom k hm) hz
 lt:=h.lt
 rows:=fun u x hx=>by
  obtain ⟨v,h1,h3⟩:=h.rows u x hx;exact ⟨v,h1,fun V hV hkV=>h3 V (Nat.le_trans hz hV) fun k hm=>(hkV k hm).trans (hk k (h.in1 k (.inr (.inr (.inr (.inr hm))))))⟩
theorem WatchI.bel (h:WatchI bx by' M C s w AX cX AY cY hs) (k:Bel w W):WatchI bx by' M C s W AX cX AY cY hs:=h.keep k.size fun q hq=>k.block q (h.dom q hq)
theorem WatchI.grow {M':Nat->Prop} (h:WatchI bx by' M C s w AX cX AY cY hs) (hg:∀ k,M k->M' k) (hd:∀ k,M' k->k<w.heap.size):WatchI bx by' M' C s w AX cX AY cY hs :=
 { h with in1:=fun k hk=>hg k (h.in1 k hk),dom:=hd }
theorem WatchI.start (h1:Boxed w bx 51 (.slice none 0 0)) (h2:Boxed w by' 52 (.slice none 0 0)) (hl:bx<by') (hM:∀ k,k=bx∨k=by'->M k) (hd:∀ k,M k->k<w.heap.size):WatchI bx by' M (fun _=>False) [] w none 0 none 0 [] where
 box1:=h1
 box2:=h2
 row1:=World.ownsRow_nil _ _ _ _
 row2:=World.ownsRow_nil _ _ _ _
 in1:=fun k hk=>by
  rcases hk with e | e | e | e | e
  .exact hM k (.inl e)
  .exact hM k (.inr e)
  .cases e
  .cases e
  .exact e.elim
 off:=fun k hk=>hk.elim
 dom:=hd
 lt:=hl
 rows:=fun u x hx=>by simp at hx
theorem WatchI.next (h:WatchI bx by' M C s w AX cX AY cY hs) {w1 w4 w6:World} {AX':Option Addr} {cX':Nat} {AY':Option Addr} {cY':Nat} {v v':Value} {t:Trc} {a:Nat} (hb1:Bel w w1) (ha:w.heap.size<=a) (hv:∀ W,aBl a w1 W->aAr W v' t.last) {o1 o2:Obj}
  (hown1:w4.ownsRow (by'+1) 30 1 (.slice AX' (s.length+1) cX') (s.length+1) (hs++[v'])) (hgr1:(w1.alloc o1).grownBy w4 (Value.slice AX s.length cX).ownBlock)
  (hat1:(Value.slice AX' (s.length+1) cX').ownBlock=(Value.slice AX s.length cX).ownBlock∨(Value.slice AX' (s.length+1) cX').ownBlock=some (w1.alloc o1).heap.size)
  (hown2:w6.ownsRow (by'+1) 36 5 (.slice AY' (s.length+1) cY') (s.length+1) (s.flatMap aI4++aI4 (v,t))) (hgr2:((w4.setCell ⟨bx,0,none⟩ (.slice AX' (s.length+1) cX')).alloc o2).grownBy w6 (Value.slice AY s.length cY).ownBlock)
  (hat2:(Value.slice AY' (s.length+1) cY').ownBlock=(Value.slice AY s.length cY).ownBlock∨(Value.slice AY' (s.length+1) cY').ownBlock=some ((w4.setCell ⟨bx,0,none⟩ (.slice AX' (s.length+1) cX')).alloc o2).heap.size) :
  WatchI bx by' (fun k=>M k∨w.heap.size<=k/\k<(w6.setCell ⟨by',0,none⟩ (.slice AY' (s.length+1) cY')).heap.size) (fun k=>C k∨a<=k/\k<w1.heap.size) (s++[(v,t)]) (w6.setCell ⟨by',0,none⟩ (.slice AY' (s.length+1) cY')) AX' cX' AY' cY' (hs++[v']) /\
   Agr M w (w6.setCell ⟨by',0,none⟩ (.slice AY' (s.length+1) cY')):=by
 have hl:(s++[(v,t)]).length=s.length+1:=by simp
 have b1:=h.box1.lt;have b2:=h.box2.lt;have hlt:=h.lt;have hz1:=hb1.size
 -- what changes
 have G1:Agr (fun k=>k=bx∨k=by'∨ob AX s.length cX=some k∨ob AY s.length cY=some k) w1 w4:=(Agr.alloc _ w1 o1).trans (Agr.grownV hgr1 fun k hk => .inr (.inr (.inl hk.symm)))
 have G2:=G1.trans (Agr.setCell (E:=fun k=>k=bx∨k=by'∨ob AX s.length cX=some k∨ob AY s.length cY=some k) w4 ⟨bx,0,none⟩ (.slice AX' (s.length+1) cX') (.inl rfl))
 have G3:=G2.trans (Agr.alloc _ _ o2);have G4:=G3.trans (Agr.grownV (E:=fun k=>k=bx∨k=by'∨ob AX s.length cX=some k∨ob AY s.length cY=some k) hgr2 fun k hk => .inr (.inr (.inr hk.symm)))
 have G5:=G4.trans (Agr.setCell (E:=fun k=>k=bx∨k=by'∨ob AX s.length cX=some k∨ob AY s.length cY=some k) w6 ⟨by',0,none⟩ (.slice AY' (s.length+1) cY') (.inr (.inl rfl)))
 have H5:=(Agr.of_belM (M:=fun k=>k=bx∨k=by'∨ob AX s.length cX=some k∨ob AY s.length cY=some k) hb1).trans G5
 have hE:∀ k,(k=bx∨k=by'∨ob AX s.length cX=some k∨ob AY s.length cY=some k)->M k:=fun k hk=>h.in1 k (by
  rcases hk with e | e | e | e
  .exact .inl e
  .exact .inr (.inl e)
  .exact .inr (.inr (.inl e))
  .exact .inr (.inr (.inr (.inl e))))
 have hElt:∀ k,(k=bx∨k=by'∨ob AX s.length cX=some k∨ob AY s.length cY=some k)->k<w.heap.size:=fun k hk=>h.dom k (hE k hk)
 -- the two old rows
 have nXY:∀ k,ob AY s.length cY=some k->ob AX s.length cX≠some k:=fun k hk hk2=>by
  rcases aFt h.row1 h.row2 (by decide) with e | e
  .exact absurd (hk.symm.trans e) (by simp)
  .exact e (hk.trans hk2.symm)
 have hs1:(w1.alloc o1).heap.size=w1.heap.size+1:=by simp
 have hs2:((w4.setCell ⟨bx,0,none⟩ (.slice AX' (s.length+1) cX')).alloc o2).heap.size=w4.heap.size+1:=by simp
 have hs7:(w6.setCell ⟨by',0,none⟩ (.slice AY' (s.length+1) cY')).heap.size=w6.heap.size:=by simp
 have hz4:=G1.size;have hz6:w4.heap.size+1<=w6.heap.size:=by have:=hgr2.size;omega
 -- the first row behind all
 have R5:((w4.setCell ⟨bx,0,none⟩ (.slice AX' (s.length+1) cX')).alloc o2).ownsRow (by'+1) 30 1 (.slice AX' (s.length+1) cX') (s.length+1) (hs++[v']):=(aD7 hown1 (by show bx<by'+1;omega) _).alloc o2
 have Y5:((w4.setCell ⟨bx,0,none⟩ (.slice AX' (s.length+1) cX')).alloc o2).ownsRow (by'+1) 36 5 (.slice AY s.length cY) s.length (s.flatMap aI4):=by
  have g1:Agr (fun k=>k=bx∨ob AX s.length cX=some k) w ((w4.setCell ⟨bx,0,none⟩ (.slice AX' (s.length+1) cX')).alloc o2) :=
   ((((Agr.of_belM hb1).trans (Agr.alloc _ w1 o1)).trans (Agr.grownV hgr1 fun k hk => .inr hk.symm)).trans (Agr.setCell _ _ _ (.inl rfl))).trans (Agr.alloc _ _ o2)
  refine aCw h.row2 g1 fun k hk e=>?_
  rcases e with e | e
  .have:=(aD6 h.row2 hk).1;omega
  .exact nXY k hk e
 have n5:∀ k,ob AX' (s.length+1) cX'=some k->ob AY s.length cY≠some k:=fun k hk hk2=>by
  rcases aFt R5 Y5 (by decide) with e | e
  .exact absurd (hk2.symm.trans e) (by simp)
  .exact e (hk2.trans hk.symm)
 have R6:w6.ownsRow (by'+1) 30 1 (.slice AX' (s.length+1) cX') (s.length+1) (hs++[v']):=aCw (E:=fun k=>ob AY s.length cY=some k) R5 (Agr.grownV hgr2 fun k hk=>hk.symm) fun k hk e=>n5 k hk e
 have R7:=aD7 R6 (a:=⟨by',0,none⟩) (by show by' < by'+1;omega) (.slice AY' (s.length+1) cY')
 have Y7:=aD7 hown2 (a:=⟨by',0,none⟩) (by show by' < by'+1;omega) (.slice AY' (s.length+1) cY')
 have hx:∀ k,ob AX' (s.length+1) cX'=some k->ob AX s.length cX=some k∨k=w1.heap.size+1:=fun k hk=>by
  rcases hat1 with e | e
  .exact .inl (e.symm.trans hk)
  .right;have:=hk.symm.trans e;rw [hs1] at this;simpa using this
 have hy:∀ k,ob AY' (s.length+1) cY'=some k->ob AY s.length cY=some k∨k=w4.heap.size+1:=fun k hk=>by
  rcases hat2 with e | e
  .exact .inl (e.symm.trans hk)
  .right;have:=hk.symm.trans e;rw [hs2] at this;simpa using this
 have hhs:hs.length=s.length:=by have:=h.row1.1;omega
 refine ⟨⟨?_,?_,?_,?_,?_,?_,?_,hlt,?_⟩,H5.mono hE⟩
 .-- the first box
  have q4:Boxed w4 bx 51 (.slice AX s.length cX):=by
   have g:Agr (fun k=>ob AX s.length cX=some k) w w4:=((Agr.of_belM hb1).trans (Agr.alloc _ w1 o1)).trans (Agr.grownV hgr1 fun k hk=>hk.symm);exact g.boxed h.box1 fun e=>by have:=(aD6 h.row1 e).1;omega
  have q5:=q4.set (.slice AX' (s.length+1) cX');have q6:Boxed w6 bx 51 (.slice AX' (s.length+1) cX'):=(Agr.grownV (E:=fun k=>ob AY s.length cY=some k) hgr2 fun k hk=>hk.symm).boxed (q5.alloc o2) fun e=>by have:=(aD6 h.row2 e).1;omega
  rw [hl];exact (Below.heap_setCell _ _ _ _ (by show bx≠by';omega)).trans q6
 .have g:Agr (fun k=>k=bx∨ob AX s.length cX=some k∨ob AY s.length cY=some k) w w6 :=
   (((((Agr.of_belM hb1).trans (Agr.alloc _ w1 o1)).trans (Agr.grownV hgr1 fun k hk => .inr (.inl hk.symm))).trans (Agr.setCell _ _ _ (.inl rfl))).trans (Agr.alloc _ _ o2)).trans (Agr.grownV hgr2 fun k hk => .inr (.inr hk.symm))
  have q6:=g.boxed h.box2 (fun e=>by
   rcases e with e | e | e
   .omega
   .have:=(aD6 h.row1 e).1;omega
   .have:=(aD6 h.row2 e).1;omega)
  rw [hl];exact q6.set _
 .rw [hl];exact R7
 .rw [hl,List.flatMap_append]
  simpa using Y7
 .intro k hk
  rw [hl] at hk
  rcases hk with e | e | e | e | e | e
  .exact .inl (h.in1 k (.inl e))
  .exact .inl (h.in1 k (.inr (.inl e)))
  .rcases hx k e with q | q
   .exact .inl (h.in1 k (.inr (.inr (.inl q))))
   .right
    have:=(aD6 R7 e).2;exact ⟨by omega,this⟩
  .rcases hy k e with q | q
   .exact .inl (h.in1 k (.inr (.inr (.inr (.inl q)))))
   .right
    have:=(aD6 Y7 e).2;exact ⟨by omega,this⟩
  .exact .inl (h.in1 k (.inr (.inr (.inr (.inr e)))))
  .right;exact ⟨by omega,by omega⟩
 .intro k hk
  rw [hl]
  rcases hk with e | e
  .have hk2:=h.dom k (h.in1 k (.inr (.inr (.inr (.inr e)))))
   obtain ⟨a1,a2,a3,a4⟩:=h.off k e;refine ⟨a1,a2,fun q=>?_,fun q=>?_⟩
   .rcases hx k q with q | q
    .exact a3 q
    .omega
   .rcases hy k q with q | q
    .exact a4 q
    .omega
  .refine ⟨by omega,by omega,fun q=>?_,fun q=>?_⟩
   .rcases hx k q with q | q
    .have:=(aD6 h.row1 q).2;omega
    .omega
   .rcases hy k q with q | q
    .have:=(aD6 h.row2 q).2;omega
    .omega
 .rintro k (e | e)
  .have:=h.dom k e;omega
  .exact e.2
 .intro u x hx'
  by_cases hu:u<s.length
  .rw [List.getElem?_append_left hu] at hx'
   obtain ⟨vu,q1,q2⟩:=h.rows u x hx';refine ⟨vu,by rw [List.getElem?_append_left (by omega)];exact q1,fun V hV hk=>q2 V (Nat.le_trans H5.size hV) fun k hc=>(hk k (.inl hc)).trans (H5.block k (h.dom k (h.in1 k (.inr (.inr (.inr (.inr hc)))))) fun e=>?_)⟩
   obtain ⟨a1,a2,a3,a4⟩:=h.off k hc
   rcases e with e | e | e | e
   .exact a1 e
   .exact a2 e
   .exact a3 e
   .exact a4 e
  .have hul:u=s.length:=by
    have:=(List.getElem?_eq_some_iff.1 hx').1;rw [hl] at this;omega
   subst hul;rw [List.getElem?_append_right (Nat.le_refl _)] at hx';obtain rfl:(v,t)=x:=by simpa using hx'
   refine ⟨v',by rw [List.getElem?_append_right (by omega),hhs];simp,fun V hV hk=>hv V ⟨Nat.le_trans G5.size hV,fun k ha' hk1=>(hk k (.inr ⟨ha',hk1⟩)).trans (G5.block k hk1 fun e=>by have:=hElt k e;omega)⟩⟩
end
theorem aTl:(prog.info? 30).map (fun i=>(i.zero,i.size,i.bytes))=some (some (.slice none 0 0),1,24):=by kernel_rfl
theorem aXn:(prog.info? 36).map (fun i=>(i.zero,i.size,i.bytes))=some (some (.agg #[.int .i64 0,.int .i64 0,.int .i64 0,.int .i64 0,.int .u32 0]),5,40):=by kernel_rfl
theorem aVm (a b c d:Int) (e:Int):∀ u∈(#[Value.int .i64 a,Value.int .i64 b,Value.int .i64 c,Value.int .i64 d,Value.int .u32 e]:Array Value).toList,u.oneCell'=true:=by simp [Value.oneCell']
theorem aUu (bx by':Nat) (M C:Nat->Prop) (s:List (Value × Trc)) (AX:Option Addr) (cX:Nat) (AY:Option Addr) (cY:Nat) (hs:List Value) (v:Value) (t:Trc) (E:Nat) (w:World) (h:WatchI bx by' M C s w AX cX AY cY hs) (hn:s.length<=300) (hC:aAr w v t.last) (hL:aBr t.last=true) :
  Calls prog 50 #[v,.int .u32 (E:Int),aN0 t.count,.pointer (some ⟨bx,0,none⟩),.pointer (some ⟨by',0,none⟩)] w fun e w' =>
   (∃ x,e = .returned x)/\∃ M' C' AX' cX' AY' cY' hs',WatchI bx by' M' C' (s++[(v,t)]) w' AX' cX' AY' cY' hs'/\Agr M w w'/\(∀ k,M k->M' k)/\∀ k,M' k->M k∨w.heap.size<=k:=by
 have HC:=aA0 (fun w' (k:Bel w w')=>hC.keep k);obtain ⟨A5,k5,rfl,_,_,_⟩:=hC;have HI:=aA0 h;have HL:=aA0 hL;have HB0:Hid (Blk (w.alloc (.cells (aC8 t.count) 36)) w.heap.size (aC8 t.count) 36):=Blk.new _ _ _;have HE:Hid (Bel w (w.alloc (.cells (aC8 t.count) 36))):=(Bel.refl w).alloc _;obtain ⟨i0,hi0,hz0,hz1,hz2⟩:=info_parts aTl;obtain ⟨j0,hj0,hy0,hy1,hy2⟩:=info_parts aXn;have hb1:=h.box1.lt;have hb2:=h.box2.lt;have hlt:=h.lt;have hcr:aI4 (.slice A5 t.last.length k5,t)=(aC8 t.count).toList:=rfl;have HCR:=aA0 hcr;clear h hL hcr;unfold aC8 at HB0 HE HCR;unfold aN0;go_enter func50,ntmps50
 go_wp2_with fail
 generalize w.alloc (.cells #[.int .i64 t.count.steps,.int .i64 t.count.moves,.int .i64 t.count.rounds,.int .i64 t.count.begun,.int .u32 (t.count.pending:Int)] 36)=W at *;have HIW:=aA0 (HI.out.bel HE.out);have c0:=HIW.out.box1.cell;have l0:=HIW.out.box1.lt;refine aA6.start (fun w'=>w'.cell? ⟨bx,0,none⟩=some (.slice AX s.length cX)/\bx<w'.heap.size) 5 (by kernel_rfl) ?_
 have hHeld:W.drew.cell? ⟨bx,0,none⟩=some (.slice AX s.length cX)/\bx<W.drew.heap.size:=⟨c0,l0⟩
 (refine aA6.t (v:=?_) 0 8 rfl rfl (by kernel_rfl) (fun _ _ _ h=>h) hHeld (Or.inl ⟨by rfl,?_⟩) ?_;rotate_left 1;focus (intro w' hSw;(try dsimp only at hSw);go_simp;(try with_reducible rfl);done))
 (refine aA6.t (v:=?_) 1 9 rfl rfl (by kernel_rfl) (fun _ _ _ h=>h) hHeld (Or.inl ⟨by rfl,?_⟩) ?_;rotate_left 1;focus (intro w' hSw;(try dsimp only at hSw);go_simp;(try with_reducible rfl);done))
 refine aA6.one (i:=2) (by kernel_rfl) rfl (fun K hK=>?_)
 go_simp
 go_at_call 51
 refine (aH5 _ t.last _ (HC.out _ HE.out.drew) HL.out).mono ?_
 rintro e w1 ⟨g,cap,hs',rfl,hO,hsn,hb⟩
 (try go_simp)
 have HO:=aA0 hO;have HSN:=aA0 hsn;have HB1:=aA0 (HE.out.drew.trans hb);have HI1:=aA0 (HI.out.bel HB1.out);have HB01:Hid (Blk w1 w.heap.size #[.int .i64 t.count.steps,.int .i64 t.count.moves,.int .i64 t.count.rounds,.int .i64 t.count.begun,.int .u32 (t.count.pending:Int)] 36):=HB0.out.keep ((Bel.refl W).drew.trans hb);have ha:Hid (w.heap.size<=W.drew.heap.size):=HE.out.size;clear hO hsn hb c0 l0;have c0:=HI1.out.box1.cell;have l0:=HI1.out.box1.lt;refine hK.out _ _ (fun _=>⟨c0,l0⟩) ?_
 clear hK K hHeld;have hHeld:w1.cell? ⟨bx,0,none⟩=some (.slice AX s.length cX)/\bx<w1.heap.size:=⟨c0,l0⟩
 (try simp only [Act.put,List.setIfInBounds_toArray,List.set_cons_zero,List.set_cons_succ])
 refine aA6.one (i:=3) (by kernel_rfl) rfl (fun K hK=>?_)
 go_simp
 refine hK.out _ _ (fun _=>?_) ?_
 .refine ⟨?_,?_⟩ <;> go_simp
 clear hK K hHeld
 (try simp only [Act.put,List.setIfInBounds_toArray,List.set_cons_zero,List.set_cons_succ])
 refine aA6.one (i:=4) (by kernel_rfl) rfl (fun K hK=>?_)
 have hbw:=HB1.out.size;refine aHi _ rfl (.tmp 8) (.tmp 11) 51 rfl (by'+1) 30 i0 (.slice none 0 0) 1 24 underlying51 hi0 hz0 hz1 hz2 rfl (by decide) AX s.length cX hs (by simp [Act.eval]) (HI1.out.row1.alloc _) w1.heap.size #[.slice (some ⟨g,0,none⟩) t.last.length cap] 30 (0,0) (by simp [Act.eval]) (aFb _ _) rfl (aWc _ _ _) (by unfold maxLen;omega) (by omega) (by simp;omega) ?_
 intro AX' cX' w4 hown1 hgr1 hat1
 have HAG:Hid (Agr (fun k=>k=bx∨ob AX s.length cX=some k) w w4):=((Agr.of_belM HB1.out).trans (Agr.alloc _ w1 _)).trans (Agr.grownV hgr1 fun k hk => .inr hk.symm);have HX4:Hid (Boxed w4 bx 51 (.slice AX s.length cX)):=Agr.boxed (E:=fun k=>ob AX s.length cX=some k) (((Agr.of_belM HB1.out).trans (Agr.alloc _ w1 _)).trans (Agr.grownV hgr1 fun k hk=>hk.symm)) HI.out.box1 fun e=>by have:=(aD6 HI.out.row1 e).1;omega
 have HG1:=aA0 hgr1;have HO1:=aA0 hown1;have HAT1:=aA0 hat1;obtain ⟨c4,f4,l4⟩:=aAw HX4.out;refine hK.out _ _ (fun _=>⟨c4,l4⟩) ?_
 clear hK K hown1 hgr1 hat1
 (try simp only [Act.put,List.setIfInBounds_toArray,List.set_cons_zero,List.set_cons_succ])
 (refine aA6.one (i:=5) (by kernel_rfl) rfl (fun K hK=>?_));go_simp;refine hK.out _ _ (fun h=>absurd rfl h) ?_;clear hK K;refine aA6.done (by kernel_rfl) ?_ _;(try simp only [Act.put,List.setIfInBounds_toArray,List.set_cons_zero,List.set_cons_succ])
 clear c4 f4 l4 c0 l0;have HA5:Hid (Agr (fun k=>k=bx∨ob AX s.length cX=some k) w (w4.setCell ⟨bx,0,none⟩ (.slice AX' (s.length+1) cX'))):=HAG.out.trans (Agr.setCell _ _ _ (.inl rfl))
 have HY5:Hid ((w4.setCell ⟨bx,0,none⟩ (.slice AX' (s.length+1) cX')).ownsRow (by'+1) 36 5 (.slice AY s.length cY) s.length (s.flatMap aI4)):=aCw HI.out.row2 HA5.out fun k hk e=>by
  rcases e with e | e
  .have:=(aD6 HI.out.row2 hk).1;omega
  .rcases aFt HI.out.row1 HI.out.row2 (by decide) with q | q
   .exact absurd (hk.symm.trans q) (by simp)
   .exact q (hk.trans e.symm)
 have HBY:Hid (Boxed (w4.setCell ⟨bx,0,none⟩ (.slice AX' (s.length+1) cX')) by' 52 (.slice AY s.length cY)):=HA5.out.boxed HI.out.box2 fun e=>by
  rcases e with e | e
  .omega
  .have:=(aD6 HI.out.row1 e).1;omega
 have HK5:Hid (Blk (w4.setCell ⟨bx,0,none⟩ (.slice AX' (s.length+1) cX')) w.heap.size #[.int .i64 t.count.steps,.int .i64 t.count.moves,.int .i64 t.count.rounds,.int .i64 t.count.begun,.int .u32 (t.count.pending:Int)] 36) :=
  Agr.blk (E:=fun k=>k=bx∨ob AX s.length cX=some k) (((Agr.alloc _ w1 _).trans (Agr.grownV HG1.out fun k hk => .inr hk.symm)).trans (Agr.setCell _ ⟨bx,0,none⟩ _ (.inl rfl))) HB01.out fun e=>by
   rcases e with e | e
   .omega
   .have:=(aD6 HI.out.row1 e).2;omega
 have hz5:w.heap.size<=(w4.setCell ⟨bx,0,none⟩ (.slice AX' (s.length+1) cX')).heap.size:=HA5.out.size
 have HN:Hid (∀ (w6:World) (AY':Option Addr) (cY':Nat) (o2:Obj),w6.ownsRow (by'+1) 36 5 (.slice AY' (s.length+1) cY') (s.length+1) (s.flatMap aI4++[.int .i64 t.count.steps,.int .i64 t.count.moves,.int .i64 t.count.rounds,.int .i64 t.count.begun,.int .u32 (t.count.pending:Int)]) ->
   ((w4.setCell ⟨bx,0,none⟩ (.slice AX' (s.length+1) cX')).alloc o2).grownBy w6 (Value.slice AY s.length cY).ownBlock->((Value.slice AY' (s.length+1) cY').ownBlock=(Value.slice AY s.length cY).ownBlock∨(Value.slice AY' (s.length+1) cY').ownBlock=some ((w4.setCell ⟨bx,0,none⟩ (.slice AX' (s.length+1) cX')).alloc o2).heap.size) ->
   ∃ M' C' AX' cX' AY'' cY'' hs',WatchI bx by' M' C' (s++[(.slice A5 t.last.length k5,t)]) (w6.setCell ⟨by',0,none⟩ (.slice AY' (s.length+1) cY')) AX' cX' AY'' cY'' hs'/\Agr M w (w6.setCell ⟨by',0,none⟩ (.slice AY' (s.length+1) cY'))/\(∀ k,M k->M' k)/\∀ k,M' k->M k∨w.heap.size<=k):=fun w6 AY' cY' o2 q1 q2 q3=>by
  obtain ⟨n1,n2⟩:=HI.out.next (t:=t) (v := .slice A5 t.last.length k5) HB1.out ha.out (fun V hV=>HO.out.newC HSN.out hV) HO1.out HG1.out HAT1.out q1 q2 q3;exact ⟨_,_,_,_,_,_,_,n1,n2,fun k hk => .inl hk,fun k hk=>hk.imp id fun e=>e.1⟩
 clear HA5 HAG HX4 HG1 HO1 HAT1 HB01 HB1 HI1 HIW HO HSN HCR ha;generalize w4.setCell ⟨bx,0,none⟩ (.slice AX' (s.length+1) cX')=W5 at *;obtain ⟨y0,y1,y2⟩:=aAw HBY.out;have k0:=HK5.out.cell 0 (v := .int .i64 t.count.steps) rfl;have k1:=HK5.out.cell 1 (v := .int .i64 t.count.moves) rfl;have k2:=HK5.out.cell 2 (v := .int .i64 t.count.rounds) rfl;have k3:=HK5.out.cell 3 (v := .int .i64 t.count.begun) rfl;have k4:=HK5.out.cell 4 (v := .int .u32 (t.count.pending:Int)) rfl;have kl:=HK5.out.lt
 go_wp2_with (at_builtin;go_must (refine aF6 _ rfl (.tmp 13) (.tmp 15) 52 rfl (by'+1) 36 j0 (.agg #[.int .i64 0,.int .i64 0,.int .i64 0,.int .i64 0,.int .u32 0]) 5 40 underlying52 hj0 hy0 hy1 hy2 rfl (by decide) AY s.length cY (s.flatMap aI4) rfl (HY5.out.alloc _) W5.heap.size #[.int .i64 t.count.steps,.int .i64 t.count.moves,.int .i64 t.count.rounds,.int .i64 t.count.begun,.int .u32 (t.count.pending:Int)] 36 (0,0) rfl (aFb _ _) rfl (aVm _ _ _ _ _) (by unfold maxLen;omega) (by omega) (by simp;omega) ?_);intro AY' cY' w6 hown2 hgr2 hat2;have HX6:Hid (Boxed w6 by' 52 (.slice AY s.length cY)):=(Agr.grownV (E:=fun k=>ob AY s.length cY=some k) hgr2 fun k hk=>hk.symm).boxed (HBY.out.alloc _) (fun e=>by have:=(aD6 HI.out.row2 e).1;omega);have HF:=aA0 (HN.out w6 AY' cY' _ hown2 hgr2 hat2);clear hown2 hgr2 hat2 y0 y1 y2;obtain ⟨y0,y1,y2⟩:=aAw HX6.out)
 go_end0
 exact ⟨⟨_,rfl⟩,HF.out⟩
theorem aO0 (bx by' N0:Nat) (p:Prg) (g:Graph) (hL:aAq p=true) :
  Seer prog N0 50 #[.pointer (some ⟨bx,0,none⟩),.pointer (some ⟨by',0,none⟩)] aN0 (fun t=>aAk p g t.last) (fun t=>OkT p g t) (fun M s w=>∃ C AX cX AY cY hs,WatchI bx by' M C s w AX cX AY cY hs) where
 enter:=fun a b d w=>by kernel_rfl
 dom:=fun M s w ⟨_,_,_,_,_,_,h⟩=>h.dom
 keep:=fun M s w W ⟨C,AX,cX,AY,cY,hs,h⟩ hz hk=>⟨C,AX,cX,AY,cY,hs,h.keep hz fun k hm=>hk k (.inl hm)⟩
 grow:=fun M M' s w ⟨C,AX,cX,AY,cY,hs,h⟩ hg hd=>⟨C,AX,cX,AY,cY,hs,h.grow hg hd⟩
 call:=fun M s w v t hn ⟨C,AX,cX,AY,cY,hs,h⟩ hC hok=>(aUu bx by' M C s AX cX AY cY hs v t _ w h hn hC (aCq hok.mem hL)).mono fun e w' ⟨h1,M',C',AX',cX',AY',cY',hs',h2,h3,h4,h5⟩=>⟨h1,M',⟨C',AX',cX',AY',cY',hs',h2⟩,h3,h4,h5⟩
variable {p:Prg} {g:Graph} {kind:Int}
theorem aH3 (k:Int):aDk (1+k % 4)=true:=by
 have h1:=Int.emod_nonneg k (show (4:Int)≠0 by decide)
 have h2:=Int.emod_lt_of_pos k (show (0:Int)<4 by decide)
 unfold aDk;simp
 omega
theorem aNn (k:Int) {n:Nat} (h:0<n):∃ q:Nat,k % (n:Int)=(q:Int)/\q<n:=by
 have h1:=Int.emod_nonneg k (show (n:Int)≠0 by omega)
 have h2:=Int.emod_lt_of_pos k (show (0:Int)<n by omega)
 obtain ⟨q,hq⟩:=Int.eq_ofNat_of_zero_le h1;exact ⟨q,hq,by omega⟩
theorem aKq:∀ {l:List Nat} {t u:Trc},OkT p g t->(∀ S∈l,S<4294967296)->aCh p g kind t l=some u ->
  ∀ i (hi:i<l.length),∃ E,u.enabled[t.chosen.length+i]?=some E/\aAn g kind E l[i]=true/\E<2 ^ g.ports.length
 | [],_,_,_,_,_,i,hi=>by simp at hi
 | S :: l,t,u,ht,hS,h,i,hi=>by
  have h0:=h;unfold aCh at h;split at h
  .rename_i h1
   cases i with
   | zero =>
    obtain ⟨_,X,_,_,h3,_⟩:=aK4 (u:=t) rfl h0;refine ⟨aAk p g t.last,?_,h1,aFa ht.mem⟩
    have hn:=ht.now;rw [List.getLast?_eq_getElem?,ht.len] at hn;rw [h3,List.getElem?_append_left (by rw [ht.len];omega)]
    simpa using hn
   | succ i =>
    obtain ⟨E,a1,a2,a3⟩:=aKq (ht.next (hS S List.mem_cons_self) h1) (fun x hx=>hS x (List.mem_cons_of_mem _ hx)) h i (by simpa using hi)
    refine ⟨E,?_,a2,a3⟩
    rw [<- a1]
    congr 1
    simp [aCk]
    omega
  .cases h
structure FollowP (p:Prg) (g:Graph) (kind:Int) (c:aA5) (ws:List Nat) (T:Trc):Prop where
 res:aIb p g kind (fun i E=>aAl g kind E (ws.getD i 0)) (fun _ E=>decide (E≠0)) ws.length 0 (aAg p g c)=some T
 vis:aNc p g kind (fun i E=>aAl g kind E (ws.getD i 0)) (fun _ E=>decide (E≠0)) ws.length 0 (aAg p g c)=aF4 p g kind (aAg p g c) ws
 play:aCh p g kind (aAg p g c) T.chosen=some T
 ok:OkT p g T
 len:T.chosen.length<=ws.length
 all:∀ S∈T.chosen,S<4294967296
 stop:T.chosen.length=ws.length∨aAk p g T.last=0
 wlen:(aF4 p g kind (aAg p g c) ws).length=T.chosen.length+1
 wlast:(aF4 p g kind (aAg p g c) ws).getLast?=some T
 wat:∀ k,k<=T.chosen.length->aCh p g kind (aAg p g c) (T.chosen.take k)=(aF4 p g kind (aAg p g c) ws)[k]?
theorem aHo {c:aA5} (hg:GOK g) (hk:aDk kind=true) (hm:aD5 p g c=0) (ws:List Nat):∃ T,FollowP p g kind c ws T:=by
 obtain ⟨r1,r2⟩:=aMr (p:=p) hg hk ws ws.length 0 (aAg p g c) (OkT.start hm) (by omega)
 rw [List.drop_zero] at r1 r2;obtain ⟨l,l1,l2,l3,l4,l5,l6⟩:=aMh (p:=p) hg hk ws _ (OkT.start hm);obtain ⟨l',m1,m2,m3,m4⟩:=aL0 (p:=p) hg hk ws _ (OkT.start hm);have e1:(aDm p g kind (aAg p g c) ws).chosen=l:=by rw [l1];rfl
 have e2:l'=l:=by
  have:(aAg p g c).chosen++l'=(aAg p g c).chosen++l:=by rw [<- m1,<- l1]
  exact List.append_cancel_left this
 subst e2;exact ⟨_,r1,r2,by rw [e1];exact l2,l5,by rw [e1];exact l3,by rw [e1];exact l6,by rw [e1];exact l4,by rw [e1];exact m2,m3,by rw [e1];exact m4⟩
theorem aYh {c:aA5} (l:List Nat):aIb p g kind (fun i _=>l.getD i 0) (fun _ _=>true) l.length 0 (aAg p g c)=aCh p g kind (aAg p g c) l:=by
 rw [aQl l l.length 0 _ (by omega),List.drop_zero]
theorem FollowP.lastE {c:aA5} {ws:List Nat} {T:Trc} (h:FollowP p g kind c ws T):T.enabled[T.chosen.length]?=some (aAk p g T.last):=by
 have hn:=h.ok.now;rw [List.getLast?_eq_getElem?,h.ok.len] at hn;simpa using hn
theorem FollowP.elen {c:aA5} {ws:List Nat} {T:Trc} (h:FollowP p g kind c ws T):T.enabled.length=T.chosen.length+1:=h.ok.len
theorem aC5 (v2:Value) (g:Graph) (kind:Int) (E:Nat) (w:World) (h2:aAm w v2 g) (hg:GOK g) (hG:aB2 g=true) (hk:aDk kind=true) (hE:E<2 ^ g.ports.length) :
  Calls prog 44 #[v2,.int .i64 kind,.int .u32 (E:Int)] w fun e w'=>e = .returned (.bool true)/\Bel w w':=by
 have HGV:=aA0 (fun w' (k:Bel w w')=>h2.keep k);obtain ⟨A3,k3,A4,k4,rfl,_,_,_,_,_,_⟩:=h2;have HGL:=aA0 hG;have hle:=hg.le;have HGT:Hid (aD4 g=true):=(aCr g).2 hg;have hE32:E<4294967296:=Nat.lt_of_lt_of_le hE (Nat.pow_le_pow_right (n:=2) (by decide) (show g.ports.length<=32 by omega))
 have HKB:=aA0 hk;obtain ⟨M,hM⟩:∃ M,aD8 g.ports.length (fun _=>true)=M:=⟨_,rfl⟩;have HM:=aA0 hM;have HD:=aFr (T:=M) hE32;have hwb:=aHk (E:=E) (show g.ports.length<=32 by omega) hE
 rw [hM] at hwb;rw [hwb] at HD;have hbn:=aDx E M;have hz:((aDy E M:Int)==0)=true:=by simp at HD ⊢;omega
 have hz':(aDy E M==0)=true:=by simp at HD ⊢;omega
 have HW:=Bel.refl (w.alloc (.cells #[.slice A3 g.ids.length k3,.slice A4 g.ports.length k4] 29));have q0:=aA7 HW 0 (v := .slice A3 g.ids.length k3) rfl;have q1:=aA7 HW 1 (v := .slice A4 g.ports.length k4) rfl;have q2:=aAu HW;clear hG hg hk hM hwb HD hE;go_enter func44,ntmps44
 go_wp2_with (first
  | (go_at_call 72;refine (aBo _ g _ (HGV.out _ (aA3 HW)) HGL.out).mono ?_;rintro e w' ⟨rfl,hb⟩;rw [HGT.out];replace HW:=HW.trans hb;clear hb q0 q1 q2;have q0:=aA7 HW 0 (v := .slice A3 g.ids.length k3) rfl;have q1:=aA7 HW 1 (v := .slice A4 g.ports.length k4) rfl;have q2:=aAu HW)
  | (go_at_call 48;refine (aJg _ _).mono ?_;rintro e w' ⟨rfl,rfl⟩;rw [HKB.out])
  | (go_at_call 73;refine (aK5 g.ports.length _ (by omega)).mono ?_;rintro e w' ⟨rfl,rfl⟩;rw [HM.out]))
 go_ret;exact ⟨rfl,aA3 HW⟩
theorem aN8 (v2:Value) (g:Graph) (kind:Int) (E S:Nat) (w:World) (h2:aAm w v2 g) (hg:GOK g) (hG:aB2 g=true) (hk:aDk kind=true) (hE:E<2 ^ g.ports.length) (hS:S<4294967296) :
  Calls prog 19 #[v2,.int .i64 kind,.int .u32 (E:Int),.int .u32 (S:Int)] w fun e w'=>e = .returned (.bool (aAn g kind E S))/\Bel w w':=by
 have HF:Hid (aAn g kind E S=if S=0 then false else if aB1 S E=false then false else if kind=1 then (S&&&(S-1))==0 else if kind=2 then aE9 g S else if kind=4 then S==E else true):=rfl
 have HGV:=aA0 (fun w' (k:Bel w w')=>h2.keep k);obtain ⟨A3,k3,A4,k4,rfl,_,_,_,_,_,_⟩:=h2;have HGL:=aA0 hG;have HGO:=aA0 hg;have hle:=hg.le;have hE32:E<4294967296:=Nat.lt_of_lt_of_le hE (Nat.pow_le_pow_right (n:=2) (by decide) (show g.ports.length<=32 by omega))
 have HKB:=aA0 hk;have HE:=aA0 hE;have hkk:1<=kind/\kind<=4:=by unfold aDk at hk;simpa using hk
 have hbn:=aDx S E;have HD:=aFr (T:=E) hS;have HIS:Hid (aB1 S E=true->aNk g S=aE9 g S):=fun h=>aU1 hg hS (aHl h (aHk (by omega) hE))
 have HW:=Bel.refl (w.alloc (.cells #[.slice A3 g.ids.length k3,.slice A4 g.ports.length k4] 29));have q0:=aA7 HW 0 (v := .slice A3 g.ids.length k3) rfl;have q1:=aA7 HW 1 (v := .slice A4 g.ports.length k4) rfl;have q2:=aAu HW;clear hG hg hk hE
 by_cases h0:S=0
 .subst h0
  rw [if_pos rfl] at HF;have z0:(((0:Nat):Int)==0)=true:=rfl;clear HD hbn;go_enter func19,ntmps19
  go_wp2_with (go_at_call 44;refine (aC5 _ g kind E _ (HGV.out _ (aA3 HW)) HGO.out HGL.out HKB.out HE.out).mono ?_;rintro e w' ⟨rfl,hb⟩;replace HW:=HW.trans hb;clear hb q0 q1 q2;have q0:=aA7 HW 0 (v := .slice A3 g.ids.length k3) rfl;have q1:=aA7 HW 1 (v := .slice A4 g.ports.length k4) rfl;have q2:=aAu HW)
  go_ret;exact ⟨aA2 (by rw [HF.out]),aA3 HW⟩
 .rw [if_neg h0] at HF
  have HCB:Hid ((S&&&(S-1)==0)=decide ((aAe S).length=1)):=aK8 hS h0;have z0:((S:Int)==0)=false:=by simp;omega
  have z0':(S==0)=false:=by simp;omega
  cases hw:aB1 S E with
  | false =>
   rw [hw,if_pos rfl] at HF;rw [hw] at HD;have hz:((aDy S E:Int) != 0)=true:=by simp at HD ⊢;omega
   have hz':(aDy S E != 0)=true:=by simp at HD ⊢;omega
   clear HD hw HIS h0;go_enter func19,ntmps19
   go_wp2_with (go_at_call 44;refine (aC5 _ g kind E _ (HGV.out _ (aA3 HW)) HGO.out HGL.out HKB.out HE.out).mono ?_;rintro e w' ⟨rfl,hb⟩;replace HW:=HW.trans hb;clear hb q0 q1 q2;have q0:=aA7 HW 0 (v := .slice A3 g.ids.length k3) rfl;have q1:=aA7 HW 1 (v := .slice A4 g.ports.length k4) rfl;have q2:=aAu HW)
   go_ret;exact ⟨aA2 (by rw [HF.out]),aA3 HW⟩
  | true =>
   rw [hw,if_neg (by decide)] at HF
   rw [hw] at HD;have hz:((aDy S E:Int) != 0)=false:=by simp at HD ⊢;omega
   have hz':(aDy S E != 0)=false:=by simp at HD ⊢;omega
   have HI:=aA0 (HIS.out hw);clear HD hw HIS h0
   by_cases c1:kind=1
   .subst c1
    rw [if_pos rfl,HCB.out] at HF;have hcc:(((aAe S).length:Int)==1)=decide ((aAe S).length=1):=by rw [Bool.eq_iff_iff];simp;omega
    obtain ⟨bb,hbb⟩:∃ bb,decide ((aAe S).length=1)=bb:=⟨_,rfl⟩;rw [hbb] at HF hcc;clear hbb;go_enter func19,ntmps19
    go_wp2_with (first
     | (go_at_call 44;refine (aC5 _ g 1 E _ (HGV.out _ (aA3 HW)) HGO.out HGL.out HKB.out HE.out).mono ?_;rintro e w' ⟨rfl,hb⟩;replace HW:=HW.trans hb;clear hb q0 q1 q2;have q0:=aA7 HW 0 (v := .slice A3 g.ids.length k3) rfl;have q1:=aA7 HW 1 (v := .slice A4 g.ports.length k4) rfl;have q2:=aAu HW)
     | (go_at_call 45;refine (aMm S _ hS).mono ?_;rintro e w' ⟨rfl,rfl⟩))
    go_ret;exact ⟨aA2 (by rw [HF.out]),aA3 HW⟩
   .rw [if_neg c1] at HF
    by_cases c2:kind=2
    .subst c2
     rw [if_pos rfl] at HF;clear c1;go_enter func19,ntmps19
     go_wp2_with (first
      | (go_at_call 44;refine (aC5 _ g 2 E _ (HGV.out _ (aA3 HW)) HGO.out HGL.out HKB.out HE.out).mono ?_;rintro e w' ⟨rfl,hb⟩;replace HW:=HW.trans hb;clear hb q0 q1 q2;have q0:=aA7 HW 0 (v := .slice A3 g.ids.length k3) rfl;have q1:=aA7 HW 1 (v := .slice A4 g.ports.length k4) rfl;have q2:=aAu HW)
      | (go_at_call 46;refine (aQg _ g S _ (HGV.out _ (aA3 HW)) HGO.out HGL.out hS).mono ?_;rintro e w' ⟨rfl,hb⟩;rw [HI.out];replace HW:=HW.trans hb;clear hb q0 q1 q2))
     go_ret;exact ⟨aA2 (by rw [HF.out]),aA3 HW⟩
    .rw [if_neg c2] at HF
     by_cases c4:kind=4
     .subst c4
      rw [if_pos rfl] at HF;have hcc:((S:Int)==(E:Int))=(S==E):=by rw [Bool.eq_iff_iff];simp;omega
      clear c1 c2;obtain ⟨bb,hbb⟩:∃ bb,(S==E)=bb:=⟨_,rfl⟩;rw [hbb] at HF hcc;go_enter func19,ntmps19
      go_wp2_with (go_at_call 44;refine (aC5 _ g 4 E _ (HGV.out _ (aA3 HW)) HGO.out HGL.out HKB.out HE.out).mono ?_;rintro e w' ⟨rfl,hb⟩;replace HW:=HW.trans hb;clear hb q0 q1 q2;have q0:=aA7 HW 0 (v := .slice A3 g.ids.length k3) rfl;have q1:=aA7 HW 1 (v := .slice A4 g.ports.length k4) rfl;have q2:=aAu HW)
      go_ret;exact ⟨aA2 (by rw [HF.out]),aA3 HW⟩
     .rw [if_neg c4] at HF
      obtain rfl:kind=3:=by omega
      clear c1 c2 c4;go_enter func19,ntmps19
      go_wp2_with (go_at_call 44;refine (aC5 _ g 3 E _ (HGV.out _ (aA3 HW)) HGO.out HGL.out HKB.out HE.out).mono ?_;rintro e w' ⟨rfl,hb⟩;replace HW:=HW.trans hb;clear hb q0 q1 q2;have q0:=aA7 HW 0 (v := .slice A3 g.ids.length k3) rfl;have q1:=aA7 HW 1 (v := .slice A4 g.ports.length k4) rfl;have q2:=aAu HW)
      go_ret;exact ⟨aA2 (by rw [HF.out]),aA3 HW⟩
theorem aJl (a b:Int) (w:World) (ha:aDk a=true) (hb:aDk b=true) :
  Calls prog 22 #[.int .i64 a,.int .i64 b] w fun e w'=>e = .returned (.bool (aKb a b))/\w=w':=by
 have HF:Hid (aKb a b=(a==b||b==3||(a==1&&b==2))):=rfl;have HA:=aA0 ha;have HB:=aA0 hb;clear ha hb;obtain ⟨x,hx⟩:∃ x,(a==b)=x:=⟨_,rfl⟩;obtain ⟨y,hy⟩:∃ y,(b==3)=y:=⟨_,rfl⟩;obtain ⟨z,hz⟩:∃ z,(a==1)=z:=⟨_,rfl⟩;obtain ⟨u,hu⟩:∃ u,(b==2)=u:=⟨_,rfl⟩;rw [hx,hy,hz,hu] at HF;cases x <;> cases y <;> cases z <;> cases u
 all_goals
  go_enter func22,ntmps22
  go_wp2_with (go_at_call 48;refine (aJg _ _).mono ?_;rintro e w' ⟨rfl,rfl⟩;first | rw [HA.out] | rw [HB.out])
  go_ret;exact ⟨aA2 (by rw [HF.out];rfl),rfl⟩
theorem aDt (A:Option Addr) (c:Nat) (l:List Nat) (A2:Option Addr) (c2:Nat) (w:World) (h1:aAb w A l.length l) (h2:aAb w A2 l.length l) (hl:l.length<=1000000) :
  Calls prog 21 #[.slice A l.length c,.slice A2 l.length c2] w fun e w'=>e = .returned (.bool true)/\Bel w w':=by
 have H1:=aA0 (fun w' (k:Bel w w')=>aAb.keep h1 k);clear h1;have H2:=aA0 (fun w' (k:Bel w w')=>aAb.keep h2 k);clear h2;have hb:(l.length != l.length)=false:=by simp
 go_enter func21,ntmps21
 go_wp2_with fail
 clear hb
 go_loopg [5] l.length (fun q x wr=>∃ j:Nat,j<=l.length/\q=l.length-j/\x = .int .i64 j/\Bel w wr)
 case atStart=>exact ⟨0,by omega,rfl,rfl,Bel.refl w⟩
 case round =>
  obtain ⟨j,hj,rfl,rfl,HB⟩:=hrel
  by_cases hlt:j<l.length
  .obtain ⟨b',o',rfl,hb',hl1⟩:=(H1.out _ HB).at_ j hlt
   obtain ⟨b2,o2,rfl,hb2,hl2⟩:=(H2.out _ HB).at_ j hlt;have hd0:decide (j<l.length)=true:=by simpa using hlt
   generalize l[j]=S at *;have hbb:(S != S)=false:=by simp
   have hbi:((S:Int) != (S:Int))=false:=by simp
   go_wp2_with fail
   go_quiet (fail)
   go_wp2_with fail
   go_roundg (l.length-(j+1))
   case rel=>exact ⟨j+1,by omega,rfl,by go_num,HB.drewN _⟩
   case measure=>omega
  .have hd0:decide (j<l.length)=false:=by simpa using hlt
   go_wp2_with fail
   go_ret;exact ⟨rfl,HB⟩
open Go.ChangeShapes Go.WideShapes Go.ChangeAt Go.WideMaps Go.WideElems Go.RowKit Go.Deep
abbrev jc0 (P:Program) (f:FuncId) (fn:Func) (s:ChangeSpec) (c:OpenClaim):Bool:=c.wf (OpenSpec.ofChange s)
abbrev jc1 (P:Program) (f:FuncId) (fn:Func) (s:ChangeSpec) (c:OpenClaim):Bool:=laidOutB P
abbrev jc2 (P:Program) (f:FuncId) (fn:Func) (s:ChangeSpec) (c:OpenClaim):Bool:=mapsRowed P
abbrev jc3 (P:Program) (f:FuncId) (fn:Func) (s:ChangeSpec) (c:OpenClaim):Bool:=fn.params.all (P.readableRec ·)
abbrev jc4 (P:Program) (f:FuncId) (fn:Func) (s:ChangeSpec) (c:OpenClaim):Bool:=namedTie P c.named s.vars
abbrev jc5 (P:Program) (f:FuncId) (fn:Func) (s:ChangeSpec) (c:OpenClaim):Bool:=(c.stops==[])
abbrev jc6 (P:Program) (f:FuncId) (fn:Func) (s:ChangeSpec) (c:OpenClaim):Bool:=(P.stops==[])
abbrev jc7 (P:Program) (f:FuncId) (fn:Func) (s:ChangeSpec) (c:OpenClaim):Bool:=(c.knobs==[])
abbrev jc8 (P:Program) (f:FuncId) (fn:Func) (s:ChangeSpec) (c:OpenClaim):Bool:=(P.stopKnobs==[])
abbrev jc9 (P:Program) (f:FuncId) (fn:Func) (s:ChangeSpec) (c:OpenClaim):Bool:=(c.inPlace==P.inPlace f)
abbrev jc10 (P:Program) (f:FuncId) (fn:Func) (s:ChangeSpec) (c:OpenClaim):Bool:=(c.unfollowed==P.unfollowed f)
abbrev jc11 (P:Program) (f:FuncId) (fn:Func) (s:ChangeSpec) (c:OpenClaim):Bool:=(c.recurses==P.recurses f)
abbrev jc12 (P:Program) (f:FuncId) (fn:Func) (s:ChangeSpec) (c:OpenClaim):Bool:=(c.named==P.varsNamed f)
abbrev jc13 (P:Program) (f:FuncId) (fn:Func) (s:ChangeSpec) (c:OpenClaim):Bool:=(c.maps==(fn.params.toList++s.plain.varTypes P).any (P.mapsRec ·))
abbrev jc14 (P:Program) (f:FuncId) (fn:Func) (s:ChangeSpec) (c:OpenClaim):Bool:=(c.ifaces==(fn.params.toList++s.plain.varTypes P).any (P.ifacesRec ·))
abbrev jc15 (P:Program) (f:FuncId) (fn:Func) (s:ChangeSpec) (c:OpenClaim):Bool:=(c.mapsOut==P.mapsAmong fn.resultTypes.toList)
abbrev jc16 (P:Program) (f:FuncId) (fn:Func) (s:ChangeSpec) (c:OpenClaim):Bool:=(c.loops==(fn.params.toList++s.plain.varTypes P).any (P.loopsFrom ·))
abbrev jc17 (P:Program) (f:FuncId) (fn:Func) (s:ChangeSpec) (c:OpenClaim):Bool:=(c.wideKeys==(fn.params.toList++s.plain.varTypes P++fn.resultTypes.toList).any (P.wideKeysFrom ·))
abbrev jc18 (P:Program) (f:FuncId) (fn:Func) (s:ChangeSpec) (c:OpenClaim):Bool:=s.vars.all (P.varReadable ·)
abbrev jc19 (P:Program) (f:FuncId) (fn:Func) (s:ChangeSpec) (c:OpenClaim):Bool:=fn.resultTypes.all (fun t=>P.readableRec t&&decide (t<P.types.size))
abbrev jc20 (P:Program) (f:FuncId) (fn:Func) (s:ChangeSpec) (c:OpenClaim):Bool:=(c.ifacesOut==fn.resultTypes.toList.any (P.ifacesRec ·))
abbrev jc21 (P:Program) (f:FuncId) (fn:Func) (s:ChangeSpec) (c:OpenClaim):Bool:=(c.loopsOut==fn.resultTypes.toList.any (P.loopsFrom ·))
abbrev bA8 (P:Program) (f:FuncId) (fn:Func) (s:ChangeSpec) (c:OpenClaim):Bool:=(c.plainKeys==P.plainKeys)
abbrev jc23 (P:Program) (f:FuncId) (fn:Func) (s:ChangeSpec) (c:OpenClaim):Bool:=c.shortTexts.isNone
abbrev bA9 (P:Program) (f:FuncId) (fn:Func) (s:ChangeSpec) (c:OpenClaim):Bool:=P.stopsHeard
abbrev bAa (P:Program) (f:FuncId) (fn:Func) (s:ChangeSpec) (c:OpenClaim):Bool:=P.mayEnter
abbrev bAb (P:Program) (f:FuncId) (fn:Func) (s:ChangeSpec) (c:OpenClaim):Bool:=(c.lifted==P.liftsFinal)
abbrev bAc (P:Program) (f:FuncId) (fn:Func) (s:ChangeSpec) (c:OpenClaim):Bool:=(P.make==some c.make)
abbrev jc28 (P:Program) (f:FuncId) (fn:Func) (s:ChangeSpec) (c:OpenClaim):Bool:=(c.kinds==(if c.domain.isEmpty then [] else fn.params.toList.map fun t=>match P.underlying t with | some (.int k)=>some k | _=>none))
abbrev jc29 (P:Program) (f:FuncId) (fn:Func) (s:ChangeSpec) (c:OpenClaim):Bool:=(c.pinned==c.pinnedBy)
abbrev jc30 (P:Program) (f:FuncId) (fn:Func) (s:ChangeSpec) (c:OpenClaim):Bool:=(c.veiled==(fn.params.toList++s.plain.varTypes P++fn.resultTypes.toList).any (P.veiledRec ·))
abbrev jc31 (P:Program) (f:FuncId) (fn:Func) (s:ChangeSpec) (c:OpenClaim):Bool:=c.veiledFits P fn.params.toList (fn.params.toList++s.plain.varTypes P++fn.resultTypes.toList)
theorem aB0 {a b:Bool} (h:a=true) (k:b=true):(a&&b)=true:=by rw [h,k];rfl
theorem jp1:jc1 prog 6 Tryz.f6 Rows.runAllowsWeakerDaemonsSpec Rows.runAllowsWeakerDaemonsRow=true:=by kernel_rfl
theorem jp2:jc2 prog 6 Tryz.f6 Rows.runAllowsWeakerDaemonsSpec Rows.runAllowsWeakerDaemonsRow=true:=by kernel_rfl
theorem jp6:jc6 prog 6 Tryz.f6 Rows.runAllowsWeakerDaemonsSpec Rows.runAllowsWeakerDaemonsRow=true:=by kernel_rfl
theorem jp8:jc8 prog 6 Tryz.f6 Rows.runAllowsWeakerDaemonsSpec Rows.runAllowsWeakerDaemonsRow=true:=by kernel_rfl
theorem jp22:bA8 prog 6 Tryz.f6 Rows.runAllowsWeakerDaemonsSpec Rows.runAllowsWeakerDaemonsRow=true:=by kernel_rfl
theorem jp24:bA9 prog 6 Tryz.f6 Rows.runAllowsWeakerDaemonsSpec Rows.runAllowsWeakerDaemonsRow=true:=by kernel_rfl
theorem jp25:bAa prog 6 Tryz.f6 Rows.runAllowsWeakerDaemonsSpec Rows.runAllowsWeakerDaemonsRow=true:=by kernel_rfl
theorem jp26:bAb prog 6 Tryz.f6 Rows.runAllowsWeakerDaemonsSpec Rows.runAllowsWeakerDaemonsRow=true:=by kernel_rfl
theorem jp27:bAc prog 6 Tryz.f6 Rows.runAllowsWeakerDaemonsSpec Rows.runAllowsWeakerDaemonsRow=true:=by kernel_rfl
theorem aY1:prog.mainIs=some (Rows.runAllowsWeakerDaemonsCard.stood.harness.1,Rows.runAllowsWeakerDaemonsCard.stood.harness.2.toList):=by kernel_rfl
theorem aY0:false=prog.looks []:=by kernel_rfl
open Go.ChangeShapes Go.WideShapes Go.ChangeAt Go.RowKit Go.Deep
theorem Tryz.cells_ints:prog.cellsOf 26=1:=by kernel_rfl
theorem Tryz.cells_terms:prog.cellsOf 90=1:=by kernel_rfl
theorem Tryz.cells_str:prog.cellsOf 9=1:=by kernel_rfl
theorem Tryz.cells_link:prog.cellsOf 102=2:=by kernel_rfl
theorem Tryz.cells_links:prog.cellsOf 96=1:=by kernel_rfl
theorem Tryz.cells_ports:prog.cellsOf 27=1:=by kernel_rfl
theorem Tryz.cells_var:prog.cellsOf 100=6:=by kernel_rfl
theorem Tryz.cells_vars:prog.cellsOf 22=1:=by kernel_rfl
theorem Tryz.cells_set:prog.cellsOf 95=2:=by kernel_rfl
theorem Tryz.cells_sets:prog.cellsOf 91=1:=by kernel_rfl
theorem Tryz.cells_rule:prog.cellsOf 93=3:=by kernel_rfl
theorem Tryz.cells_rules:prog.cellsOf 23=1:=by kernel_rfl
theorem Tryz.cells_prg:prog.cellsOf 25=3:=by kernel_rfl
theorem Tryz.cells_graph:prog.cellsOf 29=2:=by kernel_rfl
section
variable {H:Type} {enc:TypeId × Value->H} {w:World} {base:Nat} {spare:Nat->Bool} {held:Bool}
def aMx (enc:TypeId × Value->H) (w:World) (base:Nat) (spare:Nat->Bool) (held:Bool) {α:Type} (e:TypeId) (size:Nat) (E:World->Nat->Nat->α->Prop):Prop :=
 ∀ n cs y b o,(∀ j,j<size->w.cell? ⟨b,o+j,none⟩=cs[j]?)->cs.length=size->DataW.trod enc prog w base spare held n e cs=some y->∃ x,E w b o x/\True
theorem aEz {α:Type} [Inhabited α] {t e:TypeId} {size:Nat} {E:World->Nat->Nat->α->Prop} (ht:prog.underlying t=some (.slice e)) (hC:prog.cellsOf e=size) (hsz:0<size)
  (hE:aMx enc w base spare held e size E):aMx enc w base spare held t 1 (aHy size E):=by
 intro n cs y b o hat hl h
 obtain ⟨A,n',c,xs,hcs,hr,_,h1,h2⟩:=aIm (E:=E) (Good:=fun _=>True) ht hC hsz hE h;subst hcs;have hn:=hr.1;subst hn;exact ⟨xs,⟨A,c,by simpa using hat 0 (by omega),hr,h1,h2⟩,trivial⟩
theorem aKn:aMx enc w base spare held 3 1 aGp:=fun n cs y b o h1 h2 h3=>by
 obtain ⟨x,hx,_⟩:=aS7 underlying3 n cs y b o h1 h2 h3;exact ⟨x,hx,trivial⟩
theorem aJb:aMx enc w base spare held 98 2 aI2:=fun n cs y b o h1 h2 h3=>by
 obtain ⟨x,hx,_⟩:=aQb n cs y b o h1 h2 h3;exact ⟨x,hx,trivial⟩
theorem aK3 {α:Type} {f:TypeId} {k:Nat} {E:World->Nat->Nat->α->Prop} (hE:aMx enc w base spare held f 1 E) {m i n:Nat} {cs:List Value} {u:Value} {xs:List (DataW H × List MemPlace)} {b o:Nat}
  (h:DataW.trod enc prog w base spare held m f cs=xs[i]?) (hl:xs.length=n) (hi:i<n) (hcs:cs=[u]) (hat:w.cell? ⟨b,o+k,none⟩=some u):∃ x,E w b (o+k) x:=by
 obtain ⟨y,hy⟩:=aCy h hl hi hcs
 obtain ⟨x,hx,_⟩:=hE m [u] y b (o+k) (fun j hj=>by
  obtain rfl:j=0:=by omega
  exact hat) rfl hy
 exact ⟨x,hx⟩
theorem aFl {f:TypeId} (hf:prog.underlying f=some .string) {m i n:Nat} {cs:List Value} {u:Value} {xs:List (DataW H × List MemPlace)}
  (h:DataW.trod enc prog w base spare held m f cs=xs[i]?) (hl:xs.length=n) (hi:i<n) (hcs:cs=[u]):∃ s,u = .string s:=by
 obtain ⟨y,hy⟩:=aCy h hl hi hcs;obtain ⟨s,hc,_,_⟩:=DataW.trod_string hf hy;exact ⟨s,by simpa using hc⟩
theorem aBn {m i n:Nat} {cs:List Value} {u:Value} {xs:List (DataW H × List MemPlace)}
  (h:DataW.trod enc prog w base spare held m 3 cs=xs[i]?) (hl:xs.length=n) (hi:i<n) (hcs:cs=[u]):∃ x,u = .int .i64 x:=by
 obtain ⟨y,hy⟩:=aCy h hl hi hcs;obtain ⟨x,hx,_,_⟩:=DataW.trod_int underlying3 hy;exact ⟨x,by simpa using hx⟩
theorem aQ8:aMx enc w base spare held 102 2 aLl:=by
 intro n cs y b o hat hl h
 obtain ⟨xs,m,_,_,_,hxl,hf⟩:=DataW.trod_struct underlying102 h
 match cs,hl with
 | [u,v],_ =>
  obtain ⟨x0,rfl⟩:=aBn (u:=u) (hf 0 _ rfl) hxl (by decide) (by simp [Tryz.cells_int])
  obtain ⟨x1,rfl⟩:=aBn (u:=v) (hf 1 _ rfl) hxl (by decide) (by simp [Tryz.cells_int])
  exact ⟨⟨x0,x1⟩,⟨by simpa using hat 0 (by omega),by simpa using hat 1 (by omega)⟩,trivial⟩
theorem aS9:aMx enc w base spare held 100 6 aTf:=by
 intro n cs y b o hat hl h
 obtain ⟨xs,m,_,_,_,hxl,hf⟩:=DataW.trod_struct underlying100 h
 match cs,hl with
 | [u0,u1,u2,u3,u4,u5],_ =>
  obtain ⟨s,rfl⟩:=aFl underlying9 (u:=u0) (hf 0 _ rfl) hxl (by decide) (by simp [Tryz.cells_str])
  obtain ⟨x1,rfl⟩:=aBn (u:=u1) (hf 1 _ rfl) hxl (by decide) (by simp [Tryz.cells_int])
  obtain ⟨x2,rfl⟩:=aBn (u:=u2) (hf 2 _ rfl) hxl (by decide) (by simp [Tryz.cells_int])
  obtain ⟨x3,rfl⟩:=aBn (u:=u3) (hf 3 _ rfl) hxl (by decide) (by simp [Tryz.cells_int])
  obtain ⟨x4,rfl⟩:=aBn (u:=u4) (hf 4 _ rfl) hxl (by decide) (by simp [Tryz.cells_int])
  obtain ⟨x5,rfl⟩:=aBn (u:=u5) (hf 5 _ rfl) hxl (by decide) (by simp [Tryz.cells_int])
  exact ⟨⟨s,x1,x2,x3,x4,x5⟩,⟨by simpa using hat 0 (by omega),by simpa using hat 1 (by omega),by simpa using hat 2 (by omega),by simpa using hat 3 (by omega),by simpa using hat 4 (by omega),by simpa using hat 5 (by omega)⟩,trivial⟩
theorem aS8:aMx enc w base spare held 95 2 aR5:=by
 intro n cs y b o hat hl h
 obtain ⟨xs,m,_,_,_,hxl,hf⟩:=DataW.trod_struct underlying95 h
 match cs,hl with
 | [u0,u1],_ =>
  obtain ⟨x0,rfl⟩:=aBn (u:=u0) (hf 0 _ rfl) hxl (by decide) (by simp [Tryz.cells_int])
  obtain ⟨x1,h1⟩:=aK3 (k:=1) (u:=u1) (b:=b) (o:=o) (aEz underlying90 Tryz.cells_term (by decide) aJb) (hf 1 _ rfl) hxl (by decide) (by simp [Tryz.cells_terms]) (by simpa using hat 1 (by omega))
  exact ⟨⟨x0,x1⟩,⟨by simpa using hat 0 (by omega),h1⟩,trivial⟩
theorem aQa:aMx enc w base spare held 93 3 aP8:=by
 intro n cs y b o hat hl h
 obtain ⟨xs,m,_,_,_,hxl,hf⟩:=DataW.trod_struct underlying93 h
 match cs,hl with
 | [u0,u1,u2],_ =>
  obtain ⟨s,rfl⟩:=aFl underlying9 (u:=u0) (hf 0 _ rfl) hxl (by decide) (by simp [Tryz.cells_str])
  obtain ⟨x1,h1⟩:=aK3 (k:=1) (u:=u1) (b:=b) (o:=o) (aEz underlying90 Tryz.cells_term (by decide) aJb) (hf 1 _ rfl) hxl (by decide) (by simp [Tryz.cells_terms]) (by simpa using hat 1 (by omega))
  obtain ⟨x2,h2⟩:=aK3 (k:=2) (u:=u2) (b:=b) (o:=o) (aEz underlying91 Tryz.cells_set (by decide) aS8) (hf 2 _ rfl) hxl (by decide) (by simp [Tryz.cells_sets]) (by simpa using hat 2 (by omega))
  exact ⟨⟨s,x1,x2⟩,⟨by simpa using hat 0 (by omega),h1,h2⟩,trivial⟩
theorem aDs {α:Type} [Inhabited α] {t e:TypeId} {size:Nat} {E:World->Nat->Nat->α->Prop} (ht:prog.underlying t=some (.slice e)) (hC:prog.cellsOf e=size) (hsz:0<size)
  (hE:aMx enc w base spare held e size E) {fuel:Nat} {cs:List Value} {y:DataW H × List MemPlace} (h:DataW.trod enc prog w base spare held fuel t cs=some y) :
  ∃ (A:Option Addr) (c:Nat) (xs:List α),cs=[.slice A xs.length c]/\aAc size E w A xs.length xs/\xs.length<=c/\c<=maxLen:=by
 obtain ⟨A,n',c,xs,hcs,hr,_,h1,h2⟩:=aIm (E:=E) (Good:=fun _=>True) ht hC hsz hE h;have hn:=hr.1;subst hn;exact ⟨A,c,xs,hcs,hr,h1,h2⟩
theorem aHr {r:Reach} {b0:Nat} {v:Value} {d:DataW H} {p:List MemPlace} (h:DataW.Trod enc prog w base spare held 30 v d p) (hv:Value.okWide prog w r b0 30 v):∃ c:aA5,aAr w v c:=by
 obtain ⟨a,l,c',rfl⟩:=okWide_slice underlying30 hv;obtain ⟨fuel,h⟩:=h;obtain ⟨A,c,xs,hcs,hr,h1,h2⟩:=aDs underlying30 Tryz.cells_ints (by decide) (aEz underlying26 Tryz.cells_int (by decide) aKn) h
 exact ⟨xs,A,c,by simpa [Value.cells] using hcs,hr,h1,h2⟩
theorem aG8 {r:Reach} {b0:Nat} {v:Value} {d:DataW H} {p:List MemPlace} (h:DataW.Trod enc prog w base spare held 29 v d p) (hv:Value.okWide prog w r b0 29 v):∃ g:Graph,aAm w v g:=by
 obtain ⟨cs,rfl,hsz⟩:=okWide_struct underlying29 hv;obtain ⟨l⟩:=cs;rw [Tryz.cells_graph] at hsz
 match l,hsz with
 | [u,v],_ =>
  obtain ⟨fuel,hf⟩:=h;obtain ⟨xs,m,_,_,_,hxl,hf⟩:=DataW.trod_struct underlying29 hf;obtain ⟨y0,h0⟩:=aCy (us:=[u]) (hf 0 _ rfl) hxl (by decide) (by simp [Tryz.cells_ints,Value.cells])
  obtain ⟨y1,h1⟩:=aCy (us:=[v]) (hf 1 _ rfl) hxl (by decide) (by simp [Tryz.cells_ints,Tryz.cells_ports,Value.cells])
  obtain ⟨A,c,ids,e0,a1,a2,a3⟩:=aDs underlying26 Tryz.cells_int (by decide) aKn h0
  obtain ⟨A2,c2,ports,e1,b1,b2,b3⟩:=aDs underlying27 Tryz.cells_links (by decide) (aEz underlying96 Tryz.cells_link (by decide) aQ8) h1
  obtain rfl:u=_:=by simpa using e0
  obtain rfl:v=_:=by simpa using e1
  exact ⟨⟨ids,ports⟩,A,c,A2,c2,rfl,a1,a2,a3,b1,b2,b3⟩
theorem aJa {r:Reach} {b0:Nat} {v:Value} {d:DataW H} {p:List MemPlace} (h:DataW.Trod enc prog w base spare held 25 v d p) (hv:Value.okWide prog w r b0 25 v):∃ q:Prg,aEo w v q:=by
 obtain ⟨cs,rfl,hsz⟩:=okWide_struct underlying25 hv;obtain ⟨l⟩:=cs;rw [Tryz.cells_prg] at hsz
 match l,hsz with
 | [s,u,v],_ =>
  obtain ⟨fuel,hf⟩:=h;obtain ⟨xs,m,_,_,_,hxl,hf⟩:=DataW.trod_struct underlying25 hf;obtain ⟨nm,rfl⟩:=aFl underlying9 (u:=s) (hf 0 _ rfl) hxl (by decide) (by simp [Tryz.cells_str,Value.cells])
  obtain ⟨y0,h0⟩:=aCy (us:=[u]) (hf 1 _ rfl) hxl (by decide) (by simp [Tryz.cells_str,Tryz.cells_vars,Value.cells])
  obtain ⟨y1,h1⟩:=aCy (us:=[v]) (hf 2 _ rfl) hxl (by decide) (by simp [Tryz.cells_str,Tryz.cells_vars,Tryz.cells_rules,Value.cells])
  obtain ⟨A,c,vars,e0,a1,a2,a3⟩:=aDs underlying22 Tryz.cells_var (by decide) aS9 h0
  obtain ⟨A2,c2,rules,e1,b1,b2,b3⟩:=aDs underlying23 Tryz.cells_rule (by decide) aQa h1
  obtain rfl:u=_:=by simpa using e0
  obtain rfl:v=_:=by simpa using e1
  exact ⟨⟨nm,vars,rules⟩,A,c,A2,c2,rfl,a1,a2,a3,b1,b2,b3⟩
end
theorem Tryz.cells_u32:prog.cellsOf 34=1:=by kernel_rfl
section
variable {H:Type} {enc:TypeId × Value->H} {w:World} {base:Nat} {spare:Nat->Bool} {held:Bool}
theorem aQ9:∀ n cs y b o,(∀ j,j<1->w.cell? ⟨b,o+j,none⟩=cs[j]?)->cs.length=1->DataW.trod enc prog w base spare held n 34 cs=some y->∃ x,aGg w b o x/\x<4294967296:=by
 intro n cs y b o hat hl h
 obtain ⟨x,rfl,_,hwf⟩:=DataW.trod_int underlying34 h;obtain ⟨S,rfl,hS⟩:=aX2 hwf;refine ⟨S,?_,hS⟩
 have:=hat 0 (by omega)
 simpa [aGg] using this
end
section
variable {H:Type} {enc:TypeId × Value->H} {w:World} {base:Nat} {spare:Nat->Bool} {held:Bool}
theorem aHs {r:Reach} {b0:Nat} {v:Value} {d:DataW H} {p:List MemPlace} (h:DataW.Trod enc prog w base spare held 31 v d p) (hv:Value.okWide prog w r b0 31 v) :
  ∃ A c,∃ l:List Nat,v = .slice A l.length c/\aAb w A l.length l/\(∀ S∈l,S<4294967296)/\l.length<=c/\c<=maxLen:=by
 obtain ⟨a,l,c',rfl⟩:=okWide_slice underlying31 hv;obtain ⟨fuel,h⟩:=h;obtain ⟨A,n,c,xs,hcs,hr,hg,h1,h2⟩:=aIm (E:=aGg) (Good:=fun x=>x<4294967296) underlying31 Tryz.cells_u32 (by decide) aQ9 h
 have hn:=hr.1;subst hn;exact ⟨A,c,xs,by simpa [Value.cells] using hcs,hr,hg,h1,h2⟩
end
end Go.Proofs.YtdcjnhoabbdanaaGreatDoor

