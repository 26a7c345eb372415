/- Merged. -/
import Derived.Test.YtmoebklkkjbigaaGreatDoorZ32
import Derived.BigQuiet
set_option linter.unusedSimpArgs false
set_option linter.unnecessarySimpa false
set_option linter.unusedVariables false
set_option maxRecDepth 100000
set_option maxHeartbeats 4000000
open Go.Proofs.Tryz

namespace Go.Proofs.YtmoebklkkjbigaaGreatDoor
open Go.RowKit
theorem aJr:(prog.info? 3).map (fun i=>(i.zero,i.size,i.bytes))=some (some (.int .i64 0),1,8):=by kernel_rfl
theorem bHy:(prog.info? 60).map (fun i=>(i.zero,i.size,i.bytes))=some (some (.slice none 0 0),1,24):=by kernel_rfl
def idL (n k:Nat):List Value:=(List.range n).map fun j:Nat => .int .i64 (if j<k then (j:Int) else 0)
theorem bLp (n:Nat):idL n 0=List.replicate n (.int .i64 0):=by
 apply List.ext_getElem?;intro j
 simp only [idL,List.getElem?_map,List.getElem?_replicate]
 by_cases h:j<n <;> simp [h]
theorem aUn (n:Nat):idL n n=(List.range n).map fun j:Nat => .int .i64 (j:Int):=by
 apply List.map_congr_left
 intro j hj
 rw [if_pos (List.mem_range.1 hj)]
theorem bPh {n k:Nat} (h:k<n):(idL n k)[k]?=some (.int .i64 0):=by simp [idL,h]
theorem bO2 (n k:Nat) (h:k<n):(idL n k).set k (.int .i64 (k:Int))=idL n (k+1):=by
 apply List.ext_getElem?;intro j
 by_cases hj:k=j
 .subst hj
  rw [List.getElem?_set_self (by simp [idL];exact h)]
  simp [idL,h]
 .rw [List.getElem?_set_ne hj]
  simp only [idL,List.getElem?_map]
  by_cases h2:j<n
  .simp [h2,show (j<k+1)↔j<k by omega]
  .simp [h2]
theorem aGo {w x:World} {n gA gP gG:Nat} (HB:Bel (w.alloc (.cells #[.slice none 0 0,.slice none 0 0] 25)) x) (HG:Blk x gG #[.slice none 0 0,.slice none 0 0] 25) (HA:x.ownsRow (w.heap.size+1) 3 1 (.slice (some ⟨gA,0,none⟩) n n) n (List.replicate n (.int .i64 0))) (HP:x.ownsRow (w.heap.size+1) 60 1 (.slice (some ⟨gP,0,none⟩) n n) n (List.replicate n (.slice none 0 0))) (hg:w.heap.size<gG) :
  ∃ (gA' gP' gG':Nat),Value.pointer (some ⟨gG,0,none⟩) = .pointer (some ⟨gG',0,none⟩)/\w.heap.size<gG'/\Hid (Blk ((x.setCell ⟨gG,0,none⟩ (.slice (some ⟨gA,0,none⟩) n n)).setCell ⟨gG,1,none⟩ (.slice (some ⟨gP,0,none⟩) n n)) gG' #[.slice (some ⟨gA',0,none⟩) n n,.slice (some ⟨gP',0,none⟩) n n] 25)/\Hid (((x.setCell ⟨gG,0,none⟩ (.slice (some ⟨gA,0,none⟩) n n)).setCell ⟨gG,1,none⟩ (.slice (some ⟨gP,0,none⟩) n n)).ownsRow (w.heap.size+1) 3 1 (.slice (some ⟨gA',0,none⟩) n n) n (List.replicate n (.int .i64 0)))/\Hid (((x.setCell ⟨gG,0,none⟩ (.slice (some ⟨gA,0,none⟩) n n)).setCell ⟨gG,1,none⟩ (.slice (some ⟨gP,0,none⟩) n n)).ownsRow (w.heap.size+1) 60 1 (.slice (some ⟨gP',0,none⟩) n n) n (List.replicate n (.slice none 0 0)))/\Bel (w.alloc (.cells #[.slice none 0 0,.slice none 0 0] 25)) ((x.setCell ⟨gG,0,none⟩ (.slice (some ⟨gA,0,none⟩) n n)).setCell ⟨gG,1,none⟩ (.slice (some ⟨gP,0,none⟩) n n)):=by
 have h1:=HG.set 0 (.slice (some ⟨gA,0,none⟩) n n);exact ⟨gA,gP,gG,rfl,hg,h1.set 1 (.slice (some ⟨gP,0,none⟩) n n),aDg (aDg HA HG (by decide) 0 _) h1 (by decide) 1 _,aDg (aDg HP HG (by decide) 0 _) h1 (by decide) 1 _,(HB.setCell (by simp only [World.size_alloc];omega) _).setCell (by simp only [World.size_alloc];omega) _⟩
theorem bHm (n:Nat) (hn:n<=24) (w:World) :
  Calls prog 40 #[.int .i64 (n:Int)] w fun e w'=>∃ gA gP,e = .returned (.agg #[.slice (some ⟨gA,0,none⟩) n n,.slice (some ⟨gP,0,none⟩) n n])/\w'.ownsRow (w.heap.size+1) 3 1 (.slice (some ⟨gA,0,none⟩) n n) n ((List.range n).map fun k:Nat => .int .i64 (k:Int))/\w'.ownsRow (w.heap.size+1) 60 1 (.slice (some ⟨gP,0,none⟩) n n) n (List.replicate n (.slice none 0 0))/\Bel w w':=by
 obtain ⟨i0,hi0,hi1,hi2,hi3⟩:=aBy aJr;obtain ⟨j0,hj0,hj1,hj2,hj3⟩:=aBy bHy;go_enter func40,ntmps40
 go_wp2_with fail
 go_cut [3] (fun pv wc=>∃ (gA gP gG:Nat),pv = .pointer (some ⟨gG,0,none⟩)/\w.heap.size<gG/\Hid (Blk wc gG #[.slice (some ⟨gA,0,none⟩) n n,.slice (some ⟨gP,0,none⟩) n n] 25)/\Hid (wc.ownsRow (w.heap.size+1) 3 1 (.slice (some ⟨gA,0,none⟩) n n) n (List.replicate n (.int .i64 0)))/\Hid (wc.ownsRow (w.heap.size+1) 60 1 (.slice (some ⟨gP,0,none⟩) n n) n (List.replicate n (.slice none 0 0)))/\Bel (w.alloc (.cells #[.slice none 0 0,.slice none 0 0] 25)) wc)
 case first =>
  refine aA6.start (fun _=>True) 6 (by kernel_rfl) ?_
  have HB:=(Bel.refl (w.alloc (.cells #[.slice none 0 0,.slice none 0 0] 25))).drew;generalize (w.alloc (.cells #[.slice none 0 0,.slice none 0 0] 25)).drew=X9 at *;have hHeld:True:=trivial
  (refine aA6.t (v:=?_) 0 5 rfl rfl (by kernel_rfl) (fun _ _ _ h=>h) hHeld (Or.inl ⟨by rfl,?_⟩) ?_;rotate_left 1;focus (intro w' hSw;(try dsimp only at hSw);go_simp;(try with_reducible rfl);done))
  (refine aA6.t (v:=?_) 2 7 rfl rfl (by kernel_rfl) (fun _ _ _ h=>h) hHeld (Or.inl ⟨by rfl,?_⟩) ?_;rotate_left 1;focus (intro w' hSw;(try dsimp only at hSw);go_simp;(try with_reducible rfl);done))
  clear hHeld
  (try simp only [Act.put,List.setIfInBounds_toArray,List.set_cons_zero,List.set_cons_succ])
  refine aA6.three (i:=1) (j:=3) (k:=5) (by kernel_rfl) rfl rfl rfl (fun K hK=>?_) (fun K hK=>?_) (fun K hK=>?_)
  .refine aEi _ rfl 22 (.tmp 5) (.tmp 5) rfl (w.heap.size+1) 3 i0 (.int .i64 0) 1 underlying22 hi0 hi1 hi2 .i64 .i64 n (by simp [Act.eval]) (by simp [Act.eval]) (by rw [hi3];omega) (by unfold maxLen;omega) (by have:=HB.size;simp only [World.size_alloc] at this;omega) ?_
   intro gA X0 hown hb
   rw [aB5 _ rfl] at hown;have HA:=aA0 hown;replace HB:=HB.trans hb;clear hown hb;refine hK.out _ _ (fun _=>trivial) ?_
   clear hK K
   (try simp only [Act.put,List.setIfInBounds_toArray,List.set_cons_zero,List.set_cons_succ])
   refine aA6.two (i:=3) (j:=5) (by kernel_rfl) rfl rfl (fun K hK=>?_) (fun K hK=>?_)
   .refine aEi _ rfl 23 (.tmp 7) (.tmp 7) rfl (w.heap.size+1) 60 j0 (.slice none 0 0) 1 underlying23 hj0 hj1 hj2 .i64 .i64 n (by simp [Act.eval]) (by simp [Act.eval]) (by rw [hj3];omega) (by unfold maxLen;omega) (by have:=HB.size;simp only [World.size_alloc] at this;omega) ?_
    intro gP X1 hown hb
    rw [aB5 _ rfl] at hown;replace HA:=aA0 (hb.owns HA.out);have HP:=aA0 hown;replace HB:=HB.trans hb;clear hown hb;refine hK.out _ _ (fun _=>trivial) ?_
    clear hK K
    (try simp only [Act.put,List.setIfInBounds_toArray,List.set_cons_zero,List.set_cons_succ])
    have hHeld:True:=trivial
    (refine aA6.t (v:=?_) 4 9 rfl rfl (by kernel_rfl) (fun _ _ _ h=>h) hHeld (Or.inl ⟨by rfl,?_⟩) ?_;rotate_left 1;focus (intro w' hSw;(try dsimp only at hSw);go_simp;(try with_reducible rfl);done))
    clear hHeld
    (try simp only [Act.put,List.setIfInBounds_toArray,List.set_cons_zero,List.set_cons_succ])
    refine aA6.one (i:=5) (by kernel_rfl) rfl (fun K hK=>?_)
    (try go_simp)
    refine hK.out _ _ (fun _=>trivial) ?_
    clear hK K
    (try simp only [Act.put,List.setIfInBounds_toArray,List.set_cons_zero,List.set_cons_succ])
    have hb:=(Bel.refl X1).alloc (.cells #[.slice none 0 0,.slice none 0 0] 25);replace HA:=aA0 (hb.owns HA.out);replace HP:=aA0 (hb.owns HP.out);have HG:=aA0 (Blk.new X1 #[.slice none 0 0,.slice none 0 0] 25);have hgs:w.heap.size<X1.heap.size:=by have:=HB.size;simp only [World.size_alloc] at this;omega
    replace HB:=HB.trans hb;clear hb;generalize hgE:X1.heap.size=gG at *;generalize X1.alloc (.cells #[.slice none 0 0,.slice none 0 0] 25)=X2 at *;clear hgE;have y0:=HG.out.cell 0 (v := .slice none 0 0) rfl;have y1:=HG.out.cell 1 (v := .slice none 0 0) rfl;have f0:=HG.out.frozen 0;have f1:=HG.out.frozen 1;have gl:=HG.out.lt;refine aA6.one (i:=6) (by kernel_rfl) rfl (fun K hK=>?_)
    go_simp
    refine hK.out _ _ (fun h=>absurd rfl h) ?_
    clear hK K;refine aA6.done (by kernel_rfl) ?_ _
    go_wp2_with fail
    go_meet
    exact aGo HB HG.out HA.out HP.out hgs
   .
    (try go_simp)
    refine hK.out _ _ (fun _=>trivial) ?_
    clear hK K
    (try simp only [Act.put,List.setIfInBounds_toArray,List.set_cons_zero,List.set_cons_succ])
    have hb:=(Bel.refl X0).alloc (.cells #[.slice none 0 0,.slice none 0 0] 25);replace HA:=aA0 (hb.owns HA.out);have HG:=aA0 (Blk.new X0 #[.slice none 0 0,.slice none 0 0] 25);have hgs:w.heap.size<X0.heap.size:=by have:=HB.size;simp only [World.size_alloc] at this;omega
    replace HB:=HB.trans hb;clear hb;generalize hgE:X0.heap.size=gG at *;generalize X0.alloc (.cells #[.slice none 0 0,.slice none 0 0] 25)=X1 at *;clear hgE;refine aA6.one (i:=3) (by kernel_rfl) rfl (fun K hK=>?_)
    refine aEi _ rfl 23 (.tmp 7) (.tmp 7) rfl (w.heap.size+1) 60 j0 (.slice none 0 0) 1 underlying23 hj0 hj1 hj2 .i64 .i64 n (by simp [Act.eval]) (by simp [Act.eval]) (by rw [hj3];omega) (by unfold maxLen;omega) (by have:=HB.size;simp only [World.size_alloc] at this;omega) ?_
    intro gP X2 hown hb
    rw [aB5 _ rfl] at hown;replace HA:=aA0 (hb.owns HA.out);replace HG:=aA0 (HG.out.keep hb);have HP:=aA0 hown;replace HB:=HB.trans hb;clear hown hb;refine hK.out _ _ (fun _=>trivial) ?_
    clear hK K
    (try simp only [Act.put,List.setIfInBounds_toArray,List.set_cons_zero,List.set_cons_succ])
    have hHeld:True:=trivial
    (refine aA6.t (v:=?_) 4 9 rfl rfl (by kernel_rfl) (fun _ _ _ h=>h) hHeld (Or.inl ⟨by rfl,?_⟩) ?_;rotate_left 1;focus (intro w' hSw;(try dsimp only at hSw);go_simp;(try with_reducible rfl);done))
    clear hHeld
    (try simp only [Act.put,List.setIfInBounds_toArray,List.set_cons_zero,List.set_cons_succ])
    have y0:=HG.out.cell 0 (v := .slice none 0 0) rfl;have y1:=HG.out.cell 1 (v := .slice none 0 0) rfl;have f0:=HG.out.frozen 0;have f1:=HG.out.frozen 1;have gl:=HG.out.lt;refine aA6.one (i:=6) (by kernel_rfl) rfl (fun K hK=>?_)
    go_simp
    refine hK.out _ _ (fun h=>absurd rfl h) ?_
    clear hK K;refine aA6.done (by kernel_rfl) ?_ _
    go_wp2_with fail
    go_meet
    exact aGo HB HG.out HA.out HP.out hgs
  .refine aEi _ rfl 23 (.tmp 7) (.tmp 7) rfl (w.heap.size+1) 60 j0 (.slice none 0 0) 1 underlying23 hj0 hj1 hj2 .i64 .i64 n (by simp [Act.eval]) (by simp [Act.eval]) (by rw [hj3];omega) (by unfold maxLen;omega) (by have:=HB.size;simp only [World.size_alloc] at this;omega) ?_
   intro gP X0 hown hb
   rw [aB5 _ rfl] at hown;have HP:=aA0 hown;replace HB:=HB.trans hb;clear hown hb;refine hK.out _ _ (fun _=>trivial) ?_
   clear hK K
   (try simp only [Act.put,List.setIfInBounds_toArray,List.set_cons_zero,List.set_cons_succ])
   refine aA6.two (i:=1) (j:=5) (by kernel_rfl) rfl rfl (fun K hK=>?_) (fun K hK=>?_)
   .refine aEi _ rfl 22 (.tmp 5) (.tmp 5) rfl (w.heap.size+1) 3 i0 (.int .i64 0) 1 underlying22 hi0 hi1 hi2 .i64 .i64 n (by simp [Act.eval]) (by simp [Act.eval]) (by rw [hi3];omega) (by unfold maxLen;omega) (by have:=HB.size;simp only [World.size_alloc] at this;omega) ?_
    intro gA X1 hown hb
    rw [aB5 _ rfl] at hown;replace HP:=aA0 (hb.owns HP.out);have HA:=aA0 hown;replace HB:=HB.trans hb;clear hown hb;refine hK.out _ _ (fun _=>trivial) ?_
    clear hK K
    (try simp only [Act.put,List.setIfInBounds_toArray,List.set_cons_zero,List.set_cons_succ])
    have hHeld:True:=trivial
    (refine aA6.t (v:=?_) 4 9 rfl rfl (by kernel_rfl) (fun _ _ _ h=>h) hHeld (Or.inl ⟨by rfl,?_⟩) ?_;rotate_left 1;focus (intro w' hSw;(try dsimp only at hSw);go_simp;(try with_reducible rfl);done))
    clear hHeld
    (try simp only [Act.put,List.setIfInBounds_toArray,List.set_cons_zero,List.set_cons_succ])
    refine aA6.one (i:=5) (by kernel_rfl) rfl (fun K hK=>?_)
    (try go_simp)
    refine hK.out _ _ (fun _=>trivial) ?_
    clear hK K
    (try simp only [Act.put,List.setIfInBounds_toArray,List.set_cons_zero,List.set_cons_succ])
    have hb:=(Bel.refl X1).alloc (.cells #[.slice none 0 0,.slice none 0 0] 25);replace HP:=aA0 (hb.owns HP.out);replace HA:=aA0 (hb.owns HA.out);have HG:=aA0 (Blk.new X1 #[.slice none 0 0,.slice none 0 0] 25);have hgs:w.heap.size<X1.heap.size:=by have:=HB.size;simp only [World.size_alloc] at this;omega
    replace HB:=HB.trans hb;clear hb;generalize hgE:X1.heap.size=gG at *;generalize X1.alloc (.cells #[.slice none 0 0,.slice none 0 0] 25)=X2 at *;clear hgE;have y0:=HG.out.cell 0 (v := .slice none 0 0) rfl;have y1:=HG.out.cell 1 (v := .slice none 0 0) rfl;have f0:=HG.out.frozen 0;have f1:=HG.out.frozen 1;have gl:=HG.out.lt;refine aA6.one (i:=6) (by kernel_rfl) rfl (fun K hK=>?_)
    go_simp
    refine hK.out _ _ (fun h=>absurd rfl h) ?_
    clear hK K;refine aA6.done (by kernel_rfl) ?_ _
    go_wp2_with fail
    go_meet
    exact aGo HB HG.out HA.out HP.out hgs
   .
    (try go_simp)
    refine hK.out _ _ (fun _=>trivial) ?_
    clear hK K
    (try simp only [Act.put,List.setIfInBounds_toArray,List.set_cons_zero,List.set_cons_succ])
    have hb:=(Bel.refl X0).alloc (.cells #[.slice none 0 0,.slice none 0 0] 25);replace HP:=aA0 (hb.owns HP.out);have HG:=aA0 (Blk.new X0 #[.slice none 0 0,.slice none 0 0] 25);have hgs:w.heap.size<X0.heap.size:=by have:=HB.size;simp only [World.size_alloc] at this;omega
    replace HB:=HB.trans hb;clear hb;generalize hgE:X0.heap.size=gG at *;generalize X0.alloc (.cells #[.slice none 0 0,.slice none 0 0] 25)=X1 at *;clear hgE;refine aA6.one (i:=1) (by kernel_rfl) rfl (fun K hK=>?_)
    refine aEi _ rfl 22 (.tmp 5) (.tmp 5) rfl (w.heap.size+1) 3 i0 (.int .i64 0) 1 underlying22 hi0 hi1 hi2 .i64 .i64 n (by simp [Act.eval]) (by simp [Act.eval]) (by rw [hi3];omega) (by unfold maxLen;omega) (by have:=HB.size;simp only [World.size_alloc] at this;omega) ?_
    intro gA X2 hown hb
    rw [aB5 _ rfl] at hown;replace HP:=aA0 (hb.owns HP.out);replace HG:=aA0 (HG.out.keep hb);have HA:=aA0 hown;replace HB:=HB.trans hb;clear hown hb;refine hK.out _ _ (fun _=>trivial) ?_
    clear hK K
    (try simp only [Act.put,List.setIfInBounds_toArray,List.set_cons_zero,List.set_cons_succ])
    have hHeld:True:=trivial
    (refine aA6.t (v:=?_) 4 9 rfl rfl (by kernel_rfl) (fun _ _ _ h=>h) hHeld (Or.inl ⟨by rfl,?_⟩) ?_;rotate_left 1;focus (intro w' hSw;(try dsimp only at hSw);go_simp;(try with_reducible rfl);done))
    clear hHeld
    (try simp only [Act.put,List.setIfInBounds_toArray,List.set_cons_zero,List.set_cons_succ])
    have y0:=HG.out.cell 0 (v := .slice none 0 0) rfl;have y1:=HG.out.cell 1 (v := .slice none 0 0) rfl;have f0:=HG.out.frozen 0;have f1:=HG.out.frozen 1;have gl:=HG.out.lt;refine aA6.one (i:=6) (by kernel_rfl) rfl (fun K hK=>?_)
    go_simp
    refine hK.out _ _ (fun h=>absurd rfl h) ?_
    clear hK K;refine aA6.done (by kernel_rfl) ?_ _
    go_wp2_with fail
    go_meet
    exact aGo HB HG.out HA.out HP.out hgs
  .
   (try go_simp)
   refine hK.out _ _ (fun _=>trivial) ?_
   clear hK K
   (try simp only [Act.put,List.setIfInBounds_toArray,List.set_cons_zero,List.set_cons_succ])
   have hb:=(Bel.refl X9).alloc (.cells #[.slice none 0 0,.slice none 0 0] 25);have HG:=aA0 (Blk.new X9 #[.slice none 0 0,.slice none 0 0] 25);have hgs:w.heap.size<X9.heap.size:=by have:=HB.size;simp only [World.size_alloc] at this;omega
   replace HB:=HB.trans hb;clear hb;generalize hgE:X9.heap.size=gG at *;generalize X9.alloc (.cells #[.slice none 0 0,.slice none 0 0] 25)=X0 at *;clear hgE;refine aA6.two (i:=1) (j:=3) (by kernel_rfl) rfl rfl (fun K hK=>?_) (fun K hK=>?_)
   .refine aEi _ rfl 22 (.tmp 5) (.tmp 5) rfl (w.heap.size+1) 3 i0 (.int .i64 0) 1 underlying22 hi0 hi1 hi2 .i64 .i64 n (by simp [Act.eval]) (by simp [Act.eval]) (by rw [hi3];omega) (by unfold maxLen;omega) (by have:=HB.size;simp only [World.size_alloc] at this;omega) ?_
    intro gA X1 hown hb
    rw [aB5 _ rfl] at hown;replace HG:=aA0 (HG.out.keep hb);have HA:=aA0 hown;replace HB:=HB.trans hb;clear hown hb;refine hK.out _ _ (fun _=>trivial) ?_
    clear hK K
    (try simp only [Act.put,List.setIfInBounds_toArray,List.set_cons_zero,List.set_cons_succ])
    refine aA6.one (i:=3) (by kernel_rfl) rfl (fun K hK=>?_)
    refine aEi _ rfl 23 (.tmp 7) (.tmp 7) rfl (w.heap.size+1) 60 j0 (.slice none 0 0) 1 underlying23 hj0 hj1 hj2 .i64 .i64 n (by simp [Act.eval]) (by simp [Act.eval]) (by rw [hj3];omega) (by unfold maxLen;omega) (by have:=HB.size;simp only [World.size_alloc] at this;omega) ?_
    intro gP X2 hown hb
    rw [aB5 _ rfl] at hown;replace HG:=aA0 (HG.out.keep hb);replace HA:=aA0 (hb.owns HA.out);have HP:=aA0 hown;replace HB:=HB.trans hb;clear hown hb;refine hK.out _ _ (fun _=>trivial) ?_
    clear hK K
    (try simp only [Act.put,List.setIfInBounds_toArray,List.set_cons_zero,List.set_cons_succ])
    have hHeld:True:=trivial
    (refine aA6.t (v:=?_) 4 9 rfl rfl (by kernel_rfl) (fun _ _ _ h=>h) hHeld (Or.inl ⟨by rfl,?_⟩) ?_;rotate_left 1;focus (intro w' hSw;(try dsimp only at hSw);go_simp;(try with_reducible rfl);done))
    clear hHeld
    (try simp only [Act.put,List.setIfInBounds_toArray,List.set_cons_zero,List.set_cons_succ])
    have y0:=HG.out.cell 0 (v := .slice none 0 0) rfl;have y1:=HG.out.cell 1 (v := .slice none 0 0) rfl;have f0:=HG.out.frozen 0;have f1:=HG.out.frozen 1;have gl:=HG.out.lt;refine aA6.one (i:=6) (by kernel_rfl) rfl (fun K hK=>?_)
    go_simp
    refine hK.out _ _ (fun h=>absurd rfl h) ?_
    clear hK K;refine aA6.done (by kernel_rfl) ?_ _
    go_wp2_with fail
    go_meet
    exact aGo HB HG.out HA.out HP.out hgs
   .refine aEi _ rfl 23 (.tmp 7) (.tmp 7) rfl (w.heap.size+1) 60 j0 (.slice none 0 0) 1 underlying23 hj0 hj1 hj2 .i64 .i64 n (by simp [Act.eval]) (by simp [Act.eval]) (by rw [hj3];omega) (by unfold maxLen;omega) (by have:=HB.size;simp only [World.size_alloc] at this;omega) ?_
    intro gP X1 hown hb
    rw [aB5 _ rfl] at hown;replace HG:=aA0 (HG.out.keep hb);have HP:=aA0 hown;replace HB:=HB.trans hb;clear hown hb;refine hK.out _ _ (fun _=>trivial) ?_
    clear hK K
    (try simp only [Act.put,List.setIfInBounds_toArray,List.set_cons_zero,List.set_cons_succ])
    refine aA6.one (i:=1) (by kernel_rfl) rfl (fun K hK=>?_)
    refine aEi _ rfl 22 (.tmp 5) (.tmp 5) rfl (w.heap.size+1) 3 i0 (.int .i64 0) 1 underlying22 hi0 hi1 hi2 .i64 .i64 n (by simp [Act.eval]) (by simp [Act.eval]) (by rw [hi3];omega) (by unfold maxLen;omega) (by have:=HB.size;simp only [World.size_alloc] at this;omega) ?_
    intro gA X2 hown hb
    rw [aB5 _ rfl] at hown;replace HG:=aA0 (HG.out.keep hb);replace HP:=aA0 (hb.owns HP.out);have HA:=aA0 hown;replace HB:=HB.trans hb;clear hown hb;refine hK.out _ _ (fun _=>trivial) ?_
    clear hK K
    (try simp only [Act.put,List.setIfInBounds_toArray,List.set_cons_zero,List.set_cons_succ])
    have hHeld:True:=trivial
    (refine aA6.t (v:=?_) 4 9 rfl rfl (by kernel_rfl) (fun _ _ _ h=>h) hHeld (Or.inl ⟨by rfl,?_⟩) ?_;rotate_left 1;focus (intro w' hSw;(try dsimp only at hSw);go_simp;(try with_reducible rfl);done))
    clear hHeld
    (try simp only [Act.put,List.setIfInBounds_toArray,List.set_cons_zero,List.set_cons_succ])
    have y0:=HG.out.cell 0 (v := .slice none 0 0) rfl;have y1:=HG.out.cell 1 (v := .slice none 0 0) rfl;have f0:=HG.out.frozen 0;have f1:=HG.out.frozen 1;have gl:=HG.out.lt;refine aA6.one (i:=6) (by kernel_rfl) rfl (fun K hK=>?_)
    go_simp
    refine hK.out _ _ (fun h=>absurd rfl h) ?_
    clear hK K;refine aA6.done (by kernel_rfl) ?_ _
    go_wp2_with fail
    go_meet
    exact aGo HB HG.out HA.out HP.out hgs
 obtain ⟨gA,gP,gG,rfl,hg,HG,HA,HP,HB⟩:=hcut;have hX:=aA0 (Blk.new w #[.slice none 0 0,.slice none 0 0] 25);rw [show List.replicate n (Value.int .i64 0)=idL n 0 from (bLp n).symm] at HA
 have y0:=HG.out.cell 0 (v := .slice (some ⟨gA,0,none⟩) n n) rfl;have gl:=HG.out.lt
 go_wp2_with fail
 clear y0 gl
 go_loopg [4,13] n (fun m _x z wr=>∃ k:Nat,k<=n/\m=n-k/\z = .int .i64 (k:Int)/\Hid (Blk wr gG #[.slice (some ⟨gA,0,none⟩) n n,.slice (some ⟨gP,0,none⟩) n n] 25)/\Hid (wr.ownsRow (w.heap.size+1) 3 1 (.slice (some ⟨gA,0,none⟩) n n) n (idL n k))/\Hid (wr.ownsRow (w.heap.size+1) 60 1 (.slice (some ⟨gP,0,none⟩) n n) n (List.replicate n (.slice none 0 0)))/\Bel (w.alloc (.cells #[.slice none 0 0,.slice none 0 0] 25)) wr)
 case atStart=>exact ⟨0,by omega,rfl,rfl,HG.out,HA.out,HP.out,HB⟩
 case round =>
  clear HG HA HP HB;obtain ⟨k,hk,rfl,rfl,HG,HA,HP,HB⟩:=hrel;have y0:=HG.out.cell 0 (v := .slice (some ⟨gA,0,none⟩) n n) rfl;have y1:=HG.out.cell 1 (v := .slice (some ⟨gP,0,none⟩) n n) rfl;have gl:=HG.out.lt
  by_cases hlt:k<n
  .have hd0:decide (k<n)=true:=by simpa using hlt
   obtain ⟨g1,e1,_,l1,c1,f1⟩:=aAn HA.out (j:=k) (u := .int .i64 0) (bPh hlt);obtain rfl:gA=g1:=by simpa using e1
   go_wp2_with fail
   go_roundg (n-(k+1))
   case rel =>
    have hst:=(HA.out.stored k (.int .i64 (k:Int))).1;rw [bO2 n k hlt] at hst;have hL:=(aAb HA.out).1;refine ⟨k+1,by omega,rfl,by go_num,HG.out.other (a:=⟨gA,k,none⟩) (fun e=>?_) _,hst,?_,HB.setCell (by simp only [World.size_alloc];exact hL) _⟩
    .rcases HG.out.apart HA.out (by decide) with _
     exact HG.out.apart HA.out (by decide) (by rw [e];rfl)
    .exact aBs HP.out (Agr.setCell (E:=fun q=>q=gA) wr ⟨gA,k,none⟩ _ rfl) (fun q hq e=>by
      subst e
      rcases aAr HA.out HP.out (by decide) with h0 | h0
      .rw [h0] at hq;cases hq
      .rw [hq] at h0;exact h0 rfl)
   case measure=>omega
  .obtain rfl:k=n:=by omega
   have hd0:decide (k<k)=false:=by simp
   have hXr:=hX.out.keep HB;have x0:=hXr.cell 0 (v := .slice none 0 0) rfl;have x1:=hXr.cell 1 (v := .slice none 0 0) rfl;have q0:=hXr.frozen 0;have q1:=hXr.frozen 1;have xl:=hXr.lt
   go_wp2_with fail
   have M:=(hXr.set 0 (.slice (some ⟨gA,0,none⟩) k k)).set 1 (.slice (some ⟨gP,0,none⟩) k k);have m0:=M.cell 0 (v := .slice (some ⟨gA,0,none⟩) k k) rfl;have m1:=M.cell 1 (v := .slice (some ⟨gP,0,none⟩) k k) rfl;have hAF:=aAi (aAi HA.out (a:=⟨w.heap.size,0,none⟩) (by dsimp only;omega) (.slice (some ⟨gA,0,none⟩) k k)) (a:=⟨w.heap.size,1,none⟩) (by dsimp only;omega) (.slice (some ⟨gP,0,none⟩) k k)
   have hPF:=aAi (aAi HP.out (a:=⟨w.heap.size,0,none⟩) (by dsimp only;omega) (.slice (some ⟨gA,0,none⟩) k k)) (a:=⟨w.heap.size,1,none⟩) (by dsimp only;omega) (.slice (some ⟨gP,0,none⟩) k k)
   rw [aUn] at hAF;refine bodyPost_ret (v := .agg #[.slice (some ⟨gA,0,none⟩) k k,.slice (some ⟨gP,0,none⟩) k k]) (by simp [results,Tryz.results40,go_sem,m0,m1]) rfl ⟨gA,gP,rfl,hAF,hPF,?_⟩
   exact (((Bel.refl w).alloc _).trans HB |>.setCell (Nat.le_refl _) _).setCell (Nat.le_refl _) _
theorem bEz:(prog.info? 22).map (fun i=>(i.zero,i.size,i.bytes))=some (some (.slice none 0 0),1,24):=by kernel_rfl
def bPm (k:Nat):List Value:=[.int .i64 (k:Int)]
def aTk (s:List (List (Nat × Int))) (n k j:Nat):List (List Nat):=(List.range n).map fun t=>aF9 s k t++(((aA8 s k).take j).filter fun x=>toK x==t).map fun _=>k
theorem aQ0 (s:List (List (Nat × Int))) (n k j:Nat):(aTk s n k j).length=n:=by simp [aTk]
theorem bJx (s:List (List (Nat × Int))) (n:Nat):aTk s n 0 0=List.replicate n []:=by
 apply List.ext_getElem?;intro t
 simp only [aTk,List.getElem?_map,List.getElem?_replicate]
 by_cases h:t<n <;> simp [h,aF9]
theorem aTm (s:List (List (Nat × Int))) (n k:Nat):aTk s n k 0=(List.range n).map fun t=>aF9 s k t:=by simp [aTk]
theorem bJv (s:List (List (Nat × Int))) (n k:Nat):aTk s n k (aA8 s k).length=aTk s n (k+1) 0:=by
 rw [aTm];unfold aTk;apply List.map_congr_left
 intro t _
 rw [List.take_length];unfold aF9;rw [List.range_succ,List.flatMap_append];simp
theorem aOq {s:List (List (Nat × Int))} {n k j t:Nat} (h:t<n):(aTk s n k j)[t]?=some (aF9 s k t++(((aA8 s k).take j).filter fun x=>toK x==t).map fun _=>k):=by simp [aTk,h]
theorem bJw {s:List (List (Nat × Int))} {n k j:Nat} (hj:j<(aA8 s k).length) (ht:toK (aA8 s k)[j]<n) {l:List Nat} (hl:(aTk s n k j)[toK (aA8 s k)[j]]?=some l):(aTk s n k j).set (toK (aA8 s k)[j]) (l++[k])=aTk s n k (j+1):=by
 rw [aOq ht] at hl;injection hl with hl;subst hl
 apply List.ext_getElem?;intro t
 by_cases hq:toK (aA8 s k)[j]=t
 .subst hq
  rw [List.getElem?_set_self (by rw [aQ0];exact ht),aOq ht,List.take_succ_eq_append_getElem hj,List.filter_append,List.map_append]
  simp
 .rw [List.getElem?_set_ne hq]
  by_cases h2:t<n
  .rw [aOq h2,aOq h2,List.take_succ_eq_append_getElem hj,List.filter_append,List.map_append]
   simp [hq]
  .rw [List.getElem?_eq_none (by rw [aQ0];omega),List.getElem?_eq_none (by rw [aQ0];omega)]
theorem aTl {s:List (List (Nat × Int))} {n k j t:Nat} {l:List Nat} (h:(aTk s n k j)[t]?=some l) (hk:k<=700) (hs:∀ k,(aA8 s k).length<=70):l.length<=50000:=by
 have ht:t<n:=by have:=(List.getElem?_eq_some_iff.1 h).1;rwa [aQ0] at this
 rw [aOq ht] at h;injection h with h;subst h
 rw [List.length_append,List.length_map];have h1:(((aA8 s k).take j).filter fun x=>toK x==t).length<=70:=Nat.le_trans (List.length_filter_le _ _) (by rw [List.length_take];have:=hs k;omega)
 have h2:∀ m,(aF9 s m t).length<=m*70:=fun m=>by
  induction m with
  | zero=>simp [aF9]
  | succ m ih =>
   unfold aF9 at *;rw [List.range_succ,List.flatMap_append,List.length_append];simp only [List.flatMap_cons,List.flatMap_nil,List.append_nil,List.length_map]
   have:=Nat.le_trans (List.length_filter_le (fun x:Nat × Int=>toK x==t) (aA8 s m)) (hs m);omega
 have:=h2 k;omega
abbrev SrcG:=GrR (α:=Nat) 22 3 1 bPm
theorem aSt (v:Value) (s:Spc) (A:Option Addr) (k n:Nat) (w:World) (h:aDy w v s) (hwf:wfS s) (hl:aE3 s=true) (hv:aD5 s=true) (hn:n=s.enabled.length) :
  Calls prog 44 #[v,.slice A n k] w fun e w'=>e = .returned (.int .i64 0)/\Bel w w':=by
 have HS:=aA0 (fun w' (k:Bel w w')=>h.keep k);have hle:=(aBo hl).1;obtain ⟨AE,cE,AA,cA,rfl,hE,hA,_,_,_,_⟩:=h;have HWF:=aA0 hwf;have HL:=aA0 hl;have HV:=aA0 hv;subst hn;clear hwf hl hv hE hA;go_enter func44,ntmps44;have HX:=aA0 (Blk.new w #[.slice AE s.enabled.length cE,.slice AA s.arcs.length cA] 42)
 go_wp2_with (refine (aSm _ s _ (HS.out _ ((Bel.refl w).alloc _)) HWF.out HL.out).mono ?_;rintro e w1 ⟨rfl,hb⟩;rw [HV.out];have HB:=aA0 (((Bel.refl w).alloc (.cells #[.slice AE s.enabled.length cE,.slice AA s.arcs.length cA] 42)).trans hb);have x0:=(HX.out.keep hb).cell 0 (v := .slice AE s.enabled.length cE) rfl;have xl:=(HX.out.keep hb).lt;clear hb)
 go_ret;exact ⟨rfl,HB.out⟩
structure SrI (W0:World) (s:Spc) (gP k j:Nat) (wr:World):Prop where
 grd:∃ hs,SrcG W0.heap.size wr gP s.arcs.length hs (aTk s.arcs s.arcs.length k j)
 bel:Bel W0 wr
theorem aX2 (v:Value) (s:Spc) (w:World) (h:aDy w v s) (hl:aE3 s=true) (hto:∀ k,∀ x∈aA8 s.arcs k,0<=x.2/\x.2<(s.arcs.length:Int)) :
  Calls prog 129 #[v] w fun e w'=>∃ gP hs,e = .returned (.slice (some ⟨gP,0,none⟩) s.arcs.length s.arcs.length)/\SrcG (w.heap.size+1) w' gP s.arcs.length hs (aTk s.arcs s.arcs.length s.arcs.length 0)/\Bel w w':=by
 have HS:=aA0 (fun w' (k:Bel w w')=>h.keep k);obtain ⟨_,hle,h70⟩:=aBo hl;obtain ⟨AE,cE,AA,cA,rfl,hE,hA,_,_,_,_⟩:=h;have HA:=aA0 (fun w' (k:Bel w w')=>hA.keep k);have HTO:=aA0 hto
 have H70:Hid (∀ k,(aA8 s.arcs k).length<=70):=fun k=>by
  unfold aA8;rw [List.getD_eq_getElem?_getD];cases hx:s.arcs[k]? with
  | none=>simp
  | some l=>exact h70 l (List.mem_of_getElem? hx)
 clear hl hE hA hto h70;obtain ⟨i0,hi0,hi1,hi2,hi3⟩:=aBy bEz;obtain ⟨j0,hj0,hj1,hj2,hj3⟩:=aBy aJr;obtain ⟨W0,hW0⟩:∃ W:World,W=w.alloc (.cells #[.slice AE s.enabled.length cE,.slice AA s.arcs.length cA] 42):=⟨_,rfl⟩;have e0:W0.heap.size=w.heap.size+1:=by rw [hW0];exact World.size_alloc _ _
 have HW0:Hid (Bel w W0):=by rw [hW0];exact (Bel.refl w).alloc _
 have HBX:Hid (Blk W0 w.heap.size #[.slice AE s.enabled.length cE,.slice AA s.arcs.length cA] 42):=by rw [hW0];exact Blk.new w _ _
 go_enter func129,ntmps129
 go_wp2_with (at_make;rw [<- hW0];refine aB6 _ rfl 66 (.tmp 10) (.tmp 10) rfl W0.heap.size 22 i0 (.slice none 0 0) 1 underlying66 hi0 hi1 hi2 .i64 .i64 s.arcs.length rfl rfl (by rw [hi3];omega) (by unfold maxLen;omega) (Nat.le_refl _) ?_;intro gP w1 hown hb;rw [aB5 _ rfl] at hown;have HO:=aA0 hown;have HB:=aA0 hb;have y1:=(HBX.out.keep hb).cell 1 (v := .slice AA s.arcs.length cA) rfl;have yl:=(HBX.out.keep hb).lt;clear hown hb)
 have hI:SrI W0 s gP 0 0 w1:=⟨⟨List.replicate s.arcs.length (.slice none 0 0),by rw [bJx];exact GrR.made HO.out⟩,HB.out⟩
 clear HO HB y1 yl
 go_loopg [4,5,15] s.arcs.length (fun m _x _y z wr=>∃ k:Nat,k<=s.arcs.length/\m=s.arcs.length-k/\z = .int .i64 (k:Int)/\Hid (SrI W0 s gP k 0 wr))
 case atStart=>exact ⟨0,by omega,rfl,rfl,hI⟩
 case round =>
  clear hI;obtain ⟨wo,rfl⟩:∃ wo:World,wo=wr:=⟨_,rfl⟩;obtain ⟨k,hk,rfl,rfl,HI⟩:=hrel
  by_cases hlt:k<s.arcs.length
  .have hd0:decide (k<s.arcs.length)=true:=by simpa using hlt
   obtain ⟨bA,oA,R,rc,rfl,hbA,x0,hR,_,_⟩:=(HA.out _ HW0.out).at_ k hlt;have hark:s.arcs[k]=aA8 s.arcs k:=by simp [aA8,hlt]
   rw [hark] at x0 hR;have x1:=(HI.out.bel.cell hbA).trans x0;have hbA2:=Nat.lt_of_lt_of_le hbA HI.out.bel.size;have HR:=aA0 (fun w' (kk:Bel W0 w')=>hR.keep kk);have hJ:=H70.out k;have HTK:=aA0 (HTO.out k);clear hR;clear x0 hbA
   go_wp2_with fail
   clear x1
   go_loopg [7,22] (aA8 s.arcs k).length (fun m _y z wr=>∃ j:Nat,j<=(aA8 s.arcs k).length/\m=(aA8 s.arcs k).length-j/\z = .int .i64 (j:Int)/\Hid (SrI W0 s gP k j wr))
   case atStart=>exact ⟨0,by omega,rfl,rfl,HI.out⟩
   case round =>
    obtain ⟨j,hj,rfl,rfl,HJ⟩:=hrel
    by_cases hlt2:j<(aA8 s.arcs k).length
    .have hd1:decide (j<(aA8 s.arcs k).length)=true:=by simpa using hlt2
     obtain ⟨b2,o2,rfl,hb2,c0,c1⟩:=aAc.at_ (HR.out _ HJ.out.bel) j hlt2;obtain ⟨hx1,hx2⟩:=HTK.out _ (List.getElem_mem hlt2);have htK:(aA8 s.arcs k)[j].2=((toK (aA8 s.arcs k)[j]:Nat):Int):=by unfold toK;omega
     have htl:toK (aA8 s.arcs k)[j]<s.arcs.length:=by unfold toK;omega
     rw [htK] at c1;have HTKJ:=aA0 htK;clear htK hx1 hx2;generalize hset:(aA8 s.arcs k)[j].1=S at c0;have HP0:=aA0 (fun l (hl:(aTk s.arcs s.arcs.length k j)[toK (aA8 s.arcs k)[j]]?=some l)=>bJw hlt2 htl hl);generalize toK (aA8 s.arcs k)[j]=t at *
     go_wp2_with fail
     obtain ⟨⟨hs,hg0⟩,hbel0⟩:=HJ.out;have hga:=aA0 (hg0.keep ((Bel.refl wr).alloc (.cells #[.int .u32 (S:Int),.int .i64 (t:Int)] 108)));have HBE:=aA0 (hbel0.alloc (.cells #[.int .u32 (S:Int),.int .i64 (t:Int)] 108));have HBX2:=aA0 (Blk.new wr #[.int .u32 (S:Int),.int .i64 (t:Int)] 108);clear hg0 hbel0 HJ c0 c1;generalize wr.alloc (.cells #[.int .u32 (S:Int),.int .i64 (t:Int)] 108)=wx at *;generalize wr.heap.size=bx at *;obtain ⟨l,hl⟩:∃ l,(aTk s.arcs s.arcs.length k j)[t]?=some l:=⟨_,aOq htl⟩;have hsm:=aTl hl (by omega) H70.out
     have HPU:=aA0 (HP0.out l hl);obtain ⟨A,c',hc,hf,ho,hhi⟩:=hga.out.head hl;have HO:=aA0 ho;have HH:=aA0 hhi;have HL:=aA0 hl;have hgl:=hga.out.lt
     have hcell:Hid (∀ w',Bel wx w'->w'.cell? ⟨bx,1,none⟩=some (.int .i64 (t:Int))/\w'.cell? ⟨gP,t,none⟩=some (.slice A l.length c')/\bx<w'.heap.size/\gP<w'.heap.size):=fun w' kk =>
      ⟨(HBX2.out.keep kk).cell 1 rfl,(kk.cell hga.out.lt.2).trans hc,(HBX2.out.keep kk).lt,Nat.lt_of_lt_of_le hga.out.lt.2 kk.size⟩
     have htd:decide (t<s.arcs.length)=true:=by simpa using htl
     clear ho hhi hc hf hl HP0;refine aA6.start (fun w'=>w'.cell? ⟨bx,1,none⟩=some (.int .i64 (t:Int))/\w'.cell? ⟨gP,t,none⟩=some (.slice A l.length c')/\bx<w'.heap.size/\gP<w'.heap.size) 12 (by kernel_rfl) ?_
     have HB:=(Bel.refl wx).drew;have hHeld:=hcell.out _ HB
     (refine aA6.t (v:=?_) 0 26 rfl rfl (by kernel_rfl) (fun _ _ _ h=>h) hHeld (Or.inl ⟨by rfl,?_⟩) ?_;rotate_left 1;focus (intro w' hSw;(try dsimp only at hSw);go_simp;(try with_reducible rfl);done));(refine aA6.t (v:=?_) 1 27 rfl rfl (by kernel_rfl) (fun _ _ _ h=>h) hHeld (Or.inl ⟨by rfl,?_⟩) ?_;rotate_left 1;focus (intro w' hSw;(try dsimp only at hSw);go_simp;(try with_reducible rfl);done));(refine aA6.t (v:=?_) 2 28 rfl rfl (by kernel_rfl) (fun _ _ _ h=>h) hHeld (Or.inl ⟨by rfl,?_⟩) ?_;rotate_left 1;focus (intro w' hSw;(try dsimp only at hSw);go_simp;(try with_reducible rfl);done));(refine aA6.t (v:=?_) 3 29 rfl rfl (by kernel_rfl) (fun _ _ _ h=>h) hHeld (Or.inl ⟨by rfl,?_⟩) ?_;rotate_left 1;focus (intro w' hSw;(try dsimp only at hSw);go_simp;(try with_reducible rfl);done));(refine aA6.t (v:=?_) 4 30 rfl rfl (by kernel_rfl) (fun _ _ _ h=>h) hHeld (Or.inl ⟨by rfl,?_⟩) ?_;rotate_left 1;focus (intro w' hSw;(try dsimp only at hSw);go_simp;(try with_reducible rfl);done));(refine aA6.t (v:=?_) 5 31 rfl rfl (by kernel_rfl) (fun _ _ _ h=>h) hHeld (Or.inl ⟨by rfl,?_⟩) ?_;rotate_left 1;focus (intro w' hSw;(try dsimp only at hSw);go_simp;(try with_reducible rfl);done));(refine aA6.t (v:=?_) 6 32 rfl rfl (by kernel_rfl) (fun _ _ _ h=>h) hHeld (Or.inl ⟨by rfl,?_⟩) ?_;rotate_left 1;focus (intro w' hSw;(try dsimp only at hSw);go_simp;(try with_reducible rfl);done));(refine aA6.t (v:=?_) 7 33 rfl rfl (by kernel_rfl) (fun _ _ _ h=>h) hHeld (Or.inl ⟨by rfl,?_⟩) ?_;rotate_left 1;focus (intro w' hSw;(try dsimp only at hSw);go_simp;(try with_reducible rfl);done));(refine aA6.t (v:=?_) 8 34 rfl rfl (by kernel_rfl) (fun _ _ _ h=>h) hHeld (Or.inl ⟨by rfl,?_⟩) ?_;rotate_left 1;focus (intro w' hSw;(try dsimp only at hSw);go_simp;(try with_reducible rfl);done))
     clear hHeld;have HOa:=aA0 ((show wx.drew.ownsRow W0.heap.size 3 1 (.slice A l.length c') l.length (l.flatMap bPm) from HO.out).alloc (.cells #[.int .i64 (k:Int)] 3))
     have HBa:=HB.alloc (.cells #[.int .i64 (k:Int)] 3);have HNEW:=aA0 (aB4 wx.drew (.cells #[.int .i64 (k:Int)] 3));have hws:W0.heap.size<=wx.heap.size:=HBE.out.size;refine aA6.one (i:=9) (by kernel_rfl) rfl (fun K hK=>?_)
     go_simp
     refine hK.out _ _ (fun _=>hcell.out _ HBa) ?_
     clear hK K
     (try simp only [Act.put,List.setIfInBounds_toArray,List.set_cons_zero,List.set_cons_succ])
     refine aA6.one (i:=10) (by kernel_rfl) rfl (fun K hK=>?_)
     refine aCr _ rfl (.tmp 33) (.tmp 35) 22 rfl W0.heap.size 3 j0 (.int .i64 0) 1 8 underlying22 hj0 hj1 hj2 hj3 rfl (by decide) A l.length c' (l.flatMap bPm) (by simp [Act.eval]) HOa.out wx.heap.size #[.int .i64 (k:Int)] 3 (0,0) (by simp [Act.eval]) HNEW.out rfl (aOe _ _) (by unfold maxLen;omega) (by omega) (by have e9:wx.drew.heap.size=wx.heap.size:=rfl;simp;omega) ?_
     intro A2 c2 w4 hown hgr hat
     have HP:=aA0 (hga.out.push (by decide) HL.out HH.out (x:=k) HBa hgr hown hat)
     have HE4:=aA0 (hga.out.bel HBE.out HL.out HH.out HBa hgr (.slice A2 (l.length+1) c2));have HX4:=aA0 ((HBX2.out.keep HBa).grown hgr ((HBX2.out.keep HBa).apart HOa.out (by decide)))
     have HO4:=aA0 (World.ownsRow.kept (HBa.owns hga.out.own) hgr (aAr HOa.out (HBa.owns hga.out.own) (by decide)))
     obtain ⟨g1,e1,_,hl4,hc4,hf4⟩:=aAn HO4.out HH.out;obtain rfl:gP=g1:=by simpa using e1
     have hz4:=HX4.out.cell 1 (v := .int .i64 (t:Int)) rfl;have hg4:=HX4.out.lt;refine hK.out _ _ (fun _=>⟨hz4,hc4,hg4,hl4⟩) ?_
     clear hK K hown hgr hat
     (try simp only [Act.put,List.setIfInBounds_toArray,List.set_cons_zero,List.set_cons_succ])
     have hHeld:w4.cell? ⟨bx,1,none⟩=some (.int .i64 (t:Int))/\w4.cell? ⟨gP,t,none⟩=some (.slice A l.length c')/\bx<w4.heap.size/\gP<w4.heap.size:=⟨hz4,hc4,hg4,hl4⟩
     (refine aA6.t (v:=?_) 11 37 rfl rfl (by kernel_rfl) (fun _ _ _ h=>h) hHeld (Or.inl ⟨by rfl,?_⟩) ?_;rotate_left 1;focus (intro w' hSw;(try dsimp only at hSw);go_simp;(try with_reducible rfl);done))
     (refine aA6.one (i:=12) (by kernel_rfl) rfl (fun K hK=>?_));go_simp;refine hK.out _ _ (fun h=>absurd rfl h) ?_;clear hK K;refine aA6.done (by kernel_rfl) ?_ _;(try simp only [Act.put,List.setIfInBounds_toArray,List.set_cons_zero,List.set_cons_succ])
     clear hHeld
     go_wp2_with fail
     go_roundg ((aA8 s.arcs k).length-(j+1))
     case rel =>
      rw [HPU.out] at HP;exact ⟨j+1,by omega,rfl,by go_num,⟨_,HP.out⟩,HE4.out⟩
     case measure=>omega
    .obtain rfl:j=(aA8 s.arcs k).length:=by omega
     have hd1:decide ((aA8 s.arcs k).length<(aA8 s.arcs k).length)=false:=by simp
     go_wp2_with fail
     go_roundg (s.arcs.length-(k+1))
     case rel=>exact ⟨k+1,by omega,rfl,by go_num,by rw [<- bJv];exact HJ.out.grd,HJ.out.bel⟩
     case measure=>omega
  .obtain rfl:k=s.arcs.length:=by omega
   have hd0:decide (s.arcs.length<s.arcs.length)=false:=by simp
   go_wp2_with fail
   obtain ⟨⟨hs,hg⟩,hb⟩:=HI.out;refine bodyPost_ret (v := .slice (some ⟨gP,0,none⟩) s.arcs.length s.arcs.length) (by simp [results,Tryz.results129]) rfl ?_
   exact ⟨gP,hs,rfl,by rw [e0] at hg;exact hg,HW0.out.trans hb⟩
def aPv (k:Nat):Value := .int .i64 (k:Int)
theorem bOc (l:List Nat) (m:Nat) (h:m<l.length):(l.flatMap bPm)[m]?=some (aPv l[m]):=by
 have:∀ (l:List Nat) , l.flatMap bPm=l.map aPv:=fun l=>by induction l with | nil=>rfl | cons x l ih=>rw [List.flatMap_cons,ih];rfl
 rw [this,List.getElem?_map,List.getElem?_eq_getElem h];rfl
theorem bOg {w:World} {base e size n:Nat} {v:Value} {xs:List Value} (h:w.ownsRow base e size v n xs) (k:Nat):(w.drewN k).ownsRow base e size v n xs:=h
theorem Agr.drewN {E:Nat->Prop} {A B:World} (h:Agr E A B) (k:Nat):Agr E A (B.drewN k):=⟨h.os,h.tape,h.output,h.size,h.block⟩
theorem GrR.agr {α:Type} {eo ei:TypeId} {sz:Nat} {f:α->List Value} {N:Nat} {w w':World} {gb c:Nat} {hs:List Value} {xss:List (List α)} {E:Nat->Prop} (h:GrR eo ei sz f N w gb c hs xss) (k:Agr E w w') (hE:∀ q,N<=q->q<w.heap.size->¬ E q):GrR eo ei sz f N w' gb c hs xss :=
 ⟨aBs h.own k (fun q hq=>by obtain ⟨a,b⟩:=h.own.lt q hq;exact hE q a b),fun i l hl=>by
  obtain ⟨A,k',e,h2⟩:=h.rows i l hl;exact ⟨A,k',e,aBs h2 k (fun q hq=>by obtain ⟨a,b⟩:=h2.lt q hq;exact hE q a b)⟩,h.apart⟩
theorem OrdJ.small {s:List (List (Nat × Int))} {set:List Bool} {n i m:Nat} {o e:List Nat} (h:OrdJ s set n i m o e) (h70:∀ k,(aA8 s k).length<=70) {k:Nat} (hk:k<n):e.getD k 0<=140:=by
 rw [h.ec k hk];have h1:=aPp (o.take i) (aA8 s k);have h2:((aF9 s n (o.getD i 0)).take m).count k<=(aF9 s n (o.getD i 0)).count k:=List.Sublist.count_le _ (List.take_sublist _ _);rw [aKw,if_pos hk] at h2;have h3:(aA8 s k).countP (fun x=>toK x==o.getD i 0)<=(aA8 s k).length:=List.countP_le_length;have:=h70 k;omega
theorem aZ1 {s:List (List (Nat × Int))} {n t:Nat} (h:t<n):(aTk s n n 0)[t]?=some (aF9 s n t):=by rw [aTm];simp [h]
def aGc (set:List Bool) (k:Nat):List Nat:=(List.range k).filter fun k=>set.getD k false
theorem aSr {set:List Bool} {k:Nat} (h:set.getD k false=true):aGc set (k+1)=aGc set k++[k]:=by unfold aGc;rw [List.range_succ,List.filter_append];congr 1;rw [List.filter_cons,if_pos h];rfl
theorem aWq {set:List Bool} {k:Nat} (h:set.getD k false=false):aGc set (k+1)=aGc set k:=by unfold aGc;rw [List.range_succ,List.filter_append,List.filter_cons,if_neg (by rw [h];simp)];simp
theorem aWp (set:List Bool) (k:Nat):(aGc set k).length<=k:=by unfold aGc;exact Nat.le_trans (List.length_filter_le _ _) (by simp)
structure OrI (W0 ws:World) (B1:Nat) (s:Spc) (set:List Bool) (ge:Nat) (A:Option Addr) (c i m:Nat) (o e:List Nat) (wr:World):Prop where
 bel:Bel W0 wr
 agr:Agr (fun q=>q<B1∨ws.heap.size<=q) ws wr
 ord:wr.ownsRow W0.heap.size 3 1 (.slice A o.length c) o.length (o.map aPv)
 off:∀ q,(Value.slice A o.length c).ownBlock=some q->(q<B1∨ws.heap.size<=q)/\q≠ge
 ent:wr.ownsRow ws.heap.size 3 1 (.slice (some ⟨ge,0,none⟩) s.arcs.length s.arcs.length) s.arcs.length (e.map aPv)
 inv:OrdJ s.arcs set s.arcs.length i m o e
theorem OrdJ.step' {s:List (List (Nat × Int))} {set:List Bool} {n i m:Nat} {o e:List Nat} (h:OrdJ s set n i m o e) (hi:i<o.length) {l:List Nat} (hl:aF9 s n (o.getD i 0)=l) (hm:m<l.length) {k q:Nat} (hk:k=l[m]) (hq:q=e.getD k 0) {o':List Nat} (ho:o'=if set.getD k false=false/\q+1=(aA8 s k).length then o++[k] else o):OrdJ s set n i (m+1) o' (e.set k (q+1)):=by
 subst hl;subst hk;subst hq;exact h.step hi hm rfl ho
theorem bLy (e:List Nat) (k q:Nat):(e.map aPv).set k (.int .i64 ((q:Int)+1))=(e.set k (q+1)).map aPv:=by rw [List.map_set];rfl
theorem OrI.put {W0 ws:World} {B1:Nat} {s:Spc} {set:List Bool} {ge:Nat} {A:Option Addr} {c i m:Nat} {o e:List Nat} {wr:World} (h:OrI W0 ws B1 s set ge A c i m o e wr) (hs:W0.heap.size<=ws.heap.size) (k q:Nat) :
  Bel W0 (wr.setCell ⟨ge,k,none⟩ (.int .i64 ((q:Int)+1)))/\Agr (fun q=>q<B1∨ws.heap.size<=q) ws (wr.setCell ⟨ge,k,none⟩ (.int .i64 ((q:Int)+1)))/\(wr.setCell ⟨ge,k,none⟩ (.int .i64 ((q:Int)+1))).ownsRow W0.heap.size 3 1 (.slice A o.length c) o.length (o.map aPv)/\(wr.setCell ⟨ge,k,none⟩ (.int .i64 ((q:Int)+1))).ownsRow ws.heap.size 3 1 (.slice (some ⟨ge,0,none⟩) s.arcs.length s.arcs.length) s.arcs.length ((e.set k (q+1)).map aPv):=by
 have hge:=(aAb h.ent).1;refine ⟨h.bel.setCell (by show W0.heap.size<=ge;omega) _,h.agr.trans (Agr.setCell _ _ _ (.inr hge)),aBs h.ord (Agr.setCell (E:=fun q=>q=ge) wr ⟨ge,k,none⟩ _ rfl) (fun q hq e=>(h.off q hq).2 e),?_⟩
 have:=(h.ent.stored k (.int .i64 ((q:Int)+1))).1;rw [bLy] at this;exact this
theorem aSv (v:Value) (s:Spc) (A:Option Addr) (kc:Nat) (set:List Bool) (w:World) (h:aDy w v s) (hB:aGb w A s.arcs.length set) (hl:aE3 s=true) (hto:∀ k,∀ x∈aA8 s.arcs k,0<=x.2/\x.2<(s.arcs.length:Int)) :
  Calls prog 88 #[v,.slice A s.arcs.length kc] w fun e w'=>∃ o Ao co,e = .returned (.slice Ao o.length co)/\OrdP s.arcs set s.arcs.length o/\w'.ownsRow (w.heap.size+1) 3 1 (.slice Ao o.length co) o.length (o.map aPv)/\Bel w w':=by
 have HS:=aA0 (fun w' (k:Bel w w')=>h.keep k);obtain ⟨_,hle,h70⟩:=aBo hl;obtain ⟨AE,cE,AA,cA,rfl,hE,hA,_,_,_,_⟩:=h;have HA:=aA0 (fun w' (k:Bel w w')=>hA.keep k);have HSET:=aA0 (fun w' (k:Bel w w')=>hB.keep k);have hsl:set.length=s.arcs.length:=hB.1;have HTO:=aA0 hto;have HLI:=aA0 hl
 have H70:Hid (∀ k,(aA8 s.arcs k).length<=70):=fun k=>by
  unfold aA8;rw [List.getD_eq_getElem?_getD];cases hx:s.arcs[k]? with
  | none=>simp
  | some l=>exact h70 l (List.mem_of_getElem? hx)
 clear hl hE hA hto h70 hB;obtain ⟨j0,hj0,hj1,hj2,hj3⟩:=aBy aJr;obtain ⟨W0,hW0⟩:∃ W:World,W=w.alloc (.cells #[.slice AE s.enabled.length cE,.slice AA s.arcs.length cA] 42):=⟨_,rfl⟩;have e0:W0.heap.size=w.heap.size+1:=by rw [hW0];exact World.size_alloc _ _
 have HW0:Hid (Bel w W0):=by rw [hW0];exact (Bel.refl w).alloc _
 have HBX:Hid (Blk W0 w.heap.size #[.slice AE s.enabled.length cE,.slice AA s.arcs.length cA] 42):=by rw [hW0];exact Blk.new w _ _
 go_enter func88,ntmps88
 go_wp2_with fail
 rw [<- hW0];clear hW0;have hI:W0.ownsRow W0.heap.size 3 1 (.slice none 0 0) 0 []:=World.ownsRow_nil _ _ _ _
 go_loopg [5,6,7,15] s.arcs.length (fun m y _a _b z wr=>∃ (k:Nat) (Ao:Option Addr) (co:Nat),k<=s.arcs.length/\m=s.arcs.length-k/\z = .int .i64 (k:Int)/\y = .slice Ao (aGc set k).length co/\Hid (wr.ownsRow W0.heap.size 3 1 (.slice Ao (aGc set k).length co) (aGc set k).length ((aGc set k).map aPv))/\Bel W0 wr)
 case atStart=>exact ⟨0,none,0,by omega,rfl,rfl,rfl,hI,Bel.refl _⟩
 case round =>
  clear hI;obtain ⟨k,Ao,co,hk,rfl,rfl,rfl,HO,HB⟩:=hrel
  by_cases hlt:k<s.arcs.length
  .have hd0:decide (k<s.arcs.length)=true:=by simpa using hlt
   obtain ⟨bA,oA,rfl,hbA,x1⟩:=(HSET.out _ (HW0.out.trans HB)).at_ k (by rw [hsl];exact hlt)
   have hgd:set[k]'(by rw [hsl];exact hlt)=set.getD k false:=by simp [List.getD_eq_getElem?_getD,hsl,hlt]
   have hle2:=aWp set k;rw [hgd] at x1;have HWs:=HB.size;cases hc:set.getD k false with
   | true =>
    rw [hc] at x1
    go_wp2_with (at_builtin;refine aCh _ rfl (.tmp 21) (.tmp 23) 22 rfl W0.heap.size 3 j0 (.int .i64 0) 1 8 underlying22 hj0 hj1 hj2 hj3 rfl (by decide) Ao (aGc set k).length co ((aGc set k).map aPv) (by simp [Act.eval]) (HO.out.alloc _) wr.heap.size #[.int .i64 (k:Int)] 3 (0,0) (by simp [Act.eval]) (aB4 _ _) rfl (aOe _ _) (by unfold maxLen;omega) (by omega) (by simp;omega) ?_;intro A2 c2 w4 hown hgr hat;have HN:=aA0 hown;have HB4:=(HB.alloc (.cells #[.int .i64 (k:Int)] 3)).push (HO.out.alloc _) hgr;clear hown hgr hat)
    go_roundg (s.arcs.length-(k+1))
    case rel=>exact ⟨k+1,A2,c2,by omega,rfl,by go_num,by rw [aSr hc,List.length_append];rfl,by rw [aSr hc,List.length_append,List.map_append];exact HN.out,HB4⟩
    case measure=>omega
   | false =>
    rw [hc] at x1
    go_wp2_with fail
    go_roundg (s.arcs.length-(k+1))
    case rel=>exact ⟨k+1,Ao,co,by omega,rfl,by go_num,by rw [aWq hc],by rw [aWq hc];exact HO.out,HB⟩
    case measure=>omega
  .obtain rfl:k=s.arcs.length:=by omega
   have hd0:decide (s.arcs.length<s.arcs.length)=false:=by simp
   have hle2:=aWp set s.arcs.length;have hx1:=(HBX.out.keep HB).cell 0 (v := .slice AE s.enabled.length cE) rfl;have hx2:=(HBX.out.keep HB).cell 1 (v := .slice AA s.arcs.length cA) rfl;have hxl:=(HBX.out.keep HB).lt;have HB':=aA0 HB
   go_wp2_with (first
    | (go_at_call 129;refine (aX2 _ s _ (HS.out _ (HW0.out.trans HB'.out)) HLI.out HTO.out).mono ?_;rintro e ws ⟨gP,hs,rfl,hsg,hb⟩;have HSG:=aA0 hsg;have HBs:=aA0 hb;clear hsg hb)
    | (at_make;refine aB6 _ rfl 22 (.tmp 29) (.tmp 29) rfl ws.heap.size 3 j0 (.int .i64 0) 1 underlying22 hj0 hj1 hj2 .i64 .i64 s.arcs.length rfl rfl (by rw [hj3];omega) (by unfold maxLen;omega) (Nat.le_refl _) ?_;intro ge we hown hb;rw [aB5 _ rfl] at hown;have HE:=aA0 hown;have HBe:=aA0 hb;clear hown hb))
   have hI:OrI W0 ws (wr.heap.size+1) s set ge Ao co 0 0 (aGc set s.arcs.length) (List.replicate s.arcs.length 0) we:=by
    have hsz:=HBs.out.size;have hge:=(aAb HE.out).1;have hsg:=HSG.out.lt;refine ⟨HB'.out.trans (HBs.out.trans HBe.out),Agr.bel' HBe.out,HBe.out.owns (HBs.out.owns HO.out),fun q hq=>?_,?_,OrdJ.start _ _ _⟩
    .have:=(HO.out.lt q hq).2
     exact ⟨.inl (by omega),by omega⟩
    .rw [List.map_replicate];exact HE.out
   have hB1:wr.heap.size+1<=gP:=HSG.out.lt.1;have hB2:gP<ws.heap.size:=HSG.out.lt.2;have hW0s:W0.heap.size<=ws.heap.size:=(HB'.out.trans HBs.out).size;have hW0r:=HB'.out.size;clear HB' HO HE HB hx1 hx2 hxl hle2 HBs HBe;generalize wr.heap.size+1=B1 at *;generalize hO0:aGc set s.arcs.length=o0 at *;clear hO0
   go_loopg [5,10,12] s.arcs.length (fun m y z _a wr=>∃ (i:Nat) (Ao:Option Addr) (co:Nat) (o e:List Nat),m=s.arcs.length-i/\y = .slice Ao o.length co/\z = .int .i64 (i:Int)/\Hid (OrI W0 ws B1 s set ge Ao co i 0 o e wr))
   case atStart=>exact ⟨0,Ao,co,o0,_,by omega,rfl,rfl,hI⟩
   case round =>
    clear hI;obtain ⟨wo,rfl⟩:∃ wo:World,wo=wr:=⟨_,rfl⟩;obtain ⟨i,Ao,co,o,e,rfl,rfl,rfl,HI⟩:=hrel
    by_cases hlt:i<o.length
    .have hd1:decide (i<o.length)=true:=by simpa using hlt
     have hxn:o[i]<s.arcs.length:=HI.out.inv.lt _ (List.getElem_mem hlt);obtain ⟨g0,rfl,_,l0,c0,_⟩:=aAn HI.out.ord (j:=i) (u:=aPv o[i]) (by simp [hlt])
     obtain ⟨A2,k2,hc,_,ho,_⟩:=HSG.out.head (aZ1 hxn);have hcr:=(HI.out.agr.cell hB2 (by omega)).trans hc
     have hgd:o.getD i 0=o[i]:=by simp [List.getD_eq_getElem?_getD,hlt]
     have HO:=aA0 ho;have hgl:=Nat.lt_of_lt_of_le hB2 HI.out.agr.size;have hxd:decide (o[i]<s.arcs.length)=true:=by simpa using hxn
     unfold aPv at c0;clear hc ho;have HGD:=aA0 hgd;clear hgd;generalize hx:o[i]=x at *;clear hx;have hll:(aF9 s.arcs s.arcs.length x).length<=50000:=aTl (aZ1 hxn) (by omega) H70.out
     generalize hL:aF9 s.arcs s.arcs.length x=l at *;have HL:=aA0 hL;clear hL
     go_wp2_with fail
     clear hcr c0
     go_loopg [5,12,45] l.length (fun m y _a z wr=>∃ (j:Nat) (Ao:Option Addr) (co:Nat) (o e:List Nat),j<=l.length/\m=l.length-j/\y = .slice Ao o.length co/\z = .int .i64 (j:Int)/\i<o.length/\Hid (o.getD i 0=x)/\Hid (OrI W0 ws B1 s set ge Ao co i j o e wr))
     case atStart=>exact ⟨0,_,_,_,_,by omega,by omega,rfl,rfl,hlt,HGD,HI⟩
     case round =>
      clear HI HGD hlt hd1 l0;obtain ⟨wq,rfl⟩:∃ wq:World,wq=wr:=⟨_,rfl⟩;obtain ⟨j,Ao,co,o,e,hj,rfl,rfl,rfl,hlt,HGD,HI⟩:=hrel
      by_cases hlt2:j<l.length
      .have hd1:decide (j<l.length)=true:=by simpa using hlt2
       have hol:=HI.out.inv.len;have hkn:l[j]<s.arcs.length:=bJy (s:=s.arcs) (t:=x) (by rw [HL.out];exact List.getElem_mem hlt2)
       have hB1w:B1<=ws.heap.size:=by omega
       obtain ⟨g2,rfl,hg2a,hg2b,c1,_⟩:=aAn (aBs HO.out HI.out.agr (fun q hq=>by obtain ⟨a,b⟩:=HO.out.lt q hq;omega)) (bOc l j hlt2)
       have hel:=HI.out.inv.el;obtain ⟨g3,e3,hg3a,hg3b,c2,f2⟩:=aAn HI.out.ent (j:=l[j]) (u:=aPv (e.getD l[j] 0)) (by simp [List.getD_eq_getElem?_getD,hel,hkn])
       obtain rfl:ge=g3:=by simpa using e3
       have hsm:=HI.out.inv.small H70.out hkn;obtain ⟨k,hkE⟩:∃ k,k=l[j]:=⟨_,rfl⟩;obtain ⟨q,hqE⟩:∃ q,q=e.getD l[j] 0:=⟨_,rfl⟩;rw [<- hqE] at c2 hsm;rw [<- hkE] at c1 c2 f2 hkn hqE;have hke:=aA0 hkE;have hqe:=aA0 hqE;clear hkE hqE e3;unfold aPv at c1 c2;have hkd:decide (k<s.arcs.length)=true:=by simpa using hkn
       go_upto_region 17 with fail
       obtain ⟨B5,AG5,OR5,EN5⟩:=HI.out.put hW0s k q;have OFF:=aA0 HI.out.off;have INV:=aA0 HI.out.inv;have hws5:=AG5.size;clear HI c1 c2 f2 hg2a hg2b hg3b;generalize wq.setCell ⟨ge,k,none⟩ (.int .i64 ((q:Int)+1))=w5 at *;have BE5:=aA0 B5;have AGR5:=aA0 AG5;have ORD5:=aA0 OR5;have ENT5:=aA0 EN5;clear B5 AG5 OR5 EN5;obtain ⟨bA,oA,rfl,hbA,x1⟩:=(HSET.out _ (HW0.out.trans BE5.out)).at_ k (by rw [hsl];exact hkn)
       have hgs:set[k]'(by rw [hsl];exact hkn)=set.getD k false:=by simp [List.getD_eq_getElem?_getD,hsl,hkn]
       rw [hgs] at x1;obtain ⟨bB,oB,R,rc,rfl,hbB,x2,_,_,_⟩:=(HA.out _ (HW0.out.trans BE5.out)).at_ k hkn;have hark:s.arcs[k]=aA8 s.arcs k:=by simp [aA8,hkn]
       rw [hark] at x2;have y1:=(HBX.out.keep BE5.out).cell 1 (v := .slice (some ⟨bB,oB,none⟩) s.arcs.length cA) rfl;have yl:=(HBX.out.keep BE5.out).lt;obtain ⟨g4,e4,_,hg4b,c5,_⟩:=aAn ENT5.out (j:=k) (u:=aPv (q+1)) (by rw [List.getElem?_map,List.getElem?_set_self (by omega)];rfl)
       obtain rfl:ge=g4:=by simpa using e4
       have c5':w5.cell? ⟨ge,k,none⟩=some (.int .i64 ((q:Int)+1)):=c5;clear c5 e4 hgs hark;cases hc:set.getD k false with
       | true =>
        rw [hc] at x1
        go_quiet (fail)
        go_wp2_with fail
        go_roundg (l.length-(j+1))
        case rel=>exact ⟨j+1,Ao,co,o,e.set k (q+1),by omega,rfl,rfl,by go_num,hlt,HGD.out,BE5.out.drewN _,AGR5.out.drewN _,ORD5.out,OFF.out,ENT5.out,INV.out.step' hlt (by rw [HGD.out];exact HL.out) hlt2 hke.out hqe.out (by rw [if_neg (by rw [hc];simp)])⟩
        case measure=>omega
       | false =>
        rw [hc] at x1
        by_cases hq:q+1=(aA8 s.arcs k).length
        .have hqd:decide ((q:Int)+1=((aA8 s.arcs k).length:Int))=true:=by simpa using (by omega:(q:Int)+1=((aA8 s.arcs k).length:Int))
         have hqd2:((q:Int)+1==((aA8 s.arcs k).length:Int))=true:=by rw [beq_iff_eq];omega
         go_quiet (fail)
         have hW05:W0.heap.size<=w5.heap.size:=by omega
         have hgew:ge<w5.heap.size:=hg4b
         go_wp2_with (at_builtin;refine aCh _ rfl (.tmp 73) (.tmp 75) 22 rfl W0.heap.size 3 j0 (.int .i64 0) 1 8 underlying22 hj0 hj1 hj2 hj3 rfl (by decide) Ao o.length co (o.map aPv) (by simp [Act.eval]) ((bOg ORD5.out _).alloc _) w5.heap.size #[.int .i64 (k:Int)] 3 (0,0) (by simp [Act.eval]) (aB4 _ _) rfl (aOe _ _) (by unfold maxLen;omega) (by omega) (by simp;omega) ?_;intro A6 c6 w6 hown hgr hat;have HN:=aA0 hown;have HGR:=aA0 hgr;have HAT:=aA0 hat;clear hown hgr hat)
         go_roundg (l.length-(j+1))
         case rel =>
          have hge:ws.heap.size<=ge:=(aAb ENT5.out).1;have hsz6:∀ nq,((w5.drewN nq).alloc (.cells #[.int .i64 (k:Int)] 3)).heap.size=w5.heap.size+1:=fun nq=>World.size_alloc _ _;refine ⟨j+1,A6,c6,o++[k],e.set k (q+1),by omega,rfl,by rw [List.length_append];rfl,by go_num,by rw [List.length_append];omega,?_,((BE5.out.drewN _).alloc _).push ((bOg ORD5.out _).alloc _) HGR.out,?_,?_,?_,?_,INV.out.step' hlt (by rw [HGD.out];exact HL.out) hlt2 hke.out hqe.out (by rw [if_pos ⟨hc,hq⟩])⟩
          .show (o++[k]).getD i 0=x
           rw [<- HGD.out];simp [List.getD_eq_getElem?_getD,List.getElem?_append_left hlt]
          .refine ((AGR5.out.drewN _).trans (Agr.alloc _ _ _)).trans (Agr.grownV HGR.out (fun q hq=>(OFF.out q hq.symm).1))
          .rw [List.length_append,List.map_append];exact HN.out
          .intro q' hq'
           rw [List.length_append] at hq'
           rcases HAT.out with e | e
           .exact OFF.out q' (e ▸ hq')
           .have:some q'=some (w5.heap.size+1):=by rw [<- hsz6 _,<- e];exact hq'.symm
            injection this with this
            exact ⟨.inr (by omega),by omega⟩
          .exact World.ownsRow.kept ((bOg ENT5.out _).alloc _) HGR.out (.inr (fun e=>(OFF.out ge (by rw [<- e];rfl)).2 rfl))
         case measure=>omega
        .have hqd2:((q:Int)+1==((aA8 s.arcs k).length:Int))=false:=by rw [beq_eq_false_iff_ne];omega
         go_quiet (fail)
         go_wp2_with fail
         go_roundg (l.length-(j+1))
         case rel=>exact ⟨j+1,Ao,co,o,e.set k (q+1),by omega,rfl,rfl,by go_num,hlt,HGD.out,BE5.out.drewN _,AGR5.out.drewN _,ORD5.out,OFF.out,ENT5.out,INV.out.step' hlt (by rw [HGD.out];exact HL.out) hlt2 hke.out hqe.out (by rw [if_neg (fun hh=>hq hh.2)])⟩
         case measure=>omega
      .obtain rfl:j=l.length:=by omega
       have hd1:decide (l.length<l.length)=false:=by simp
       have hol:=HI.out.inv.len
       go_wp2_with fail
       go_roundg (s.arcs.length-(i+1))
       case rel=>exact ⟨i+1,Ao,co,o,e,rfl,rfl,by go_num,⟨HI.out.bel,HI.out.agr,HI.out.ord,HI.out.off,HI.out.ent,HI.out.inv.next hlt (by rw [HGD.out,HL.out])⟩⟩
       case measure=>omega
    .have hie:i=o.length:=by have:=HI.out.inv.le;omega
     have hd1:decide (i<o.length)=false:=by simp;omega
     go_wp2_with fail
     refine bodyPost_ret (v := .slice Ao o.length co) (by simp [results,Tryz.results88]) rfl ?_
     exact ⟨o,Ao,co,rfl,HI.out.inv.fin hie,by rw [<- e0];exact HI.out.ord,HW0.out.trans HI.out.bel⟩
theorem bC5 {E:Nat} {n:Int}:∀ {b:Nat} {l:List (Nat × Int)},aKz E n b l=true->∀ x∈l,0<=x.2/\x.2<n
 | _,[],_,x,hx=>by cases hx
 | b,y :: l,h,x,hx=>by
  unfold aKz at h;simp only [Bool.and_eq_true,decide_eq_true_eq] at h
  rcases List.mem_cons.1 hx with rfl | hx
  .exact ⟨h.1.1.2,h.1.2⟩
  .exact bC5 h.2 x hx
theorem aDa {s:Spc} (h:aD5 s=true):s.arcs.length=s.enabled.length/\∀ k,k<s.enabled.length->aBz (s.enabled.getD k 0) s.enabled.length (s.arcs.getD k [])=true:=by
 unfold aD5 at h;simp only [Bool.and_eq_true,decide_eq_true_eq,List.all_eq_true,List.mem_range] at h
 exact ⟨h.1.2,h.2⟩
theorem aNe {s:Spc} (h:aD5 s=true):∀ k,∀ x∈aA8 s.arcs k,0<=x.2/\x.2<(s.arcs.length:Int):=by
 obtain ⟨h1,h2⟩:=aDa h;intro k x hx
 by_cases hk:k<s.enabled.length
 .have:=h2 k hk
  unfold aBz at this;rw [Bool.and_eq_true] at this;rw [h1];exact bC5 this.2 x hx
 .have:aA8 s.arcs k=[]:=by unfold aA8;rw [List.getD_eq_getElem?_getD,List.getElem?_eq_none (by omega)];rfl
  rw [this] at hx;cases hx
theorem aTv (v:Value) (s:Spc) (A:Option Addr) (kc:Nat) (set:List Bool) (w:World) (h:aDy w v s) (hB:aGb w A s.arcs.length set) (hl:aE3 s=true) (hwf:wfS s) (hv:aD5 s=true) (hall:∀ o,OrdP s.arcs set s.arcs.length o->s.arcs.length<=o.length) :
  Calls prog 72 #[v,.slice A s.arcs.length kc] w fun e w'=>∃ o Ao co,e = .returned (.tuple #[.slice Ao o.length co,.int .i64 0])/\OrdP s.arcs set s.arcs.length o/\w'.ownsRow (w.heap.size+1) 3 1 (.slice Ao o.length co) o.length (o.map aPv)/\Bel w w':=by
 have HS:=aA0 (fun w' (k:Bel w w')=>h.keep k);obtain ⟨AE,cE,AA,cA,rfl,hE,hA,_,_,_,_⟩:=h;have HSET:=aA0 (fun w' (k:Bel w w')=>hB.keep k);have HTO:=aA0 (aNe hv);have HN:=aA0 (aDa hv).1;have HL:=aA0 hl;have HWF:=aA0 hwf;have HV:=aA0 hv;have HALL:=aA0 hall;clear hl hE hA hB hwf hv hall;obtain ⟨W0,hW0⟩:∃ W:World,W=w.alloc (.cells #[.slice AE s.enabled.length cE,.slice AA s.arcs.length cA] 42):=⟨_,rfl⟩;have e0:W0.heap.size=w.heap.size+1:=by rw [hW0];exact World.size_alloc _ _
 have HW0:Hid (Bel w W0):=by rw [hW0];exact (Bel.refl w).alloc _
 have HBX:Hid (Blk W0 w.heap.size #[.slice AE s.enabled.length cE,.slice AA s.arcs.length cA] 42):=by rw [hW0];exact Blk.new w _ _
 go_enter func72,ntmps72
 go_wp2_with (first
  | (rw [<- hW0];refine (aSt _ s _ _ _ _ (HS.out _ HW0.out) HWF.out HL.out HV.out HN.out).mono ?_;rintro e w1 ⟨rfl,hb⟩;have HB1:=aA0 hb;have x0:=(HBX.out.keep hb).cell 0 (v := .slice AE s.enabled.length cE) rfl;have x1:=(HBX.out.keep hb).cell 1 (v := .slice AA s.arcs.length cA) rfl;have xl:=(HBX.out.keep hb).lt;clear hb)
  | (refine (aSv _ s _ _ set _ (HS.out _ (HW0.out.trans HB1.out)) (HSET.out _ (HW0.out.trans HB1.out)) HL.out HTO.out).mono ?_;rintro e w2 ⟨o,Ao,co,rfl,ho,hown,hb⟩;have HO:=aA0 ho;have HOW:=aA0 hown;have HB2:=aA0 hb;have hnl:decide (o.length<s.arcs.length)=false:=(by have:=HALL.out o ho;simp;omega);clear ho hown hb))
 refine bodyPost_ret (v := .tuple #[.slice Ao o.length co,.int .i64 0]) (by simp [results,Tryz.results72]) rfl ?_
 exact ⟨o,Ao,co,rfl,HO.out,aB9 HOW.out (by have:=HB1.out.size;omega),HW0.out.trans (HB1.out.trans HB2.out)⟩
structure GtI (W0 wm:World) (n gr:Nat) (f:Nat->Int) (r:List Int) (wr:World):Prop where
 bel:Bel W0 wr
 agr:Agr (fun q=>q=gr∨wm.heap.size<=q) wm wr
 res:wr.ownsRow W0.heap.size 3 1 (.slice (some ⟨gr,0,none⟩) n n) n (r.map (Value.int .i64))
 len:r.length=n
 bnd:∀ k,k<n->0<=r.getD k 0/\r.getD k 0<=f k
theorem GtI.keep {W0 wm:World} {n gr:Nat} {f:Nat->Int} {r:List Int} {wr w':World} (h:GtI W0 wm n gr f r wr) (hb:Bel wr w'):GtI W0 wm n gr f r w' :=
 ⟨h.bel.trans hb,h.agr.trans (Agr.bel' hb),hb.owns h.res,h.len,h.bnd⟩
theorem GtI.put {W0 wm:World} {n gr:Nat} {f:Nat->Int} {r:List Int} {wr:World} (h:GtI W0 wm n gr f r wr) {k:Nat} {x:Int} (hk:k<n) (h0:0<=x) (h1:x<=f k):GtI W0 wm n gr f (r.set k x) (wr.setCell ⟨gr,k,none⟩ (.int .i64 x)):=by
 have hb:=aAb h.res;refine ⟨h.bel.setCell hb.1 _,h.agr.trans (Agr.setCell _ _ _ (.inl rfl)),?_,by rw [List.length_set];exact h.len,fun j hj=>?_⟩
 .have:=(h.res.stored k (.int .i64 x)).1
  rw [List.map_set];exact this
 .by_cases e:k=j
  .subst e
   have:(r.set k x).getD k 0=x:=by simp [List.getD_eq_getElem?_getD,h.len,hk]
   rw [this];exact ⟨h0,h1⟩
  .have:(r.set k x).getD j 0=r.getD j 0:=by simp [List.getD_eq_getElem?_getD,List.getElem?_set_ne e]
   rw [this];exact h.bnd j hj
theorem GtI.at_ {W0 wm:World} {n gr:Nat} {f:Nat->Int} {r:List Int} {wr:World} (h:GtI W0 wm n gr f r wr) {k:Nat} (hk:k<n):wr.cell? ⟨gr,k,none⟩=some (.int .i64 (r.getD k 0))/\wr.frozen? ⟨gr,k,none⟩=false/\gr<wr.heap.size:=by
 obtain ⟨g,e,_,h1,h2,h3⟩:=aAn h.res (j:=k) (u := .int .i64 (r.getD k 0)) (by simp [List.getD_eq_getElem?_getD,h.len,hk])
 obtain rfl:gr=g:=by simpa using e
 exact ⟨h2,h3,h1⟩
theorem aOv (fn:FuncId) (cost:Nat × Int->Int) (hfn:∀ (x:Nat × Int) (w:World),x.1<4294967296->Calls prog fn #[.agg #[.int .u32 (x.1:Int),.int .i64 x.2]] w fun e w'=>e = .returned (.int .i64 (cost x))/\Bel w w')
  (hcall:∀ (a:Value) (w:World),(callFunc fn #[a]).run prog w = .ok (.enter fn #[a]) w)
  (v:Value) (s:Spc) (A:Option Addr) (kc:Nat) (set:List Bool) (w:World) (h:aDy w v s) (hB:aGb w A s.arcs.length set) (hl:aE3 s=true) (hwf:wfS s) (hv:aD5 s=true) (hall:∀ o,OrdP s.arcs set s.arcs.length o->s.arcs.length<=o.length)
  (f:Nat->Int) (hf:CostP s.arcs set s.arcs.length cost f) :
  Calls prog 70 #[v,.slice A s.arcs.length kc,.func (.func fn) #[] #[]] w fun e w'=>∃ (r:List Int) (Ao:Option Addr) (co:Nat),e = .returned (.tuple #[.slice Ao s.arcs.length co,.int .i64 0])/\r.length=s.arcs.length/\(∀ k,k<s.arcs.length->0<=r.getD k 0/\r.getD k 0<=f k)/\w'.ownsRow (w.heap.size+1) 3 1 (.slice Ao s.arcs.length co) s.arcs.length (r.map (Value.int .i64))/\Bel w w':=by
 have HS:=aA0 (fun w' (k:Bel w w')=>h.keep k);obtain ⟨_,hle,h70⟩:=aBo hl;obtain ⟨AE,cE,AA,cA,rfl,hE,hA,_,_,_,_⟩:=h;have HA:=aA0 (fun w' (k:Bel w w')=>hA.keep k);have HSET:=aA0 (fun w' (k:Bel w w')=>hB.keep k);have hsl:set.length=s.arcs.length:=hB.1;have HTO:=aA0 (aNe hv);have HL:=aA0 hl;have HWF:=aA0 hwf;have HV:=aA0 hv;have HALL:=aA0 hall;have HF:=aA0 hf;have HFN:=aA0 hfn
 have H70:Hid (∀ k,(aA8 s.arcs k).length<=70):=fun k=>by
  unfold aA8;rw [List.getD_eq_getElem?_getD];cases hx:s.arcs[k]? with
  | none=>simp
  | some l=>exact h70 l (List.mem_of_getElem? hx)
 have HW32:Hid (∀ k,∀ x∈aA8 s.arcs k,x.1<4294967296):=fun k x hx=>by
  unfold aA8 at hx;rw [List.getD_eq_getElem?_getD] at hx;cases hk:s.arcs[k]? with
  | none=>rw [hk] at hx;cases hx
  | some l=>rw [hk] at hx;exact hwf.2 l (List.mem_of_getElem? hk) x hx
 clear hl hE hA hB hwf hv hall hf hfn h70;obtain ⟨j0,hj0,hj1,hj2,hj3⟩:=aBy aJr;obtain ⟨W0,hW0⟩:∃ W:World,W=w.alloc (.cells #[.slice AE s.enabled.length cE,.slice AA s.arcs.length cA] 42):=⟨_,rfl⟩;have e0:W0.heap.size=w.heap.size+1:=by rw [hW0];exact World.size_alloc _ _
 have HW0:Hid (Bel w W0):=by rw [hW0];exact (Bel.refl w).alloc _
 have HBX:Hid (Blk W0 w.heap.size #[.slice AE s.enabled.length cE,.slice AA s.arcs.length cA] 42):=by rw [hW0];exact Blk.new w _ _
 go_enter func70,ntmps70
 go_wp2_with (first
  | (rw [<- hW0];refine (aTv _ s _ _ set _ (HS.out _ HW0.out) (HSET.out _ HW0.out) HL.out HWF.out HV.out HALL.out).mono ?_;rintro e w1 ⟨o,Ao,co,rfl,ho,hown,hb⟩;have HO:=aA0 ho;have HOW:=aA0 hown;have HB1:=aA0 hb;clear ho hown hb)
  | (at_make;refine aB6 _ rfl 22 (.tmp 25) (.tmp 25) rfl w1.heap.size 3 j0 (.int .i64 0) 1 underlying22 hj0 hj1 hj2 .i64 .i64 s.arcs.length rfl rfl (by rw [hj3];omega) (by unfold maxLen;omega) (Nat.le_refl _) ?_;intro gr wm hown hb;rw [aB5 _ rfl] at hown;have HR:=aA0 hown;have HBm:=aA0 hb;clear hown hb))
 have hW01:=HB1.out.size;have hgr:=aAb HR.out
 have hI:GtI W0 wm s.arcs.length gr f (List.replicate s.arcs.length 0) wm:=by
  refine ⟨HB1.out.trans HBm.out,Agr.refl _ _,aB9 (by rw [List.map_replicate];exact HR.out) hW01,by simp,fun k hk=>?_⟩
  have:(List.replicate s.arcs.length (0:Int)).getD k 0=0:=by simp [List.getD_eq_getElem?_getD,hk]
  rw [this];exact ⟨by omega,(HF.out.pos k hk).1⟩
 have HOm:=aA0 (HBm.out.owns HOW.out)
 have HOl:Hid (∀ q,(Value.slice Ao o.length co).ownBlock=some q->q≠gr/\q<wm.heap.size):=fun q hq=>by
  have h1:=(HOW.out.lt q hq).2;have h2:=(HOm.out.lt q hq).2;exact ⟨by omega,h2⟩
 have hol:=HO.out.len;clear HR HOW
 go_loopg [12,29] o.length (fun m _x z wr=>∃ (i:Nat) (r:List Int),i<=o.length/\m=o.length-i/\z = .int .i64 (i:Int)/\Hid (GtI W0 wm s.arcs.length gr f r wr))
 case atStart=>exact ⟨0,_,by omega,rfl,rfl,hI⟩
 case round =>
  clear hI;obtain ⟨wo,rfl⟩:∃ wo:World,wo=wr:=⟨_,rfl⟩;obtain ⟨i,r,hi,rfl,rfl,HI⟩:=hrel
  by_cases hlt:i<o.length
  .have hd0:decide (i<o.length)=true:=by simpa using hlt
   have hkn:o[i]<s.arcs.length:=HO.out.lt _ (List.getElem_mem hlt);have hag:=HI.out.agr.size;obtain ⟨g0,rfl,_,l0,c0,_⟩:=aAn (aBs HOm.out HI.out.agr (fun q hq e=>by have:=HOl.out q hq;omega)) (j:=i) (u:=aPv o[i]) (by simp [hlt])
   unfold aPv at c0;obtain ⟨k,hk⟩:∃ k,k=o[i]:=⟨_,rfl⟩;rw [<- hk] at c0 hkn;clear hk;have hkd:decide (k<s.arcs.length)=true:=by simpa using hkn
   obtain ⟨bA,oA,rfl,hbA,x1⟩:=(HSET.out _ (HW0.out.trans HI.out.bel)).at_ k (by rw [hsl];exact hkn)
   have hgs:set[k]'(by rw [hsl];exact hkn)=set.getD k false:=by simp [List.getD_eq_getElem?_getD,hsl,hkn]
   rw [hgs] at x1;cases hc:set.getD k false with
   | true =>
    rw [hc] at x1
    go_wp2_with fail
    go_roundg (o.length-(i+1))
    case rel=>exact ⟨i+1,r,by omega,rfl,by go_num,HI.out⟩
    case measure=>omega
   | false =>
    rw [hc] at x1;obtain ⟨bB,oB,R,rc,rfl,hbB,x20,hR,_,_⟩:=(HA.out _ HW0.out).at_ k hkn;have hark:s.arcs[k]=aA8 s.arcs k:=by simp [aA8,hkn]
    rw [hark] at x20 hR;have x2:=(HI.out.bel.cell hbB).trans x20;have hbB2:=Nat.lt_of_lt_of_le hbB HI.out.bel.size;have HRR:=aA0 (fun w' (kk:Bel W0 w')=>hR.keep kk);have y1:=(HBX.out.keep HI.out.bel).cell 1 (v := .slice (some ⟨bB,oB,none⟩) s.arcs.length cA) rfl;have yl:=(HBX.out.keep HI.out.bel).lt;have hJ:=H70.out k;have HGO:=aA0 (HF.out.go k hkn hc);have hfk:=(HF.out.pos k hkn).2;clear hR x20 hbB
    go_wp2_with fail
    clear c0 x1 x2 y1 yl
    go_loopg [14,43] (aA8 s.arcs k).length (fun m _y z wr=>∃ (j:Nat) (r:List Int),j<=(aA8 s.arcs k).length/\m=(aA8 s.arcs k).length-j/\z = .int .i64 (j:Int)/\Hid (GtI W0 wm s.arcs.length gr f r wr))
    case atStart=>exact ⟨0,r,by omega,rfl,rfl,HI.out⟩
    case round =>
     clear HI;obtain ⟨j,r,hj,rfl,rfl,HI⟩:=hrel
     by_cases hlt2:j<(aA8 s.arcs k).length
     .have hd1:decide (j<(aA8 s.arcs k).length)=true:=by simpa using hlt2
      obtain ⟨b2,o2,rfl,hb2,c0,c1⟩:=aAc.at_ (HRR.out _ HI.out.bel) j hlt2;have hmem:=List.getElem_mem hlt2;obtain ⟨hx1,hx2⟩:=HTO.out k _ hmem;have hx3:=HW32.out k _ hmem;obtain ⟨hx4,hx5⟩:=HGO.out _ hmem;generalize (aA8 s.arcs k)[j]=x at *;clear hmem;have htK:x.2=((toK x:Nat):Int):=by unfold toK;omega
      have htl:toK x<s.arcs.length:=by unfold toK;omega
      have HFX:Hid (∀ w,Calls prog fn #[.agg #[.int .u32 (x.1:Int),.int .i64 ((toK x:Nat):Int)]] w fun e w'=>e = .returned (.int .i64 (cost x))/\Bel w w'):=fun w=>by rw [<- htK];exact HFN.out x w hx3
      rw [htK] at c1;obtain ⟨hb0,hb1⟩:=HI.out.bnd (toK x) htl;obtain ⟨hb3,hb4⟩:=HI.out.bnd k hkn;clear htK hx1 hx2 hx3;generalize toK x=t at *;generalize x.1=S at *;generalize cost x=cx at *;have htd:decide (t<s.arcs.length)=true:=by simpa using htl
      go_wp2_with fail
      have HBX2:=aA0 (Blk.new wr #[.int .u32 (S:Int),.int .i64 (t:Int)] 108);have HIx:=aA0 (HI.out.keep ((Bel.refl wr).alloc (.cells #[.int .u32 (S:Int),.int .i64 (t:Int)] 108)));clear c0 c1 HI;generalize wr.alloc (.cells #[.int .u32 (S:Int),.int .i64 (t:Int)] 108)=wx at *;generalize wr.heap.size=bx at *;obtain ⟨rk,hrk⟩:∃ z,z=r.getD k 0:=⟨_,rfl⟩;obtain ⟨rt,hrt⟩:∃ z,z=r.getD t 0:=⟨_,rfl⟩
      have hcell:Hid (∀ w',Bel wx w'->w'.cell? ⟨gr,k,none⟩=some (.int .i64 rk)/\w'.cell? ⟨gr,t,none⟩=some (.int .i64 rt)/\w'.cell? ⟨bx,0,none⟩=some (.int .u32 (S:Int))/\w'.cell? ⟨bx,1,none⟩=some (.int .i64 (t:Int))/\bx<w'.heap.size/\gr<w'.heap.size):=fun w' kk=>by
       have h1:=(HIx.out.keep kk).at_ hkn;have h2:=(HIx.out.keep kk).at_ htl;rw [<- hrk] at h1;rw [<- hrt] at h2;exact ⟨h1.1,h2.1,(HBX2.out.keep kk).cell 0 rfl,(HBX2.out.keep kk).cell 1 rfl,(HBX2.out.keep kk).lt,h1.2.2⟩
      rw [<- hrt] at hb0 hb1;rw [<- hrk] at hb3 hb4;have HRK:=aA0 hrk;clear hrk hrt;have e1:IntKind.i64.wrap (cx+rt)=cx+rt:=IntWalk.i64_in _ (by omega)
      refine aA6.start (fun w'=>w'.cell? ⟨gr,k,none⟩=some (.int .i64 rk)/\w'.cell? ⟨gr,t,none⟩=some (.int .i64 rt)/\w'.cell? ⟨bx,0,none⟩=some (.int .u32 (S:Int))/\w'.cell? ⟨bx,1,none⟩=some (.int .i64 (t:Int))/\bx<w'.heap.size/\gr<w'.heap.size) 17 (by kernel_rfl) ?_
      have HB:=(Bel.refl wx).drew;have hHeld:=hcell.out _ HB
      (refine aA6.t (v:=?_) 0 47 rfl rfl (by kernel_rfl) (fun _ _ _ h=>h) hHeld (Or.inl ⟨by rfl,?_⟩) ?_;rotate_left 1;focus (intro w' hSw;(try dsimp only at hSw);go_simp;(try with_reducible rfl);done));(refine aA6.t (v:=?_) 1 48 rfl rfl (by kernel_rfl) (fun _ _ _ h=>h) hHeld (Or.inl ⟨by rfl,?_⟩) ?_;rotate_left 1;focus (intro w' hSw;(try dsimp only at hSw);go_simp;(try with_reducible rfl);done));(refine aA6.t (v:=?_) 2 49 rfl rfl (by kernel_rfl) (fun _ _ _ h=>h) hHeld (Or.inl ⟨by rfl,?_⟩) ?_;rotate_left 1;focus (intro w' hSw;(try dsimp only at hSw);go_simp;(try with_reducible rfl);done));(refine aA6.t (v:=?_) 3 50 rfl rfl (by kernel_rfl) (fun _ _ _ h=>h) hHeld (Or.inl ⟨by rfl,?_⟩) ?_;rotate_left 1;focus (intro w' hSw;(try dsimp only at hSw);go_simp;(try with_reducible rfl);done));(refine aA6.t (v:=?_) 4 51 rfl rfl (by kernel_rfl) (fun _ _ _ h=>h) hHeld (Or.inl ⟨by rfl,?_⟩) ?_;rotate_left 1;focus (intro w' hSw;(try dsimp only at hSw);go_simp;(try with_reducible rfl);done));(refine aA6.t (v:=?_) 5 52 rfl rfl (by kernel_rfl) (fun _ _ _ h=>h) hHeld (Or.inl ⟨by rfl,?_⟩) ?_;rotate_left 1;focus (intro w' hSw;(try dsimp only at hSw);go_simp;(try with_reducible rfl);done));(refine aA6.t (v:=?_) 6 53 rfl rfl (by kernel_rfl) (fun _ _ _ h=>h) hHeld (Or.inl ⟨by rfl,?_⟩) ?_;rotate_left 1;focus (intro w' hSw;(try dsimp only at hSw);go_simp;(try with_reducible rfl);done));(refine aA6.t (v:=?_) 7 54 rfl rfl (by kernel_rfl) (fun _ _ _ h=>h) hHeld (Or.inl ⟨by rfl,?_⟩) ?_;rotate_left 1;focus (intro w' hSw;(try dsimp only at hSw);go_simp;(try with_reducible rfl);done))
      (refine aA6.t (v:=?_) 9 56 rfl rfl (by kernel_rfl) (fun _ _ _ h=>h) hHeld (Or.inl ⟨by rfl,?_⟩) ?_;rotate_left 1;focus (intro w' hSw;(try dsimp only at hSw);go_simp;(try with_reducible rfl);done));(refine aA6.t (v:=?_) 10 57 rfl rfl (by kernel_rfl) (fun _ _ _ h=>h) hHeld (Or.inl ⟨by rfl,?_⟩) ?_;rotate_left 1;focus (intro w' hSw;(try dsimp only at hSw);go_simp;(try with_reducible rfl);done));(refine aA6.t (v:=?_) 11 58 rfl rfl (by kernel_rfl) (fun _ _ _ h=>h) hHeld (Or.inl ⟨by rfl,?_⟩) ?_;rotate_left 1;focus (intro w' hSw;(try dsimp only at hSw);go_simp;(try with_reducible rfl);done));(refine aA6.t (v:=?_) 12 59 rfl rfl (by kernel_rfl) (fun _ _ _ h=>h) hHeld (Or.inl ⟨by rfl,?_⟩) ?_;rotate_left 1;focus (intro w' hSw;(try dsimp only at hSw);go_simp;(try with_reducible rfl);done));(refine aA6.t (v:=?_) 13 60 rfl rfl (by kernel_rfl) (fun _ _ _ h=>h) hHeld (Or.inl ⟨by rfl,?_⟩) ?_;rotate_left 1;focus (intro w' hSw;(try dsimp only at hSw);go_simp;(try with_reducible rfl);done))
      clear hHeld;refine aA6.one (i:=8) (by kernel_rfl) rfl (fun K hK=>?_)
      go_simp
      refine (HFX.out _).mono ?_
      rintro e w4 ⟨rfl,hbl⟩;have HB4:=HB.trans hbl
      (try go_simp)
      refine hK.out _ _ (fun _=>hcell.out _ HB4) ?_
      clear hK K
      (try simp only [Act.put,List.setIfInBounds_toArray,List.set_cons_zero,List.set_cons_succ])
      have hHeld:=hcell.out _ HB4;have hI4:=(HIx.out.keep HB4).at_ hkn;obtain ⟨q1,q2,q3⟩:=hI4
      (refine aA6.t (v:=?_) 14 61 rfl rfl (by kernel_rfl) (fun _ _ _ h=>h) hHeld (Or.inl ⟨by rfl,?_⟩) ?_;rotate_left 1;focus (intro w' hSw;(try dsimp only at hSw);go_simp;(try with_reducible rfl);done));(refine aA6.t (v:=?_) 15 62 rfl rfl (by kernel_rfl) (fun _ _ _ h=>h) hHeld (Or.inl ⟨by rfl,?_⟩) ?_;rotate_left 1;focus (intro w' hSw;(try dsimp only at hSw);go_simp;(try with_reducible rfl);done));(refine aA6.t (v:=?_) 16 63 rfl rfl (by kernel_rfl) (fun _ _ _ h=>h) hHeld (Or.inl ⟨by rfl,?_⟩) ?_;rotate_left 1;focus (intro w' hSw;(try dsimp only at hSw);go_simp;(try with_reducible rfl);done))
      (refine aA6.one (i:=17) (by kernel_rfl) rfl (fun K hK=>?_));go_simp;refine hK.out _ _ (fun h=>absurd rfl h) ?_;clear hK K;refine aA6.done (by kernel_rfl) ?_ _;(try simp only [Act.put,List.setIfInBounds_toArray,List.set_cons_zero,List.set_cons_succ])
      clear hHeld q1 q2 q3
      go_wp2_with fail
      go_roundg ((aA8 s.arcs k).length-(j+1))
      case rel=>exact ⟨j+1,r.set k (max rk (cx+rt)),by omega,rfl,by go_num,(HIx.out.keep HB4).put hkn (by omega) (by omega)⟩
      case measure=>omega
     .obtain rfl:j=(aA8 s.arcs k).length:=by omega
      have hd1:decide ((aA8 s.arcs k).length<(aA8 s.arcs k).length)=false:=by simp
      go_wp2_with fail
      go_roundg (o.length-(i+1))
      case rel=>exact ⟨i+1,r,by omega,rfl,by go_num,HI.out⟩
      case measure=>omega
  .obtain rfl:i=o.length:=by omega
   have hd0:decide (o.length<o.length)=false:=by simp
   go_wp2_with fail
   refine bodyPost_ret (v := .tuple #[.slice (some ⟨gr,0,none⟩) s.arcs.length s.arcs.length,.int .i64 0]) (by simp [results,Tryz.results70]) rfl ?_
   exact ⟨r,_,_,rfl,HI.out.len,HI.out.bnd,by rw [<- e0];exact HI.out.res,HW0.out.trans HI.out.bel⟩
theorem aUz (x:Nat × Int) (w:World) (hx:x.1<4294967296):Calls prog 71 #[.agg #[.int .u32 (x.1:Int),.int .i64 x.2]] w fun e w'=>e = .returned (.int .i64 ((aAg x.1).length:Int))/\Bel w w':=by
 have hb0:=aA0 ((Bel.refl w).alloc (.cells #[.int .u32 (x.1:Int),.int .i64 x.2] 108));go_enter func71,ntmps71
 go_wp2_with (refine (aPx x.1 _ hx).mono ?_;rintro e w1 ⟨rfl,hb⟩;have HB1:=aA0 (hb0.out.trans hb);clear hb)
 refine bodyPost_ret (v := .int .i64 ((aAg x.1).length:Int)) (by simp [results,Tryz.results71]) rfl ⟨rfl,HB1.out⟩
theorem aSo (v:Value) (s:Spc) (A:Option Addr) (kc:Nat) (set:List Bool) (w:World) (h:aDy w v s) (hB:aGb w A s.arcs.length set) (hl:aE3 s=true) (hwf:wfS s) (hv:aD5 s=true) (hall:∀ o,OrdP s.arcs set s.arcs.length o->s.arcs.length<=o.length)
  (f:Nat->Int) (hf:CostP s.arcs set s.arcs.length (fun x=>((aAg x.1).length:Int)) f) :
  Calls prog 31 #[v,.slice A s.arcs.length kc] w fun e w'=>∃ (r:List Int) (Ao:Option Addr) (co:Nat),e = .returned (.tuple #[.slice Ao s.arcs.length co,.int .i64 0])/\r.length=s.arcs.length/\(∀ k,k<s.arcs.length->0<=r.getD k 0/\r.getD k 0<=f k)/\w'.ownsRow (w.heap.size+1) 3 1 (.slice Ao s.arcs.length co) s.arcs.length (r.map (Value.int .i64))/\Bel w w':=by
 have HS:=aA0 (fun w' (k:Bel w w')=>h.keep k);obtain ⟨AE,cE,AA,cA,rfl,hE,hA,_,_,_,_⟩:=h;have HSET:=aA0 (fun w' (k:Bel w w')=>hB.keep k);have HL:=aA0 hl;have HWF:=aA0 hwf;have HV:=aA0 hv;have HALL:=aA0 hall;have HF:=aA0 hf;clear hl hE hA hB hwf hv hall hf;have hb0:=aA0 ((Bel.refl w).alloc (.cells #[.slice AE s.enabled.length cE,.slice AA s.arcs.length cA] 42));have hle:w.heap.size+1<=(w.alloc (.cells #[.slice AE s.enabled.length cE,.slice AA s.arcs.length cA] 42)).heap.size+1:=by simp
 go_enter func31,ntmps31
 go_wp2_with (refine (aOv 71 (fun x=>((aAg x.1).length:Int)) (fun x w hx=>aUz x w hx) (fun a w=>by kernel_rfl) _ s _ _ set _ (HS.out _ hb0.out) (HSET.out _ hb0.out) HL.out HWF.out HV.out HALL.out f HF.out).mono ?_;rintro e w1 ⟨r,Ao,co,rfl,hr,hbn,hown,hb⟩;have HB1:=aA0 (hb0.out.trans hb);have HR:=aA0 hown;have HBN:=aA0 hbn;clear hown hb hbn)
 refine bodyPost_ret (v := .tuple #[.slice Ao s.arcs.length co,.int .i64 0]) (by simp [results,Tryz.results31]) rfl ?_
 exact ⟨r,Ao,co,rfl,hr,HBN.out,aB9 HR.out hle,HB1.out⟩
theorem aQe (v:Value) (s:Spc) (k S T t:Nat) (w:World) (h:aDy w v s) (hwf:wfS s) (hS:S<4294967296) (hT:T<4294967296) (ht:t<s.enabled.length) :
  Calls prog 74 #[v,pv (k,S),.agg #[.int .u32 (T:Int),.int .i64 (t:Int)]] w fun e w'=>e = .returned (.tuple #[pv (t,aEs S T (s.enabled.getD t 0)),.bool (aSc S T (s.enabled.getD t 0))])/\Bel w w':=by
 obtain ⟨AE,cE,AA,cA,rfl,hE,hA,_,_,_,_⟩:=h;obtain ⟨bE,oE,rfl,hbE0,e0⟩:=hE.at_ t ht;clear hE hA
 have hEl:s.enabled.getD t 0<4294967296:=by
  rw [List.getD_eq_getElem?_getD,List.getElem?_eq_getElem ht];exact hwf.1 _ (List.getElem_mem ht)
 have hgd:s.enabled[t]=s.enabled.getD t 0:=by simp [List.getD_eq_getElem?_getD,ht]
 unfold pv;dsimp only;obtain ⟨W,hW⟩:∃ W:World,W=(((w.alloc (.cells #[.slice (some ⟨bE,oE,none⟩) s.enabled.length cE,.slice AA s.arcs.length cA] 42)).alloc (.cells #[.int .i64 (k:Int),.int .u32 (S:Int)] 150)).alloc (.cells #[.int .u32 (T:Int),.int .i64 (t:Int)] 108)).alloc (.cells #[.int .i64 0,.int .u32 0] 150):=⟨_,rfl⟩;have HB:Hid (Bel w W):=by rw [hW];exact ((((Bel.refl w).alloc _).alloc _).alloc _).alloc _
 have h1:Hid (Blk W w.heap.size #[.slice (some ⟨bE,oE,none⟩) s.enabled.length cE,.slice AA s.arcs.length cA] 42):=by rw [hW];exact (((Blk.new w _ _).alloc _).alloc _).alloc _
 have h2:Hid (Blk W (w.heap.size+1) #[.int .i64 (k:Int),.int .u32 (S:Int)] 150):=by rw [hW];have:=Blk.new (w.alloc (.cells #[.slice (some ⟨bE,oE,none⟩) s.enabled.length cE,.slice AA s.arcs.length cA] 42)) #[.int .i64 (k:Int),.int .u32 (S:Int)] 150;rw [World.size_alloc] at this;exact (this.alloc _).alloc _
 have h3:Hid (Blk W (w.heap.size+1+1) #[.int .u32 (T:Int),.int .i64 (t:Int)] 108):=by rw [hW];have:=Blk.new ((w.alloc (.cells #[.slice (some ⟨bE,oE,none⟩) s.enabled.length cE,.slice AA s.arcs.length cA] 42)).alloc (.cells #[.int .i64 (k:Int),.int .u32 (S:Int)] 150)) #[.int .u32 (T:Int),.int .i64 (t:Int)] 108;rw [World.size_alloc,World.size_alloc] at this;exact this.alloc _
 have h4:Hid (Blk W (w.heap.size+1+1+1) #[.int .i64 0,.int .u32 0] 150):=by rw [hW];have:=Blk.new (((w.alloc (.cells #[.slice (some ⟨bE,oE,none⟩) s.enabled.length cE,.slice AA s.arcs.length cA] 42)).alloc (.cells #[.int .i64 (k:Int),.int .u32 (S:Int)] 150)).alloc (.cells #[.int .u32 (T:Int),.int .i64 (t:Int)] 108)) #[.int .i64 0,.int .u32 0] 150;rw [World.size_alloc,World.size_alloc,World.size_alloc] at this;exact this
 go_enter func74,ntmps74
 go_upto_region 1 with fail
 rw [<- hW];clear hW;have hBS:=HB.out.size;have e1:=(HB.out.cell hbE0).trans e0;have hbE:bE<W.heap.size:=by omega
 clear e0 hBS;generalize hBw:w.heap.size=B at *;have x0:=h1.out.cell 0 (v := .slice (some ⟨bE,oE,none⟩) s.enabled.length cE) rfl;have xl:=h1.out.lt;have y1:=h2.out.cell 1 (v := .int .u32 (S:Int)) rfl;have yl:=h2.out.lt;have z0:=h3.out.cell 0 (v := .int .u32 (T:Int)) rfl;have z1:=h3.out.cell 1 (v := .int .i64 (t:Int)) rfl;have zl:=h3.out.lt;rw [hgd] at e1;generalize hEE:s.enabled.getD t 0=E at *;have htd:decide (t<s.enabled.length)=true:=by simpa using ht
 have hbn:=aEm S T;have hba:bits .and .u32 ((aBq S T:Nat):Int) (E:Int)=((aBq S T&&&E:Nat):Int):=aCz (aMc S T) hEl;have hDl:aBq S T&&&E<4294967296:=Nat.lt_of_le_of_lt Nat.and_le_right hEl;have hAF:Hid (aEs S T E=if aBq S T&&&E=0 then E else aBq S T&&&E):=rfl
 have hFU:Hid (aSc S T E=decide (aBq S T&&&E=0)):=rfl
 go_quiet (fail)
 have HBd:=aA0 (HB.out.trans ((Bel.refl W).drewN nq));have k1:=aA0 (h1.out.keep ((Bel.refl W).drewN nq));have k3:=aA0 (h3.out.keep ((Bel.refl W).drewN nq));have k4:=aA0 (h4.out.keep ((Bel.refl W).drewN nq));have kE:Hid ((W.drewN nq).cell? ⟨bE,oE+t,none⟩=some (.int .u32 (E:Int))/\bE<(W.drewN nq).heap.size):=⟨e1,hbE⟩;clear x0 xl y1 yl z0 z1 zl e1 hbE h1 h2 h3 h4 HB hbn hba;generalize W.drewN nq=V at *;generalize aBq S T&&&E=D at *;obtain ⟨e1,hbE⟩:=kE.out;have x0:=k1.out.cell 0 (v := .slice (some ⟨bE,oE,none⟩) s.enabled.length cE) rfl;have xl:=k1.out.lt;have z1:=k3.out.cell 1 (v := .int .i64 (t:Int)) rfl;have zl:=k3.out.lt;have r0:=k4.out.cell 0 (v := .int .i64 0) rfl;have r1:=k4.out.cell 1 (v := .int .u32 0) rfl;have q0:=k4.out.frozen 0;have q1:=k4.out.frozen 1;have rl:=k4.out.lt
 by_cases hD:D=0
 .subst hD
  go_wp2_with fail
  have hHeld0:=aA0 (show (fun w':World=>w'.cell? ⟨bE,oE+t,none⟩=some (.int .u32 (E:Int))/\w'.cell? ⟨B,0,none⟩=some (.slice (some ⟨bE,oE,none⟩) s.enabled.length cE)/\w'.cell? ⟨B+1+1,1,none⟩=some (.int .i64 (t:Int))/\bE<w'.heap.size/\B<w'.heap.size/\B+1+1<w'.heap.size) V.drew from ⟨e1,x0,z1,hbE,xl,zl⟩)
  refine aA6.start (fun w':World=>w'.cell? ⟨bE,oE+t,none⟩=some (.int .u32 (E:Int))/\w'.cell? ⟨B,0,none⟩=some (.slice (some ⟨bE,oE,none⟩) s.enabled.length cE)/\w'.cell? ⟨B+1+1,1,none⟩=some (.int .i64 (t:Int))/\bE<w'.heap.size/\B<w'.heap.size/\B+1+1<w'.heap.size) 10 (by kernel_rfl) ?_
  have hHeld:=hHeld0.out;dsimp only at hHeld
  (refine aA6.t (v:=?_) 0 23 rfl rfl (by kernel_rfl) (fun _ _ _ h=>h) hHeld (Or.inl ⟨by rfl,?_⟩) ?_;rotate_left 1;focus (intro w' hSw;(try dsimp only at hSw);go_simp;(try with_reducible rfl);done));(refine aA6.t (v:=?_) 1 24 rfl rfl (by kernel_rfl) (fun _ _ _ h=>h) hHeld (Or.inl ⟨by rfl,?_⟩) ?_;rotate_left 1;focus (intro w' hSw;(try dsimp only at hSw);go_simp;(try with_reducible rfl);done));(refine aA6.t (v:=?_) 2 25 rfl rfl (by kernel_rfl) (fun _ _ _ h=>h) hHeld (Or.inl ⟨by rfl,?_⟩) ?_;rotate_left 1;focus (intro w' hSw;(try dsimp only at hSw);go_simp;(try with_reducible rfl);done));(refine aA6.t (v:=?_) 3 26 rfl rfl (by kernel_rfl) (fun _ _ _ h=>h) hHeld (Or.inl ⟨by rfl,?_⟩) ?_;rotate_left 1;focus (intro w' hSw;(try dsimp only at hSw);go_simp;(try with_reducible rfl);done));(refine aA6.t (v:=?_) 4 27 rfl rfl (by kernel_rfl) (fun _ _ _ h=>h) hHeld (Or.inl ⟨by rfl,?_⟩) ?_;rotate_left 1;focus (intro w' hSw;(try dsimp only at hSw);go_simp;(try with_reducible rfl);done));(refine aA6.t (v:=?_) 5 28 rfl rfl (by kernel_rfl) (fun _ _ _ h=>h) hHeld (Or.inl ⟨by rfl,?_⟩) ?_;rotate_left 1;focus (intro w' hSw;(try dsimp only at hSw);go_simp;(try with_reducible rfl);done));(refine aA6.t (v:=?_) 6 29 rfl rfl (by kernel_rfl) (fun _ _ _ h=>h) hHeld (Or.inl ⟨by rfl,?_⟩) ?_;rotate_left 1;focus (intro w' hSw;(try dsimp only at hSw);go_simp;(try with_reducible rfl);done));(refine aA6.t (v:=?_) 7 30 rfl rfl (by kernel_rfl) (fun _ _ _ h=>h) hHeld (Or.inl ⟨by rfl,?_⟩) ?_;rotate_left 1;focus (intro w' hSw;(try dsimp only at hSw);go_simp;(try with_reducible rfl);done));(refine aA6.t (v:=?_) 8 31 rfl rfl (by kernel_rfl) (fun _ _ _ h=>h) hHeld (Or.inl ⟨by rfl,?_⟩) ?_;rotate_left 1;focus (intro w' hSw;(try dsimp only at hSw);go_simp;(try with_reducible rfl);done))
  clear hHeld;have a1:=Agr.setCell (E:=fun q=>q=B+1+1+1) V ⟨B+1+1+1,0,none⟩ (.int .i64 (t:Int)) rfl;have a2:=(a1.trans (Agr.setCell (E:=fun q=>q=B+1+1+1) (V.setCell ⟨B+1+1+1,0,none⟩ (.int .i64 (t:Int))) ⟨B+1+1+1,1,none⟩ (.int .u32 (E:Int)) rfl)).drew;have c1:=(a2.cell (k:=bE) (o:=oE+t) hbE (by omega)).trans e1
  have c2:=(a2.cell (k:=B) (o:=0) xl (by omega)).trans x0
  have c3:=(a2.cell (k:=B+1+1) (o:=1) zl (by omega)).trans z1
  have hsz:=a2.size;have HM:=aA0 (((k4.out.set 0 (.int .i64 (t:Int))).set 1 (.int .u32 (E:Int))).drew);have HBF:=aA0 ((((HBd.out).setCell (p:=⟨B+1+1+1,0,none⟩) (by dsimp only;omega) (.int .i64 (t:Int))).setCell (p:=⟨B+1+1+1,1,none⟩) (by dsimp only;omega) (.int .u32 (E:Int))).drew)
  clear a1 a2;refine aA6.one (i:=9) (by kernel_rfl) rfl (fun K hK=>?_)
  go_simp
  refine hK.out _ _ (fun _=>⟨c1,c2,c3,by omega,by omega,by omega⟩) ?_
  clear hK K
  (try simp only [Act.put,List.setIfInBounds_toArray,List.set_cons_zero,List.set_cons_succ])
  generalize ((V.setCell ⟨B+1+1+1,0,none⟩ (.int .i64 (t:Int))).setCell ⟨B+1+1+1,1,none⟩ (.int .u32 (E:Int))).drew=V2 at *;refine aA6.one (i:=10) (by kernel_rfl) rfl (fun K hK=>?_)
  go_simp
  refine hK.out _ _ (fun h=>absurd rfl h) ?_
  clear hK K;refine aA6.done (by kernel_rfl) ?_ _
  (try simp only [Act.put,List.setIfInBounds_toArray,List.set_cons_zero,List.set_cons_succ])
  go_wp2_with fail
  have m0:=HM.out.cell 0 (v := .int .i64 (t:Int)) rfl;have m1:=HM.out.cell 1 (v := .int .u32 (E:Int)) rfl;refine bodyPost_ret (v := .tuple #[.agg #[.int .i64 (t:Int),.int .u32 (E:Int)],.bool true]) (by simp [results,Tryz.results74,go_sem,m0,m1]) rfl ⟨?_,HBF.out⟩
  (try rw [hEE]);rw [hAF.out,hFU.out];simp
 .have hD0:((D:Int)==0)=false:=by rw [beq_eq_false_iff_ne];omega
  go_wp2_with fail
  have M:=k4.out.set 0 (.int .i64 (t:Int)) |>.set 1 (.int .u32 (D:Int));have m0:=M.cell 0 (v := .int .i64 (t:Int)) rfl;have m1:=M.cell 1 (v := .int .u32 (D:Int)) rfl;refine bodyPost_ret (v := .tuple #[.agg #[.int .i64 (t:Int),.int .u32 (D:Int)],.bool false]) (by simp [results,Tryz.results74,go_sem,m0,m1]) rfl ⟨?_,(HBd.out.setCell (by dsimp only;omega) _).setCell (by dsimp only;omega) _⟩
  (try rw [hEE]);rw [hAF.out,hFU.out];simp [hD]
end Go.Proofs.YtmoebklkkjbigaaGreatDoor

