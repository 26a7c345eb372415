/- Merged. -/
import Derived.Test.YtmoebklkkjbigaaGreatDoorZ33
import Derived.BigQuiet
set_option linter.unusedSimpArgs false
set_option linter.unnecessarySimpa false
set_option linter.unusedVariables false
set_option maxRecDepth 100000
set_option maxHeartbeats 4000000
open Go.Proofs.Tryz

namespace Go.Proofs.YtmoebklkkjbigaaGreatDoor
theorem aHy {α:Type} {o:Option α} {d:α} (h:o.isSome=true):o=some (o.getD d):=by cases o with | none=>cases h | some x=>rfl
def txC:List UInt8:=[112,114,111,103,114,97,109,32,99,111,108,111,117,114,115,59,32,118,97,114,32,99,32,58,32,48,32,46,46,32,110,59,32,114,117,108,101,32,102,105,120,58,32,115,111,109,101,40,113,46,99,32,61,61,32,99,41,32,45,62,32,99,32,58,61,32,109,101,120,40,113,46,99,41,59]
def tkC:List Tok:=(aGw txC).getD []
theorem bPw:aGw txC=some tkC:=aHy (by decide +kernel)
def prC:Prg:=(bKd txC tkC).getD ⟨ByteArray.empty,[],[]⟩
theorem bPr:bKd txC tkC=some prC:=aHy (by decide +kernel)
theorem aJq:tkC.length<=4000/\(∀ y∈prC.rules,y.guard.length<=1000/\∀ s∈y.sets,s.value.length<=1000)/\prC.vars.length≠0/\aCc prC=true/\aC6 prC=0:=by decide +kernel
def txK:List UInt8:=[112,114,111,103,114,97,109,32,116,111,107,101,110,59,32,118,97,114,32,120,32,58,32,48,32,46,46,32,110,59,32,114,117,108,101,32,116,117,114,110,58,32,114,111,111,116,32,38,38,32,120,32,61,61,32,104,101,97,100,40,113,46,120,41,32,45,62,32,120,32,58,61,32,40,120,32,43,32,49,41,32,37,32,40,110,32,43,32,49,41,59,32,114,117,108,101,32,99,111,112,121,58,32,33,114,111,111,116,32,38,38,32,120,32,33,61,32,104,101,97,100,40,113,46,120,41,32,45,62,32,120,32,58,61,32,104,101,97,100,40,113,46,120,41,59]
def tkK:List Tok:=(aGw txK).getD []
theorem bPx:aGw txK=some tkK:=aHy (by decide +kernel)
def prK:Prg:=(bKd txK tkK).getD ⟨ByteArray.empty,[],[]⟩
theorem bPs:bKd txK tkK=some prK:=aHy (by decide +kernel)
theorem aE0:tkK.length<=4000/\(∀ y∈prK.rules,y.guard.length<=1000/\∀ s∈y.sets,s.value.length<=1000)/\prK.vars.length≠0/\aCc prK=true/\aC6 prK=0:=by decide +kernel
open Go.RowKit
structure GrR {α:Type} (eo ei:TypeId) (sz:Nat) (f:α->List Value) (N:Nat) (w:World) (gb c:Nat) (hs:List Value) (xss:List (List α)):Prop where
 own:w.ownsRow N eo 1 (.slice (some ⟨gb,0,none⟩) xss.length c) xss.length hs
 rows:∀ (i:Nat) (l:List α),xss[i]?=some l->∃ (A:Option Addr) (k:Nat),hs[i]?=some (.slice A l.length k)/\w.ownsRow N ei sz (.slice A l.length k) l.length (l.flatMap f)
 apart:∀ (i j:Nat) (u v:Value),i≠j->hs[i]?=some u->hs[j]?=some v->v.ownBlock=none∨v.ownBlock≠u.ownBlock
section
variable {α:Type} {eo ei:TypeId} {sz:Nat} {f:α->List Value} {N:Nat} {w:World} {gb c:Nat} {hs:List Value} {xss:List (List α)}
theorem GrR.len (h:GrR eo ei sz f N w gb c hs xss):hs.length=xss.length:=by have:=h.own.1;omega
theorem GrR.keep {w':World} (h:GrR eo ei sz f N w gb c hs xss) (k:Bel w w'):GrR eo ei sz f N w' gb c hs xss :=
 ⟨k.owns h.own,fun i l hl=>by obtain ⟨A,c,e,h2⟩:=h.rows i l hl;exact ⟨A,c,e,k.owns h2⟩,h.apart⟩
theorem GrR.made {n:Nat} (h:w.ownsRow N eo 1 (.slice (some ⟨gb,0,none⟩) n c) n (List.replicate n (.slice none 0 0))):GrR eo ei sz f N w gb c (List.replicate n (.slice none 0 0)) (List.replicate n ([]:List α)):=by
 refine ⟨by rw [List.length_replicate];exact h,fun i l hl=>?_,fun i j u v _ _ hv=>?_⟩
 .rw [List.getElem?_replicate] at hl
  split at hl
  .rename_i hi
   injection hl with hl;subst hl
   exact ⟨none,0,by rw [List.getElem?_replicate,if_pos hi];rfl,World.ownsRow_nil _ _ _ _⟩
  .cases hl
 .rw [List.getElem?_replicate] at hv
  split at hv
  .injection hv with hv;subst hv;exact .inl rfl
  .cases hv
theorem GrR.lt (h:GrR eo ei sz f N w gb c hs xss):N<=gb/\gb<w.heap.size:=aAa h.own
theorem GrR.head (h:GrR eo ei sz f N w gb c hs xss) {i:Nat} {l:List α} (hl:xss[i]?=some l):∃ A k,w.cell? ⟨gb,i,none⟩=some (.slice A l.length k)/\w.frozen? ⟨gb,i,none⟩=false/\w.ownsRow N ei sz (.slice A l.length k) l.length (l.flatMap f)/\hs[i]?=some (.slice A l.length k):=by
 obtain ⟨A,k,e,ho⟩:=h.rows i l hl;obtain ⟨g,e1,_,_,hc,hf⟩:=aAj h.own e;injection e1 with e1;injection e1 with e1;subst e1
 exact ⟨A,k,hc,hf,ho,e⟩
theorem GrR.push (hne:eo≠ei) (h:GrR eo ei sz f N w gb c hs xss) {i:Nat} {l:List α} (hl:xss[i]?=some l) {A:Option Addr} {k:Nat} (hi:hs[i]?=some (.slice A l.length k)) {x:α} {w0 w1:World} {A':Option Addr} {k':Nat} (hb:Bel w w0)
  (hgr:w0.grownBy w1 (Value.slice A l.length k).ownBlock) (hown:w1.ownsRow N ei sz (.slice A' (l.length+1) k') (l.length+1) (l.flatMap f++f x))
  (hat:(Value.slice A' (l.length+1) k').ownBlock=(Value.slice A l.length k).ownBlock∨(Value.slice A' (l.length+1) k').ownBlock=some w0.heap.size) :
  GrR eo ei sz f N (w1.setCell ⟨gb,i,none⟩ (.slice A' (l.length+1) k')) gb c (hs.set i (.slice A' (l.length+1) k')) (xss.set i (l++[x])):=by
 have hlen:=h.len;have hil:i<xss.length:=(List.getElem?_eq_some_iff.1 hl).1;obtain ⟨A0,k0,e0,ho0⟩:=h.rows i l hl;rw [hi] at e0;injection e0 with e0;injection e0 with e1 _ e2;subst e1;subst e2
 have ho1:=World.ownsRow.kept (hb.owns h.own) hgr (aAn (hb.owns ho0) (hb.owns h.own) hne.symm)
 have hset:∀ {e size n:Nat} {v:Value} {xs:List Value},eo≠e->w1.ownsRow N e size v n xs->(w1.setCell ⟨gb,i,none⟩ (.slice A' (l.length+1) k')).ownsRow N e size v n xs:=fun he hx =>
  aBi hx (Agr.setCell (E:=fun q=>q=gb) w1 ⟨gb,i,none⟩ _ rfl) (fun q hq e=>by
   subst e
   rcases aAn ho1 hx he with h0 | h0
   .rw [h0] at hq;cases hq
   .rw [hq] at h0;exact h0 (by simp [Value.ownBlock]))
 refine ⟨by rw [List.length_set];exact (ho1.stored i _).1,fun j m hm=>?_,fun j j' u v hjj hu hv=>?_⟩
 .by_cases hj:i=j
  .subst hj
   rw [List.getElem?_set_self hil] at hm;injection hm with hm;subst hm
   refine ⟨A',k',by rw [List.getElem?_set_self (by omega),List.length_append];rfl,?_⟩
   rw [List.length_append,List.flatMap_append,List.flatMap_cons,List.flatMap_nil,List.append_nil];exact hset hne hown
  .rw [List.getElem?_set_ne hj] at hm
   obtain ⟨A2,k2,e2,ho2⟩:=h.rows j m hm;exact ⟨A2,k2,by rw [List.getElem?_set_ne hj];exact e2,hset hne (World.ownsRow.kept (hb.owns ho2) hgr (h.apart i j _ _ hj hi e2))⟩
 .have hold:∀ m v,i≠m->hs[m]?=some v->v.ownBlock=none∨v.ownBlock≠(Value.slice A' (l.length+1) k').ownBlock:=fun m v hm hv=>by
   rcases hat with e | e
   .rw [e];exact h.apart i m _ _ hm hi hv
   .obtain ⟨lm,hlm⟩:∃ lm,xss[m]?=some lm:=⟨_,List.getElem?_eq_getElem (by rw [<- hlen];exact (List.getElem?_eq_some_iff.1 hv).1)⟩
    obtain ⟨A2,k2,e2,ho2⟩:=h.rows m lm hlm;rw [hv] at e2;injection e2 with e2;subst e2
    cases hq:(Value.slice A2 lm.length k2).ownBlock with
    | none=>exact .inl rfl
    | some q =>
     right;rw [e]
     have:=((hb.owns ho2).lt q hq).2;intro e';injection e' with e';omega
  by_cases hj:i=j
  .subst hj
   rw [List.getElem?_set_self (by omega)] at hu
   injection hu with hu;subst hu
   rw [List.getElem?_set_ne hjj] at hv;exact hold j' v hjj hv
  .rw [List.getElem?_set_ne hj] at hu
   by_cases hj':i=j'
   .subst hj'
    rw [List.getElem?_set_self (by omega)] at hv
    injection hv with hv;subst hv
    rcases hold j u hj hu with e | e
    .cases hq:(Value.slice A' (l.length+1) k').ownBlock with
     | none=>exact .inl rfl
     | some q=>right;rw [e];simp
    .exact .inr (Ne.symm e)
   .rw [List.getElem?_set_ne hj'] at hv
    exact h.apart j j' u v hjj hu hv
end
theorem GrR.bel {α:Type} {eo ei:TypeId} {sz:Nat} {f:α->List Value} {w wr w0 w1:World} {gb c:Nat} {hs:List Value} {xss:List (List α)} (h:GrR eo ei sz f w.heap.size wr gb c hs xss) (hk:Bel w wr) {i:Nat} {l:List α} (hl:xss[i]?=some l) {A:Option Addr} {k:Nat} (hi:hs[i]?=some (.slice A l.length k)) (hb:Bel wr w0)
  (hgr:w0.grownBy w1 (Value.slice A l.length k).ownBlock) (v:Value):Bel w (w1.setCell ⟨gb,i,none⟩ v):=by
 obtain ⟨A0,k0,e0,ho0⟩:=h.rows i l hl;rw [hi] at e0;injection e0 with e0;injection e0 with e1 _ e2;subst e1;subst e2
 exact ((hk.trans hb).push (hb.owns ho0) hgr).setCell h.lt.1 v
theorem aJg:(prog.info? 3).map (fun i=>(i.zero,i.size,i.bytes))=some (some (.int .i64 0),1,8):=by kernel_rfl
theorem bHs:(prog.info? 60).map (fun i=>(i.zero,i.size,i.bytes))=some (some (.slice none 0 0),1,24):=by kernel_rfl
def idL (n k:Nat):List Value:=(List.range n).map fun j:Nat => .int .i64 (if j<k then (j:Int) else 0)
theorem bLl (n:Nat):idL n 0=List.replicate n (.int .i64 0):=by
 apply List.ext_getElem?;intro j
 simp only [idL,List.getElem?_map,List.getElem?_replicate]
 by_cases h:j<n <;> simp [h]
theorem aMg (n:Nat):idL n n=(List.range n).map fun j:Nat => .int .i64 (j:Int):=by
 apply List.map_congr_left
 intro j hj
 rw [if_pos (List.mem_range.1 hj)]
theorem bPe {n k:Nat} (h:k<n):(idL n k)[k]?=some (.int .i64 0):=by simp [idL,h]
theorem bNw (n k:Nat) (h:k<n):(idL n k).set k (.int .i64 (k:Int))=idL n (k+1):=by
 apply List.ext_getElem?;intro j
 by_cases hj:k=j
 .subst hj
  rw [List.getElem?_set_self (by simp [idL];exact h)]
  simp [idL,h]
 .rw [List.getElem?_set_ne hj]
  simp only [idL,List.getElem?_map]
  by_cases h2:j<n
  .simp [h2,show (j<k+1)↔j<k by omega]
  .simp [h2]
theorem aGh {w x:World} {n gA gP gG:Nat} (HB:Bel (w.alloc (.cells #[.slice none 0 0,.slice none 0 0] 25)) x) (HG:Blk x gG #[.slice none 0 0,.slice none 0 0] 25) (HA:x.ownsRow (w.heap.size+1) 3 1 (.slice (some ⟨gA,0,none⟩) n n) n (List.replicate n (.int .i64 0))) (HP:x.ownsRow (w.heap.size+1) 60 1 (.slice (some ⟨gP,0,none⟩) n n) n (List.replicate n (.slice none 0 0))) (hg:w.heap.size<gG) :
  ∃ (gA' gP' gG':Nat),Value.pointer (some ⟨gG,0,none⟩) = .pointer (some ⟨gG',0,none⟩)/\w.heap.size<gG'/\Hid (Blk ((x.setCell ⟨gG,0,none⟩ (.slice (some ⟨gA,0,none⟩) n n)).setCell ⟨gG,1,none⟩ (.slice (some ⟨gP,0,none⟩) n n)) gG' #[.slice (some ⟨gA',0,none⟩) n n,.slice (some ⟨gP',0,none⟩) n n] 25)/\Hid (((x.setCell ⟨gG,0,none⟩ (.slice (some ⟨gA,0,none⟩) n n)).setCell ⟨gG,1,none⟩ (.slice (some ⟨gP,0,none⟩) n n)).ownsRow (w.heap.size+1) 3 1 (.slice (some ⟨gA',0,none⟩) n n) n (List.replicate n (.int .i64 0)))/\Hid (((x.setCell ⟨gG,0,none⟩ (.slice (some ⟨gA,0,none⟩) n n)).setCell ⟨gG,1,none⟩ (.slice (some ⟨gP,0,none⟩) n n)).ownsRow (w.heap.size+1) 60 1 (.slice (some ⟨gP',0,none⟩) n n) n (List.replicate n (.slice none 0 0)))/\Bel (w.alloc (.cells #[.slice none 0 0,.slice none 0 0] 25)) ((x.setCell ⟨gG,0,none⟩ (.slice (some ⟨gA,0,none⟩) n n)).setCell ⟨gG,1,none⟩ (.slice (some ⟨gP,0,none⟩) n n)):=by
 have h1:=HG.set 0 (.slice (some ⟨gA,0,none⟩) n n);exact ⟨gA,gP,gG,rfl,hg,h1.set 1 (.slice (some ⟨gP,0,none⟩) n n),aDa (aDa HA HG (by decide) 0 _) h1 (by decide) 1 _,aDa (aDa HP HG (by decide) 0 _) h1 (by decide) 1 _,(HB.setCell (by simp only [World.size_alloc];omega) _).setCell (by simp only [World.size_alloc];omega) _⟩
theorem aXb (n:Nat) (hn:n<=24) (w:World) :
  Calls prog 40 #[.int .i64 (n:Int)] w fun e w'=>∃ gA gP,e = .returned (.agg #[.slice (some ⟨gA,0,none⟩) n n,.slice (some ⟨gP,0,none⟩) n n])/\w'.ownsRow (w.heap.size+1) 3 1 (.slice (some ⟨gA,0,none⟩) n n) n ((List.range n).map fun k:Nat => .int .i64 (k:Int))/\w'.ownsRow (w.heap.size+1) 60 1 (.slice (some ⟨gP,0,none⟩) n n) n (List.replicate n (.slice none 0 0))/\Bel w w':=by
 obtain ⟨i0,hi0,hi1,hi2,hi3⟩:=aBq aJg;obtain ⟨j0,hj0,hj1,hj2,hj3⟩:=aBq bHs;go_enter func40,ntmps40
 go_wp2_with fail
 go_cut [3] (fun pv wc=>∃ (gA gP gG:Nat),pv = .pointer (some ⟨gG,0,none⟩)/\w.heap.size<gG/\Hid (Blk wc gG #[.slice (some ⟨gA,0,none⟩) n n,.slice (some ⟨gP,0,none⟩) n n] 25)/\Hid (wc.ownsRow (w.heap.size+1) 3 1 (.slice (some ⟨gA,0,none⟩) n n) n (List.replicate n (.int .i64 0)))/\Hid (wc.ownsRow (w.heap.size+1) 60 1 (.slice (some ⟨gP,0,none⟩) n n) n (List.replicate n (.slice none 0 0)))/\Bel (w.alloc (.cells #[.slice none 0 0,.slice none 0 0] 25)) wc)
 case first =>
  refine aA4.start (fun _=>True) 6 (by kernel_rfl) ?_
  have HB:=(Bel.refl (w.alloc (.cells #[.slice none 0 0,.slice none 0 0] 25))).drew;generalize (w.alloc (.cells #[.slice none 0 0,.slice none 0 0] 25)).drew=X9 at *;have hHeld:True:=trivial
  (refine aA4.u (v:=?_) 0 5 rfl hHeld ?_ ?_;rotate_left 1;focus (intro w' hSw;(try dsimp only at hSw);go_simp;(try with_reducible rfl);done))
  (refine aA4.u (v:=?_) 2 7 rfl hHeld ?_ ?_;rotate_left 1;focus (intro w' hSw;(try dsimp only at hSw);go_simp;(try with_reducible rfl);done))
  clear hHeld
  (try simp only [Act.put,List.setIfInBounds_toArray,List.set_cons_zero,List.set_cons_succ])
  refine aA4.three (i:=1) (j:=3) (k:=5) (by kernel_rfl) rfl rfl rfl (fun K hK=>?_) (fun K hK=>?_) (fun K hK=>?_)
  .refine aEh _ rfl 22 (.tmp 5) (.tmp 5) rfl (w.heap.size+1) 3 i0 (.int .i64 0) 1 underlying22 hi0 hi1 hi2 .i64 .i64 n (by simp [Act.eval]) (by simp [Act.eval]) (by rw [hi3];omega) (by unfold maxLen;omega) (by have:=HB.size;simp only [World.size_alloc] at this;omega) ?_
   intro gA X0 hown hb
   rw [aB3 _ rfl] at hown;have HA:=aA0 hown;replace HB:=HB.trans hb;clear hown hb;refine hK.out _ _ (fun _=>trivial) ?_
   clear hK K
   (try simp only [Act.put,List.setIfInBounds_toArray,List.set_cons_zero,List.set_cons_succ])
   refine aA4.two (i:=3) (j:=5) (by kernel_rfl) rfl rfl (fun K hK=>?_) (fun K hK=>?_)
   .refine aEh _ rfl 23 (.tmp 7) (.tmp 7) rfl (w.heap.size+1) 60 j0 (.slice none 0 0) 1 underlying23 hj0 hj1 hj2 .i64 .i64 n (by simp [Act.eval]) (by simp [Act.eval]) (by rw [hj3];omega) (by unfold maxLen;omega) (by have:=HB.size;simp only [World.size_alloc] at this;omega) ?_
    intro gP X1 hown hb
    rw [aB3 _ rfl] at hown;replace HA:=aA0 (hb.owns HA.out);have HP:=aA0 hown;replace HB:=HB.trans hb;clear hown hb;refine hK.out _ _ (fun _=>trivial) ?_
    clear hK K
    (try simp only [Act.put,List.setIfInBounds_toArray,List.set_cons_zero,List.set_cons_succ])
    have hHeld:True:=trivial
    (refine aA4.u (v:=?_) 4 9 rfl hHeld ?_ ?_;rotate_left 1;focus (intro w' hSw;(try dsimp only at hSw);go_simp;(try with_reducible rfl);done))
    clear hHeld
    (try simp only [Act.put,List.setIfInBounds_toArray,List.set_cons_zero,List.set_cons_succ])
    refine aA4.one (i:=5) (by kernel_rfl) rfl (fun K hK=>?_)
    (try go_simp)
    refine hK.out _ _ (fun _=>trivial) ?_
    clear hK K
    (try simp only [Act.put,List.setIfInBounds_toArray,List.set_cons_zero,List.set_cons_succ])
    have hb:=(Bel.refl X1).alloc (.cells #[.slice none 0 0,.slice none 0 0] 25);replace HA:=aA0 (hb.owns HA.out);replace HP:=aA0 (hb.owns HP.out);have HG:=aA0 (Blk.new X1 #[.slice none 0 0,.slice none 0 0] 25);have hgs:w.heap.size<X1.heap.size:=by have:=HB.size;simp only [World.size_alloc] at this;omega
    replace HB:=HB.trans hb;clear hb;generalize hgE:X1.heap.size=gG at *;generalize X1.alloc (.cells #[.slice none 0 0,.slice none 0 0] 25)=X2 at *;clear hgE;have y0:=HG.out.cell 0 (v := .slice none 0 0) rfl;have y1:=HG.out.cell 1 (v := .slice none 0 0) rfl;have f0:=HG.out.frozen 0;have f1:=HG.out.frozen 1;have gl:=HG.out.lt;refine aA4.one (i:=6) (by kernel_rfl) rfl (fun K hK=>?_)
    go_simp
    refine hK.out _ _ (fun h=>absurd rfl h) ?_
    clear hK K;refine aA4.done (by kernel_rfl) ?_ _
    go_wp2_with fail
    go_meet
    exact aGh HB HG.out HA.out HP.out hgs
   .
    (try go_simp)
    refine hK.out _ _ (fun _=>trivial) ?_
    clear hK K
    (try simp only [Act.put,List.setIfInBounds_toArray,List.set_cons_zero,List.set_cons_succ])
    have hb:=(Bel.refl X0).alloc (.cells #[.slice none 0 0,.slice none 0 0] 25);replace HA:=aA0 (hb.owns HA.out);have HG:=aA0 (Blk.new X0 #[.slice none 0 0,.slice none 0 0] 25);have hgs:w.heap.size<X0.heap.size:=by have:=HB.size;simp only [World.size_alloc] at this;omega
    replace HB:=HB.trans hb;clear hb;generalize hgE:X0.heap.size=gG at *;generalize X0.alloc (.cells #[.slice none 0 0,.slice none 0 0] 25)=X1 at *;clear hgE;refine aA4.one (i:=3) (by kernel_rfl) rfl (fun K hK=>?_)
    refine aEh _ rfl 23 (.tmp 7) (.tmp 7) rfl (w.heap.size+1) 60 j0 (.slice none 0 0) 1 underlying23 hj0 hj1 hj2 .i64 .i64 n (by simp [Act.eval]) (by simp [Act.eval]) (by rw [hj3];omega) (by unfold maxLen;omega) (by have:=HB.size;simp only [World.size_alloc] at this;omega) ?_
    intro gP X2 hown hb
    rw [aB3 _ rfl] at hown;replace HA:=aA0 (hb.owns HA.out);replace HG:=aA0 (HG.out.keep hb);have HP:=aA0 hown;replace HB:=HB.trans hb;clear hown hb;refine hK.out _ _ (fun _=>trivial) ?_
    clear hK K
    (try simp only [Act.put,List.setIfInBounds_toArray,List.set_cons_zero,List.set_cons_succ])
    have hHeld:True:=trivial
    (refine aA4.u (v:=?_) 4 9 rfl hHeld ?_ ?_;rotate_left 1;focus (intro w' hSw;(try dsimp only at hSw);go_simp;(try with_reducible rfl);done))
    clear hHeld
    (try simp only [Act.put,List.setIfInBounds_toArray,List.set_cons_zero,List.set_cons_succ])
    have y0:=HG.out.cell 0 (v := .slice none 0 0) rfl;have y1:=HG.out.cell 1 (v := .slice none 0 0) rfl;have f0:=HG.out.frozen 0;have f1:=HG.out.frozen 1;have gl:=HG.out.lt;refine aA4.one (i:=6) (by kernel_rfl) rfl (fun K hK=>?_)
    go_simp
    refine hK.out _ _ (fun h=>absurd rfl h) ?_
    clear hK K;refine aA4.done (by kernel_rfl) ?_ _
    go_wp2_with fail
    go_meet
    exact aGh HB HG.out HA.out HP.out hgs
  .refine aEh _ rfl 23 (.tmp 7) (.tmp 7) rfl (w.heap.size+1) 60 j0 (.slice none 0 0) 1 underlying23 hj0 hj1 hj2 .i64 .i64 n (by simp [Act.eval]) (by simp [Act.eval]) (by rw [hj3];omega) (by unfold maxLen;omega) (by have:=HB.size;simp only [World.size_alloc] at this;omega) ?_
   intro gP X0 hown hb
   rw [aB3 _ rfl] at hown;have HP:=aA0 hown;replace HB:=HB.trans hb;clear hown hb;refine hK.out _ _ (fun _=>trivial) ?_
   clear hK K
   (try simp only [Act.put,List.setIfInBounds_toArray,List.set_cons_zero,List.set_cons_succ])
   refine aA4.two (i:=1) (j:=5) (by kernel_rfl) rfl rfl (fun K hK=>?_) (fun K hK=>?_)
   .refine aEh _ rfl 22 (.tmp 5) (.tmp 5) rfl (w.heap.size+1) 3 i0 (.int .i64 0) 1 underlying22 hi0 hi1 hi2 .i64 .i64 n (by simp [Act.eval]) (by simp [Act.eval]) (by rw [hi3];omega) (by unfold maxLen;omega) (by have:=HB.size;simp only [World.size_alloc] at this;omega) ?_
    intro gA X1 hown hb
    rw [aB3 _ rfl] at hown;replace HP:=aA0 (hb.owns HP.out);have HA:=aA0 hown;replace HB:=HB.trans hb;clear hown hb;refine hK.out _ _ (fun _=>trivial) ?_
    clear hK K
    (try simp only [Act.put,List.setIfInBounds_toArray,List.set_cons_zero,List.set_cons_succ])
    have hHeld:True:=trivial
    (refine aA4.u (v:=?_) 4 9 rfl hHeld ?_ ?_;rotate_left 1;focus (intro w' hSw;(try dsimp only at hSw);go_simp;(try with_reducible rfl);done))
    clear hHeld
    (try simp only [Act.put,List.setIfInBounds_toArray,List.set_cons_zero,List.set_cons_succ])
    refine aA4.one (i:=5) (by kernel_rfl) rfl (fun K hK=>?_)
    (try go_simp)
    refine hK.out _ _ (fun _=>trivial) ?_
    clear hK K
    (try simp only [Act.put,List.setIfInBounds_toArray,List.set_cons_zero,List.set_cons_succ])
    have hb:=(Bel.refl X1).alloc (.cells #[.slice none 0 0,.slice none 0 0] 25);replace HP:=aA0 (hb.owns HP.out);replace HA:=aA0 (hb.owns HA.out);have HG:=aA0 (Blk.new X1 #[.slice none 0 0,.slice none 0 0] 25);have hgs:w.heap.size<X1.heap.size:=by have:=HB.size;simp only [World.size_alloc] at this;omega
    replace HB:=HB.trans hb;clear hb;generalize hgE:X1.heap.size=gG at *;generalize X1.alloc (.cells #[.slice none 0 0,.slice none 0 0] 25)=X2 at *;clear hgE;have y0:=HG.out.cell 0 (v := .slice none 0 0) rfl;have y1:=HG.out.cell 1 (v := .slice none 0 0) rfl;have f0:=HG.out.frozen 0;have f1:=HG.out.frozen 1;have gl:=HG.out.lt;refine aA4.one (i:=6) (by kernel_rfl) rfl (fun K hK=>?_)
    go_simp
    refine hK.out _ _ (fun h=>absurd rfl h) ?_
    clear hK K;refine aA4.done (by kernel_rfl) ?_ _
    go_wp2_with fail
    go_meet
    exact aGh HB HG.out HA.out HP.out hgs
   .
    (try go_simp)
    refine hK.out _ _ (fun _=>trivial) ?_
    clear hK K
    (try simp only [Act.put,List.setIfInBounds_toArray,List.set_cons_zero,List.set_cons_succ])
    have hb:=(Bel.refl X0).alloc (.cells #[.slice none 0 0,.slice none 0 0] 25);replace HP:=aA0 (hb.owns HP.out);have HG:=aA0 (Blk.new X0 #[.slice none 0 0,.slice none 0 0] 25);have hgs:w.heap.size<X0.heap.size:=by have:=HB.size;simp only [World.size_alloc] at this;omega
    replace HB:=HB.trans hb;clear hb;generalize hgE:X0.heap.size=gG at *;generalize X0.alloc (.cells #[.slice none 0 0,.slice none 0 0] 25)=X1 at *;clear hgE;refine aA4.one (i:=1) (by kernel_rfl) rfl (fun K hK=>?_)
    refine aEh _ rfl 22 (.tmp 5) (.tmp 5) rfl (w.heap.size+1) 3 i0 (.int .i64 0) 1 underlying22 hi0 hi1 hi2 .i64 .i64 n (by simp [Act.eval]) (by simp [Act.eval]) (by rw [hi3];omega) (by unfold maxLen;omega) (by have:=HB.size;simp only [World.size_alloc] at this;omega) ?_
    intro gA X2 hown hb
    rw [aB3 _ rfl] at hown;replace HP:=aA0 (hb.owns HP.out);replace HG:=aA0 (HG.out.keep hb);have HA:=aA0 hown;replace HB:=HB.trans hb;clear hown hb;refine hK.out _ _ (fun _=>trivial) ?_
    clear hK K
    (try simp only [Act.put,List.setIfInBounds_toArray,List.set_cons_zero,List.set_cons_succ])
    have hHeld:True:=trivial
    (refine aA4.u (v:=?_) 4 9 rfl hHeld ?_ ?_;rotate_left 1;focus (intro w' hSw;(try dsimp only at hSw);go_simp;(try with_reducible rfl);done))
    clear hHeld
    (try simp only [Act.put,List.setIfInBounds_toArray,List.set_cons_zero,List.set_cons_succ])
    have y0:=HG.out.cell 0 (v := .slice none 0 0) rfl;have y1:=HG.out.cell 1 (v := .slice none 0 0) rfl;have f0:=HG.out.frozen 0;have f1:=HG.out.frozen 1;have gl:=HG.out.lt;refine aA4.one (i:=6) (by kernel_rfl) rfl (fun K hK=>?_)
    go_simp
    refine hK.out _ _ (fun h=>absurd rfl h) ?_
    clear hK K;refine aA4.done (by kernel_rfl) ?_ _
    go_wp2_with fail
    go_meet
    exact aGh HB HG.out HA.out HP.out hgs
  .
   (try go_simp)
   refine hK.out _ _ (fun _=>trivial) ?_
   clear hK K
   (try simp only [Act.put,List.setIfInBounds_toArray,List.set_cons_zero,List.set_cons_succ])
   have hb:=(Bel.refl X9).alloc (.cells #[.slice none 0 0,.slice none 0 0] 25);have HG:=aA0 (Blk.new X9 #[.slice none 0 0,.slice none 0 0] 25);have hgs:w.heap.size<X9.heap.size:=by have:=HB.size;simp only [World.size_alloc] at this;omega
   replace HB:=HB.trans hb;clear hb;generalize hgE:X9.heap.size=gG at *;generalize X9.alloc (.cells #[.slice none 0 0,.slice none 0 0] 25)=X0 at *;clear hgE;refine aA4.two (i:=1) (j:=3) (by kernel_rfl) rfl rfl (fun K hK=>?_) (fun K hK=>?_)
   .refine aEh _ rfl 22 (.tmp 5) (.tmp 5) rfl (w.heap.size+1) 3 i0 (.int .i64 0) 1 underlying22 hi0 hi1 hi2 .i64 .i64 n (by simp [Act.eval]) (by simp [Act.eval]) (by rw [hi3];omega) (by unfold maxLen;omega) (by have:=HB.size;simp only [World.size_alloc] at this;omega) ?_
    intro gA X1 hown hb
    rw [aB3 _ rfl] at hown;replace HG:=aA0 (HG.out.keep hb);have HA:=aA0 hown;replace HB:=HB.trans hb;clear hown hb;refine hK.out _ _ (fun _=>trivial) ?_
    clear hK K
    (try simp only [Act.put,List.setIfInBounds_toArray,List.set_cons_zero,List.set_cons_succ])
    refine aA4.one (i:=3) (by kernel_rfl) rfl (fun K hK=>?_)
    refine aEh _ rfl 23 (.tmp 7) (.tmp 7) rfl (w.heap.size+1) 60 j0 (.slice none 0 0) 1 underlying23 hj0 hj1 hj2 .i64 .i64 n (by simp [Act.eval]) (by simp [Act.eval]) (by rw [hj3];omega) (by unfold maxLen;omega) (by have:=HB.size;simp only [World.size_alloc] at this;omega) ?_
    intro gP X2 hown hb
    rw [aB3 _ rfl] at hown;replace HG:=aA0 (HG.out.keep hb);replace HA:=aA0 (hb.owns HA.out);have HP:=aA0 hown;replace HB:=HB.trans hb;clear hown hb;refine hK.out _ _ (fun _=>trivial) ?_
    clear hK K
    (try simp only [Act.put,List.setIfInBounds_toArray,List.set_cons_zero,List.set_cons_succ])
    have hHeld:True:=trivial
    (refine aA4.u (v:=?_) 4 9 rfl hHeld ?_ ?_;rotate_left 1;focus (intro w' hSw;(try dsimp only at hSw);go_simp;(try with_reducible rfl);done))
    clear hHeld
    (try simp only [Act.put,List.setIfInBounds_toArray,List.set_cons_zero,List.set_cons_succ])
    have y0:=HG.out.cell 0 (v := .slice none 0 0) rfl;have y1:=HG.out.cell 1 (v := .slice none 0 0) rfl;have f0:=HG.out.frozen 0;have f1:=HG.out.frozen 1;have gl:=HG.out.lt;refine aA4.one (i:=6) (by kernel_rfl) rfl (fun K hK=>?_)
    go_simp
    refine hK.out _ _ (fun h=>absurd rfl h) ?_
    clear hK K;refine aA4.done (by kernel_rfl) ?_ _
    go_wp2_with fail
    go_meet
    exact aGh HB HG.out HA.out HP.out hgs
   .refine aEh _ rfl 23 (.tmp 7) (.tmp 7) rfl (w.heap.size+1) 60 j0 (.slice none 0 0) 1 underlying23 hj0 hj1 hj2 .i64 .i64 n (by simp [Act.eval]) (by simp [Act.eval]) (by rw [hj3];omega) (by unfold maxLen;omega) (by have:=HB.size;simp only [World.size_alloc] at this;omega) ?_
    intro gP X1 hown hb
    rw [aB3 _ rfl] at hown;replace HG:=aA0 (HG.out.keep hb);have HP:=aA0 hown;replace HB:=HB.trans hb;clear hown hb;refine hK.out _ _ (fun _=>trivial) ?_
    clear hK K
    (try simp only [Act.put,List.setIfInBounds_toArray,List.set_cons_zero,List.set_cons_succ])
    refine aA4.one (i:=1) (by kernel_rfl) rfl (fun K hK=>?_)
    refine aEh _ rfl 22 (.tmp 5) (.tmp 5) rfl (w.heap.size+1) 3 i0 (.int .i64 0) 1 underlying22 hi0 hi1 hi2 .i64 .i64 n (by simp [Act.eval]) (by simp [Act.eval]) (by rw [hi3];omega) (by unfold maxLen;omega) (by have:=HB.size;simp only [World.size_alloc] at this;omega) ?_
    intro gA X2 hown hb
    rw [aB3 _ rfl] at hown;replace HG:=aA0 (HG.out.keep hb);replace HP:=aA0 (hb.owns HP.out);have HA:=aA0 hown;replace HB:=HB.trans hb;clear hown hb;refine hK.out _ _ (fun _=>trivial) ?_
    clear hK K
    (try simp only [Act.put,List.setIfInBounds_toArray,List.set_cons_zero,List.set_cons_succ])
    have hHeld:True:=trivial
    (refine aA4.u (v:=?_) 4 9 rfl hHeld ?_ ?_;rotate_left 1;focus (intro w' hSw;(try dsimp only at hSw);go_simp;(try with_reducible rfl);done))
    clear hHeld
    (try simp only [Act.put,List.setIfInBounds_toArray,List.set_cons_zero,List.set_cons_succ])
    have y0:=HG.out.cell 0 (v := .slice none 0 0) rfl;have y1:=HG.out.cell 1 (v := .slice none 0 0) rfl;have f0:=HG.out.frozen 0;have f1:=HG.out.frozen 1;have gl:=HG.out.lt;refine aA4.one (i:=6) (by kernel_rfl) rfl (fun K hK=>?_)
    go_simp
    refine hK.out _ _ (fun h=>absurd rfl h) ?_
    clear hK K;refine aA4.done (by kernel_rfl) ?_ _
    go_wp2_with fail
    go_meet
    exact aGh HB HG.out HA.out HP.out hgs
 obtain ⟨gA,gP,gG,rfl,hg,HG,HA,HP,HB⟩:=hcut;have hX:=aA0 (Blk.new w #[.slice none 0 0,.slice none 0 0] 25);rw [show List.replicate n (Value.int .i64 0)=idL n 0 from (bLl n).symm] at HA
 have y0:=HG.out.cell 0 (v := .slice (some ⟨gA,0,none⟩) n n) rfl;have gl:=HG.out.lt
 go_wp2_with fail
 clear y0 gl
 go_loopg [4,13] n (fun m _x z wr=>∃ k:Nat,k<=n/\m=n-k/\z = .int .i64 (k:Int)/\Hid (Blk wr gG #[.slice (some ⟨gA,0,none⟩) n n,.slice (some ⟨gP,0,none⟩) n n] 25)/\Hid (wr.ownsRow (w.heap.size+1) 3 1 (.slice (some ⟨gA,0,none⟩) n n) n (idL n k))/\Hid (wr.ownsRow (w.heap.size+1) 60 1 (.slice (some ⟨gP,0,none⟩) n n) n (List.replicate n (.slice none 0 0)))/\Bel (w.alloc (.cells #[.slice none 0 0,.slice none 0 0] 25)) wr)
 case atStart=>exact ⟨0,by omega,rfl,rfl,HG.out,HA.out,HP.out,HB⟩
 case round =>
  clear HG HA HP HB;obtain ⟨k,hk,rfl,rfl,HG,HA,HP,HB⟩:=hrel;have y0:=HG.out.cell 0 (v := .slice (some ⟨gA,0,none⟩) n n) rfl;have y1:=HG.out.cell 1 (v := .slice (some ⟨gP,0,none⟩) n n) rfl;have gl:=HG.out.lt
  by_cases hlt:k<n
  .have hd0:decide (k<n)=true:=by simpa using hlt
   obtain ⟨g1,e1,_,l1,c1,f1⟩:=aAj HA.out (j:=k) (u := .int .i64 0) (bPe hlt);obtain rfl:gA=g1:=by simpa using e1
   go_wp2_with fail
   go_roundg (n-(k+1))
   case rel =>
    have hst:=(HA.out.stored k (.int .i64 (k:Int))).1;rw [bNw n k hlt] at hst;have hL:=(aAa HA.out).1;refine ⟨k+1,by omega,rfl,by go_num,HG.out.other (a:=⟨gA,k,none⟩) (fun e=>?_) _,hst,?_,HB.setCell (by simp only [World.size_alloc];exact hL) _⟩
    .rcases HG.out.apart HA.out (by decide) with _
     exact HG.out.apart HA.out (by decide) (by rw [e];rfl)
    .exact aBi HP.out (Agr.setCell (E:=fun q=>q=gA) wr ⟨gA,k,none⟩ _ rfl) (fun q hq e=>by
      subst e
      rcases aAn HA.out HP.out (by decide) with h0 | h0
      .rw [h0] at hq;cases hq
      .rw [hq] at h0;exact h0 rfl)
   case measure=>omega
  .obtain rfl:k=n:=by omega
   have hd0:decide (k<k)=false:=by simp
   have hXr:=hX.out.keep HB;have x0:=hXr.cell 0 (v := .slice none 0 0) rfl;have x1:=hXr.cell 1 (v := .slice none 0 0) rfl;have q0:=hXr.frozen 0;have q1:=hXr.frozen 1;have xl:=hXr.lt
   go_wp2_with fail
   have M:=(hXr.set 0 (.slice (some ⟨gA,0,none⟩) k k)).set 1 (.slice (some ⟨gP,0,none⟩) k k);have m0:=M.cell 0 (v := .slice (some ⟨gA,0,none⟩) k k) rfl;have m1:=M.cell 1 (v := .slice (some ⟨gP,0,none⟩) k k) rfl;have hAF:=aAh (aAh HA.out (a:=⟨w.heap.size,0,none⟩) (by dsimp only;omega) (.slice (some ⟨gA,0,none⟩) k k)) (a:=⟨w.heap.size,1,none⟩) (by dsimp only;omega) (.slice (some ⟨gP,0,none⟩) k k)
   have hPF:=aAh (aAh HP.out (a:=⟨w.heap.size,0,none⟩) (by dsimp only;omega) (.slice (some ⟨gA,0,none⟩) k k)) (a:=⟨w.heap.size,1,none⟩) (by dsimp only;omega) (.slice (some ⟨gP,0,none⟩) k k)
   rw [aMg] at hAF;refine bodyPost_ret (v := .agg #[.slice (some ⟨gA,0,none⟩) k k,.slice (some ⟨gP,0,none⟩) k k]) (by simp [results,Tryz.results40,go_sem,m0,m1]) rfl ⟨gA,gP,rfl,hAF,hPF,?_⟩
   exact (((Bel.refl w).alloc _).trans HB |>.setCell (Nat.le_refl _) _).setCell (Nat.le_refl _) _
theorem aLv.at_ {w:World} {A:Option Addr} {n:Nat} {xs:List (Nat × Int)} (h:aLv w A n xs) (k:Nat) (hk:k<xs.length) :
  ∃ b o,A=some ⟨b,o,none⟩/\b<w.heap.size/\w.cell? ⟨b,o+k*2,none⟩=some (.int .u32 (xs[k].1:Int))/\w.cell? ⟨b,o+k*2+1,none⟩=some (.int .i64 xs[k].2):=aAc.at_ h k hk
theorem aK3.at_ {w:World} {A:Option Addr} {n:Nat} {xs:List (List (Nat × Int))} (h:aK3 w A n xs) (k:Nat) (hk:k<xs.length) :
  ∃ b o R c,A=some ⟨b,o,none⟩/\b<w.heap.size/\w.cell? ⟨b,o+k,none⟩=some (.slice R xs[k].length c)/\aLv w R xs[k].length xs[k]/\xs[k].length<=c/\c<=maxLen:=RowsAt.at_ h k hk
theorem aL9 (E:Nat) (A:Option Addr) (c:Nat) (l:List (Nat × Int)) (n:Int) (w:World) (hA:aLv w A l.length l) (hE:E<4294967296) (hx:∀ x∈l,x.1<4294967296) (hl:l.length<=70) :
  Calls prog 130 #[.int .u32 (E:Int),.slice A l.length c,.int .i64 n] w fun e w'=>e = .returned (.bool (aBu E n l))/\Bel w w':=by
 have HF:Hid (aBu E n l=(decide (E<16777216)&&(decide (E≠0)==decide (0<l.length))&&aKp E n 0 l)):=rfl;have HA:=aA0 (fun w' (k:Bel w w')=>hA.keep k);have HX:=aA0 hx;have HB:=Bel.refl w;clear hA hx
 by_cases h24:E<16777216
 .have q:(E:Int) / 16777216=0:=by omega
  rw [decide_eq_true h24] at HF
  by_cases hm:(decide (E≠0)==decide (0<l.length))=true
  .rw [hm] at HF
   obtain ⟨eb,e1,e2⟩:∃ eb:Bool,((E:Int) != 0)=eb/\decide (0<l.length)=eb:=by
    refine ⟨_,rfl,?_⟩
    have h1:decide (E≠0)=decide (0<l.length):=by simpa using hm
    have h2:((E:Int) != 0)=decide (E≠0):=by by_cases h:E=0 <;> simp [h]
    rw [h2,h1]
   have e3:(!eb==eb)=false:=by cases eb <;> rfl
   clear hm;go_enter func130,ntmps130
   go_wp2_with fail
   go_loopg [7,9,23] l.length (fun m b _a z wr=>∃ (i bf:Nat),i<=l.length/\m=l.length-i/\b = .int .u32 (bf:Int)/\bf<4294967296/\z = .int .i64 (i:Int)/\Hid (aKp E n bf (l.drop i)=aKp E n 0 l)/\Bel w wr)
   case atStart=>exact ⟨0,0,by omega,rfl,rfl,by omega,rfl,by show _=_;simp,HB⟩
   case round =>
    clear HB e1 e2 e3 q;obtain ⟨i,bf,hi,rfl,rfl,hbf,rfl,HQ,HB⟩:=hrel
    by_cases hlt:i<l.length
    .have hd0:decide (i<l.length)=true:=by simpa using hlt
     obtain ⟨b,o,rfl,hbl,c0,c1⟩:=(HA.out _ HB).at_ i hlt;have hx1:=HX.out _ (List.getElem_mem hlt);rw [bC3 hlt] at HQ;obtain ⟨S,hS⟩:∃ S,S=l[i].1:=⟨_,rfl⟩;obtain ⟨T,hT⟩:∃ T,T=l[i].2:=⟨_,rfl⟩;rw [<- hS] at hx1 c0;rw [<- hT] at c1;simp only [<- hS,<- hT] at HQ
     clear hS hT
     by_cases a1:bf<S
     .have d1:decide (S<=bf)=false:=by simp;omega
      have HD:=aHp (T:=E) hx1;have hbn:=aEl S E;rw [decide_eq_true a1] at HQ;cases hw:aBj S E with
      | false =>
       rw [hw] at HQ HD;have hz:((aCg S E:Int) != 0)=true:=by simp at HD ⊢;omega
       have hz':(aCg S E != 0)=true:=by simp at HD ⊢;omega
       clear hw HD
       go_wp2_with fail
       go_ret;refine ⟨aA1 ?_,HB.alloc _⟩
       rw [HF.out,<- HQ.out];rfl
      | true =>
       rw [hw] at HQ HD;have hz:((aCg S E:Int) != 0)=false:=by simp at HD ⊢;omega
       have hz':(aCg S E != 0)=false:=by simp at HD ⊢;omega
       clear hw HD
       by_cases a2:0<=T
       .have d2:decide (T<0)=false:=by simp;omega
        rw [decide_eq_true a2] at HQ
        by_cases a3:T<n
        .have d3:decide (n<=T)=false:=by simp;omega
         rw [decide_eq_true a3] at HQ;clear a1 a2 a3
         go_wp2_with fail
         go_roundg (l.length-(i+1))
         case rel=>exact ⟨i+1,S,by omega,rfl,rfl,hx1,by go_num,by have:=HQ.out;show _=_;simpa using this,HB.alloc _⟩
         case measure=>omega
        .have d3:decide (n<=T)=true:=by simp;omega
         rw [decide_eq_false a3] at HQ;clear a1 a2 a3
         go_wp2_with fail
         go_ret;refine ⟨aA1 ?_,HB.alloc _⟩
         rw [HF.out,<- HQ.out];rfl
       .have d2:decide (T<0)=true:=by simp;omega
        rw [decide_eq_false a2] at HQ;clear a1 a2
        go_wp2_with fail
        go_ret;refine ⟨aA1 ?_,HB.alloc _⟩
        rw [HF.out,<- HQ.out];rfl
     .have d1:decide (S<=bf)=true:=by simp;omega
      rw [decide_eq_false a1] at HQ;clear a1
      go_wp2_with fail
      go_ret;refine ⟨aA1 ?_,HB.alloc _⟩
      rw [HF.out,<- HQ.out];rfl
    .have hd0:decide (i<l.length)=false:=by simpa using hlt
     obtain rfl:i=l.length:=by omega
     rw [aWf] at HQ
     go_wp2_with fail
     go_ret;refine ⟨aA1 ?_,HB⟩
     rw [HF.out,<- HQ.out];rfl
  .have hm':(decide (E≠0)==decide (0<l.length))=false:=by simpa using hm
   rw [hm'] at HF
   obtain ⟨eb,e1,e2⟩:∃ eb:Bool,((E:Int) != 0)=eb/\decide (0<l.length) = !eb:=by
    refine ⟨_,rfl,?_⟩
    have h1:decide (E≠0)≠decide (0<l.length):=by simpa using hm
    have h2:((E:Int) != 0)=decide (E≠0):=by by_cases h:E=0 <;> simp [h]
    rw [h2]
    revert h1
    cases decide (E≠0) <;> cases decide (0<l.length) <;> simp
   clear hm hm';go_enter func130,ntmps130
   go_wp2_with fail
   go_ret;exact ⟨aA1 (by rw [HF.out];rfl),HB⟩
 .have q:((E:Int) / 16777216 != 0)=true:=by simp;omega
  rw [decide_eq_false h24] at HF;clear h24;go_enter func130,ntmps130
  go_wp2_with fail
  go_ret;exact ⟨aA1 (by rw [HF.out];rfl),HB⟩
theorem aRz {s:Spc} {k:Nat} (_:k<s.enabled.length):((List.range (k+1)).all fun k=>aBu (s.enabled.getD k 0) s.enabled.length (s.arcs.getD k []))=(((List.range k).all fun k=>aBu (s.enabled.getD k 0) s.enabled.length (s.arcs.getD k []))&&aBu (s.enabled.getD k 0) s.enabled.length (s.arcs.getD k [])):=by
 rw [List.range_succ,List.all_append];simp
theorem aTy {f:Nat->Bool} {n k:Nat} (hk:k<n) (h:f k=false):(List.range n).all f=false:=by
 rw [Bool.eq_false_iff];intro ha
 rw [List.all_eq_true] at ha;rw [ha k (List.mem_range.2 hk)] at h;cases h
theorem aSi (v:Value) (s:Spc) (w:World) (h:aBk w v s) (hwf:wfS s) (hl:aCy s=true) :
  Calls prog 89 #[v] w fun e w'=>e = .returned (.bool (aCf s))/\Bel w w':=by
 obtain ⟨l1,l2,l3⟩:=aB5 hl;have HF:Hid (aCf s=(decide (1<=s.enabled.length)&&decide (s.arcs.length=s.enabled.length)&&(List.range s.enabled.length).all fun k=>aBu (s.enabled.getD k 0) s.enabled.length (s.arcs.getD k []))):=rfl;obtain ⟨AE,cE,AA,cA,rfl,hE,hA,_,_,_,_⟩:=h;have HE:=aA0 (fun w' (k:Bel w w')=>hE.keep k);have HA:=aA0 (fun w' (k:Bel w w')=>hA.keep k);have HWF:=aA0 hwf;have HL3:=aA0 l3;have HW:=Bel.refl (w.alloc (.cells #[.slice AE s.enabled.length cE,.slice AA s.arcs.length cA] 42));clear hE hA hwf hl l3
 by_cases h1:1<=s.enabled.length
 .have d1:decide (s.enabled.length<1)=false:=decide_eq_false (by omega)
  have d1I:decide ((s.enabled.length:Int)<1)=false:=decide_eq_false (by omega)
  have d2I:decide ((32768:Int)<(s.enabled.length:Int))=false:=decide_eq_false (by omega)
  have d2:decide (32768<s.enabled.length)=false:=by simp;omega
  rw [decide_eq_true h1] at HF
  by_cases h2:s.arcs.length=s.enabled.length
  .have d3:(((s.arcs.length:Nat):Int) != ((s.enabled.length:Nat):Int))=false:=by simp;omega
   have d3':(s.arcs.length != s.enabled.length)=false:=by simp;omega
   rw [decide_eq_true h2] at HF;have H2:=aA0 h2;clear h2;go_enter func89,ntmps89
   go_wp2_with fail
   go_loopg [4,5,23] s.enabled.length (fun m t _a z wr=>∃ (k tt:Nat),k<=s.enabled.length/\m=s.enabled.length-k/\t = .int .i64 (tt:Int)/\tt<=70*k/\z = .int .i64 (k:Int)/\Hid (((List.range k).all fun k=>aBu (s.enabled.getD k 0) s.enabled.length (s.arcs.getD k []))=true)/\Bel (w.alloc (.cells #[.slice AE s.enabled.length cE,.slice AA s.arcs.length cA] 42)) wr)
   case atStart=>exact ⟨0,0,by omega,rfl,rfl,by omega,rfl,rfl,HW⟩
   case round =>
    clear HW d3 d3';obtain ⟨k,tt,hk,rfl,rfl,htt,rfl,HI,HW⟩:=hrel;have q0:=aAq HW 0 (v := .slice AE s.enabled.length cE) rfl;have q1:=aAq HW 1 (v := .slice AA s.arcs.length cA) rfl;have ql:=aDd HW
    by_cases hlt:k<s.enabled.length
    .have hd0:decide (k<s.enabled.length)=true:=by simpa using hlt
     have hltA:k<s.arcs.length:=by rw [H2.out];exact hlt
     obtain ⟨bE,oE,rfl,hbE,k0⟩:=(HE.out _ (Bel.refl w)).at_ k hlt;obtain ⟨bA,oA,R,rc,rfl,hbA,k1,hR,_,_⟩:=(HA.out _ (Bel.refl w)).at_ k hltA;have HR:=aA0 (fun w' (k:Bel w w')=>hR.keep k);have HST:Hid (aBu (s.enabled.getD k 0) s.enabled.length (s.arcs.getD k [])=aBu s.enabled[k] s.enabled.length s.arcs[k]):=by show _=_;rw [aA8 hlt,aA8 hltA]
     have hE32:=HWF.out.1 _ (List.getElem_mem hlt);have HX:=aA0 (HWF.out.2 _ (List.getElem_mem hltA));have hll:=HL3.out _ (List.getElem_mem hltA);have hkA:(k:Int)<(s.arcs.length:Int):=by omega
     have hkE:(k:Int)<(s.enabled.length:Int):=by omega
     clear hR;generalize s.arcs[k]=l at *;generalize s.enabled[k]=E at *;have hcell:=aA0 (fun w3 (kk:Bel (w.alloc (.cells #[.slice (some ⟨bE,oE,none⟩) s.enabled.length cE,.slice (some ⟨bA,oA,none⟩) s.arcs.length cA] 42)) w3)=>show w3.cell? ⟨w.heap.size,0,none⟩=some (.slice (some ⟨bE,oE,none⟩) s.enabled.length cE)/\w3.cell? ⟨w.heap.size,1,none⟩=some (.slice (some ⟨bA,oA,none⟩) s.arcs.length cA)/\w3.cell? ⟨bE,oE+k,none⟩=some (.int .u32 (E:Int))/\w3.cell? ⟨bA,oA+k,none⟩=some (.slice R l.length rc)/\w.heap.size<w3.heap.size/\bE<w3.heap.size/\bA<w3.heap.size from ⟨aAq kk 0 rfl,aAq kk 1 rfl,((aA6 kk).cell hbE).trans k0,((aA6 kk).cell hbA).trans k1,aDd kk,Nat.lt_of_lt_of_le hbE (aA6 kk).size,Nat.lt_of_lt_of_le hbA (aA6 kk).size⟩)
     obtain ⟨_,_,_,x1,_,_,xA⟩:=hcell.out _ HW;have d4:decide ((262144:Int)<(tt:Int)+(l.length:Int))=false:=decide_eq_false (by omega)
     have d4':decide (262144<tt+l.length)=false:=decide_eq_false (by omega)
     clear k0 k1;cases hs:aBu E s.enabled.length l with
     | true =>
      go_upto_region 9 with fail
      replace HW:=HW.drew
      go_region_held3 (fun w3=>w3.cell? ⟨w.heap.size,0,none⟩=some (.slice (some ⟨bE,oE,none⟩) s.enabled.length cE)/\w3.cell? ⟨w.heap.size,1,none⟩=some (.slice (some ⟨bA,oA,none⟩) s.arcs.length cA)/\w3.cell? ⟨bE,oE+k,none⟩=some (.int .u32 (E:Int))/\w3.cell? ⟨bA,oA+k,none⟩=some (.slice R l.length rc)/\w.heap.size<w3.heap.size/\bE<w3.heap.size/\bA<w3.heap.size) (exact hcell.out _ HW) (first | (go_simp;go_at_call 130;refine (aL9 E R rc l s.enabled.length _ (HR.out _ (aA6 HW)) hE32 HX.out hll).mono ?_;rintro e w' ⟨rfl,hb⟩;rw [hs];replace HW:=HW.trans hb;clear hb))
      go_wp2_with fail
      go_roundg (s.enabled.length-(k+1))
      case rel =>
       refine ⟨k+1,tt+l.length,by omega,rfl,by go_num,by omega,by go_num,?_,HW⟩
       show _=_
       rw [aRz hlt,HI.out,HST.out,hs];rfl
      case measure=>omega
     | false =>
      have HSF:=aA0 hs
      go_upto_region 9 with fail
      replace HW:=HW.drew
      go_region_held3 (fun w3=>w3.cell? ⟨w.heap.size,0,none⟩=some (.slice (some ⟨bE,oE,none⟩) s.enabled.length cE)/\w3.cell? ⟨w.heap.size,1,none⟩=some (.slice (some ⟨bA,oA,none⟩) s.arcs.length cA)/\w3.cell? ⟨bE,oE+k,none⟩=some (.int .u32 (E:Int))/\w3.cell? ⟨bA,oA+k,none⟩=some (.slice R l.length rc)/\w.heap.size<w3.heap.size/\bE<w3.heap.size/\bA<w3.heap.size) (exact hcell.out _ HW) (first | (go_simp;go_at_call 130;refine (aL9 E R rc l s.enabled.length _ (HR.out _ (aA6 HW)) hE32 HX.out hll).mono ?_;rintro e w' ⟨rfl,hb⟩;rw [hs];replace HW:=HW.trans hb;clear hb))
      go_wp2_with fail
      go_ret;refine ⟨aA1 ?_,aA6 HW⟩
      rw [HF.out,aTy (f:=fun k=>aBu (s.enabled.getD k 0) s.enabled.length (s.arcs.getD k [])) hlt (by rw [HST.out];exact HSF.out)];rfl
    .have hd0:decide (k<s.enabled.length)=false:=by simpa using hlt
     obtain rfl:k=s.enabled.length:=by omega
     go_wp2_with fail
     go_ret;exact ⟨aA1 (by rw [HF.out,HI.out];rfl),aA6 HW⟩
  .have d3:(((s.arcs.length:Nat):Int) != ((s.enabled.length:Nat):Int))=true:=by simp;omega
   have d3':(s.arcs.length != s.enabled.length)=true:=by simp;omega
   rw [decide_eq_false h2] at HF;clear h2;go_enter func89,ntmps89
   go_wp2_with fail
   go_ret;exact ⟨aA1 (by rw [HF.out];rfl),aA6 HW⟩
 .have d1:decide (s.enabled.length<1)=true:=decide_eq_true (by omega)
  have d1I:decide ((s.enabled.length:Int)<1)=true:=decide_eq_true (by omega)
  rw [decide_eq_false h1] at HF;clear h1;go_enter func89,ntmps89
  go_wp2_with fail
  go_ret;exact ⟨aA1 (by rw [HF.out];rfl),aA6 HW⟩
theorem bF0:(prog.info? 22).map (fun i=>(i.zero,i.size,i.bytes))=some (some (.slice none 0 0),1,24):=by kernel_rfl
def bPk (k:Nat):List Value:=[.int .i64 (k:Int)]
def aTe (s:List (List (Nat × Int))) (n k j:Nat):List (List Nat):=(List.range n).map fun t=>aF8 s k t++(((aA7 s k).take j).filter fun x=>toK x==t).map fun _=>k
theorem aPv (s:List (List (Nat × Int))) (n k j:Nat):(aTe s n k j).length=n:=by simp [aTe]
theorem bJt (s:List (List (Nat × Int))) (n:Nat):aTe s n 0 0=List.replicate n []:=by
 apply List.ext_getElem?;intro t
 simp only [aTe,List.getElem?_map,List.getElem?_replicate]
 by_cases h:t<n <;> simp [h,aF8]
theorem aTg (s:List (List (Nat × Int))) (n k:Nat):aTe s n k 0=(List.range n).map fun t=>aF8 s k t:=by simp [aTe]
theorem bJr (s:List (List (Nat × Int))) (n k:Nat):aTe s n k (aA7 s k).length=aTe s n (k+1) 0:=by
 rw [aTg];unfold aTe;apply List.map_congr_left
 intro t _
 rw [List.take_length];unfold aF8;rw [List.range_succ,List.flatMap_append];simp
theorem aOj {s:List (List (Nat × Int))} {n k j t:Nat} (h:t<n):(aTe s n k j)[t]?=some (aF8 s k t++(((aA7 s k).take j).filter fun x=>toK x==t).map fun _=>k):=by simp [aTe,h]
theorem bJs {s:List (List (Nat × Int))} {n k j:Nat} (hj:j<(aA7 s k).length) (ht:toK (aA7 s k)[j]<n) {l:List Nat} (hl:(aTe s n k j)[toK (aA7 s k)[j]]?=some l):(aTe s n k j).set (toK (aA7 s k)[j]) (l++[k])=aTe s n k (j+1):=by
 rw [aOj ht] at hl;injection hl with hl;subst hl
 apply List.ext_getElem?;intro t
 by_cases hq:toK (aA7 s k)[j]=t
 .subst hq
  rw [List.getElem?_set_self (by rw [aPv];exact ht),aOj ht,List.take_succ_eq_append_getElem hj,List.filter_append,List.map_append]
  simp
 .rw [List.getElem?_set_ne hq]
  by_cases h2:t<n
  .rw [aOj h2,aOj h2,List.take_succ_eq_append_getElem hj,List.filter_append,List.map_append]
   simp [hq]
  .rw [List.getElem?_eq_none (by rw [aPv];omega),List.getElem?_eq_none (by rw [aPv];omega)]
theorem aTf {s:List (List (Nat × Int))} {n k j t:Nat} {l:List Nat} (h:(aTe s n k j)[t]?=some l) (hk:k<=700) (hs:∀ k,(aA7 s k).length<=70):l.length<=50000:=by
 have ht:t<n:=by have:=(List.getElem?_eq_some_iff.1 h).1;rwa [aPv] at this
 rw [aOj ht] at h;injection h with h;subst h
 rw [List.length_append,List.length_map];have h1:(((aA7 s k).take j).filter fun x=>toK x==t).length<=70:=Nat.le_trans (List.length_filter_le _ _) (by rw [List.length_take];have:=hs k;omega)
 have h2:∀ m,(aF8 s m t).length<=m*70:=fun m=>by
  induction m with
  | zero=>simp [aF8]
  | succ m ih =>
   unfold aF8 at *;rw [List.range_succ,List.flatMap_append,List.length_append];simp only [List.flatMap_cons,List.flatMap_nil,List.append_nil,List.length_map]
   have:=Nat.le_trans (List.length_filter_le (fun x:Nat × Int=>toK x==t) (aA7 s m)) (hs m);omega
 have:=h2 k;omega
abbrev SrcG:=GrR (α:=Nat) 22 3 1 bPk
theorem aNi (v:Value) (s:Spc) (A:Option Addr) (k n:Nat) (w:World) (h:aBk w v s) (hwf:wfS s) (hl:aCy s=true) (hv:aCf s=true) (hn:n=s.enabled.length) :
  Calls prog 44 #[v,.slice A n k] w fun e w'=>e = .returned (.int .i64 0)/\Bel w w':=by
 have HS:=aA0 (fun w' (k:Bel w w')=>h.keep k);have hle:=(aB5 hl).1;obtain ⟨AE,cE,AA,cA,rfl,hE,hA,_,_,_,_⟩:=h;have HWF:=aA0 hwf;have HL:=aA0 hl;have HV:=aA0 hv;subst hn;clear hwf hl hv hE hA;go_enter func44,ntmps44;have HX:=aA0 (Blk.new w #[.slice AE s.enabled.length cE,.slice AA s.arcs.length cA] 42)
 go_wp2_with (refine (aSi _ s _ (HS.out _ ((Bel.refl w).alloc _)) HWF.out HL.out).mono ?_;rintro e w1 ⟨rfl,hb⟩;rw [HV.out];have HB:=aA0 (((Bel.refl w).alloc (.cells #[.slice AE s.enabled.length cE,.slice AA s.arcs.length cA] 42)).trans hb);have x0:=(HX.out.keep hb).cell 0 (v := .slice AE s.enabled.length cE) rfl;have xl:=(HX.out.keep hb).lt;clear hb)
 go_ret;exact ⟨rfl,HB.out⟩
structure SrI (W0:World) (s:Spc) (gP k j:Nat) (wr:World):Prop where
 grd:∃ hs,SrcG W0.heap.size wr gP s.arcs.length hs (aTe s.arcs s.arcs.length k j)
 bel:Bel W0 wr
theorem aWx (v:Value) (s:Spc) (w:World) (h:aBk w v s) (hl:aCy s=true) (hto:∀ k,∀ x∈aA7 s.arcs k,0<=x.2/\x.2<(s.arcs.length:Int)) :
  Calls prog 129 #[v] w fun e w'=>∃ gP hs,e = .returned (.slice (some ⟨gP,0,none⟩) s.arcs.length s.arcs.length)/\SrcG (w.heap.size+1) w' gP s.arcs.length hs (aTe s.arcs s.arcs.length s.arcs.length 0)/\Bel w w':=by
 have HS:=aA0 (fun w' (k:Bel w w')=>h.keep k);obtain ⟨_,hle,h70⟩:=aB5 hl;obtain ⟨AE,cE,AA,cA,rfl,hE,hA,_,_,_,_⟩:=h;have HA:=aA0 (fun w' (k:Bel w w')=>hA.keep k);have HTO:=aA0 hto
 have H70:Hid (∀ k,(aA7 s.arcs k).length<=70):=fun k=>by
  unfold aA7;rw [List.getD_eq_getElem?_getD];cases hx:s.arcs[k]? with
  | none=>simp
  | some l=>exact h70 l (List.mem_of_getElem? hx)
 clear hl hE hA hto h70;obtain ⟨i0,hi0,hi1,hi2,hi3⟩:=aBq bF0;obtain ⟨j0,hj0,hj1,hj2,hj3⟩:=aBq aJg;obtain ⟨W0,hW0⟩:∃ W:World,W=w.alloc (.cells #[.slice AE s.enabled.length cE,.slice AA s.arcs.length cA] 42):=⟨_,rfl⟩;have e0:W0.heap.size=w.heap.size+1:=by rw [hW0];exact World.size_alloc _ _
 have HW0:Hid (Bel w W0):=by rw [hW0];exact (Bel.refl w).alloc _
 have HBX:Hid (Blk W0 w.heap.size #[.slice AE s.enabled.length cE,.slice AA s.arcs.length cA] 42):=by rw [hW0];exact Blk.new w _ _
 go_enter func129,ntmps129
 go_wp2_with (at_make;rw [<- hW0];refine aB7 _ rfl 66 (.tmp 10) (.tmp 10) rfl W0.heap.size 22 i0 (.slice none 0 0) 1 underlying66 hi0 hi1 hi2 .i64 .i64 s.arcs.length rfl rfl (by rw [hi3];omega) (by unfold maxLen;omega) (Nat.le_refl _) ?_;intro gP w1 hown hb;rw [aB3 _ rfl] at hown;have HO:=aA0 hown;have HB:=aA0 hb;have y1:=(HBX.out.keep hb).cell 1 (v := .slice AA s.arcs.length cA) rfl;have yl:=(HBX.out.keep hb).lt;clear hown hb)
 have hI:SrI W0 s gP 0 0 w1:=⟨⟨List.replicate s.arcs.length (.slice none 0 0),by rw [bJt];exact GrR.made HO.out⟩,HB.out⟩
 clear HO HB y1 yl
 go_loopg [4,5,15] s.arcs.length (fun m _x _y z wr=>∃ k:Nat,k<=s.arcs.length/\m=s.arcs.length-k/\z = .int .i64 (k:Int)/\Hid (SrI W0 s gP k 0 wr))
 case atStart=>exact ⟨0,by omega,rfl,rfl,hI⟩
 case round =>
  clear hI;obtain ⟨wo,rfl⟩:∃ wo:World,wo=wr:=⟨_,rfl⟩;obtain ⟨k,hk,rfl,rfl,HI⟩:=hrel
  by_cases hlt:k<s.arcs.length
  .have hd0:decide (k<s.arcs.length)=true:=by simpa using hlt
   obtain ⟨bA,oA,R,rc,rfl,hbA,x0,hR,_,_⟩:=(HA.out _ HW0.out).at_ k hlt;have hark:s.arcs[k]=aA7 s.arcs k:=by simp [aA7,hlt]
   rw [hark] at x0 hR;have x1:=(HI.out.bel.cell hbA).trans x0;have hbA2:=Nat.lt_of_lt_of_le hbA HI.out.bel.size;have HR:=aA0 (fun w' (kk:Bel W0 w')=>hR.keep kk);have hJ:=H70.out k;have HTK:=aA0 (HTO.out k);clear hR;clear x0 hbA
   go_wp2_with fail
   clear x1
   go_loopg [7,22] (aA7 s.arcs k).length (fun m _y z wr=>∃ j:Nat,j<=(aA7 s.arcs k).length/\m=(aA7 s.arcs k).length-j/\z = .int .i64 (j:Int)/\Hid (SrI W0 s gP k j wr))
   case atStart=>exact ⟨0,by omega,rfl,rfl,HI.out⟩
   case round =>
    obtain ⟨j,hj,rfl,rfl,HJ⟩:=hrel
    by_cases hlt2:j<(aA7 s.arcs k).length
    .have hd1:decide (j<(aA7 s.arcs k).length)=true:=by simpa using hlt2
     obtain ⟨b2,o2,rfl,hb2,c0,c1⟩:=aAc.at_ (HR.out _ HJ.out.bel) j hlt2;obtain ⟨hx1,hx2⟩:=HTK.out _ (List.getElem_mem hlt2);have htK:(aA7 s.arcs k)[j].2=((toK (aA7 s.arcs k)[j]:Nat):Int):=by unfold toK;omega
     have htl:toK (aA7 s.arcs k)[j]<s.arcs.length:=by unfold toK;omega
     rw [htK] at c1;have HTKJ:=aA0 htK;clear htK hx1 hx2;generalize hset:(aA7 s.arcs k)[j].1=S at c0;have HP0:=aA0 (fun l (hl:(aTe s.arcs s.arcs.length k j)[toK (aA7 s.arcs k)[j]]?=some l)=>bJs hlt2 htl hl);generalize toK (aA7 s.arcs k)[j]=t at *
     go_wp2_with fail
     obtain ⟨⟨hs,hg0⟩,hbel0⟩:=HJ.out;have hga:=aA0 (hg0.keep ((Bel.refl wr).alloc (.cells #[.int .u32 (S:Int),.int .i64 (t:Int)] 108)));have HBE:=aA0 (hbel0.alloc (.cells #[.int .u32 (S:Int),.int .i64 (t:Int)] 108));have HBX2:=aA0 (Blk.new wr #[.int .u32 (S:Int),.int .i64 (t:Int)] 108);clear hg0 hbel0 HJ c0 c1;generalize wr.alloc (.cells #[.int .u32 (S:Int),.int .i64 (t:Int)] 108)=wx at *;generalize wr.heap.size=bx at *;obtain ⟨l,hl⟩:∃ l,(aTe s.arcs s.arcs.length k j)[t]?=some l:=⟨_,aOj htl⟩;have hsm:=aTf hl (by omega) H70.out
     have HPU:=aA0 (HP0.out l hl);obtain ⟨A,c',hc,hf,ho,hhi⟩:=hga.out.head hl;have HO:=aA0 ho;have HH:=aA0 hhi;have HL:=aA0 hl;have hgl:=hga.out.lt
     have hcell:Hid (∀ w',Bel wx w'->w'.cell? ⟨bx,1,none⟩=some (.int .i64 (t:Int))/\w'.cell? ⟨gP,t,none⟩=some (.slice A l.length c')/\bx<w'.heap.size/\gP<w'.heap.size):=fun w' kk =>
      ⟨(HBX2.out.keep kk).cell 1 rfl,(kk.cell hga.out.lt.2).trans hc,(HBX2.out.keep kk).lt,Nat.lt_of_lt_of_le hga.out.lt.2 kk.size⟩
     have htd:decide (t<s.arcs.length)=true:=by simpa using htl
     clear ho hhi hc hf hl HP0;refine aA4.start (fun w'=>w'.cell? ⟨bx,1,none⟩=some (.int .i64 (t:Int))/\w'.cell? ⟨gP,t,none⟩=some (.slice A l.length c')/\bx<w'.heap.size/\gP<w'.heap.size) 12 (by kernel_rfl) ?_
     have HB:=(Bel.refl wx).drew;have hHeld:=hcell.out _ HB
     (refine aA4.u (v:=?_) 0 26 rfl hHeld ?_ ?_;rotate_left 1;focus (intro w' hSw;(try dsimp only at hSw);go_simp;(try with_reducible rfl);done));(refine aA4.u (v:=?_) 1 27 rfl hHeld ?_ ?_;rotate_left 1;focus (intro w' hSw;(try dsimp only at hSw);go_simp;(try with_reducible rfl);done));(refine aA4.u (v:=?_) 2 28 rfl hHeld ?_ ?_;rotate_left 1;focus (intro w' hSw;(try dsimp only at hSw);go_simp;(try with_reducible rfl);done));(refine aA4.u (v:=?_) 3 29 rfl hHeld ?_ ?_;rotate_left 1;focus (intro w' hSw;(try dsimp only at hSw);go_simp;(try with_reducible rfl);done));(refine aA4.u (v:=?_) 4 30 rfl hHeld ?_ ?_;rotate_left 1;focus (intro w' hSw;(try dsimp only at hSw);go_simp;(try with_reducible rfl);done));(refine aA4.u (v:=?_) 5 31 rfl hHeld ?_ ?_;rotate_left 1;focus (intro w' hSw;(try dsimp only at hSw);go_simp;(try with_reducible rfl);done));(refine aA4.u (v:=?_) 6 32 rfl hHeld ?_ ?_;rotate_left 1;focus (intro w' hSw;(try dsimp only at hSw);go_simp;(try with_reducible rfl);done));(refine aA4.u (v:=?_) 7 33 rfl hHeld ?_ ?_;rotate_left 1;focus (intro w' hSw;(try dsimp only at hSw);go_simp;(try with_reducible rfl);done));(refine aA4.u (v:=?_) 8 34 rfl hHeld ?_ ?_;rotate_left 1;focus (intro w' hSw;(try dsimp only at hSw);go_simp;(try with_reducible rfl);done))
     clear hHeld;have HOa:=aA0 ((show wx.drew.ownsRow W0.heap.size 3 1 (.slice A l.length c') l.length (l.flatMap bPk) from HO.out).alloc (.cells #[.int .i64 (k:Int)] 3))
     have HBa:=HB.alloc (.cells #[.int .i64 (k:Int)] 3);have HNEW:=aA0 (aAx wx.drew (.cells #[.int .i64 (k:Int)] 3));have hws:W0.heap.size<=wx.heap.size:=HBE.out.size;refine aA4.one (i:=9) (by kernel_rfl) rfl (fun K hK=>?_)
     go_simp
     refine hK.out _ _ (fun _=>hcell.out _ HBa) ?_
     clear hK K
     (try simp only [Act.put,List.setIfInBounds_toArray,List.set_cons_zero,List.set_cons_succ])
     refine aA4.one (i:=10) (by kernel_rfl) rfl (fun K hK=>?_)
     refine aCn _ rfl (.tmp 33) (.tmp 35) 22 rfl W0.heap.size 3 j0 (.int .i64 0) 1 8 underlying22 hj0 hj1 hj2 hj3 rfl (by decide) A l.length c' (l.flatMap bPk) (by simp [Act.eval]) HOa.out wx.heap.size #[.int .i64 (k:Int)] 3 (0,0) (by simp [Act.eval]) HNEW.out rfl (aO9 _ _) (by unfold maxLen;omega) (by omega) (by have e9:wx.drew.heap.size=wx.heap.size:=rfl;simp;omega) ?_
     intro A2 c2 w4 hown hgr hat
     have HP:=aA0 (hga.out.push (by decide) HL.out HH.out (x:=k) HBa hgr hown hat)
     have HE4:=aA0 (hga.out.bel HBE.out HL.out HH.out HBa hgr (.slice A2 (l.length+1) c2));have HX4:=aA0 ((HBX2.out.keep HBa).grown hgr ((HBX2.out.keep HBa).apart HOa.out (by decide)))
     have HO4:=aA0 (World.ownsRow.kept (HBa.owns hga.out.own) hgr (aAn HOa.out (HBa.owns hga.out.own) (by decide)))
     obtain ⟨g1,e1,_,hl4,hc4,hf4⟩:=aAj HO4.out HH.out;obtain rfl:gP=g1:=by simpa using e1
     have hz4:=HX4.out.cell 1 (v := .int .i64 (t:Int)) rfl;have hg4:=HX4.out.lt;refine hK.out _ _ (fun _=>⟨hz4,hc4,hg4,hl4⟩) ?_
     clear hK K hown hgr hat
     (try simp only [Act.put,List.setIfInBounds_toArray,List.set_cons_zero,List.set_cons_succ])
     have hHeld:w4.cell? ⟨bx,1,none⟩=some (.int .i64 (t:Int))/\w4.cell? ⟨gP,t,none⟩=some (.slice A l.length c')/\bx<w4.heap.size/\gP<w4.heap.size:=⟨hz4,hc4,hg4,hl4⟩
     (refine aA4.u (v:=?_) 11 37 rfl hHeld ?_ ?_;rotate_left 1;focus (intro w' hSw;(try dsimp only at hSw);go_simp;(try with_reducible rfl);done))
     (refine aA4.one (i:=12) (by kernel_rfl) rfl (fun K hK=>?_));go_simp;refine hK.out _ _ (fun h=>absurd rfl h) ?_;clear hK K;refine aA4.done (by kernel_rfl) ?_ _;(try simp only [Act.put,List.setIfInBounds_toArray,List.set_cons_zero,List.set_cons_succ])
     clear hHeld
     go_wp2_with fail
     go_roundg ((aA7 s.arcs k).length-(j+1))
     case rel =>
      rw [HPU.out] at HP;exact ⟨j+1,by omega,rfl,by go_num,⟨_,HP.out⟩,HE4.out⟩
     case measure=>omega
    .obtain rfl:j=(aA7 s.arcs k).length:=by omega
     have hd1:decide ((aA7 s.arcs k).length<(aA7 s.arcs k).length)=false:=by simp
     go_wp2_with fail
     go_roundg (s.arcs.length-(k+1))
     case rel=>exact ⟨k+1,by omega,rfl,by go_num,by rw [<- bJr];exact HJ.out.grd,HJ.out.bel⟩
     case measure=>omega
  .obtain rfl:k=s.arcs.length:=by omega
   have hd0:decide (s.arcs.length<s.arcs.length)=false:=by simp
   go_wp2_with fail
   obtain ⟨⟨hs,hg⟩,hb⟩:=HI.out;refine bodyPost_ret (v := .slice (some ⟨gP,0,none⟩) s.arcs.length s.arcs.length) (by simp [results,Tryz.results129]) rfl ?_
   exact ⟨gP,hs,rfl,by rw [e0] at hg;exact hg,HW0.out.trans hb⟩
def aPq (k:Nat):Value := .int .i64 (k:Int)
theorem bO8 (l:List Nat) (m:Nat) (h:m<l.length):(l.flatMap bPk)[m]?=some (aPq l[m]):=by
 have:∀ (l:List Nat) , l.flatMap bPk=l.map aPq:=fun l=>by induction l with | nil=>rfl | cons x l ih=>rw [List.flatMap_cons,ih];rfl
 rw [this,List.getElem?_map,List.getElem?_eq_getElem h];rfl
theorem bOb {w:World} {base e size n:Nat} {v:Value} {xs:List Value} (h:w.ownsRow base e size v n xs) (k:Nat):(w.drewN k).ownsRow base e size v n xs:=h
theorem Agr.drewN {E:Nat->Prop} {A B:World} (h:Agr E A B) (k:Nat):Agr E A (B.drewN k):=⟨h.os,h.tape,h.output,h.size,h.block⟩
theorem GrR.agr {α:Type} {eo ei:TypeId} {sz:Nat} {f:α->List Value} {N:Nat} {w w':World} {gb c:Nat} {hs:List Value} {xss:List (List α)} {E:Nat->Prop} (h:GrR eo ei sz f N w gb c hs xss) (k:Agr E w w') (hE:∀ q,N<=q->q<w.heap.size->¬ E q):GrR eo ei sz f N w' gb c hs xss :=
 ⟨aBi h.own k (fun q hq=>by obtain ⟨a,b⟩:=h.own.lt q hq;exact hE q a b),fun i l hl=>by
  obtain ⟨A,k',e,h2⟩:=h.rows i l hl;exact ⟨A,k',e,aBi h2 k (fun q hq=>by obtain ⟨a,b⟩:=h2.lt q hq;exact hE q a b)⟩,h.apart⟩
theorem OrdJ.small {s:List (List (Nat × Int))} {set:List Bool} {n i m:Nat} {o e:List Nat} (h:OrdJ s set n i m o e) (h70:∀ k,(aA7 s k).length<=70) {k:Nat} (hk:k<n):e.getD k 0<=140:=by
 rw [h.ec k hk];have h1:=aPk (o.take i) (aA7 s k);have h2:((aF8 s n (o.getD i 0)).take m).count k<=(aF8 s n (o.getD i 0)).count k:=List.Sublist.count_le _ (List.take_sublist _ _);rw [aKm,if_pos hk] at h2;have h3:(aA7 s k).countP (fun x=>toK x==o.getD i 0)<=(aA7 s k).length:=List.countP_le_length;have:=h70 k;omega
theorem aYx {s:List (List (Nat × Int))} {n t:Nat} (h:t<n):(aTe s n n 0)[t]?=some (aF8 s n t):=by rw [aTg];simp [h]
def aG4 (set:List Bool) (k:Nat):List Nat:=(List.range k).filter fun k=>set.getD k false
theorem aSn {set:List Bool} {k:Nat} (h:set.getD k false=true):aG4 set (k+1)=aG4 set k++[k]:=by unfold aG4;rw [List.range_succ,List.filter_append];congr 1;rw [List.filter_cons,if_pos h];rfl
theorem aWl {set:List Bool} {k:Nat} (h:set.getD k false=false):aG4 set (k+1)=aG4 set k:=by unfold aG4;rw [List.range_succ,List.filter_append,List.filter_cons,if_neg (by rw [h];simp)];simp
theorem aWk (set:List Bool) (k:Nat):(aG4 set k).length<=k:=by unfold aG4;exact Nat.le_trans (List.length_filter_le _ _) (by simp)
structure OrI (W0 ws:World) (B1:Nat) (s:Spc) (set:List Bool) (ge:Nat) (A:Option Addr) (c i m:Nat) (o e:List Nat) (wr:World):Prop where
 bel:Bel W0 wr
 agr:Agr (fun q=>q<B1∨ws.heap.size<=q) ws wr
 ord:wr.ownsRow W0.heap.size 3 1 (.slice A o.length c) o.length (o.map aPq)
 off:∀ q,(Value.slice A o.length c).ownBlock=some q->(q<B1∨ws.heap.size<=q)/\q≠ge
 ent:wr.ownsRow ws.heap.size 3 1 (.slice (some ⟨ge,0,none⟩) s.arcs.length s.arcs.length) s.arcs.length (e.map aPq)
 inv:OrdJ s.arcs set s.arcs.length i m o e
theorem OrdJ.step' {s:List (List (Nat × Int))} {set:List Bool} {n i m:Nat} {o e:List Nat} (h:OrdJ s set n i m o e) (hi:i<o.length) {l:List Nat} (hl:aF8 s n (o.getD i 0)=l) (hm:m<l.length) {k q:Nat} (hk:k=l[m]) (hq:q=e.getD k 0) {o':List Nat} (ho:o'=if set.getD k false=false/\q+1=(aA7 s k).length then o++[k] else o):OrdJ s set n i (m+1) o' (e.set k (q+1)):=by
 subst hl;subst hk;subst hq;exact h.step hi hm rfl ho
theorem bLu (e:List Nat) (k q:Nat):(e.map aPq).set k (.int .i64 ((q:Int)+1))=(e.set k (q+1)).map aPq:=by rw [List.map_set];rfl
theorem OrI.put {W0 ws:World} {B1:Nat} {s:Spc} {set:List Bool} {ge:Nat} {A:Option Addr} {c i m:Nat} {o e:List Nat} {wr:World} (h:OrI W0 ws B1 s set ge A c i m o e wr) (hs:W0.heap.size<=ws.heap.size) (k q:Nat) :
  Bel W0 (wr.setCell ⟨ge,k,none⟩ (.int .i64 ((q:Int)+1)))/\Agr (fun q=>q<B1∨ws.heap.size<=q) ws (wr.setCell ⟨ge,k,none⟩ (.int .i64 ((q:Int)+1)))/\(wr.setCell ⟨ge,k,none⟩ (.int .i64 ((q:Int)+1))).ownsRow W0.heap.size 3 1 (.slice A o.length c) o.length (o.map aPq)/\(wr.setCell ⟨ge,k,none⟩ (.int .i64 ((q:Int)+1))).ownsRow ws.heap.size 3 1 (.slice (some ⟨ge,0,none⟩) s.arcs.length s.arcs.length) s.arcs.length ((e.set k (q+1)).map aPq):=by
 have hge:=(aAa h.ent).1;refine ⟨h.bel.setCell (by show W0.heap.size<=ge;omega) _,h.agr.trans (Agr.setCell _ _ _ (.inr hge)),aBi h.ord (Agr.setCell (E:=fun q=>q=ge) wr ⟨ge,k,none⟩ _ rfl) (fun q hq e=>(h.off q hq).2 e),?_⟩
 have:=(h.ent.stored k (.int .i64 ((q:Int)+1))).1;rw [bLu] at this;exact this
theorem aSr (v:Value) (s:Spc) (A:Option Addr) (kc:Nat) (set:List Bool) (w:World) (h:aBk w v s) (hB:aEw w A s.arcs.length set) (hl:aCy s=true) (hto:∀ k,∀ x∈aA7 s.arcs k,0<=x.2/\x.2<(s.arcs.length:Int)) :
  Calls prog 88 #[v,.slice A s.arcs.length kc] w fun e w'=>∃ o Ao co,e = .returned (.slice Ao o.length co)/\OrdP s.arcs set s.arcs.length o/\w'.ownsRow (w.heap.size+1) 3 1 (.slice Ao o.length co) o.length (o.map aPq)/\Bel w w':=by
 have HS:=aA0 (fun w' (k:Bel w w')=>h.keep k);obtain ⟨_,hle,h70⟩:=aB5 hl;obtain ⟨AE,cE,AA,cA,rfl,hE,hA,_,_,_,_⟩:=h;have HA:=aA0 (fun w' (k:Bel w w')=>hA.keep k);have HSET:=aA0 (fun w' (k:Bel w w')=>hB.keep k);have hsl:set.length=s.arcs.length:=hB.1;have HTO:=aA0 hto;have HLI:=aA0 hl
 have H70:Hid (∀ k,(aA7 s.arcs k).length<=70):=fun k=>by
  unfold aA7;rw [List.getD_eq_getElem?_getD];cases hx:s.arcs[k]? with
  | none=>simp
  | some l=>exact h70 l (List.mem_of_getElem? hx)
 clear hl hE hA hto h70 hB;obtain ⟨j0,hj0,hj1,hj2,hj3⟩:=aBq aJg;obtain ⟨W0,hW0⟩:∃ W:World,W=w.alloc (.cells #[.slice AE s.enabled.length cE,.slice AA s.arcs.length cA] 42):=⟨_,rfl⟩;have e0:W0.heap.size=w.heap.size+1:=by rw [hW0];exact World.size_alloc _ _
 have HW0:Hid (Bel w W0):=by rw [hW0];exact (Bel.refl w).alloc _
 have HBX:Hid (Blk W0 w.heap.size #[.slice AE s.enabled.length cE,.slice AA s.arcs.length cA] 42):=by rw [hW0];exact Blk.new w _ _
 go_enter func88,ntmps88
 go_wp2_with fail
 rw [<- hW0];clear hW0;have hI:W0.ownsRow W0.heap.size 3 1 (.slice none 0 0) 0 []:=World.ownsRow_nil _ _ _ _
 go_loopg [5,6,7,15] s.arcs.length (fun m y _a _b z wr=>∃ (k:Nat) (Ao:Option Addr) (co:Nat),k<=s.arcs.length/\m=s.arcs.length-k/\z = .int .i64 (k:Int)/\y = .slice Ao (aG4 set k).length co/\Hid (wr.ownsRow W0.heap.size 3 1 (.slice Ao (aG4 set k).length co) (aG4 set k).length ((aG4 set k).map aPq))/\Bel W0 wr)
 case atStart=>exact ⟨0,none,0,by omega,rfl,rfl,rfl,hI,Bel.refl _⟩
 case round =>
  clear hI;obtain ⟨k,Ao,co,hk,rfl,rfl,rfl,HO,HB⟩:=hrel
  by_cases hlt:k<s.arcs.length
  .have hd0:decide (k<s.arcs.length)=true:=by simpa using hlt
   obtain ⟨bA,oA,rfl,hbA,x1⟩:=(HSET.out _ (HW0.out.trans HB)).at_ k (by rw [hsl];exact hlt)
   have hgd:set[k]'(by rw [hsl];exact hlt)=set.getD k false:=by simp [List.getD_eq_getElem?_getD,hsl,hlt]
   have hle2:=aWk set k;rw [hgd] at x1;have HWs:=HB.size;cases hc:set.getD k false with
   | true =>
    rw [hc] at x1
    go_wp2_with (at_builtin;refine aBr _ rfl (.tmp 21) (.tmp 23) 22 rfl W0.heap.size 3 j0 (.int .i64 0) 1 8 underlying22 hj0 hj1 hj2 hj3 rfl (by decide) Ao (aG4 set k).length co ((aG4 set k).map aPq) (by simp [Act.eval]) (HO.out.alloc _) wr.heap.size #[.int .i64 (k:Int)] 3 (0,0) (by simp [Act.eval]) (aAx _ _) rfl (aO9 _ _) (by unfold maxLen;omega) (by omega) (by simp;omega) ?_;intro A2 c2 w4 hown hgr hat;have HN:=aA0 hown;have HB4:=(HB.alloc (.cells #[.int .i64 (k:Int)] 3)).push (HO.out.alloc _) hgr;clear hown hgr hat)
    go_roundg (s.arcs.length-(k+1))
    case rel=>exact ⟨k+1,A2,c2,by omega,rfl,by go_num,by rw [aSn hc,List.length_append];rfl,by rw [aSn hc,List.length_append,List.map_append];exact HN.out,HB4⟩
    case measure=>omega
   | false =>
    rw [hc] at x1
    go_wp2_with fail
    go_roundg (s.arcs.length-(k+1))
    case rel=>exact ⟨k+1,Ao,co,by omega,rfl,by go_num,by rw [aWl hc],by rw [aWl hc];exact HO.out,HB⟩
    case measure=>omega
  .obtain rfl:k=s.arcs.length:=by omega
   have hd0:decide (s.arcs.length<s.arcs.length)=false:=by simp
   have hle2:=aWk set s.arcs.length;have hx1:=(HBX.out.keep HB).cell 0 (v := .slice AE s.enabled.length cE) rfl;have hx2:=(HBX.out.keep HB).cell 1 (v := .slice AA s.arcs.length cA) rfl;have hxl:=(HBX.out.keep HB).lt;have HB':=aA0 HB
   go_wp2_with (first
    | (go_at_call 129;refine (aWx _ s _ (HS.out _ (HW0.out.trans HB'.out)) HLI.out HTO.out).mono ?_;rintro e ws ⟨gP,hs,rfl,hsg,hb⟩;have HSG:=aA0 hsg;have HBs:=aA0 hb;clear hsg hb)
    | (at_make;refine aB7 _ rfl 22 (.tmp 29) (.tmp 29) rfl ws.heap.size 3 j0 (.int .i64 0) 1 underlying22 hj0 hj1 hj2 .i64 .i64 s.arcs.length rfl rfl (by rw [hj3];omega) (by unfold maxLen;omega) (Nat.le_refl _) ?_;intro ge we hown hb;rw [aB3 _ rfl] at hown;have HE:=aA0 hown;have HBe:=aA0 hb;clear hown hb))
   have hI:OrI W0 ws (wr.heap.size+1) s set ge Ao co 0 0 (aG4 set s.arcs.length) (List.replicate s.arcs.length 0) we:=by
    have hsz:=HBs.out.size;have hge:=(aAa HE.out).1;have hsg:=HSG.out.lt;refine ⟨HB'.out.trans (HBs.out.trans HBe.out),Agr.bel' HBe.out,HBe.out.owns (HBs.out.owns HO.out),fun q hq=>?_,?_,OrdJ.start _ _ _⟩
    .have:=(HO.out.lt q hq).2
     exact ⟨.inl (by omega),by omega⟩
    .rw [List.map_replicate];exact HE.out
   have hB1:wr.heap.size+1<=gP:=HSG.out.lt.1;have hB2:gP<ws.heap.size:=HSG.out.lt.2;have hW0s:W0.heap.size<=ws.heap.size:=(HB'.out.trans HBs.out).size;have hW0r:=HB'.out.size;clear HB' HO HE HB hx1 hx2 hxl hle2 HBs HBe;generalize wr.heap.size+1=B1 at *;generalize hO0:aG4 set s.arcs.length=o0 at *;clear hO0
   go_loopg [5,10,12] s.arcs.length (fun m y z _a wr=>∃ (i:Nat) (Ao:Option Addr) (co:Nat) (o e:List Nat),m=s.arcs.length-i/\y = .slice Ao o.length co/\z = .int .i64 (i:Int)/\Hid (OrI W0 ws B1 s set ge Ao co i 0 o e wr))
   case atStart=>exact ⟨0,Ao,co,o0,_,by omega,rfl,rfl,hI⟩
   case round =>
    clear hI;obtain ⟨wo,rfl⟩:∃ wo:World,wo=wr:=⟨_,rfl⟩;obtain ⟨i,Ao,co,o,e,rfl,rfl,rfl,HI⟩:=hrel
    by_cases hlt:i<o.length
    .have hd1:decide (i<o.length)=true:=by simpa using hlt
     have hxn:o[i]<s.arcs.length:=HI.out.inv.lt _ (List.getElem_mem hlt);obtain ⟨g0,rfl,_,l0,c0,_⟩:=aAj HI.out.ord (j:=i) (u:=aPq o[i]) (by simp [hlt])
     obtain ⟨A2,k2,hc,_,ho,_⟩:=HSG.out.head (aYx hxn);have hcr:=(HI.out.agr.cell hB2 (by omega)).trans hc
     have hgd:o.getD i 0=o[i]:=by simp [List.getD_eq_getElem?_getD,hlt]
     have HO:=aA0 ho;have hgl:=Nat.lt_of_lt_of_le hB2 HI.out.agr.size;have hxd:decide (o[i]<s.arcs.length)=true:=by simpa using hxn
     unfold aPq at c0;clear hc ho;have HGD:=aA0 hgd;clear hgd;generalize hx:o[i]=x at *;clear hx;have hll:(aF8 s.arcs s.arcs.length x).length<=50000:=aTf (aYx hxn) (by omega) H70.out
     generalize hL:aF8 s.arcs s.arcs.length x=l at *;have HL:=aA0 hL;clear hL
     go_wp2_with fail
     clear hcr c0
     go_loopg [5,12,45] l.length (fun m y _a z wr=>∃ (j:Nat) (Ao:Option Addr) (co:Nat) (o e:List Nat),j<=l.length/\m=l.length-j/\y = .slice Ao o.length co/\z = .int .i64 (j:Int)/\i<o.length/\Hid (o.getD i 0=x)/\Hid (OrI W0 ws B1 s set ge Ao co i j o e wr))
     case atStart=>exact ⟨0,_,_,_,_,by omega,by omega,rfl,rfl,hlt,HGD,HI⟩
     case round =>
      clear HI HGD hlt hd1 l0;obtain ⟨wq,rfl⟩:∃ wq:World,wq=wr:=⟨_,rfl⟩;obtain ⟨j,Ao,co,o,e,hj,rfl,rfl,rfl,hlt,HGD,HI⟩:=hrel
      by_cases hlt2:j<l.length
      .have hd1:decide (j<l.length)=true:=by simpa using hlt2
       have hol:=HI.out.inv.len;have hkn:l[j]<s.arcs.length:=bJu (s:=s.arcs) (t:=x) (by rw [HL.out];exact List.getElem_mem hlt2)
       have hB1w:B1<=ws.heap.size:=by omega
       obtain ⟨g2,rfl,hg2a,hg2b,c1,_⟩:=aAj (aBi HO.out HI.out.agr (fun q hq=>by obtain ⟨a,b⟩:=HO.out.lt q hq;omega)) (bO8 l j hlt2)
       have hel:=HI.out.inv.el;obtain ⟨g3,e3,hg3a,hg3b,c2,f2⟩:=aAj HI.out.ent (j:=l[j]) (u:=aPq (e.getD l[j] 0)) (by simp [List.getD_eq_getElem?_getD,hel,hkn])
       obtain rfl:ge=g3:=by simpa using e3
       have hsm:=HI.out.inv.small H70.out hkn;obtain ⟨k,hkE⟩:∃ k,k=l[j]:=⟨_,rfl⟩;obtain ⟨q,hqE⟩:∃ q,q=e.getD l[j] 0:=⟨_,rfl⟩;rw [<- hqE] at c2 hsm;rw [<- hkE] at c1 c2 f2 hkn hqE;have hke:=aA0 hkE;have hqe:=aA0 hqE;clear hkE hqE e3;unfold aPq at c1 c2;have hkd:decide (k<s.arcs.length)=true:=by simpa using hkn
       go_upto_region 17 with fail
       obtain ⟨B5,AG5,OR5,EN5⟩:=HI.out.put hW0s k q;have OFF:=aA0 HI.out.off;have INV:=aA0 HI.out.inv;have hws5:=AG5.size;clear HI c1 c2 f2 hg2a hg2b hg3b;generalize wq.setCell ⟨ge,k,none⟩ (.int .i64 ((q:Int)+1))=w5 at *;have BE5:=aA0 B5;have AGR5:=aA0 AG5;have ORD5:=aA0 OR5;have ENT5:=aA0 EN5;clear B5 AG5 OR5 EN5;obtain ⟨bA,oA,rfl,hbA,x1⟩:=(HSET.out _ (HW0.out.trans BE5.out)).at_ k (by rw [hsl];exact hkn)
       have hgs:set[k]'(by rw [hsl];exact hkn)=set.getD k false:=by simp [List.getD_eq_getElem?_getD,hsl,hkn]
       rw [hgs] at x1;obtain ⟨bB,oB,R,rc,rfl,hbB,x2,_,_,_⟩:=(HA.out _ (HW0.out.trans BE5.out)).at_ k hkn;have hark:s.arcs[k]=aA7 s.arcs k:=by simp [aA7,hkn]
       rw [hark] at x2;have y1:=(HBX.out.keep BE5.out).cell 1 (v := .slice (some ⟨bB,oB,none⟩) s.arcs.length cA) rfl;have yl:=(HBX.out.keep BE5.out).lt;obtain ⟨g4,e4,_,hg4b,c5,_⟩:=aAj ENT5.out (j:=k) (u:=aPq (q+1)) (by rw [List.getElem?_map,List.getElem?_set_self (by omega)];rfl)
       obtain rfl:ge=g4:=by simpa using e4
       have c5':w5.cell? ⟨ge,k,none⟩=some (.int .i64 ((q:Int)+1)):=c5;clear c5 e4 hgs hark;cases hc:set.getD k false with
       | true =>
        rw [hc] at x1
        go_quiet (fail)
        go_wp2_with fail
        go_roundg (l.length-(j+1))
        case rel=>exact ⟨j+1,Ao,co,o,e.set k (q+1),by omega,rfl,rfl,by go_num,hlt,HGD.out,BE5.out.drewN _,AGR5.out.drewN _,ORD5.out,OFF.out,ENT5.out,INV.out.step' hlt (by rw [HGD.out];exact HL.out) hlt2 hke.out hqe.out (by rw [if_neg (by rw [hc];simp)])⟩
        case measure=>omega
       | false =>
        rw [hc] at x1
        by_cases hq:q+1=(aA7 s.arcs k).length
        .have hqd:decide ((q:Int)+1=((aA7 s.arcs k).length:Int))=true:=by simpa using (by omega:(q:Int)+1=((aA7 s.arcs k).length:Int))
         have hqd2:((q:Int)+1==((aA7 s.arcs k).length:Int))=true:=by rw [beq_iff_eq];omega
         go_quiet (fail)
         have hW05:W0.heap.size<=w5.heap.size:=by omega
         have hgew:ge<w5.heap.size:=hg4b
         go_wp2_with (at_builtin;refine aBr _ rfl (.tmp 73) (.tmp 75) 22 rfl W0.heap.size 3 j0 (.int .i64 0) 1 8 underlying22 hj0 hj1 hj2 hj3 rfl (by decide) Ao o.length co (o.map aPq) (by simp [Act.eval]) ((bOb ORD5.out _).alloc _) w5.heap.size #[.int .i64 (k:Int)] 3 (0,0) (by simp [Act.eval]) (aAx _ _) rfl (aO9 _ _) (by unfold maxLen;omega) (by omega) (by simp;omega) ?_;intro A6 c6 w6 hown hgr hat;have HN:=aA0 hown;have HGR:=aA0 hgr;have HAT:=aA0 hat;clear hown hgr hat)
         go_roundg (l.length-(j+1))
         case rel =>
          have hge:ws.heap.size<=ge:=(aAa ENT5.out).1;have hsz6:∀ nq,((w5.drewN nq).alloc (.cells #[.int .i64 (k:Int)] 3)).heap.size=w5.heap.size+1:=fun nq=>World.size_alloc _ _;refine ⟨j+1,A6,c6,o++[k],e.set k (q+1),by omega,rfl,by rw [List.length_append];rfl,by go_num,by rw [List.length_append];omega,?_,((BE5.out.drewN _).alloc _).push ((bOb ORD5.out _).alloc _) HGR.out,?_,?_,?_,?_,INV.out.step' hlt (by rw [HGD.out];exact HL.out) hlt2 hke.out hqe.out (by rw [if_pos ⟨hc,hq⟩])⟩
          .show (o++[k]).getD i 0=x
           rw [<- HGD.out];simp [List.getD_eq_getElem?_getD,List.getElem?_append_left hlt]
          .refine ((AGR5.out.drewN _).trans (Agr.alloc _ _ _)).trans (Agr.grownV HGR.out (fun q hq=>(OFF.out q hq.symm).1))
          .rw [List.length_append,List.map_append];exact HN.out
          .intro q' hq'
           rw [List.length_append] at hq'
           rcases HAT.out with e | e
           .exact OFF.out q' (e ▸ hq')
           .have:some q'=some (w5.heap.size+1):=by rw [<- hsz6 _,<- e];exact hq'.symm
            injection this with this
            exact ⟨.inr (by omega),by omega⟩
          .exact World.ownsRow.kept ((bOb ENT5.out _).alloc _) HGR.out (.inr (fun e=>(OFF.out ge (by rw [<- e];rfl)).2 rfl))
         case measure=>omega
        .have hqd2:((q:Int)+1==((aA7 s.arcs k).length:Int))=false:=by rw [beq_eq_false_iff_ne];omega
         go_quiet (fail)
         go_wp2_with fail
         go_roundg (l.length-(j+1))
         case rel=>exact ⟨j+1,Ao,co,o,e.set k (q+1),by omega,rfl,rfl,by go_num,hlt,HGD.out,BE5.out.drewN _,AGR5.out.drewN _,ORD5.out,OFF.out,ENT5.out,INV.out.step' hlt (by rw [HGD.out];exact HL.out) hlt2 hke.out hqe.out (by rw [if_neg (fun hh=>hq hh.2)])⟩
         case measure=>omega
      .obtain rfl:j=l.length:=by omega
       have hd1:decide (l.length<l.length)=false:=by simp
       have hol:=HI.out.inv.len
       go_wp2_with fail
       go_roundg (s.arcs.length-(i+1))
       case rel=>exact ⟨i+1,Ao,co,o,e,rfl,rfl,by go_num,⟨HI.out.bel,HI.out.agr,HI.out.ord,HI.out.off,HI.out.ent,HI.out.inv.next hlt (by rw [HGD.out,HL.out])⟩⟩
       case measure=>omega
    .have hie:i=o.length:=by have:=HI.out.inv.le;omega
     have hd1:decide (i<o.length)=false:=by simp;omega
     go_wp2_with fail
     refine bodyPost_ret (v := .slice Ao o.length co) (by simp [results,Tryz.results88]) rfl ?_
     exact ⟨o,Ao,co,rfl,HI.out.inv.fin hie,by rw [<- e0];exact HI.out.ord,HW0.out.trans HI.out.bel⟩
def bE0 (E:Nat) (n:Int) (l:List (Nat × Int)):Bool:=(decide (E≠0)==decide (0<l.length))&&aKp E n 0 l
theorem aN6 (E:Nat) (n:Int) (l:List (Nat × Int)):aBu E n l=(decide (E<16777216)&&bE0 E n l):=by unfold aBu bE0;rw [Bool.and_assoc]
theorem aRo (E:Nat) (A:Option Addr) (c:Nat) (l:List (Nat × Int)) (n:Nat) (w:World) (hA:aLv w A l.length l) (hx:∀ x∈l,x.1<4294967296) (hl:l.length<=70) (hn:n<=700) :
  Calls prog 42 #[.slice A l.length c,.int .u32 (E:Int),.int .i64 (n:Int)] w fun e w'=>e = .returned (.bool (bE0 E n l))/\Bel w w':=by
 have HF:Hid (bE0 E n l=((decide (E≠0)==decide (0<l.length))&&aKp E n 0 l)):=rfl;have HA:=aA0 (fun w' (k:Bel w w')=>hA.keep k);have HX:=aA0 hx;have HB:=Bel.refl w;clear hA hx
 by_cases hm:(decide (E≠0)==decide (0<l.length))=true
 .rw [hm] at HF
  obtain ⟨eb,e1,e2⟩:∃ eb:Bool,((E:Int) != 0)=eb/\decide (0<l.length)=eb:=by
   refine ⟨_,rfl,?_⟩
   have h1:decide (E≠0)=decide (0<l.length):=by simpa using hm
   have h2:((E:Int) != 0)=decide (E≠0):=by by_cases h:E=0 <;> simp [h]
   rw [h2,h1]
  have e3:(eb != eb)=false:=by cases eb <;> rfl
  clear hm;go_enter func42,ntmps42
  go_wp2_with fail
  go_loopg [7] l.length (fun m z wr=>∃ (i bf:Nat),i<=l.length/\m=l.length-i/\z = .int .i64 (i:Int)/\Hid (bf=if h:0<i/\i-1<l.length then l[i-1].1 else 0)/\Hid (aKp E n bf (l.drop i)=aKp E n 0 l)/\Bel w wr)
  case atStart=>exact ⟨0,0,by omega,rfl,rfl,rfl,by show _=_;simp,HB⟩
  case round =>
   clear HB e1 e2 e3;obtain ⟨i,bf,hi,rfl,rfl,HBF,HQ,HB⟩:=hrel
   by_cases hlt:i<l.length
   .have hd0:decide (i<l.length)=true:=by simpa using hlt
    obtain ⟨b,o,rfl,hbl,c0,c1⟩:=(HA.out _ HB).at_ i hlt;have hx1:=HX.out _ (List.getElem_mem hlt);rw [bC3 hlt] at HQ;obtain ⟨S,hS⟩:∃ S,S=l[i].1:=⟨_,rfl⟩;obtain ⟨T,hT⟩:∃ T,T=l[i].2:=⟨_,rfl⟩;have HSd:=aA0 hS;rw [<- hS] at hx1 c0;rw [<- hT] at c1;simp only [<- hS,<- hT] at HQ
    clear hS hT;obtain ⟨iv,hiv⟩:∃ iv,inB T 0 ((n:Int)-1)=iv:=⟨_,rfl⟩;have HIV:=aA0 hiv
    have hIB:iv=(decide (0<=T)&&decide (T<n)):=by
     rw [<- hiv,Bool.eq_iff_iff,aQu];simp;omega
    have HIB:=aA0 hIB;clear hiv hIB
    by_cases a0:S=0
    .subst a0
     rw [decide_eq_false (Nat.not_lt_zero _)] at HQ
     go_wp2_with fail
     go_quiet (fail)
     go_wp2_with fail
     go_ret;exact ⟨aA1 (by rw [HF.out,<- HQ.out];rfl),HB.drewN _⟩
    .have z0:((S:Int)==0)=false:=by simp;omega
     have z0':(S==0)=false:=by simp;omega
     have HD:=aHp (T:=E) hx1;have hbn:=aEl S E;cases hw:aBj S E with
     | false =>
      rw [hw] at HQ HD;have hz:((aCg S E:Int) != 0)=true:=by simp at HD ⊢;omega
      have hz':(aCg S E != 0)=true:=by simp at HD ⊢;omega
      clear hw HD a0
      go_wp2_with fail
      go_quiet (fail)
      go_wp2_with fail
      go_ret;exact ⟨aA1 (by rw [HF.out,<- HQ.out];simp),HB.drewN _⟩
     | true =>
      rw [hw] at HQ HD;have hz:((aCg S E:Int) != 0)=false:=by simp at HD ⊢;omega
      have hz':(aCg S E != 0)=false:=by simp at HD ⊢;omega
      clear hw HD
      rcases Nat.eq_zero_or_pos i with h0 | h0
      .subst h0
       have hbf:bf=0:=by rw [HBF.out];simp
       subst hbf;rw [decide_eq_true (show 0<S by omega)] at HQ
       clear a0;simp only [Nat.zero_mul,Nat.add_zero] at c0 c1
       go_wp2_with fail
       go_quiet ((go_at_call 21;exact Calls.quiet_of_same ((aDo _ _ _ _).mono (fun _ _ hh=>⟨hh.1.trans (by rw [HIV.out]),hh.2.symm⟩))))
       cases iv with
       | true =>
        go_wp2_with fail
        go_roundg (l.length-(0+1))
        case rel=>exact ⟨1,S,by omega,rfl,by go_num,by show _=_;rw [dif_pos ⟨by omega,hlt⟩];exact HSd.out,by have:=HQ.out;have h2:=HIB.out;rw [eq_comm,Bool.and_eq_true] at h2;rw [h2.1,h2.2] at this;show _=_;simpa using this,HB.drewN _⟩
        case measure=>omega
       | false =>
        go_wp2_with fail
        go_ret;refine ⟨aA1 ?_,HB.drewN _⟩
        have h2:=HIB.out;rw [HF.out,<- HQ.out]
        revert h2
        cases decide (0<=T) <;> cases decide (T<(n:Int)) <;> simp
      .obtain ⟨k,rfl⟩:∃ k,i=k+1:=⟨i-1,by omega⟩
       have hk:k<l.length:=by omega
       have hbf:bf=l[k].1:=by rw [HBF.out,dif_pos ⟨by omega,by simpa using hk⟩];simp
       obtain ⟨b2,o2,hab,hbl2,p0,_⟩:=(HA.out _ HB).at_ k hk;obtain ⟨rfl,rfl⟩:b=b2/\o=o2:=by injection hab with hab;injection hab with h1 h2;exact ⟨h1,h2⟩
       have hx2:=HX.out _ (List.getElem_mem hk);rw [<- hbf] at p0 hx2;clear hbf hab
       by_cases a1:bf<S
       .have d1:decide (S<=bf)=false:=by simp;omega
        have d1I:decide ((S:Int)<=(bf:Int))=false:=by simp;omega
        rw [decide_eq_true a1] at HQ;have g0:decide ((0:Int)<((k+1:Nat):Int))=true:=decide_eq_true (by omega)
        clear a0 a1
        go_wp2_with fail
        go_quiet ((go_at_call 21;exact Calls.quiet_of_same ((aDo _ _ _ _).mono (fun _ _ hh=>⟨hh.1.trans (by rw [HIV.out]),hh.2.symm⟩))))
        cases iv with
        | true =>
         go_wp2_with fail
         go_roundg (l.length-(k+1+1))
         case rel=>exact ⟨k+1+1,S,by omega,rfl,by go_num,by show _=_;rw [dif_pos ⟨by omega,by simpa using hlt⟩];exact HSd.out,by have:=HQ.out;have h2:=HIB.out;rw [eq_comm,Bool.and_eq_true] at h2;rw [h2.1,h2.2] at this;show _=_;simpa using this,HB.drewN _⟩
         case measure=>omega
        | false =>
         go_wp2_with fail
         go_ret;refine ⟨aA1 ?_,HB.drewN _⟩
         have h2:=HIB.out;rw [HF.out,<- HQ.out]
         revert h2
         cases decide (0<=T) <;> cases decide (T<(n:Int)) <;> simp
       .have d1:decide (S<=bf)=true:=by simp;omega
        have d1I:decide ((S:Int)<=(bf:Int))=true:=by simp;omega
        rw [decide_eq_false a1] at HQ;have g0:decide ((0:Int)<((k+1:Nat):Int))=true:=decide_eq_true (by omega)
        clear a0 a1
        go_wp2_with fail
        go_quiet (fail)
        go_wp2_with fail
        go_ret;exact ⟨aA1 (by rw [HF.out,<- HQ.out];rfl),HB.drewN _⟩
   .have hd0:decide (i<l.length)=false:=by simpa using hlt
    obtain rfl:i=l.length:=by omega
    rw [aWf] at HQ
    go_wp2_with fail
    go_ret;exact ⟨aA1 (by rw [HF.out,<- HQ.out];rfl),HB⟩
 .have hm':(decide (E≠0)==decide (0<l.length))=false:=by simpa using hm
  rw [hm'] at HF
  obtain ⟨eb,e1,e2⟩:∃ eb:Bool,((E:Int) != 0)=eb/\decide (0<l.length) = !eb:=by
   refine ⟨_,rfl,?_⟩
   have h1:decide (E≠0)≠decide (0<l.length):=by simpa using hm
   have h2:((E:Int) != 0)=decide (E≠0):=by by_cases h:E=0 <;> simp [h]
   rw [h2]
   revert h1
   cases decide (E≠0) <;> cases decide (0<l.length) <;> simp
  have e3:(!eb != eb)=true:=by cases eb <;> rfl
  clear hm hm';go_enter func42,ntmps42
  go_wp2_with fail
  go_ret;exact ⟨aA1 (by rw [HF.out];rfl),HB⟩
theorem bMv {E:Nat} (hE:E<4294967296):aBj E (aHv 24 fun _=>true)=decide (E<16777216):=by
 rw [Bool.eq_iff_iff,aAi,decide_eq_true_iff];constructor
 .intro h
  rcases Nat.lt_or_ge E 16777216 with h1 | h1
  .exact h1
  .obtain ⟨i,hi,ht⟩:=Nat.exists_ge_and_testBit_of_ge_two_pow (show 2 ^ 24<=E from h1)
   have h32:i<32:=by
    rcases Nat.lt_or_ge i 32 with h2 | h2
    .exact h2
    .have:=Nat.testBit_lt_two_pow (i:=i) (show E<2 ^ i from Nat.lt_of_lt_of_le hE (Nat.pow_le_pow_right (n:=2) (by omega) h2))
     rw [this] at ht;cases ht
   have h3:=h i h32 ht;rw [aIg] at h3;simp at h3
   omega
 .intro h v hv ht
  rw [aIg];simp
  rcases Nat.lt_or_ge v 24 with h1 | h1
  .exact h1
  .have:=Nat.testBit_lt_two_pow (i:=v) (show E<2 ^ v from Nat.lt_of_lt_of_le h (Nat.pow_le_pow_right (n:=2) (by omega) h1))
   rw [this] at ht;cases ht
theorem aFl (v:Value) (s:Spc) (w:World) (h:aBk w v s) (hwf:wfS s) (hl:aCy s=true) :
  Calls prog 17 #[v] w fun e w'=>e = .returned (.bool (aCf s))/\Bel w w':=by
 obtain ⟨l1,l2,l3⟩:=aB5 hl;have HF:Hid (aCf s=(decide (1<=s.enabled.length)&&decide (s.arcs.length=s.enabled.length)&&(List.range s.enabled.length).all fun k=>aBu (s.enabled.getD k 0) s.enabled.length (s.arcs.getD k []))):=rfl;obtain ⟨AE,cE,AA,cA,rfl,hE,hA,_,_,_,_⟩:=h;have HE:=aA0 (fun w' (k:Bel w w')=>hE.keep k);have HA:=aA0 (fun w' (k:Bel w w')=>hA.keep k);have HWF:=aA0 hwf;have HL3:=aA0 l3;have HW:=Bel.refl (w.alloc (.cells #[.slice AE s.enabled.length cE,.slice AA s.arcs.length cA] 42));clear hE hA hwf hl l3
 by_cases h1:1<=s.enabled.length
 .have HI1:Hid (inB (s.enabled.length:Int) 1 32768=true):=aQu.2 (by omega)
  rw [decide_eq_true h1] at HF
  by_cases h2:s.arcs.length=s.enabled.length
  .have d3:(((s.arcs.length:Nat):Int) != ((s.enabled.length:Nat):Int))=false:=by simp;omega
   have d3':(s.arcs.length != s.enabled.length)=false:=by simp;omega
   rw [decide_eq_true h2] at HF;have H2:=aA0 h2;clear h2;go_enter func17,ntmps17
   go_wp2_with (go_at_call 21;refine (aDo _ _ _ _).mono ?_;rintro e w' ⟨rfl,rfl⟩;rw [HI1.out])
   go_loopg [4,5] s.enabled.length (fun m t z wr=>∃ (k tt:Nat),k<=s.enabled.length/\m=s.enabled.length-k/\t = .int .i64 (tt:Int)/\tt<=70*k/\z = .int .i64 (k:Int)/\Hid (((List.range k).all fun k=>aBu (s.enabled.getD k 0) s.enabled.length (s.arcs.getD k []))=true)/\Bel (w.alloc (.cells #[.slice AE s.enabled.length cE,.slice AA s.arcs.length cA] 42)) wr)
   case atStart=>exact ⟨0,0,by omega,rfl,rfl,by omega,rfl,rfl,HW⟩
   case round =>
    clear HW d3 d3';obtain ⟨k,tt,hk,rfl,rfl,htt,rfl,HI,HW⟩:=hrel;have q0:=aAq HW 0 (v := .slice AE s.enabled.length cE) rfl;have q1:=aAq HW 1 (v := .slice AA s.arcs.length cA) rfl;have ql:=aDd HW
    by_cases hlt:k<s.enabled.length
    .have hd0:decide (k<s.enabled.length)=true:=by simpa using hlt
     have hltA:k<s.arcs.length:=by rw [H2.out];exact hlt
     obtain ⟨bE,oE,rfl,hbE,k0⟩:=(HE.out _ (Bel.refl w)).at_ k hlt;obtain ⟨bA,oA,R,rc,rfl,hbA,k1,hR,_,_⟩:=(HA.out _ (Bel.refl w)).at_ k hltA;have HR:=aA0 (fun w' (k:Bel w w')=>hR.keep k);have HST:Hid (aBu (s.enabled.getD k 0) s.enabled.length (s.arcs.getD k [])=aBu s.enabled[k] s.enabled.length s.arcs[k]):=by show _=_;rw [aA8 hlt,aA8 hltA]
     have hE32:=HWF.out.1 _ (List.getElem_mem hlt);have HX:=aA0 (HWF.out.2 _ (List.getElem_mem hltA));have hll:=HL3.out _ (List.getElem_mem hltA);have hkA:(k:Int)<(s.arcs.length:Int):=by omega
     have hkE:(k:Int)<(s.enabled.length:Int):=by omega
     clear hR;generalize s.arcs[k]=l at *;generalize s.enabled[k]=E at *;have hcell:=aA0 (fun w3 (kk:Bel (w.alloc (.cells #[.slice (some ⟨bE,oE,none⟩) s.enabled.length cE,.slice (some ⟨bA,oA,none⟩) s.arcs.length cA] 42)) w3)=>show w3.cell? ⟨w.heap.size,0,none⟩=some (.slice (some ⟨bE,oE,none⟩) s.enabled.length cE)/\w3.cell? ⟨w.heap.size,1,none⟩=some (.slice (some ⟨bA,oA,none⟩) s.arcs.length cA)/\w3.cell? ⟨bE,oE+k,none⟩=some (.int .u32 (E:Int))/\w3.cell? ⟨bA,oA+k,none⟩=some (.slice R l.length rc)/\w.heap.size<w3.heap.size/\bE<w3.heap.size/\bA<w3.heap.size from ⟨aAq kk 0 rfl,aAq kk 1 rfl,((aA6 kk).cell hbE).trans k0,((aA6 kk).cell hbA).trans k1,aDd kk,Nat.lt_of_lt_of_le hbE (aA6 kk).size,Nat.lt_of_lt_of_le hbA (aA6 kk).size⟩)
     obtain ⟨_,_,_,x1,_,_,xA⟩:=hcell.out _ HW;have d4:decide ((262144:Int)<(tt:Int)+(l.length:Int))=false:=decide_eq_false (by omega)
     have d4':decide (262144<tt+l.length)=false:=decide_eq_false (by omega)
     clear k0 k1;obtain ⟨M,hM⟩:∃ M,aHv 24 (fun _=>true)=M:=⟨_,rfl⟩;have HM:=aA0 hM;have hbn:=aEl E M;have HD:=aHp (T:=M) hE32;rw [<- hM,bMv hE32,hM] at HD;clear hM
     by_cases h24:E<16777216
     .rw [decide_eq_true h24] at HD
      have hz:((aCg E M:Int) != 0)=false:=by simp at HD ⊢;omega
      have hz':(aCg E M != 0)=false:=by simp at HD ⊢;omega
      have HSB:Hid (aBu E s.enabled.length l=bE0 E s.enabled.length l):=by show _=_;rw [aN6,decide_eq_true h24];rfl
      clear HD h24;cases hs:bE0 E s.enabled.length l with
      | true =>
       go_upto_region 9 with fail
       replace HW:=HW.drew
       go_region_held3 (fun w3=>w3.cell? ⟨w.heap.size,0,none⟩=some (.slice (some ⟨bE,oE,none⟩) s.enabled.length cE)/\w3.cell? ⟨w.heap.size,1,none⟩=some (.slice (some ⟨bA,oA,none⟩) s.arcs.length cA)/\w3.cell? ⟨bE,oE+k,none⟩=some (.int .u32 (E:Int))/\w3.cell? ⟨bA,oA+k,none⟩=some (.slice R l.length rc)/\w.heap.size<w3.heap.size/\bE<w3.heap.size/\bA<w3.heap.size) (exact hcell.out _ HW) (first | (go_simp;go_at_call 41;refine (aOd 24 _ (by omega)).mono ?_;rintro e w' ⟨rfl,rfl⟩;rw [HM.out]) | (go_simp;go_at_call 42;refine (aRo E R rc l s.enabled.length _ (HR.out _ (aA6 HW)) HX.out hll l1).mono ?_;rintro e w' ⟨rfl,hb⟩;rw [hs];replace HW:=HW.trans hb;clear hb))
       go_wp2_with fail
       go_roundg (s.enabled.length-(k+1))
       case rel =>
        refine ⟨k+1,tt+l.length,by omega,rfl,by go_num,by omega,by go_num,?_,HW⟩
        show _=_
        rw [aRz hlt,HI.out,HST.out,HSB.out,hs];rfl
       case measure=>omega
      | false =>
       have HSF:=aA0 hs
       go_upto_region 9 with fail
       replace HW:=HW.drew
       go_region_held3 (fun w3=>w3.cell? ⟨w.heap.size,0,none⟩=some (.slice (some ⟨bE,oE,none⟩) s.enabled.length cE)/\w3.cell? ⟨w.heap.size,1,none⟩=some (.slice (some ⟨bA,oA,none⟩) s.arcs.length cA)/\w3.cell? ⟨bE,oE+k,none⟩=some (.int .u32 (E:Int))/\w3.cell? ⟨bA,oA+k,none⟩=some (.slice R l.length rc)/\w.heap.size<w3.heap.size/\bE<w3.heap.size/\bA<w3.heap.size) (exact hcell.out _ HW) (first | (go_simp;go_at_call 41;refine (aOd 24 _ (by omega)).mono ?_;rintro e w' ⟨rfl,rfl⟩;rw [HM.out]) | (go_simp;go_at_call 42;refine (aRo E R rc l s.enabled.length _ (HR.out _ (aA6 HW)) HX.out hll l1).mono ?_;rintro e w' ⟨rfl,hb⟩;rw [hs];replace HW:=HW.trans hb;clear hb))
       go_wp2_with fail
       go_ret;refine ⟨aA1 ?_,aA6 HW⟩
       rw [HF.out,aTy (f:=fun k=>aBu (s.enabled.getD k 0) s.enabled.length (s.arcs.getD k [])) hlt (by rw [HST.out,HSB.out];exact HSF.out)];rfl
     .rw [decide_eq_false h24] at HD
      have hz:((aCg E M:Int) != 0)=true:=by simp at HD ⊢;omega
      have hz':(aCg E M != 0)=true:=by simp at HD ⊢;omega
      have HSB:Hid (aBu E s.enabled.length l=false):=by show _=_;rw [aN6,decide_eq_false h24];rfl
      clear HD h24
      go_wp2_with fail
      go_quiet ((go_at_call 41;exact Calls.quiet_of_same ((aOd 24 _ (by omega)).mono (fun _ _ hh=>⟨hh.1.trans (by rw [HM.out]),hh.2.symm⟩))))
      go_wp2_with fail
      go_ret;refine ⟨aA1 ?_,aA6 (HW.drewN _)⟩
      rw [HF.out,aTy (f:=fun k=>aBu (s.enabled.getD k 0) s.enabled.length (s.arcs.getD k [])) hlt (by rw [HST.out,HSB.out])];rfl
    .have hd0:decide (k<s.enabled.length)=false:=by simpa using hlt
     obtain rfl:k=s.enabled.length:=by omega
     go_wp2_with fail
     go_ret;exact ⟨aA1 (by rw [HF.out,HI.out];rfl),aA6 HW⟩
  .have d3:(((s.arcs.length:Nat):Int) != ((s.enabled.length:Nat):Int))=true:=by simp;omega
   have d3':(s.arcs.length != s.enabled.length)=true:=by simp;omega
   rw [decide_eq_false h2] at HF;clear h2;go_enter func17,ntmps17
   go_wp2_with (go_at_call 21;refine (aDo _ _ _ _).mono ?_;rintro e w' ⟨rfl,rfl⟩;rw [HI1.out])
   go_ret;exact ⟨aA1 (by rw [HF.out];rfl),aA6 HW⟩
 .have HI1:Hid (inB (s.enabled.length:Int) 1 32768=false):=aQt (by omega)
  rw [decide_eq_false h1] at HF;clear h1;go_enter func17,ntmps17
  go_wp2_with (go_at_call 21;refine (aDo _ _ _ _).mono ?_;rintro e w' ⟨rfl,rfl⟩;rw [HI1.out])
  go_ret;exact ⟨aA1 (by rw [HF.out];rfl),aA6 HW⟩
def bKe (p:Prg) (g:Graph) (kind:Int) (c:aA3) (n:Int):Int:=if aC4 p g c≠0 then aC4 p g c else if aF1 kind=false then 12 else if 4096<n then 3 else 0
theorem aWj {p:Prg} {g:Graph} {kind:Int} {c:aA3} {n:Int} (h:bKe p g kind c n=0):aC4 p g c=0/\aF1 kind=true/\n<=4096:=by
 unfold bKe at h;split at h
 .exact absurd h (by assumption)
 .rename_i h1
  split at h
  .cases h
  .rename_i h2
   split at h
   .cases h
   .rename_i h3
    exact ⟨by simpa using h1,by simpa using h2,by omega⟩
theorem aP4 (v1:Value) (p:Prg) (v2:Value) (g:Graph) (v3:Value) (c:aA3) (kind n:Int) (w:World) (h:aK5 w v1 p) (h2:aB2 w v2 g) (h3:aD2 w v3 c) (hL:aCc p=true) (hG:aBt g=true) (hC:aHq c=true) :
  Calls prog 48 #[v1,v2,.int .i64 kind,v3,.int .i64 n] w fun e w'=>e = .returned (.int .i64 (bKe p g kind c n))/\Bel w w':=by
 have HPV:=aA0 (fun w' (k:Bel w w')=>h.keep k);have HGV:=aA0 (fun w' (k:Bel w w')=>h2.keep k);have HCV:=aA0 (fun w' (k:Bel w w')=>h3.keep k);obtain ⟨A1,k1,A2,k2,rfl,_,_,_,_,_,_⟩:=h;obtain ⟨A3,k3,A4,k4,rfl,_,_,_,_,_,_⟩:=h2;obtain ⟨A5,k5,rfl,_,_,_⟩:=h3;have HW:=Bel.refl ((w.alloc (.cells #[.string p.name,.slice A1 p.vars.length k1,.slice A2 p.rules.length k2] 31)).alloc (.cells #[.slice A3 g.ids.length k3,.slice A4 g.ports.length k4] 25));have HL:=aA0 hL;have HGL:=aA0 hG;have HCL:=aA0 hC;clear hL hG hC;have HF:Hid (bKe p g kind c n=if aC4 p g c≠0 then aC4 p g c else if aF1 kind=false then 12 else if 4096<n then 3 else 0):=rfl
 by_cases hm:aC4 p g c=0
 .rw [if_neg (by simpa using hm)] at HF
  have HM:=aA0 hm;clear hm;cases hk:aF1 kind with
  | false =>
   rw [hk,if_pos rfl] at HF;have HK:=aA0 hk;clear hk;go_enter func48,ntmps48
   go_wp2_with (first
    | (go_at_call 92;refine (aH3 _ p _ g _ c _ (HPV.out _ (aA2 HW)) (HGV.out _ (aA2 HW)) (HCV.out _ (aA2 HW)) HL.out HGL.out HCL.out).mono ?_;rintro e w' ⟨rfl,hb⟩;rw [HM.out];replace HW:=HW.trans hb;clear hb;(try clear p0 p1 p2 g0 g1 gsz);obtain ⟨p0,p1,p2,g0,g1,gsz⟩:=aDh HW)
    | (go_at_call 34;refine (aCv kind _).mono ?_;rintro e w' ⟨rfl,rfl⟩;rw [HK.out]))
   go_ret;exact ⟨aA9 (by rw [HF.out]),aA2 HW⟩
  | true =>
   rw [hk,if_neg (by decide)] at HF
   have HK:=aA0 hk;clear hk
   by_cases hn:4096<n
   .rw [if_pos hn] at HF
    have hd:decide (4096<n)=true:=by simpa using hn
    clear hn;go_enter func48,ntmps48
    go_wp2_with (first
     | (go_at_call 92;refine (aH3 _ p _ g _ c _ (HPV.out _ (aA2 HW)) (HGV.out _ (aA2 HW)) (HCV.out _ (aA2 HW)) HL.out HGL.out HCL.out).mono ?_;rintro e w' ⟨rfl,hb⟩;rw [HM.out];replace HW:=HW.trans hb;clear hb;(try clear p0 p1 p2 g0 g1 gsz);obtain ⟨p0,p1,p2,g0,g1,gsz⟩:=aDh HW)
     | (go_at_call 34;refine (aCv kind _).mono ?_;rintro e w' ⟨rfl,rfl⟩;rw [HK.out]))
    go_ret;exact ⟨aA9 (by rw [HF.out]),aA2 HW⟩
   .rw [if_neg hn] at HF
    have hd:decide (4096<n)=false:=by simpa using hn
    clear hn;go_enter func48,ntmps48
    go_wp2_with (first
     | (go_at_call 92;refine (aH3 _ p _ g _ c _ (HPV.out _ (aA2 HW)) (HGV.out _ (aA2 HW)) (HCV.out _ (aA2 HW)) HL.out HGL.out HCL.out).mono ?_;rintro e w' ⟨rfl,hb⟩;rw [HM.out];replace HW:=HW.trans hb;clear hb;(try clear p0 p1 p2 g0 g1 gsz);obtain ⟨p0,p1,p2,g0,g1,gsz⟩:=aDh HW)
     | (go_at_call 34;refine (aCv kind _).mono ?_;rintro e w' ⟨rfl,rfl⟩;rw [HK.out]))
    go_ret;exact ⟨aA9 (by rw [HF.out]),aA2 HW⟩
 .rw [if_pos hm] at HF
  have hmb:(aC4 p g c != 0)=true:=by simpa using hm
  clear hm;go_enter func48,ntmps48
  go_wp2_with (go_at_call 92;refine (aH3 _ p _ g _ c _ (HPV.out _ (aA2 HW)) (HGV.out _ (aA2 HW)) (HCV.out _ (aA2 HW)) HL.out HGL.out HCL.out).mono ?_;rintro e w' ⟨rfl,hb⟩;replace HW:=HW.trans hb;clear hb;(try clear p0 p1 p2 g0 g1 gsz);obtain ⟨p0,p1,p2,g0,g1,gsz⟩:=aDh HW)
  go_ret;exact ⟨aA9 (by rw [HF.out]),aA2 HW⟩
end Go.Proofs.YtmoebklkkjbigaaGreatDoor

