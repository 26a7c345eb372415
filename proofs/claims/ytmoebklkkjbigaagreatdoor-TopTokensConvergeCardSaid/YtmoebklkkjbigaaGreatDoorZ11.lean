/- Merged. -/
import Derived.Test.YtmoebklkkjbigaaGreatDoorZ10
set_option linter.unusedSimpArgs false
set_option linter.unnecessarySimpa false
set_option linter.unusedVariables false
set_option maxRecDepth 100000
set_option maxHeartbeats 4000000
open Go.Proofs.Tryz


namespace Go.Proofs.YtmoebklkkjbigaaGreatDoor
open Go.RowKit
def aD4 (g:Graph) (v:Nat):List Int:=(g.ports.getD v []).map fun l=>aEv (g.ports.getD l.to.toNat []) v
def aM4 (g:Graph):List (List Int):=(List.range g.ports.length).map (aD4 g)
def aL8 (p:Prg) (g:Graph) (A1:Option Addr) (k1:Nat) (A2:Option Addr) (k2:Nat) (A3:Option Addr) (k3:Nat) (A4:Option Addr) (k4:Nat) (m:Int) (gb:Nat):Array Value :=
 #[.string p.name,.slice A1 p.vars.length k1,.slice A2 p.rules.length k2,.slice A3 g.ids.length k3,.slice A4 g.ports.length k4,.int .i64 m,.slice (some ⟨gb,0,none⟩) g.ports.length g.ports.length]
def aJ8 (w:World) (B:Nat) (p:Prg) (g:Graph):Prop :=
 ∃ A1 k1 A2 k2 A3 k3 A4 k4 gb,Blk w B (aL8 p g A1 k1 A2 k2 A3 k3 A4 k4 (aFc g.ids) gb) 246 /\
  aK5 w (.agg #[.string p.name,.slice A1 p.vars.length k1,.slice A2 p.rules.length k2]) p/\aB2 w (.agg #[.slice A3 g.ids.length k3,.slice A4 g.ports.length k4]) g/\aQ5 w (some ⟨gb,0,none⟩) g.ports.length (aM4 g)
theorem aJ8.keep {w w':World} {B:Nat} {p:Prg} {g:Graph} (h:aJ8 w B p g) (k:Bel w w'):aJ8 w' B p g:=by
 obtain ⟨A1,k1,A2,k2,A3,k3,A4,k4,gb,h1,h2,h3,h4⟩:=h;exact ⟨A1,k1,A2,k2,A3,k3,A4,k4,gb,h1.keep k,h2.keep k,h3.keep k,h4.keep k⟩
def aLz (N:Nat) (w:World) (B:Nat) (p:Prg) (g:Graph) (v1 v2:Value):Prop :=
 ∀ W:World,w.heap.size<=W.heap.size->(∀ k,N<=k->k<w.heap.size->W.heap[k]?=w.heap[k]?)->aK5 W v1 p->aB2 W v2 g->aJ8 W B p g
def Gr (row:Option Nat) (a b:World):Prop:=a.heap.size<=b.heap.size/\∀ k,k<a.heap.size->some k≠row->b.heap[k]?=a.heap[k]?
theorem Gr.of_bel {row:Option Nat} {a b:World} (h:Bel a b):Gr row a b:=⟨h.size,fun k hk _=>h.block k hk⟩
theorem Gr.trans {row:Option Nat} {a b c:World} (h:Gr row a b) (k:Gr row b c):Gr row a c:=⟨Nat.le_trans h.1 k.1,fun i hi hr=>(k.2 i (Nat.lt_of_lt_of_le hi h.1) hr).trans (h.2 i hi hr)⟩
theorem Gr.grown {row:Option Nat} {a b:World} (h:a.grownBy b row):Gr row a b:=⟨h.size,fun k hk hr=>h.block k hk hr⟩
theorem Gr.cell {row:Option Nat} {a b:World} (h:Gr row a b) {k o:Nat} (hk:k<a.heap.size) (hr:some k≠row):b.cell? ⟨k,o,none⟩=a.cell? ⟨k,o,none⟩:=by
 unfold World.cell?;rw [h.2 k hk hr]
theorem Gr.frozen {row:Option Nat} {a b:World} (h:Gr row a b) {k o:Nat} (hk:k<a.heap.size) (hr:some k≠row):b.frozen? ⟨k,o,none⟩=a.frozen? ⟨k,o,none⟩:=by
 unfold World.frozen?;rw [h.2 k hk hr]
theorem bD2 {w w':World} {base:Nat} {e:TypeId} {size gb n c:Nat} {row:Option Nat} {xs:List Value} (h:w.ownsRow base e size (.slice (some ⟨gb,0,none⟩) n c) n xs) (hf:Gr row w w') (hne:some gb≠row):w'.ownsRow base e size (.slice (some ⟨gb,0,none⟩) n c) n xs:=by
 refine ⟨h.1,?_⟩
 rcases h.2 with ⟨hv,_⟩ | ⟨g',cap,cur,hv,hb,hg,hr⟩
 .cases hv
 .right
  refine ⟨g',cap,cur,hv,hb,?_,hr⟩
  injection hv with hA;injection hA with hA;injection hA with hA;subst hA
  rw [hf.2 gb (lt_of_block hg) hne];exact hg
theorem Fr.gr {f:Nat} {row:Option Nat} {a b c:World} (h:Fr f a b) (k:Gr row b c) (hr:∀ k,row=some k->a.heap.size<=k):Fr f a c :=
 ⟨Nat.le_trans h.1 k.1,fun i hi hne=>(k.2 i (Nat.lt_of_lt_of_le hi h.1) (fun e=>by have:=hr i e.symm;omega)).trans (h.2 i hi hne)⟩
theorem Blk.gr {row:Option Nat} {w w':World} {B:Nat} {cs:Array Value} {t:TypeId} (h:Blk w B cs t) (k:Gr row w w') (hr:some B≠row):Blk w' B cs t:=by
 unfold Blk at *;rw [k.2 B (lt_of_block h) hr];exact h
def aPh (w:World) (gb S v:Nat) (hs:List Value) (g:Graph):Prop :=
 ∀ u,u<v->∃ R c,hs[u]?=some (.slice R (aD4 g u).length c)/\(aD4 g u).length<=c/\c<=maxLen/\∀ x i,(aD4 g u)[i]?=some x->∃ q,R=some ⟨q,0,none⟩/\gb<q/\q≠S/\q<w.heap.size/\w.cell? ⟨q,i,none⟩=some (.int .i64 x)
theorem aPh.kept {w w':World} {gb S v f:Nat} {hs:List Value} {g:Graph} (h:aPh w gb S v hs g) (hf:Fr f w w') (hne:f=gb∨f=S):aPh w' gb S v hs g:=fun u hu=>by
 obtain ⟨R,c,h1,h2,h3,h4⟩:=h u hu;refine ⟨R,c,h1,h2,h3,fun x i hx=>?_⟩
 obtain ⟨q,e,q1,q2,q3,q4⟩:=h4 x i hx;exact ⟨q,e,q1,q2,Nat.lt_of_lt_of_le q3 hf.1,(hf.cell q3 (by omega)).trans q4⟩
theorem bJg:(prog.info? 22).map (fun i=>(i.zero,i.size,i.bytes))=some (some (.slice none 0 0),1,24):=by kernel_rfl
theorem aV1 (v1:Value) (p:Prg) (v2:Value) (g:Graph) (w:World) (h:aK5 w v1 p) (h2:aB2 w v2 g) (hg:GOK g) :
  Calls prog 120 #[v1,v2] w fun e w'=>∃ B,e = .returned (.pointer (some ⟨B,0,none⟩))/\aJ8 w' B p g/\aLz w.heap.size w' B p g v1 v2/\w.heap.size<=B/\Bel w w':=by
 have HPV:=aA0 (fun w' (k:Bel w w')=>h.keep k);have HGV:=aA0 (fun w' (k:Bel w w')=>h2.keep k);obtain ⟨A1,k1,A2,k2,rfl,_,_,_,_,_,_⟩:=h;obtain ⟨A3,k3,A4,k4,rfl,hI,_,_,hP,_,_⟩:=h2;have HI:=aA0 (fun w' (k:Bel w w')=>aCr.keep hI k);have HP:=aA0 (fun w' (k:Bel w w')=>aHk.keep hP k);clear hI hP;have hn:g.ports.length<=24:=hg.le;have HIL:=aA0 hg.ids;have HGO:=aA0 hg;obtain ⟨i0,hi0,hz0,hz1,hz2⟩:=info_parts bJg;obtain ⟨j0,hj0,hy0,hy1,hy2⟩:=info_parts aKe;clear hg;have HW:=Bel.refl ((w.alloc (.cells #[.string p.name,.slice A1 p.vars.length k1,.slice A2 p.rules.length k2] 31)).alloc (.cells #[.slice A3 g.ids.length k3,.slice A4 g.ports.length k4] 25));obtain ⟨w1,hmk,hown,hgrw⟩:=run_make_full (P:=prog) ((w.alloc (.cells #[.string p.name,.slice A1 p.vars.length k1,.slice A2 p.rules.length k2] 31)).alloc (.cells #[.slice A3 g.ids.length k3,.slice A4 g.ports.length k4] 25)).drew (w.heap.size+1+1) 66 22 i0 (.slice none 0 0) 1 underlying66 hi0 hz0 hz1 .i64 .i64 g.ports.length (by rw [hz2];omega) (by unfold maxLen;omega) (by simp)
 have ewz:(((w.alloc (.cells #[.string p.name,.slice A1 p.vars.length k1,.slice A2 p.rules.length k2] 31)).alloc (.cells #[.slice A3 g.ids.length k3,.slice A4 g.ports.length k4] 25)).drew).heap.size=w.heap.size+1+1:=by simp
 rw [aB3 _ rfl,ewz] at hown;rw [ewz] at hmk;have HO:=aA0 hown;have HB1:=aA0 (HW.drew.grown hgrw (fun k hk=>by cases hk))
 have hs1:w.heap.size+1+1<w1.heap.size:=(aAa hown).2;clear hown hgrw;have hcell:=aA0 (fun w' (kk:Bel ((w.alloc (.cells #[.string p.name,.slice A1 p.vars.length k1,.slice A2 p.rules.length k2] 31)).alloc (.cells #[.slice A3 g.ids.length k3,.slice A4 g.ports.length k4] 25)) w')=>aDh kk);go_enter func120,ntmps120
 go_wp2_with fail
 go_region_held3 (fun w'=>w'.cell? ⟨w.heap.size,0,none⟩=some (.string p.name)/\w'.cell? ⟨w.heap.size,1,none⟩=some (.slice A1 p.vars.length k1)/\w'.cell? ⟨w.heap.size,2,none⟩=some (.slice A2 p.rules.length k2)/\w'.cell? ⟨w.heap.size+1,0,none⟩=some (.slice A3 g.ids.length k3)/\w'.cell? ⟨w.heap.size+1,1,none⟩=some (.slice A4 g.ports.length k4)/\w.heap.size+1<w'.heap.size)
  (first | exact hcell.out _ HW.drew | exact hcell.out _ HB1.out | exact hcell.out _ (HB1.out.alloc _))
  (fail)
 obtain ⟨p0,p1,p2,g0,g1,gsz⟩:=aDh (HB1.out.alloc (.cells (aL8 p g A1 k1 A2 k2 A3 k3 A4 k4 0 (w.heap.size+1+1)) 246));simp only [aL8] at p0 p1 p2 g0 g1 gsz
 go_wp2_with fail
 have HOa:=aA0 (HO.out.alloc (.cells (aL8 p g A1 k1 A2 k2 A3 k3 A4 k4 0 (w.heap.size+1+1)) 246));have HBk:=aA0 (Blk.new w1 (aL8 p g A1 k1 A2 k2 A3 k3 A4 k4 0 (w.heap.size+1+1)) 246);have HWa:=HB1.out.alloc (.cells (aL8 p g A1 k1 A2 k2 A3 k3 A4 k4 0 (w.heap.size+1+1)) 246);clear HO HB1 HW hmk p0 p1 p2 g0 g1 gsz
 go_loopg [6,7,9,21] g.ports.length (fun m _x _y _u z wr=>∃ (v:Nat) (hs:List Value),v<=g.ports.length/\m=g.ports.length-v/\z = .int .i64 v/\Hid (wr.ownsRow (w.heap.size+1+1) 22 1 (.slice (some ⟨w.heap.size+1+1,0,none⟩) g.ports.length g.ports.length) g.ports.length hs)/\Hid (aPh wr (w.heap.size+1+1) w1.heap.size v hs g)/\Hid (∀ u,v<=u->u<g.ports.length->hs[u]?=some (.slice none 0 0))/\Hid (Blk wr w1.heap.size (aL8 p g A1 k1 A2 k2 A3 k3 A4 k4 (aFc (g.ids.take v)) (w.heap.size+1+1)) 246)/\Bel ((w.alloc (.cells #[.string p.name,.slice A1 p.vars.length k1,.slice A2 p.rules.length k2] 31)).alloc (.cells #[.slice A3 g.ids.length k3,.slice A4 g.ports.length k4] 25)) wr)
 case atStart =>
  refine ⟨0,_,by omega,rfl,rfl,HOa,fun u hu=>absurd hu (by omega),fun u _ hu=>?_,HBk,HWa⟩
  rw [List.getElem?_replicate,if_pos hu]
 case round =>
  clear HOa HBk HWa;obtain ⟨wo,rfl⟩:∃ wo:World,wo=wr:=⟨_,rfl⟩;obtain ⟨v,hs,hv,rfl,rfl,HO,HD,HN,HBk,HW⟩:=hrel
  by_cases hlt:v<g.ports.length
  .have hd0:decide (v<g.ports.length)=true:=by simpa using hlt
   obtain ⟨p0,p1,p2,g0,g1,gsz⟩:=aDh HW;obtain ⟨b,o,R,rc,rfl,hb,hc,hL,hn1,hm1⟩:=(HP.out _ (Bel.refl w)).at_ v hlt;rw [<- (aA2 HW).cell hb] at hc;replace hb:=Nat.lt_of_lt_of_le hb (aA2 HW).size;obtain ⟨bi,oi,rfl,hbi,hci⟩:=(HI.out _ (aA2 HW)).at_ v (by rw [HIL.out];exact hlt)
   have HL:=aA0 (fun w' (k:Bel w w')=>aHj.keep hL k);clear hL;have hvi:v<g.ids.length:=by rw [HIL.out];exact hlt
   go_wp2_with fail
   have z5:=HBk.out.cell 5 (v := .int .i64 (aFc (g.ids.take v))) rfl;have zf:=HBk.out.frozen 5;have zl:=HBk.out.lt;refine aA4.start (fun w'=>w'=wo.drew) 13 (by kernel_rfl) ?_
   have hHeld:wo.drew=wo.drew:=rfl;refine aA4.take (i:=0) (v:=?_) [13] (some 26) rfl rfl (by kernel_rfl) (by kernel_rfl) (by kernel_rfl) (by kernel_rfl) (by kernel_rfl) (by kernel_rfl) (fun _ _ _ h=>h) hHeld (Or.inl ⟨by rfl,?_⟩) ?_
   rotate_left 1;· (intro w' hSw;obtain rfl:w'=_:=hSw;go_simp;try with_reducible rfl)
   (try simp only [Act.put,List.setIfInBounds_toArray,List.set_cons_zero,List.set_cons_succ])
   refine aA4.take (i:=1) (v:=?_) [13] (some 27) rfl rfl (by kernel_rfl) (by kernel_rfl) (by kernel_rfl) (by kernel_rfl) (by kernel_rfl) (by kernel_rfl) (fun _ _ _ h=>h) hHeld (Or.inl ⟨by rfl,?_⟩) ?_
   rotate_left 1;· (intro w' hSw;obtain rfl:w'=_:=hSw;go_simp;try with_reducible rfl)
   (try simp only [Act.put,List.setIfInBounds_toArray,List.set_cons_zero,List.set_cons_succ])
   refine aA4.take (i:=2) (v:=?_) [13] (some 28) rfl rfl (by kernel_rfl) (by kernel_rfl) (by kernel_rfl) (by kernel_rfl) (by kernel_rfl) (by kernel_rfl) (fun _ _ _ h=>h) hHeld (Or.inl ⟨by rfl,?_⟩) ?_
   rotate_left 1;· (intro w' hSw;obtain rfl:w'=_:=hSw;go_simp;try with_reducible rfl)
   (try simp only [Act.put,List.setIfInBounds_toArray,List.set_cons_zero,List.set_cons_succ])
   refine aA4.take (i:=3) (v:=?_) [13] (some 29) rfl rfl (by kernel_rfl) (by kernel_rfl) (by kernel_rfl) (by kernel_rfl) (by kernel_rfl) (by kernel_rfl) (fun _ _ _ h=>h) hHeld (Or.inl ⟨by rfl,?_⟩) ?_
   rotate_left 1;· (intro w' hSw;obtain rfl:w'=_:=hSw;go_simp;try with_reducible rfl)
   (try simp only [Act.put,List.setIfInBounds_toArray,List.set_cons_zero,List.set_cons_succ])
   refine aA4.take (i:=4) (v:=?_) [13] (some 30) rfl rfl (by kernel_rfl) (by kernel_rfl) (by kernel_rfl) (by kernel_rfl) (by kernel_rfl) (by kernel_rfl) (fun _ _ _ h=>h) hHeld (Or.inl ⟨by rfl,?_⟩) ?_
   rotate_left 1;· (intro w' hSw;obtain rfl:w'=_:=hSw;go_simp;try with_reducible rfl)
   (try simp only [Act.put,List.setIfInBounds_toArray,List.set_cons_zero,List.set_cons_succ])
   refine aA4.take (i:=5) (v:=?_) [13] (some 31) rfl rfl (by kernel_rfl) (by kernel_rfl) (by kernel_rfl) (by kernel_rfl) (by kernel_rfl) (by kernel_rfl) (fun _ _ _ h=>h) hHeld (Or.inl ⟨by rfl,?_⟩) ?_
   rotate_left 1;· (intro w' hSw;obtain rfl:w'=_:=hSw;go_simp;try with_reducible rfl)
   (try simp only [Act.put,List.setIfInBounds_toArray,List.set_cons_zero,List.set_cons_succ])
   refine aA4.take (i:=6) (v:=?_) [13] (some 32) rfl rfl (by kernel_rfl) (by kernel_rfl) (by kernel_rfl) (by kernel_rfl) (by kernel_rfl) (by kernel_rfl) (fun _ _ _ h=>h) hHeld (Or.inl ⟨by rfl,?_⟩) ?_
   rotate_left 1;· (intro w' hSw;obtain rfl:w'=_:=hSw;go_simp;try with_reducible rfl)
   (try simp only [Act.put,List.setIfInBounds_toArray,List.set_cons_zero,List.set_cons_succ])
   refine aA4.take (i:=7) (v:=?_) [13] (some 33) rfl rfl (by kernel_rfl) (by kernel_rfl) (by kernel_rfl) (by kernel_rfl) (by kernel_rfl) (by kernel_rfl) (fun _ _ _ h=>h) hHeld (Or.inl ⟨by rfl,?_⟩) ?_
   rotate_left 1;· (intro w' hSw;obtain rfl:w'=_:=hSw;go_simp;try with_reducible rfl)
   (try simp only [Act.put,List.setIfInBounds_toArray,List.set_cons_zero,List.set_cons_succ])
   refine aA4.take (i:=8) (v:=?_) [13] (some 34) rfl rfl (by kernel_rfl) (by kernel_rfl) (by kernel_rfl) (by kernel_rfl) (by kernel_rfl) (by kernel_rfl) (fun _ _ _ h=>h) hHeld (Or.inl ⟨by rfl,?_⟩) ?_
   rotate_left 1;· (intro w' hSw;obtain rfl:w'=_:=hSw;go_simp;try with_reducible rfl)
   (try simp only [Act.put,List.setIfInBounds_toArray,List.set_cons_zero,List.set_cons_succ])
   refine aA4.take (i:=9) (v:=?_) [13] (some 35) rfl rfl (by kernel_rfl) (by kernel_rfl) (by kernel_rfl) (by kernel_rfl) (by kernel_rfl) (by kernel_rfl) (fun _ _ _ h=>h) hHeld (Or.inl ⟨by rfl,?_⟩) ?_
   rotate_left 1;· (intro w' hSw;obtain rfl:w'=_:=hSw;go_simp;try with_reducible rfl)
   (try simp only [Act.put,List.setIfInBounds_toArray,List.set_cons_zero,List.set_cons_succ])
   refine aA4.take (i:=10) (v:=?_) [13] (some 36) rfl rfl (by kernel_rfl) (by kernel_rfl) (by kernel_rfl) (by kernel_rfl) (by kernel_rfl) (by kernel_rfl) (fun _ _ _ h=>h) hHeld (Or.inl ⟨by rfl,?_⟩) ?_
   rotate_left 1;· (intro w' hSw;obtain rfl:w'=_:=hSw;go_simp;try with_reducible rfl)
   (try simp only [Act.put,List.setIfInBounds_toArray,List.set_cons_zero,List.set_cons_succ])
   refine aA4.take (i:=11) (v:=?_) [12,13] (some 37) rfl rfl (by kernel_rfl) (by kernel_rfl) (by kernel_rfl) (by kernel_rfl) (by kernel_rfl) (by kernel_rfl) (fun _ _ _ h=>h) hHeld (Or.inl ⟨by rfl,?_⟩) ?_
   rotate_left 1;· (intro w' hSw;obtain rfl:w'=_:=hSw;go_simp;try with_reducible rfl)
   (try simp only [Act.put,List.setIfInBounds_toArray,List.set_cons_zero,List.set_cons_succ])
   refine aA4.take (i:=12) (v:=?_) [13] (some 38) rfl rfl (by kernel_rfl) (by kernel_rfl) (by kernel_rfl) (by kernel_rfl) (by kernel_rfl) (by kernel_rfl) (fun _ _ _ h=>h) hHeld (Or.inl ⟨by rfl,?_⟩) ?_
   rotate_left 1;· (intro w' hSw;obtain rfl:w'=_:=hSw;go_simp;try with_reducible rfl)
   (try simp only [Act.put,List.setIfInBounds_toArray,List.set_cons_zero,List.set_cons_succ])
   refine aA4.one (i:=13) (by kernel_rfl) rfl (fun K hK=>?_)
   go_simp
   refine hK.out _ _ (fun h=>absurd rfl h) ?_
   clear hK K;refine aA4.done (by kernel_rfl) ?_ _
   have emx:(if aFc (g.ids.take v)<g.ids[v] then g.ids[v] else aFc (g.ids.take v))=aFc (g.ids.take (v+1)):=by
    rw [List.take_succ_eq_append_getElem hvi,aXl];split <;> omega
   have HBkx:=aA0 ((HBk.out.set 5 (.int .i64 (aFc (g.ids.take (v+1))))).drew);have hne1:w.heap.size+1+1≠w1.heap.size:=by omega
   have HF1:=((Fr.refl w1.heap.size wo).set 5 (.int .i64 (aFc (g.ids.take (v+1))))).drew;have HOx:=aA0 (aH8 HO.out HF1 hne1);have HDx:=aA0 (HD.out.kept HF1 (Or.inr rfl));have hw1s:w.heap.size+1+1<=w1.heap.size:=by omega
   have HWx:=(HW.setCell (p:=⟨w1.heap.size,5,none⟩) (by simpa using hw1s) (.int .i64 (aFc (g.ids.take (v+1))))).drew
   rw [emx];clear HO HD HBk HF1 HW z5 zf emx hHeld p0 p1 p2 g0 g1 gsz hc hci hb hbi;have hszo:w1.heap.size<(wo.setCell ⟨w1.heap.size,5,none⟩ (.int .i64 (aFc (g.ids.take (v+1))))).drew.heap.size:=by simpa using zl
   generalize (wo.setCell ⟨w1.heap.size,5,none⟩ (.int .i64 (aFc (g.ids.take (v+1))))).drew=wq at *;clear zl;have hsl:hs.length=g.ports.length:=by have:=HOx.out.1;omega
   have hset:hs=hs.set v (.slice none 0 0):=by
    apply List.ext_getElem?
    intro u
    by_cases hu:v=u
    .subst hu;rw [HN.out v (Nat.le_refl _) hlt,List.getElem?_set_self (by omega)]
    .rw [List.getElem?_set_ne hu]
   go_wp2_with fail
   have HBky:Hid (Blk wq w1.heap.size (aL8 p g A1 k1 A2 k2 (some ⟨bi,oi,none⟩) k3 (some ⟨b,o,none⟩) k4 (aFc (g.ids.take (v+1))) (w.heap.size+1+1)) 246):=HBkx;clear HBkx;have hbl:(aD4 g v).length=g.ports[v].length:=by unfold aD4;rw [aA8 hlt,List.length_map]
   have hwq:w.heap.size+1+1<wq.heap.size:=by omega
   have hpl:g.ports[v].length<=24:=by have:=aDv hlt (HGO.out.links v hlt);omega
   go_loopg [9,41] g.ports[v].length (fun m _x z ws=>∃ (j:Nat) (A:Option Addr) (c:Nat),j<=g.ports[v].length/\m=g.ports[v].length-j/\z = .int .i64 j/\Hid (ws.ownsRow wq.heap.size 3 1 (.slice A j c) j (((aD4 g v).take j).map (Value.int .i64)))/\Hid (ws.ownsRow (w.heap.size+1+1) 22 1 (.slice (some ⟨w.heap.size+1+1,0,none⟩) g.ports.length g.ports.length) g.ports.length (hs.set v (.slice A j c)))/\Fr (w.heap.size+1+1) wq ws/\Hid (Blk ws w1.heap.size (aL8 p g A1 k1 A2 k2 (some ⟨bi,oi,none⟩) k3 (some ⟨b,o,none⟩) k4 (aFc (g.ids.take (v+1))) (w.heap.size+1+1)) 246)/\Bel ((w.alloc (.cells #[.string p.name,.slice A1 p.vars.length k1,.slice A2 p.rules.length k2] 31)).alloc (.cells #[.slice (some ⟨bi,oi,none⟩) g.ids.length k3,.slice (some ⟨b,o,none⟩) g.ports.length k4] 25)) ws)
   case atStart =>
    refine ⟨0,none,0,by omega,rfl,rfl,World.ownsRow_nil _ _ _ _,?_,Fr.refl _ _,HBky,HWx⟩
    show World.ownsRow _ _ _ _ _ _ _
    rw [<- hset];exact HOx.out
   case round =>
    obtain ⟨j,A,c,hj,rfl,rfl,HR,HO2,HF,HB,HW⟩:=hrel
    by_cases hlt2:j<g.ports[v].length
    .have hd1:decide (j<g.ports[v].length)=true:=by simpa using hlt2
     obtain ⟨_,t,ht,htl,_,_,_⟩:=aR2 HGO.out hlt hlt2;obtain ⟨bl,ol,rfl,hbl2,c0,c1⟩:=(HL.out _ (aA2 HW)).at_ j hlt2;rw [ht] at c0
     have hbj:(aD4 g v)[j]?=some (aEv g.ports[t] v):=by
      unfold aD4;rw [aA8 hlt,List.getElem?_map,List.getElem?_eq_getElem hlt2];simp only [Option.map_some]
      rw [ht,Int.toNat_natCast,aA8 htl]
     have HBJ:=aA0 hbj;have hsz:=HF.1;obtain ⟨p0,p1,p2,g0,g1,gsz⟩:=aDh HW;have hrow:∀ k,(Value.slice A j c).ownBlock=some k->wq.heap.size<=k:=fun k hk=>(HR.out.lt k hk).1;have hrk:∀ k,k<wq.heap.size->some k≠(Value.slice A j c).ownBlock:=fun k hk e=>by have:=hrow k e.symm;omega
     have hrk2:some wr.heap.size≠(Value.slice A j c).ownBlock:=fun e=>by have:=(HR.out.lt _ e.symm).2;omega
     have hHRK:=aA0 hrow;have hk1:=hrk _ hwq;have hk2:=hrk (w.heap.size+1) (by omega)
     have hk3:=hrk _ hszo
     have hcell9:=aA0 (fun w' (kk:Gr (Value.slice A j c).ownBlock (wr.alloc (.cells #[.int .i64 (t:Int),.int .i64 g.ports[v][j].weight] 64)) w')=>by
      have hB:=(Bel.refl wr).alloc (.cells #[.int .i64 (t:Int),.int .i64 g.ports[v][j].weight] 64);have hbx:=Blk.new wr #[.int .i64 (t:Int),.int .i64 g.ports[v][j].weight] 64;have h6:=HB.out.cell 6 (v := .slice (some ⟨w.heap.size+1+1,0,none⟩) g.ports.length g.ports.length) rfl
      have hv1:wr.cell? ⟨w.heap.size+1+1,v,none⟩=some (.slice A j c):=by
       have:=aDy HO2.out v (by simp;omega)
       simpa using this
      have hs1:=kk.1;simp only [World.size_alloc] at hs1
      exact show w'.cell? ⟨w1.heap.size,6,none⟩=some (.slice (some ⟨w.heap.size+1+1,0,none⟩) g.ports.length g.ports.length)/\w'.cell? ⟨w.heap.size+1+1,v,none⟩=some (.slice A j c)/\w'.cell? ⟨w.heap.size+1,0,none⟩=some (.slice (some ⟨bi,oi,none⟩) g.ids.length k3)/\w'.cell? ⟨w.heap.size+1,1,none⟩=some (.slice (some ⟨b,o,none⟩) g.ports.length k4)/\w'.cell? ⟨wr.heap.size,0,none⟩=some (.int .i64 (t:Int))/\w'.frozen? ⟨w.heap.size+1+1,v,none⟩=false from
       ⟨(kk.cell (by simp;omega) hk3).trans ((hB.cell (by omega)).trans h6),(kk.cell (by simp;omega) hk1).trans ((hB.cell (by omega)).trans hv1),(kk.cell (by simp;omega) hk2).trans ((hB.cell (by omega)).trans g0),(kk.cell (by simp;omega) hk2).trans ((hB.cell (by omega)).trans g1),(kk.cell (by simp) hrk2).trans (hbx.cell 0 rfl),(kk.frozen (by simp;omega) hk1).trans ((HO2.out.alloc (.cells #[.int .i64 (t:Int),.int .i64 g.ports[v][j].weight] 64)).frozenAt v)⟩)
     have HWb:=HW.alloc (.cells #[.int .i64 (t:Int),.int .i64 g.ports[v][j].weight] 64);have HRb:=aA0 (HR.out.alloc (.cells #[.int .i64 (t:Int),.int .i64 g.ports[v][j].weight] 64)).drew;clear hrow hrk hrk2 hk1 hk2 hk3 hbj ht
     go_wp2_with fail
     clear c0 c1 p0 p1 p2 g0 g1 gsz;refine aA4.start (fun w'=>w'.cell? ⟨w1.heap.size,6,none⟩=some (.slice (some ⟨w.heap.size+1+1,0,none⟩) g.ports.length g.ports.length)/\w'.cell? ⟨w.heap.size+1+1,v,none⟩=some (.slice A j c)/\w'.cell? ⟨w.heap.size+1,0,none⟩=some (.slice (some ⟨bi,oi,none⟩) g.ids.length k3)/\w'.cell? ⟨w.heap.size+1,1,none⟩=some (.slice (some ⟨b,o,none⟩) g.ports.length k4)/\w'.cell? ⟨wr.heap.size,0,none⟩=some (.int .i64 (t:Int))/\w'.frozen? ⟨w.heap.size+1+1,v,none⟩=false) 20 (by kernel_rfl) ?_
     have HG:=(Gr.of_bel (row:=(Value.slice A j c).ownBlock) (Bel.refl (wr.alloc (.cells #[.int .i64 (t:Int),.int .i64 g.ports[v][j].weight] 64))).drew);have hHeld:=hcell9.out _ HG;refine aA4.take (i:=0) (v:=?_) [20] (some 45) rfl rfl (by kernel_rfl) (by kernel_rfl) (by kernel_rfl) (by kernel_rfl) (by kernel_rfl) (by kernel_rfl) (fun _ _ _ h=>h) hHeld (Or.inl ⟨by rfl,?_⟩) ?_
     rotate_left 1;· (intro w' hSw;(try dsimp only at hSw);go_simp;try with_reducible rfl)
     (try simp only [Act.put,List.setIfInBounds_toArray,List.set_cons_zero,List.set_cons_succ])
     refine aA4.take (i:=1) (v:=?_) [20] (some 46) rfl rfl (by kernel_rfl) (by kernel_rfl) (by kernel_rfl) (by kernel_rfl) (by kernel_rfl) (by kernel_rfl) (fun _ _ _ h=>h) hHeld (Or.inl ⟨by rfl,?_⟩) ?_
     rotate_left 1;· (intro w' hSw;(try dsimp only at hSw);go_simp;try with_reducible rfl)
     (try simp only [Act.put,List.setIfInBounds_toArray,List.set_cons_zero,List.set_cons_succ])
     refine aA4.take (i:=2) (v:=?_) [20] (some 47) rfl rfl (by kernel_rfl) (by kernel_rfl) (by kernel_rfl) (by kernel_rfl) (by kernel_rfl) (by kernel_rfl) (fun _ _ _ h=>h) hHeld (Or.inl ⟨by rfl,?_⟩) ?_
     rotate_left 1;· (intro w' hSw;(try dsimp only at hSw);go_simp;try with_reducible rfl)
     (try simp only [Act.put,List.setIfInBounds_toArray,List.set_cons_zero,List.set_cons_succ])
     refine aA4.take (i:=3) (v:=?_) [20] (some 48) rfl rfl (by kernel_rfl) (by kernel_rfl) (by kernel_rfl) (by kernel_rfl) (by kernel_rfl) (by kernel_rfl) (fun _ _ _ h=>h) hHeld (Or.inl ⟨by rfl,?_⟩) ?_
     rotate_left 1;· (intro w' hSw;(try dsimp only at hSw);go_simp;try with_reducible rfl)
     (try simp only [Act.put,List.setIfInBounds_toArray,List.set_cons_zero,List.set_cons_succ])
     refine aA4.take (i:=4) (v:=?_) [20] (some 49) rfl rfl (by kernel_rfl) (by kernel_rfl) (by kernel_rfl) (by kernel_rfl) (by kernel_rfl) (by kernel_rfl) (fun _ _ _ h=>h) hHeld (Or.inl ⟨by rfl,?_⟩) ?_
     rotate_left 1;· (intro w' hSw;(try dsimp only at hSw);go_simp;try with_reducible rfl)
     (try simp only [Act.put,List.setIfInBounds_toArray,List.set_cons_zero,List.set_cons_succ])
     refine aA4.take (i:=5) (v:=?_) [20] (some 50) rfl rfl (by kernel_rfl) (by kernel_rfl) (by kernel_rfl) (by kernel_rfl) (by kernel_rfl) (by kernel_rfl) (fun _ _ _ h=>h) hHeld (Or.inl ⟨by rfl,?_⟩) ?_
     rotate_left 1;· (intro w' hSw;(try dsimp only at hSw);go_simp;try with_reducible rfl)
     (try simp only [Act.put,List.setIfInBounds_toArray,List.set_cons_zero,List.set_cons_succ])
     refine aA4.take (i:=6) (v:=?_) [20] (some 51) rfl rfl (by kernel_rfl) (by kernel_rfl) (by kernel_rfl) (by kernel_rfl) (by kernel_rfl) (by kernel_rfl) (fun _ _ _ h=>h) hHeld (Or.inl ⟨by rfl,?_⟩) ?_
     rotate_left 1;· (intro w' hSw;(try dsimp only at hSw);go_simp;try with_reducible rfl)
     (try simp only [Act.put,List.setIfInBounds_toArray,List.set_cons_zero,List.set_cons_succ])
     refine aA4.take (i:=7) (v:=?_) [20] (some 52) rfl rfl (by kernel_rfl) (by kernel_rfl) (by kernel_rfl) (by kernel_rfl) (by kernel_rfl) (by kernel_rfl) (fun _ _ _ h=>h) hHeld (Or.inl ⟨by rfl,?_⟩) ?_
     rotate_left 1;· (intro w' hSw;(try dsimp only at hSw);go_simp;try with_reducible rfl)
     (try simp only [Act.put,List.setIfInBounds_toArray,List.set_cons_zero,List.set_cons_succ])
     refine aA4.take (i:=8) (v:=?_) [20] (some 53) rfl rfl (by kernel_rfl) (by kernel_rfl) (by kernel_rfl) (by kernel_rfl) (by kernel_rfl) (by kernel_rfl) (fun _ _ _ h=>h) hHeld (Or.inl ⟨by rfl,?_⟩) ?_
     rotate_left 1;· (intro w' hSw;(try dsimp only at hSw);go_simp;try with_reducible rfl)
     (try simp only [Act.put,List.setIfInBounds_toArray,List.set_cons_zero,List.set_cons_succ])
     refine aA4.take (i:=9) (v:=?_) [20] (some 54) rfl rfl (by kernel_rfl) (by kernel_rfl) (by kernel_rfl) (by kernel_rfl) (by kernel_rfl) (by kernel_rfl) (fun _ _ _ h=>h) hHeld (Or.inl ⟨by rfl,?_⟩) ?_
     rotate_left 1;· (intro w' hSw;(try dsimp only at hSw);go_simp;try with_reducible rfl)
     (try simp only [Act.put,List.setIfInBounds_toArray,List.set_cons_zero,List.set_cons_succ])
     refine aA4.take (i:=10) (v:=?_) [20] (some 55) rfl rfl (by kernel_rfl) (by kernel_rfl) (by kernel_rfl) (by kernel_rfl) (by kernel_rfl) (by kernel_rfl) (fun _ _ _ h=>h) hHeld (Or.inl ⟨by rfl,?_⟩) ?_
     rotate_left 1;· (intro w' hSw;(try dsimp only at hSw);go_simp;try with_reducible rfl)
     (try simp only [Act.put,List.setIfInBounds_toArray,List.set_cons_zero,List.set_cons_succ])
     refine aA4.take (i:=11) (v:=?_) [20] (some 56) rfl rfl (by kernel_rfl) (by kernel_rfl) (by kernel_rfl) (by kernel_rfl) (by kernel_rfl) (by kernel_rfl) (fun _ _ _ h=>h) hHeld (Or.inl ⟨by rfl,?_⟩) ?_
     rotate_left 1;· (intro w' hSw;(try dsimp only at hSw);go_simp;try with_reducible rfl)
     (try simp only [Act.put,List.setIfInBounds_toArray,List.set_cons_zero,List.set_cons_succ])
     refine aA4.take (i:=12) (v:=?_) [20] (some 57) rfl rfl (by kernel_rfl) (by kernel_rfl) (by kernel_rfl) (by kernel_rfl) (by kernel_rfl) (by kernel_rfl) (fun _ _ _ h=>h) hHeld (Or.inl ⟨by rfl,?_⟩) ?_
     rotate_left 1;· (intro w' hSw;(try dsimp only at hSw);go_simp;try with_reducible rfl)
     (try simp only [Act.put,List.setIfInBounds_toArray,List.set_cons_zero,List.set_cons_succ])
     refine aA4.take (i:=13) (v:=?_) [20] (some 58) rfl rfl (by kernel_rfl) (by kernel_rfl) (by kernel_rfl) (by kernel_rfl) (by kernel_rfl) (by kernel_rfl) (fun _ _ _ h=>h) hHeld (Or.inl ⟨by rfl,?_⟩) ?_
     rotate_left 1;· (intro w' hSw;(try dsimp only at hSw);go_simp;try with_reducible rfl)
     (try simp only [Act.put,List.setIfInBounds_toArray,List.set_cons_zero,List.set_cons_succ])
     refine aA4.take (i:=14) (v:=?_) [20] (some 59) rfl rfl (by kernel_rfl) (by kernel_rfl) (by kernel_rfl) (by kernel_rfl) (by kernel_rfl) (by kernel_rfl) (fun _ _ _ h=>h) hHeld (Or.inl ⟨by rfl,?_⟩) ?_
     rotate_left 1;· (intro w' hSw;(try dsimp only at hSw);go_simp;try with_reducible rfl)
     (try simp only [Act.put,List.setIfInBounds_toArray,List.set_cons_zero,List.set_cons_succ])
     refine aA4.take (i:=15) (v:=?_) [20] (some 60) rfl rfl (by kernel_rfl) (by kernel_rfl) (by kernel_rfl) (by kernel_rfl) (by kernel_rfl) (by kernel_rfl) (fun _ _ _ h=>h) hHeld (Or.inl ⟨by rfl,?_⟩) ?_
     rotate_left 1;· (intro w' hSw;(try dsimp only at hSw);go_simp;try with_reducible rfl)
     (try simp only [Act.put,List.setIfInBounds_toArray,List.set_cons_zero,List.set_cons_succ])
     refine aA4.one (i:=16) (by kernel_rfl) rfl (fun K hK=>?_)
     go_simp
     go_at_call 153
     refine (bFp _ g t v _ (HGV.out _ (aA2 HWb.drew)) htl).mono ?_
     rintro e w4 ⟨rfl,hb4⟩;replace HG:=HG.trans (Gr.of_bel hb4);replace HWb:=HWb.drew.trans hb4;replace HRb:=aA0 (hb4.owns HRb.out);have HS4:=hb4.size;clear hb4 hHeld
     (try go_simp)
     refine hK.out _ _ (fun _=>hcell9.out _ HG) ?_
     clear hK K
     (try simp only [Act.put,List.setIfInBounds_toArray,List.set_cons_zero,List.set_cons_succ])
     refine aA4.one (i:=17) (by kernel_rfl) rfl (fun K hK=>?_)
     go_simp
     replace HG:=HG.trans (Gr.of_bel ((Bel.refl w4).alloc (.cells #[.int .i64 (aEv g.ports[t] v)] 3)));replace HWb:=HWb.alloc (.cells #[.int .i64 (aEv g.ports[t] v)] 3);replace HRb:=aA0 (HRb.out.alloc (.cells #[.int .i64 (aEv g.ports[t] v)] 3));refine hK.out _ _ (fun _=>hcell9.out _ HG) ?_
     clear hK K
     (try simp only [Act.put,List.setIfInBounds_toArray,List.set_cons_zero,List.set_cons_succ])
     refine aA4.one (i:=18) (by kernel_rfl) rfl (fun K hK=>?_)
     refine aCn _ rfl (.tmp 56) (.tmp 62) 22 rfl wq.heap.size 3 j0 (.int .i64 0) 1 8 underlying22 hj0 hy0 hy1 hy2 rfl (by decide) A j c (((aD4 g v).take j).map (Value.int .i64)) (by simp [Act.eval]) HRb.out w4.heap.size #[.int .i64 (aEv g.ports[t] v)] 3 (0,0) (by simp [Act.eval]) (aAx _ _) rfl (aO9 _ _) (by unfold maxLen;omega) (by omega) (by have:=HG.1;simp only [World.size_alloc] at this ⊢;omega) ?_
     intro A' c' w6 hown hgr hat
     replace HG:=HG.trans (Gr.grown hgr);replace HWb:=HWb.grown hgr (fun k hk=>by have:=hHRK.out k hk;simp;omega)
     have HR6:=aA0 hown;clear hown hgr hat HRb HS4;refine hK.out _ _ (fun _=>hcell9.out _ HG) ?_
     clear hK K;have hHeld:=hcell9.out _ HG
     (try simp only [Act.put,List.setIfInBounds_toArray,List.set_cons_zero,List.set_cons_succ])
     refine aA4.take (i:=19) (v:=?_) [20] (some 64) rfl rfl (by kernel_rfl) (by kernel_rfl) (by kernel_rfl) (by kernel_rfl) (by kernel_rfl) (by kernel_rfl) (fun _ _ _ h=>h) hHeld (Or.inl ⟨by rfl,?_⟩) ?_
     rotate_left 1;· (intro w' hSw;(try dsimp only at hSw);go_simp;try with_reducible rfl)
     (try simp only [Act.put,List.setIfInBounds_toArray,List.set_cons_zero,List.set_cons_succ])
     refine aA4.one (i:=20) (by kernel_rfl) rfl (fun K hK=>?_)
     go_simp
     refine hK.out _ _ (fun h=>absurd rfl h) ?_
     clear hK K hHeld;refine aA4.done (by kernel_rfl) ?_ _
     go_wp2_with fail
     go_roundg (g.ports[v].length-(j+1))
     case rel =>
      have hbd:=aAa (bD2 HO2.out ((Gr.of_bel ((Bel.refl wr).alloc (.cells #[.int .i64 (t:Int),.int .i64 g.ports[v][j].weight] 64))).trans HG) (fun e=>by have:=hHRK.out _ e.symm;omega))
      refine ⟨j+1,A',c',by omega,rfl,by go_num,?_,?_,?_,?_,?_⟩
      .have h1:=HR6.out
       obtain ⟨g',cap,hv',hb',hg'⟩:=h1.form (by omega)
       injection hv' with hA _ hc'
       subst hA;subst hc';have h2:=aH8 h1 ((Fr.refl (w.heap.size+1+1) w6).set v (.slice (some ⟨g',0,none⟩) (j+1) c')) (by omega)
       have e:(((aD4 g v).take j).map (Value.int .i64))++[Value.int .i64 (aEv g.ports[t] v)]=((aD4 g v).take (j+1)).map (Value.int .i64):=by
        rw [List.take_add_one,HBJ.out,List.map_append];rfl
       show World.ownsRow _ _ _ _ _ _ _
       rw [<- e];exact h2
      .have h1:=bD2 HO2.out ((Gr.of_bel ((Bel.refl wr).alloc (.cells #[.int .i64 (t:Int),.int .i64 g.ports[v][j].weight] 64))).trans HG) (fun e=>by have:=hHRK.out _ e.symm;omega)
       have h2:=(h1.stored v (.slice A' (j+1) c')).1;rw [List.set_set] at h2;exact h2
      .exact ((HF.alloc (.cells #[.int .i64 (t:Int),.int .i64 g.ports[v][j].weight] 64)).gr HG hHRK.out).trans ((Fr.refl _ w6).set v _)
      .exact ((HB.out.alloc (.cells #[.int .i64 (t:Int),.int .i64 g.ports[v][j].weight] 64)).gr HG (fun e=>by have:=hHRK.out _ e.symm;omega)).other (by simp;omega) _
      .exact HWb.setCell (by simp) _
     case measure=>omega
    .have hd1:decide (j<g.ports[v].length)=false:=by simpa using hlt2
     obtain rfl:j=g.ports[v].length:=by omega
     go_wp2_with fail
     go_roundg (g.ports.length-(v+1))
     case rel =>
      refine ⟨v+1,_,by omega,rfl,by go_num,HO2,?_,?_,HB,HW⟩
      .intro u hu
       rcases Nat.lt_or_ge u v with h | h
       .obtain ⟨R',c',h1,h2,h3,h4⟩:=(HDx.out.kept HF (Or.inl rfl)) u h
        exact ⟨R',c',by rw [List.getElem?_set_ne (by omega)];exact h1,h2,h3,h4⟩
       .obtain rfl:u=v:=by omega
        obtain ⟨hc1,hc2⟩:=aCd HR.out;refine ⟨A,c,by rw [List.getElem?_set_self (by omega),hbl],by omega,hc2,fun x i hx=>?_⟩
        have hR:=HR.out;rw [List.take_of_length_le (by omega)] at hR
        obtain ⟨q,e1,e2,e3,e4,_⟩:=aAj hR (j:=i) (u := .int .i64 x) (by rw [List.getElem?_map,hx];rfl)
        exact ⟨q,e1,by omega,by omega,e3,e4⟩
      .intro u hu hu2
       rw [List.getElem?_set_ne (by omega)]
       exact HN.out u (by omega) hu2
     case measure=>omega
  .have hd0:decide (v<g.ports.length)=false:=by simpa using hlt
   obtain rfl:v=g.ports.length:=by omega
   go_wp2_with fail
   go_ret;have hB:=HBk.out;rw [List.take_of_length_le (by rw [HIL.out];exact Nat.le_refl _)] at hB
   have key:∀ W:World,wo.heap.size<=W.heap.size->(∀ k,w.heap.size<=k->k<wo.heap.size->W.heap[k]?=wo.heap[k]?)->aK5 W (.agg #[.string p.name,.slice A1 p.vars.length k1,.slice A2 p.rules.length k2]) p->aB2 W (.agg #[.slice A3 g.ids.length k3,.slice A4 g.ports.length k4]) g->aJ8 W w1.heap.size p g:=by
    intro W hs hk hp hgv
    have hBW:Blk W w1.heap.size (aL8 p g A1 k1 A2 k2 A3 k3 A4 k4 (aFc g.ids) (w.heap.size+1+1)) 246:=by
     have:=hB.lt;unfold Blk at *;rw [hk _ (by omega) this];exact hB
    refine ⟨A1,k1,A2,k2,A3,k3,A4,k4,w.heap.size+1+1,hBW,hp,hgv,⟨by simp [aM4],fun u x hx=>?_⟩⟩
    have hul:u<(aM4 g).length:=(List.getElem?_eq_some_iff.1 hx).1;have hu:u<g.ports.length:=by simpa [aM4] using hul
    have hxe:x=aD4 g u:=by
     unfold aM4 at hx;rw [List.getElem?_map,List.getElem?_range hu] at hx;simpa using hx.symm
    subst hxe;obtain ⟨R,c,h1,h2,h3,h4⟩:=HD.out u hu;obtain ⟨g',e1,_,hlt',hcl,_⟩:=aAj HO.out h1;obtain rfl:w.heap.size+1+1=g':=by simpa using e1
    refine ⟨_,0,rfl,Nat.lt_of_lt_of_le hlt' hs,R,c,?_,⟨rfl,fun i y hy=>?_⟩,h2,h3⟩
    .rw [Nat.zero_add,Nat.mul_one,World.cell?_of_block (hk (w.heap.size+1+1) (Nat.le_trans (Nat.le_succ _) (Nat.le_succ _)) hlt')];exact hcl
    .obtain ⟨q,e,q1,_,q3,q4⟩:=h4 y i hy
     exact ⟨q,0,e,Nat.lt_of_lt_of_le q3 hs,by unfold aJ4;rw [Nat.zero_add,Nat.mul_one,World.cell?_of_block (hk q (Nat.le_trans (Nat.le_trans (Nat.le_succ _) (Nat.le_succ _)) (Nat.le_of_lt q1)) q3)];exact q4⟩
   exact ⟨w1.heap.size,rfl,key wo (Nat.le_refl _) (fun _ _ _=>rfl) (HPV.out _ (aA2 HW)) (HGV.out _ (aA2 HW)),key,by omega,aA2 HW⟩
end Go.Proofs.YtmoebklkkjbigaaGreatDoor

