/- Merged. -/
import Derived.RangeFuncNested
import Derived.RangeFuncLeaves
import Derived.RangeFuncBox
import Derived.Test.YtdcjnhoabbdanaaGreatDoorZ04
import Derived.Maps.Own
import Derived.Maps.OwnOps
import Derived.Maps.OwnSet
import Derived.Maps.Views
import Derived.WideKeyArr
import Derived.Maps.RangeWalk
import Derived.Deep.RegionHeld3
import Derived.Deep.RegionHeld
import Derived.OrdersIn
import Derived.ProofKit
import Derived.OpenShut
import Derived.Deep.Slices
import Derived.Deep.Fields
import Derived.ChangeSame
import Derived.Carry
set_option linter.unusedSimpArgs false
set_option linter.unnecessarySimpa false
set_option linter.unusedVariables false
set_option maxRecDepth 100000
set_option maxHeartbeats 1000000
open Go.Proofs.Tryz

namespace Go.Proofs.YtdcjnhoabbdanaaGreatDoor
open Go.RowKit
structure Agr (E:Nat->Prop) (A B:World):Prop where
 os:B.os=A.os
 tape:B.tape=A.tape
 output:B.output=A.output
 size:A.heap.size<=B.heap.size
 block:∀ k,k<A.heap.size->¬ E k->B.heap[k]?=A.heap[k]?
theorem Agr.refl (E:Nat->Prop) (A:World):Agr E A A:=⟨rfl,rfl,rfl,Nat.le_refl _,fun _ _ _=>rfl⟩
theorem Agr.mono {E E':Nat->Prop} {A B:World} (h:Agr E A B) (hE:∀ k,E k->E' k):Agr E' A B :=
 ⟨h.os,h.tape,h.output,h.size,fun k hk hn=>h.block k hk (fun e=>hn (hE k e))⟩
theorem Agr.trans {E:Nat->Prop} {A B C:World} (h:Agr E A B) (k:Agr E B C):Agr E A C :=
 ⟨k.os.trans h.os,k.tape.trans h.tape,k.output.trans h.output,Nat.le_trans h.size k.size,fun i hi hn=>(k.block i (Nat.lt_of_lt_of_le hi h.size) hn).trans (h.block i hi hn)⟩
theorem Agr.alloc (E:Nat->Prop) (A:World) (o:Obj):Agr E A (A.alloc o) :=
 ⟨rfl,rfl,rfl,by simp,fun k hk _=>Below.heap_alloc A o k hk⟩
theorem Agr.putObj {E:Nat->Prop} (A:World) (l:Nat) (o:Obj) (hl:E l):Agr E A (A.putObj l o) :=
 ⟨rfl,rfl,rfl,by simp,fun k _ hn=>World.putObj_heap_other (fun e=>hn (e ▸ hl))⟩
theorem Agr.setCell {E:Nat->Prop} (A:World) (p:Addr) (v:Value) (hl:E p.block):Agr E A (A.setCell p v) :=
 ⟨rfl,rfl,rfl,by simp,fun k _ hn=>Below.heap_setCell A p v k (fun e=>hn (e ▸ hl))⟩
def aCm (E:Nat->Prop) (A B:World):Prop:=A.heap.size<=B.heap.size/\∀ k,k<A.heap.size->E k->B.heap[k]?=A.heap[k]?
def orE (E R:Nat->Prop) (k:Nat):Prop:=E k∨R k
def postE {α:Type} (E:Nat->Prop) (I:List α->World->Prop) (Ix:Code->List α->World->Prop) (xs:List α) (W:World):Exit->Act->World->Prop
 | .normal,_,W'=>aCm E W W'/\I xs W'
 | .ret,_,W'=>aCm E W W'/\Ix .ret xs W'
 | .exit id,_,W'=>aCm E W W'/\Ix (.exit id) xs W'
 | .goto t,_,W'=>aCm E W W'/\Ix (.goto t) xs W'
 | .panic _,_,_=>False
 | .outgrown,_,_=>False
def bC7 {α:Type} (F:Fence) (n:Nat) (P:Program) (g:Nat) (lb:Array Value) (encs:α->Array Value) (Bs Rs:Nat->Prop) (S:List α) (w:World):Prop :=
 ∀ (l:Nat) (J Jx:List α->World->Prop) (W:World),Bel w W->(∀ s A B,J s A->Agr Bs A B->J s B)->(∀ s A B,Jx s A->Agr Bs A B->Jx s B) ->
  (∀ pre x W1,pre++[x] <+: S->J pre W1->YieldAt F (n-1) P l (encs x) W1 fun e W' =>
   (e = .returned (.bool true)/\J (pre++[x]) W'/\aCm (orE Bs Rs) W1 W')∨(e = .returned (.bool false)/\Jx (pre++[x]) W')) ->
  J [] W ->
  CallsIn F n P g (#[.func (.yield l) #[] #[]]++lb) W fun e W'=>(∃ v,e = .returned v)/\(J S W'∨∃ pre,pre <+: S/\Jx pre W')
variable {F:Fence} {n:Nat} {P:Program}
theorem aK0 {α:Type} {g:Operand} {ps:Array Tmp} {assign body:Code} {Q:Exit->Act->World->Prop} {a:Act} {w:World}
  (hro:F.round=none) (h1:1<=n) {gf:Nat} {lb:Array Value} (hg:a.eval g = .func (.func gf) #[] lb) (hFg:F.fn gf) (eg:∀ args w,(callFunc gf args).run P w = .ok (.enter gf args) w)
  {encs:α->Array Value} {Bs Rs:Nat->Prop} {S:List α} (hseq:bC7 F (n-1) P gf lb encs Bs Rs S w) (hBs:∀ k,Bs k->k<w.heap.size) (hRs:∀ k,Rs k->k<w.heap.size) (hps:∀ x,(encs x).size=ps.size)
  (E:Nat->Prop) (hE:∀ k,E k↔Bs k∨k=w.heap.size∨k=w.heap.size+1)
  (I:List α->World->Prop) (Ix:Code->List α->World->Prop) (hI:∀ s A B,I s A->Agr E A B->I s B) (hIx:∀ c s A B,Ix c s A->Agr E A B->Ix c s B) (h0:I [] w)
  (Ax:α->Act->World->Prop) (hAx:∀ x a' A B,Ax x a' A->Agr E A B->Ax x a' B)
  (hassign:∀ (pre:List α) (x:α) (W:World) (K:Act->World->Prop),pre++[x] <+: S->I pre W->w.heap.size+1<W.heap.size->(∀ a' W',aCm (orE E Rs) W W'->I pre W'->Ax x a' W'->K a' W') ->
   assign.wpIn (F.inRound (w.heap.size+1)) (n-1-1) P (Exit.then K (fun _ _ _=>False)) { tmps:=(ps.zip (encs x)).foldl (fun t (p,v)=>t.setIfInBounds p v) a.tmps,defers:=[] } W)
  (hbody:∀ (pre:List α) (x:α) (a':Act) (W:World),pre++[x] <+: S->I pre W->Ax x a' W->w.heap.size+1<W.heap.size->(∃ r,W.heap[w.heap.size+1]?=some (.loop r)) ->
   body.wpIn (F.inRound (w.heap.size+1)) (n-1-1) P (postE (orE E Rs) I Ix (pre++[x]) W) a' W)
  (hdone:∀ (W:World),I S W->W.heap[w.heap.size]?=some (.deferred (some []))->Q .normal { a with defers:={ target := .collected w.heap.size,args:=#[] } :: a.defers } W)
  (hstop:∀ (c:Code) (pre:List α) (W:World),pre <+: S->Ix c pre W->W.heap[w.heap.size]?=some (.deferred (some []))->c.wpIn F n P Q { a with defers:={ target := .collected w.heap.size,args:=#[] } :: a.defers } W) :
  (Code.rangeFunc g ps assign body).wpIn F n P Q a w:=by
 have El:E (w.heap.size+1):=(hE _).2 (.inr (.inr rfl));have Ed:E w.heap.size:=(hE _).2 (.inr (.inl rfl));have nl:¬ Bs (w.heap.size+1):=fun h=>by have:=hBs _ h;omega
 have nek:∀ k,orE Bs Rs k->k<w.heap.size:=fun k h=>h.elim (hBs k) (hRs k);have up:∀ k,orE Bs Rs k->orE E Rs k:=fun k h=>h.elim (fun h => .inl ((hE k).2 (.inl h))) .inr;have nd:¬ Bs w.heap.size:=fun h=>by have:=hBs _ h;omega
 have sub:∀ {A B:World},Agr Bs A B->Agr E A B:=fun h=>h.mono (fun k hk=>(hE k).2 (.inl hk));refine wpIn_rangeFunc fun fn hfn=>?_
 rw [hro];obtain ⟨rec,hrec⟩:∃ rec:LoopState->Option Code->Loop,rec=fun st pe=>{ state:=st,pending:=pe,fn,tmps:=a.tmps,params:=ps,assign,body,defers:=w.heap.size }:=⟨_,rfl⟩
 have hL1:((w.alloc (.deferred (some []))).alloc (.loop (rec .ready none))).heap[w.heap.size+1]?=some (.loop (rec .ready none)):=by
  have:=World.alloc_heap_new (w.alloc (.deferred (some []))) (.loop (rec .ready none));rwa [World.size_alloc] at this
 have hK1:((w.alloc (.deferred (some []))).alloc (.loop (rec .ready none))).heap[w.heap.size]?=some (.deferred (some [])) :=
  (Below.heap_alloc _ _ _ (by simp)).trans (World.alloc_heap_new w _)
 have hI1:I [] ((w.alloc (.deferred (some []))).alloc (.loop (rec .ready none))):=hI _ _ _ (hI _ _ _ h0 (Agr.alloc E w _)) (Agr.alloc E _ _);have hb1:Bel w ((w.alloc (.deferred (some []))).alloc (.loop (rec .ready none))):=((Bel.refl w).alloc _).alloc _
 refine ⟨w.heap.size+1,[{ target := .collected w.heap.size,args:=#[] }],_,{ target := .fn (.func gf) lb,args:=#[.func (.yield (w.heap.size+1)) #[] #[]] },_,gf,
  #[.func (.yield (w.heap.size+1)) #[] #[]]++lb,_,by rw [run_enterLoop_outer],by simp only [resolve,hg];simp [go_sem];rfl,fun f' hf'=>by simp [Target.leads] at hf';subst hf';exact hFg,by simp [invoke,go_sem,eg];rfl,fun _=>h1,?_⟩
 revert hL1 hK1 hI1 hb1
 rw [hrec];intro hL1 hK1 hI1 hb1
 refine (hseq (w.heap.size+1)
  (fun pre W=>I pre W/\W.heap[w.heap.size+1]?=some (.loop (rec .ready none))/\W.heap[w.heap.size]?=some (.deferred (some [])))
  (fun pre W=>∃ c,Ix c pre W/\W.heap[w.heap.size+1]?=some (.loop (rec .done (some c)))/\W.heap[w.heap.size]?=some (.deferred (some [])))
  _ hb1 (fun s A B hs hg'=>⟨hI _ _ _ hs.1 (sub hg'),(hg'.block _ (Array.getElem?_eq_some_iff.1 hs.2.1).1 nl).trans hs.2.1,(hg'.block _ (Array.getElem?_eq_some_iff.1 hs.2.2).1 nd).trans hs.2.2⟩)
  (fun s A B hs hg'=>by
   obtain ⟨c,hc,hl,hk⟩:=hs
   exact ⟨c,hIx _ _ _ _ hc (sub hg'),(hg'.block _ (Array.getElem?_eq_some_iff.1 hl).1 nl).trans hl,(hg'.block _ (Array.getElem?_eq_some_iff.1 hk).1 nd).trans hk⟩)
  ?_ ⟨hI1,by rw [hrec];exact hL1,hK1⟩).mono ?_
 .-- one round
  rintro pre x W hpre ⟨hi,hl,hk⟩;have hlt:=(Array.getElem?_eq_some_iff.1 hl).1;have hy:=run_yield (P:=P) (args:=encs x) hl (by rw [hrec];exact hps x)
  rw [hrec] at hy;refine ⟨fn,_,assign,body,hy,roundIn_of_wpIn hfn (hassign pre x W _ hpre hi hlt ?_)⟩
  clear hy;intro a' Wa hsa hia hax
  have hl2:=(hsa.2 _ hlt (.inl El)).trans hl;have hk2:=(hsa.2 _ (by omega) (.inl Ed)).trans hk
  have hlta:=(Array.getElem?_eq_some_iff.1 hl2).1;refine ⟨_,run_beginRound hl2 (by rw [hrec]),?_⟩
  have agb:Agr E Wa (Wa.putObj (w.heap.size+1) (.loop { rec .ready none with state := .busy })):=Agr.putObj _ _ _ El
  have hl3:(Wa.putObj (w.heap.size+1) (.loop { rec .ready none with state := .busy })).heap[w.heap.size+1]?=some (.loop { rec .ready none with state := .busy }):=World.putObj_heap_same hlta
  have hk3:(Wa.putObj (w.heap.size+1) (.loop { rec .ready none with state := .busy })).heap[w.heap.size]?=some (.deferred (some [])):=(World.putObj_heap_other (by omega)).trans hk2
  have hsz:=agb.size
  have hsb:aCm (orE Bs Rs) W (Wa.putObj (w.heap.size+1) (.loop { rec .ready none with state := .busy })) :=
   ⟨Nat.le_trans hsa.1 hsz,fun k hk hB=>(World.putObj_heap_other (by have:=nek k hB;omega)).trans (hsa.2 k hk (up k hB))⟩
  refine wpIn_mono (hbody pre x a' _ hpre (hI _ _ _ hia agb) (hAx _ _ _ _ hax agb) (Nat.lt_of_lt_of_le hlta hsz) ⟨_,hl3⟩) ?_
  generalize Wa.putObj (w.heap.size+1) (.loop { rec .ready none with state := .busy })=Wb at *
  have fin:∀ (jump:Option Code) (W3:World),aCm (orE E Rs) Wb W3 ->
    (Instr.endRound (w.heap.size+1) jump).run P W3 = .ok (.bool jump.isNone) (W3.putObj (w.heap.size+1) (.loop (rec (if jump.isNone then .ready else .done) jump))) /\
    (W3.putObj (w.heap.size+1) (.loop (rec (if jump.isNone then .ready else .done) jump))).heap[w.heap.size+1]?=some (.loop (rec (if jump.isNone then .ready else .done) jump)) /\
    (W3.putObj (w.heap.size+1) (.loop (rec (if jump.isNone then .ready else .done) jump))).heap[w.heap.size]?=some (.deferred (some [])):=fun jump W3 h3=>by
   have hl4:=(h3.2 _ (by omega) (.inl El)).trans hl3
   have:=run_endRound (P:=P) jump hl4;rw [hrec] at this ⊢;exact ⟨this,World.putObj_heap_same (Array.getElem?_eq_some_iff.1 hl4).1,(World.putObj_heap_other (by omega)).trans ((h3.2 _ (by omega) (.inl Ed)).trans hk3)⟩
  rintro e a3 W3 hp;cases e with
  | normal =>
   obtain ⟨h3,hi3⟩:=hp;obtain ⟨hr,hl4,hk4⟩:=fin none W3 h3
   exact ⟨_,_,hr,.inl ⟨rfl,⟨hI _ _ _ hi3 (Agr.putObj _ _ _ El),hl4,hk4⟩,Nat.le_trans hsb.1 (Nat.le_trans h3.1 (Agr.putObj (E:=E) W3 _ _ El).size),fun k hk hB =>
    (World.putObj_heap_other (by have:=nek k hB;omega)).trans ((h3.2 k (Nat.lt_of_lt_of_le hk hsb.1) (up k hB)).trans (hsb.2 k hk hB))⟩⟩
  | ret =>
   obtain ⟨h3,hi3⟩:=hp;obtain ⟨hr,hl4,hk4⟩:=fin (some .ret) W3 h3;exact ⟨_,_,hr,.inr ⟨rfl,.ret,hIx _ _ _ _ hi3 (Agr.putObj _ _ _ El),hl4,hk4⟩⟩
  | exit id =>
   obtain ⟨h3,hi3⟩:=hp;obtain ⟨hr,hl4,hk4⟩:=fin (some (.exit id)) W3 h3;exact ⟨_,_,hr,.inr ⟨rfl,.exit id,hIx _ _ _ _ hi3 (Agr.putObj _ _ _ El),hl4,hk4⟩⟩
  | goto t =>
   obtain ⟨h3,hi3⟩:=hp;obtain ⟨hr,hl4,hk4⟩:=fin (some (.goto t)) W3 h3;exact ⟨_,_,hr,.inr ⟨rfl,.goto t,hIx _ _ _ _ hi3 (Agr.putObj _ _ _ El),hl4,hk4⟩⟩
  | panic ch=>exact hp.elim
  | outgrown=>exact hp.elim
 .-- behind the iterator
  rintro e W2 ⟨⟨v,rfl⟩,(⟨hi,hl,hk⟩ | ⟨pre,hSp,c,hi,hl,hk⟩)⟩
  .exact ⟨none,_,by have:=run_endLoop (P:=P) hl (by rw [hrec];simp);rw [hrec] at this;exact this,hdone _ (hI _ _ _ hi (Agr.putObj _ _ _ El)) ((World.putObj_heap_other (by omega)).trans hk)⟩
  .exact ⟨some c,_,by have:=run_endLoop (P:=P) hl (by rw [hrec];simp);rw [hrec] at this;exact this,hstop c pre _ hSp (hIx _ _ _ _ hi (Agr.putObj _ _ _ El)) ((World.putObj_heap_other (by omega)).trans hk)⟩
theorem aJj {P:Program} {f:FuncId} {fn:Func} {c:Code} {args:Array Value} {w:World} {R:Ending->World->Prop}
  (hf:P.funcs[f]?=some fn) (hb:fn.body=some c)
  (h:c.wp P (bodyPostM Fence.wide 5 P fn R) { tmps:=args++Array.replicate (fn.ntmps-args.size) undef,defers:=[] } w):Calls P f args w R :=
 callsIn_wide.1 (callsIn_of_wp_marks hf hb trivial (wpIn_wide.2 h) rfl)
def aFn (B:Nat) (W:World):List Deferred->Prop
 | []=>True
 | d :: ds=>(∃ D,d={ target := .collected D,args:=#[] }/\B<=D/\W.heap[D]?=some (.deferred (some []))/\∀ d'∈ds,∀ D',d'.target = .collected D'->D' < D)/\aFn B W ds
theorem aFn.nil (B:Nat) (W:World):aFn B W []:=trivial
def bC0 (B:Nat) (W:World) (k:Nat):Prop:=B<=k/\∃ x,W.heap[k]?=some (.deferred x)
theorem aFn.keep {B:Nat} {W W':World}:∀ {ds:List Deferred},aFn B W ds->(∀ D,B<=D->W.heap[D]?=some (.deferred (some []))->W'.heap[D]?=some (.deferred (some [])))->aFn B W' ds
 | [],_,_=>trivial
 | _ :: _,h,hk=>by
  obtain ⟨⟨D,e,h1,h2,h3⟩,h4⟩:=h;exact ⟨⟨D,e,h1,hk D h1 h2,h3⟩,h4.keep hk⟩
theorem aFn.below {B:Nat} {W:World}:∀ {ds:List Deferred},aFn B W ds->∀ d∈ds,∀ D,d.target = .collected D->B<=D/\D<W.heap.size
 | [],_,_,hd,_,_=>by cases hd
 | d0 :: ds,h,d,hd,D,e=>by
  obtain ⟨⟨D0,e0,h1,h2,h3⟩,h4⟩:=h
  rcases List.mem_cons.1 hd with rfl | hd
  .subst e0
   injection e with e
   subst e;exact ⟨h1,(Array.getElem?_eq_some_iff.1 h2).1⟩
  .exact h4.below d hd D e
theorem aFn.push {B:Nat} {W:World} {ds:List Deferred} {D:Nat} (h:aFn B W ds) (hB:B<=D) (hD:W.heap[D]?=some (.deferred (some []))) (hlt:∀ d'∈ds,∀ D',d'.target = .collected D'->D' < D):aFn B W ({ target := .collected D,args:=#[] } :: ds) :=
 ⟨⟨D,rfl,hB,hD,hlt⟩,h⟩
theorem aFn.shut {B D:Nat} {W:World}:∀ {ds:List Deferred},aFn B W ds->(∀ d'∈ds,∀ D',d'.target = .collected D'->D' < D)->aFn B (W.putObj D (.deferred none)) ds
 | [],_,_=>trivial
 | d :: ds,h,hl=>by
  obtain ⟨⟨D0,e,h1,h2,h3⟩,h4⟩:=h;have:=hl d (List.mem_cons_self ..) D0 (by rw [e])
  exact ⟨⟨D0,e,h1,(World.putObj_heap_other (by omega)).trans h2,h3⟩,h4.shut (fun d' hd=>hl d' (List.mem_cons_of_mem _ hd))⟩
theorem aFw {P:Program} {fn:Func} {tmps:Array Value} {R:Ending->World->Prop} {F:Fence} {n B:Nat}:∀ {ds:List Deferred} {W:World},aFn B W ds ->
  (∀ W',Agr (bC0 B W) W W'->W'.heap.size=W.heap.size->∃ v,(results fn tmps).run P W' = .ok v W'/\R (.returned v) W')->LeavesInM F n P fn tmps R ds .returning W
 | [],W,_,hR=>hR W (Agr.refl _ W) rfl
 | d :: ds,W,h,hR=>by
  obtain ⟨⟨D,rfl,h1,h2,h3⟩,h4⟩:=h;refine ⟨by simp,.inl ⟨D,_,rfl,run_takeDeferred h2,?_⟩⟩
  have hlt:=(Array.getElem?_eq_some_iff.1 h2).1;refine aFw (B:=B) (h4.shut h3) ?_
  intro W' hA hs
  have hE:∀ k,bC0 B (W.putObj D (.deferred none)) k->bC0 B W k:=by
   rintro k ⟨hk,x,hx⟩
   by_cases hkD:k=D
   .subst hkD;exact ⟨hk,_,h2⟩
   .rw [World.putObj_heap_other hkD] at hx;exact ⟨hk,x,hx⟩
  have hsz:(W.putObj D (.deferred none)).heap.size=W.heap.size:=by simp
  exact hR W' ((Agr.putObj W D _ ⟨h1,_,h2⟩).trans (hA.mono hE)) (by omega)
theorem Agr.cell {E:Nat->Prop} {A B:World} (h:Agr E A B) {k o:Nat} (hk:k<A.heap.size) (hE:¬ E k):B.cell? ⟨k,o,none⟩=A.cell? ⟨k,o,none⟩ :=
 World.cell?_of_block (h.block k hk hE)
theorem Agr.cellD {B0:Nat} {A B:World} (h:Agr (bC0 B0 A) A B) {k o:Nat} {v:Value} (hc:A.cell? ⟨k,o,none⟩=some v):B.cell? ⟨k,o,none⟩=some v:=by
 have hne:¬ bC0 B0 A k:=by
  rintro ⟨_,x,hx⟩;simp [World.cell?,hx] at hc
 have hk:k<A.heap.size:=by
  rcases Nat.lt_or_ge k A.heap.size with h | h
  .exact h
  .simp [World.cell?,Array.getElem?_eq_none h] at hc
 rw [h.cell hk hne];exact hc
theorem Agr.bel {w A C:World} (hb:Bel w A) (h:Agr (bC0 w.heap.size A) A C):Bel w C :=
 ⟨h.os.trans hb.os,h.tape.trans hb.tape,h.output.trans hb.output,Nat.le_trans hb.size h.size,fun k hk=>(h.block k (Nat.lt_of_lt_of_le hk hb.size) (fun e=>by have:=e.1;omega)).trans (hb.block k hk)⟩
theorem Agr.belE {E:Nat->Prop} {w A C:World} (hb:Bel w A) (h:Agr E A C) (hE:∀ k,E k->w.heap.size<=k):Bel w C :=
 ⟨h.os.trans hb.os,h.tape.trans hb.tape,h.output.trans hb.output,Nat.le_trans hb.size h.size,fun k hk=>(h.block k (Nat.lt_of_lt_of_le hk hb.size) (fun e=>by have:=hE k e;omega)).trans (hb.block k hk)⟩
theorem Agr.boxed {E:Nat->Prop} {A B:World} (h:Agr E A B) {k:Nat} {t:TypeId} {v:Value} (hx:Boxed A k t v) (hk:¬ E k):Boxed B k t v:=(h.block k hx.lt hk).trans hx
theorem Agr.blk {E:Nat->Prop} {A B:World} (h:Agr E A B) {k:Nat} {t:TypeId} {cs:Array Value} (hx:A.heap[k]?=some (.cells cs t (0,0))) (hk:¬ E k):B.heap[k]?=some (.cells cs t (0,0)):=(h.block k (Array.getElem?_eq_some_iff.1 hx).1 hk).trans hx
theorem aCm.refl (E:Nat->Prop) (A:World):aCm E A A:=⟨Nat.le_refl _,fun _ _ _=>rfl⟩
theorem aCm.trans {E:Nat->Prop} {A B C:World} (h:aCm E A B) (k:aCm E B C):aCm E A C :=
 ⟨Nat.le_trans h.1 k.1,fun i hi hE=>(k.2 i (Nat.lt_of_lt_of_le hi h.1) hE).trans (h.2 i hi hE)⟩
theorem aCm.setCell {E:Nat->Prop} (A:World) (p:Addr) (v:Value) (hp:¬ E p.block):aCm E A (A.setCell p v) :=
 ⟨by simp,fun k _ hE=>Below.heap_setCell A p v k (fun e=>hp (e ▸ hE))⟩
theorem aCm.of_bel {E:Nat->Prop} {A B:World} (h:Bel A B):aCm E A B:=⟨h.size,fun k hk _=>h.block k hk⟩
theorem aA4 {W:World} {B:Nat} {t:TypeId} {v:Value} (h:Boxed W B t v):W.cell? ⟨B,0,none⟩=some v/\W.frozen? ⟨B,0,none⟩=false/\B<W.heap.size:=⟨h.cell,h.frozen,h.lt⟩
def wOf (ls:List Link) (b:Int):Int:=match ls.find? (fun l=>l.to==b) with | some l=>l.weight | none=>0
def mOf (ports:List (List Link)) (v j:Nat) (a b:Int):Int :=
 if 0<=a/\a<(v:Int) then wOf (ports.getD a.toNat []) b else if a=(v:Int) then wOf ((ports.getD v []).take j) b else 0
def bAp (ports:List (List Link)):Bool :=
 (List.range ports.length).all (fun v=>aCx ports.length v (ports.getD v []))&&(List.range ports.length).all (fun v=>(ports.getD v []).all (aGq ⟨[],ports⟩ v))
structure SymOK (ports:List (List Link)):Prop where
 links:∀ v,(h:v<ports.length)->aCx ports.length v ports[v]=true
 back:∀ v,(h:v<ports.length)->∀ l∈ports[v],aGq ⟨[],ports⟩ v l=true
theorem aVd (ports:List (List Link)):bAp ports=true↔SymOK ports:=by
 unfold bAp;simp only [Bool.and_eq_true,List.all_eq_true,List.mem_range]
 constructor
 .rintro ⟨h6,h7⟩
  exact ⟨fun v hv=>by have:=h6 v hv;rwa [aA8 hv] at this,fun v hv l hl=>by have:=h7 v hv;rw [aA8 hv] at this;exact this l hl⟩
 .rintro ⟨h6,h7⟩
  exact ⟨fun v hv=>by rw [aA8 hv];exact h6 v hv,fun v hv=>by rw [aA8 hv];exact h7 v hv⟩
theorem aLi {ports:List (List Link)} (h:¬ SymOK ports):bAp ports=false:=by
 rw [Bool.eq_false_iff];intro hb;exact h ((aVd ports).1 hb)
theorem aW2 (g:Graph):aDr g=(decide (1<=g.ports.length/\g.ports.length<=24/\g.ids.length=g.ports.length)&&aOp g.ids&&bAp g.ports):=by
 unfold aDr bAp;have:∀ v,aGq g v=aGq ⟨[],g.ports⟩ v:=fun v=>rfl;simp only [this,Bool.and_assoc]
theorem bBy {ls:List Link} {b:Int} (hw:∀ l∈ls,1<=l.weight) (h:wOf ls b=0):∀ l∈ls,l.to≠b:=by
 unfold wOf at h;cases hf:ls.find? (fun l=>l.to==b) with
 | none =>
  rw [List.find?_eq_none] at hf;intro l hl;simpa using hf l hl
 | some l =>
  rw [hf] at h;simp only [] at h
  have:=hw l (List.mem_of_find?_eq_some hf);omega
theorem aMp {ls:List Link} {b:Int} (h:wOf ls b≠0):∃ l∈ls,l.to=b/\wOf ls b=l.weight:=by
 unfold wOf at *;cases hf:ls.find? (fun l=>l.to==b) with
 | none=>rw [hf] at h;exact absurd rfl h
 | some l=>exact ⟨l,List.mem_of_find?_eq_some hf,by simpa using List.find?_some hf,rfl⟩
theorem aPu {ls:List Link} (hn:(ls.map Link.to).Nodup) {l:Link} (hl:l∈ls):wOf ls l.to=l.weight:=by
 unfold wOf;cases hf:ls.find? (fun k=>k.to==l.to) with
 | none =>
  rw [List.find?_eq_none] at hf;have:=hf l hl;simp at this
 | some k =>
  have h1:k.to=l.to:=by simpa using List.find?_some hf
  have h2:=List.mem_of_find?_eq_some hf;obtain ⟨i,hi,rfl⟩:=List.getElem_of_mem hl;obtain ⟨j,hj,rfl⟩:=List.getElem_of_mem h2
  have:i=j:=by
   rcases Nat.lt_trichotomy i j with h | h | h
   .exact absurd hn (aEy h (by simpa using hj) (by simp [h1]))
   .exact h
   .exact absurd hn (aEy h (by simpa using hi) (by simp [h1]))
  subst this;rfl
theorem bAv {ls:List Link} {j:Nat} (h:j<ls.length) (hno:∀ l∈ls.take j,l.to≠ls[j].to) (b:Int):wOf (ls.take (j+1)) b=if b=ls[j].to then ls[j].weight else wOf (ls.take j) b:=by
 unfold wOf;rw [List.take_succ_eq_append_getElem h,List.find?_append]
 by_cases hb:b=ls[j].to
 .subst hb
  have:(ls.take j).find? (fun l=>l.to==ls[j].to)=none:=by
   rw [List.find?_eq_none];intro l hl;simpa using hno l hl
  rw [this,if_pos rfl];simp
 .rw [if_neg hb]
  cases hf:(ls.take j).find? (fun l=>l.to==b) with
  | some l=>simp
  | none =>
   have:(ls[j].to==b)=false:=by simp;exact fun h=>hb h.symm
   simp [this]
theorem bA4 {ports:List (List Link)} {v j:Nat} (hv:v<ports.length) (hj:j<ports[v].length) (hno:∀ l∈ports[v].take j,l.to≠ports[v][j].to) (a b:Int) :
  mOf ports v (j+1) a b=if a=(v:Int)/\b=ports[v][j].to then ports[v][j].weight else mOf ports v j a b:=by
 unfold mOf;rw [aA8 hv]
 by_cases ha:a=(v:Int)
 .subst ha
  have hn:¬ (0<=(v:Int)/\(v:Int)<(v:Int)):=by omega
  simp only [if_neg hn,if_pos,true_and]
  rw [bAv hj hno]
 .rw [if_neg (c:=a=(v:Int)/\_) (fun h=>ha h.1)]
  simp only [if_neg ha]
theorem bBk {ports:List (List Link)} {v j:Nat} (hv:v<ports.length) (hj:ports[v].length<=j) (a b:Int):mOf ports v j a b=mOf ports (v+1) 0 a b:=by
 unfold mOf;rw [aA8 hv,List.take_of_length_le hj]
 by_cases ha:a=(v:Int)
 .subst ha
  rw [if_neg (by omega),if_pos rfl,if_pos (by omega),Int.toNat_natCast,aA8 hv]
 .by_cases h1:0<=a/\a<(v:Int)
  .rw [if_pos h1,if_pos (by omega)]
  .rw [if_neg h1,if_neg ha,if_neg (by omega)]
   split
   .simp [wOf]
   .rfl
theorem aY1 (ports:List (List Link)) (a b:Int):mOf ports 0 0 a b=0:=by
 unfold mOf;rw [if_neg (by omega)]
 split
 .simp [wOf]
 .rfl
theorem aRs {ports:List (List Link)} {n v j:Nat} (h:v<ports.length) (hn:v<n) (b:Int):mOf ports n j (v:Int) b=wOf ports[v] b:=by
 unfold mOf;rw [if_pos (by omega),Int.toNat_natCast,aA8 h]
theorem aY0 {ports:List (List Link)} {n:Nat} {a b:Int} (h:mOf ports n 0 a b≠0):0<=a/\a<(n:Int):=by
 unfold mOf at h;split at h
 .assumption
 .split at h
  .simp [wOf] at h
  .exact absurd rfl h
theorem aWr {ports:List (List Link)} (hl:∀ v,(h:v<ports.length)->aCx ports.length v ports[v]=true):SymOK ports↔∀ a b,mOf ports ports.length 0 a b≠0->mOf ports ports.length 0 b a=mOf ports ports.length 0 a b:=by
 constructor
 .intro hs a b hne
  obtain ⟨h0,h1⟩:=aY0 hne;obtain ⟨v,rfl⟩:=Int.eq_ofNat_of_zero_le h0;have hv:v<ports.length:=by omega
  rw [aRs hv hv] at hne ⊢;obtain ⟨l,hlm,rfl,he⟩:=aMp hne;rw [he];obtain ⟨k1,k2⟩:=aBq.1 (hl v hv);obtain ⟨t0,t1,_⟩:=aC1.1 (k1 l hlm);obtain ⟨t,ht⟩:=Int.eq_ofNat_of_zero_le t0;have htl:t<ports.length:=by omega
  have hb:=hs.back v hv l hlm;unfold aGq at hb;simp only [] at hb
  rw [ht,Int.toNat_natCast,aA8 htl,List.any_eq_true] at hb;obtain ⟨k,hk,hkk⟩:=hb;simp at hkk
  rw [ht,aRs htl htl];have hu:=aPu (aBq.1 (hl t htl)).2 hk;rw [hkk.1] at hu;rw [hu,hkk.2]
 .intro h
  refine ⟨hl,fun v hv l hlm=>?_⟩
  obtain ⟨k1,k2⟩:=aBq.1 (hl v hv);obtain ⟨t0,t1,_,t3,_⟩:=aC1.1 (k1 l hlm);obtain ⟨t,ht⟩:=Int.eq_ofNat_of_zero_le t0;have htl:t<ports.length:=by omega
  have hw:=aPu k2 hlm;have h1:mOf ports ports.length 0 (v:Int) l.to=l.weight:=by rw [aRs hv hv,hw]
  have h2:=h (v:Int) l.to (by rw [h1];omega)
  rw [h1,ht,aRs htl htl] at h2;obtain ⟨k,hk,hk1,hk2⟩:=aMp (ls:=ports[t]) (b:=(v:Int)) (by omega)
  unfold aGq;simp only []
  rw [ht,Int.toNat_natCast,aA8 htl,List.any_eq_true];exact ⟨k,hk,by simp [hk1];omega⟩
open Go.RowKit Go.Maps
def aP2 (P:Program) (k e:TypeId) (w:World) (b n:Nat) (ks:List Lit):Prop :=
 ∃ D:DataW Unit,w.ownsMap P k (plainElem P e) b n D/\IsMap D/\∀ kl,∃ x,D.atKey kl (.lit (.bool false)) = .lit (.bool x)/\(x=true↔kl∈ks)
theorem aP2.made (P:Program) (k e:TypeId) (w:World):aP2 P k e (w.alloc (.map #[] 0)) w.heap.size 0 [] :=
 ⟨.map [],World.ownsMap_made w P k _,isMap_empty,fun kl=>⟨false,by simp [DataW.atKey],by simp⟩⟩
theorem aP2.kept {P:Program} {k e:TypeId} {w w':World} {b n:Nat} {ks:List Lit} {row:Option Nat} (h:aP2 P k e w b n ks) (hg:w.grownBy w' row) (hne:some b≠row):aP2 P k e w' b n ks:=by
 obtain ⟨D,h1,h2,h3⟩:=h;exact ⟨D,h1.kept hg hne,h2,h3⟩
theorem aP2.keep {P:Program} {k e:TypeId} {w w':World} {b n:Nat} {ks:List Lit} (h:aP2 P k e w b n ks) (hb:Bel w w'):aP2 P k e w' b n ks:=h.kept (hb.grownBy none) (by simp)
theorem aP2.lt {P:Program} {k e:TypeId} {w:World} {b n:Nat} {ks:List Lit} (h:aP2 P k e w b n ks):b<w.heap.size:=by
 obtain ⟨D,h1,_,_⟩:=h;exact h1.lt
theorem aKo {P:Program} {e:TypeId} (he:P.underlying e=some .bool) {v:Value} {x:Bool} {ps:List MemPlace} (h:plainElem (H:=Unit) P e v=some (.lit (.bool x),ps)):v = .bool x:=by
 unfold plainElem at h;rw [he] at h;cases v <;> simp at h
 .rename_i b
  obtain ⟨h1,_⟩:=h;simp [h1]
theorem aP2.look {P:Program} {k e t:TypeId} {w:World} {b n:Nat} {ks:List Lit} (h:aP2 P k e w b n ks) (K:Keyed P k) (ht:P.underlying t=some (.map k e)) (he:P.underlying e=some .bool) (hz:(zeroValue e).run P w = .ok (.bool false) w)
  {key:Value} {kl:Lit} (hkey:keyOf P k key=some kl):∃ x,(Instr.lookup t (.map (some b)) key false).run P w = .ok (.bool x) w/\(x=true↔kl∈ks):=by
 obtain ⟨D,h1,_,h3⟩:=h;obtain ⟨v,ps,hrun,hv⟩:=h1.lookup K ht hz (plainElem_bool he false) hkey;obtain ⟨x,hx,hi⟩:=h3 kl;rw [hx] at hv;exact ⟨x,by rw [hrun,aKo he hv],hi⟩
theorem aHh {P:Program} (w:World) {ops:Array Oper} {rest:List Oper} {o:Oper} {a:Act} {Q:Exit->Act->World->Prop}
  (hg:o.guard=none) (m x v:Operand) (t:TypeId) (hop:o.op=Op.mapUpdate t m x v)
  (k e:TypeId) (K:Keyed P k) (ht:P.underlying t=some (.map k e)) (he:P.underlying e=some .bool) (b n:Nat) (ks:List Lit)
  (hm:a.eval m = .map (some b)) (hown:aP2 P k e w b n ks) (hn:n<maxLen) (key:Value) (kl:Lit) (hx:a.eval x=key) (hv:a.eval v = .bool true) (hkey:keyOf P k key=some kl) (hkl:WideAt.IsKeyLit kl)
  (hK:∀ w',aP2 P k e w' b (n+1) (kl :: ks)->w.grownBy w' (some b)->wpList P ops Q rest (a.put o.dst undef) w') :
  wpList P ops Q (o :: rest) a w:=by
 obtain ⟨D,h1,h2,h3⟩:=hown;refine wpList_mapUpdate_own w hg m x v t hop k e K ht _ b n D hm h1 hn key (.bool true) kl hx hv hkey _ [] (plainElem_bool he true) ?_
 intro w' h4 h5
 refine hK w' ⟨_,h4,h2.put _ _,fun kl'=>?_⟩ h5
 by_cases hh:kl'=kl
 .subst hh
  exact ⟨true,by rw [atKey_put_same h2 hkl],by simp⟩
 .obtain ⟨x,hx,hi⟩:=h3 kl'
  exact ⟨x,by rw [atKey_put_other hh,hx],by rw [hi];simp [hh]⟩
theorem Bel.map {w wr w':World} (h:Bel w wr) {b:Nat} (hb:w.heap.size<=b) (hg:wr.grownBy w' (some b)):Bel w w':=h.grown hg (fun k hk=>by injection hk with hk;omega)
structure PairK (P:Program) (k e:TypeId):Prop where
 hu:P.underlying k=some (.array 2 e)
 he:P.underlying e=some (.int .i64)
 one:P.cellsOf e=1
 two:P.cellsOf k=2
 kt:P.keyType k=true
 sz:∃ m,P.types.size=m+1
def pk (a b:Int):Lit := .string (keyBytes [.int .i64 a,.int .i64 b])
def aOu (x:Int × Int):Value := .agg #[.int .i64 x.1,.int .i64 x.2]
theorem PairK.law {P:Program} {k e:TypeId} (A:PairK P k e):Keyed P k :=
 Keyed.of_law (WideMaps.ArrKey.law ⟨A.hu,by unfold Program.plainKey;rw [A.he],A.one,A.two⟩)
theorem PairK.keyOf {P:Program} {k e:TypeId} (A:PairK P k e) {a b:Int} (ha:(Lit.int .i64 a).wf=true) (hb:(Lit.int .i64 b).wf=true):Go.keyOf P k (aOu (a,b))=some (pk a b):=by
 obtain ⟨m,hm⟩:=A.sz;unfold Go.keyOf aOu;rw [A.hu];simp only []
 rw [A.kt];simp only [Value.formed,A.hu,A.two,Bool.true_and]
 rw [hm];simp only [Program.keyLits,A.hu,A.he,A.one,A.two,Value.cells,List.range,List.range.loop]
 simp [ha,hb,pk]
theorem PairK.inv {P:Program} {k e:TypeId} (A:PairK P k e) {v:Value} {l:Lit} (h:Go.keyOf P k v=some l):∃ x:Int × Int,v=aOu x/\(Lit.int .i64 x.1).wf=true/\(Lit.int .i64 x.2).wf=true/\l=pk x.1 x.2:=by
 obtain ⟨m,hm⟩:=A.sz;unfold Go.keyOf at h;rw [A.hu] at h;simp only [] at h
 rw [A.kt] at h;cases v with
 | agg cs =>
  simp only [Value.formed,A.hu,A.two,Bool.true_and] at h
  split at h
  .rename_i hs
   obtain ⟨l'⟩:=cs;simp at hs
   match l',hs with
   | [u,v],_ =>
    rw [hm] at h;cases u with
    | int q a =>
     cases v with
     | int q' b =>
      simp only [Program.keyLits,A.hu,A.he,A.one,A.two,Value.cells,List.range,List.range.loop] at h
      by_cases h1:q = .i64/\(Lit.int .i64 a).wf=true
      .by_cases h2:q' = .i64/\(Lit.int .i64 b).wf=true
       .obtain ⟨rfl,h1⟩:=h1
        obtain ⟨rfl,h2⟩:=h2;simp [h1,h2] at h
        exact ⟨(a,b),rfl,h1,h2,h.symm⟩
       .simp [h1,h2] at h
      .simp [h1] at h
     | _=>simp [Program.keyLits,A.hu,A.he,A.one,A.two,Value.cells,List.range,List.range.loop] at h
    | _=>simp [Program.keyLits,A.hu,A.he,A.one,A.two,Value.cells,List.range,List.range.loop] at h
  .cases h
 | _=>simp [Value.formed,A.hu] at h
theorem bB4 {P:Program} {k e:TypeId} (A:PairK P k e) {a b c d:Int} (ha:(Lit.int .i64 a).wf=true) (hb:(Lit.int .i64 b).wf=true) (hc:(Lit.int .i64 c).wf=true) (hd:(Lit.int .i64 d).wf=true) (h:pk a b=pk c d):a=c/\b=d:=by
 have h1:=A.keyOf ha hb;have h2:=A.keyOf hc hd;rw [h] at h1;have:=A.law.inj h1 h2;simp [aOu] at this
 exact this
def aGj (P:Program) (k e:TypeId) (w:World) (b n:Nat) (D:DataW Unit) (M:Int->Int->Int):Prop :=
 w.ownsMap P k (plainElem P e) b n D/\IsMap D/\(∀ x y,(Lit.int .i64 x).wf=true->(Lit.int .i64 y).wf=true->D.atKey (pk x y) (.lit (.int .i64 0)) = .lit (.int .i64 (M x y))/\(has D (pk x y)=true↔M x y≠0))
theorem aGj.made (P:Program) (k e:TypeId) (w:World):aGj P k e (w.alloc (.map #[] 0)) w.heap.size 0 (.map []) (fun _ _=>0) :=
 ⟨World.ownsMap_made w P k _,isMap_empty,fun x y _ _=>⟨by simp [DataW.atKey],by simp [has]⟩⟩
theorem aGj.kept {P:Program} {k e:TypeId} {w w':World} {b n:Nat} {D:DataW Unit} {M:Int->Int->Int} {row:Option Nat} (h:aGj P k e w b n D M) (hg:w.grownBy w' row) (hne:some b≠row):aGj P k e w' b n D M :=
 ⟨h.1.kept hg hne,h.2⟩
theorem aGj.keep {P:Program} {k e:TypeId} {w w':World} {b n:Nat} {D:DataW Unit} {M:Int->Int->Int} (h:aGj P k e w b n D M) (hb:Bel w w'):aGj P k e w' b n D M:=h.kept (hb.grownBy none) (by simp)
theorem aGj.lookOk {P:Program} {k e t:TypeId} (A:PairK P k e) (ht:P.underlying t=some (.map k e)) {w:World} {b n:Nat} {D:DataW Unit} {M:Int->Int->Int} (h:aGj P k e w b n D M) (hz:(zeroValue e).run P w = .ok (.int .i64 0) w) {x y:Int} (hx:(Lit.int .i64 x).wf=true) (hy:(Lit.int .i64 y).wf=true) :
  (Instr.lookup t (.map (some b)) (aOu (x,y)) true).run P w = .ok (.tuple #[.int .i64 (M x y),.bool (decide (M x y≠0))]) w:=by
 obtain ⟨v,ps,hrun,hv⟩:=h.1.look_ok A.law ht hz (plainElem_int A.he (by decide)) (A.keyOf hx hy)
 obtain ⟨h1,h2⟩:=h.2.2 x y hx hy;rw [h1] at hv;obtain ⟨c,rfl,hc,_⟩:=plainElem_int_inv A.he hv;simp at hc
 rw [hrun,<- hc.1]
 congr 3
 rw [show has D (pk x y)=decide (M x y≠0) by rw [Bool.eq_iff_iff];simpa using h2]
theorem aGj.look {P:Program} {k e t:TypeId} (A:PairK P k e) (ht:P.underlying t=some (.map k e)) {w:World} {b n:Nat} {D:DataW Unit} {M:Int->Int->Int} (h:aGj P k e w b n D M) (hz:(zeroValue e).run P w = .ok (.int .i64 0) w) {x y:Int} (hx:(Lit.int .i64 x).wf=true) (hy:(Lit.int .i64 y).wf=true) :
  (Instr.lookup t (.map (some b)) (aOu (x,y)) false).run P w = .ok (.int .i64 (M x y)) w:=by
 obtain ⟨c,hrun,hc,_⟩:=h.1.lookup_int A.law ht A.he hz (A.keyOf hx hy);rw [(h.2.2 x y hx hy).1] at hc;simp at hc
 rw [hrun,hc]
def bC2 (M:Int->Int->Int) (x y c:Int):Int->Int->Int:=fun a b=>if a=x/\b=y then c else M a b
theorem aGj.put {P:Program} {k e:TypeId} (A:PairK P k e) {w':World} {b n:Nat} {D:DataW Unit} {M:Int->Int->Int} {x y c:Int} (hx:(Lit.int .i64 x).wf=true) (hy:(Lit.int .i64 y).wf=true) (hc:c≠0)
  (h2:IsMap D/\(∀ x y,(Lit.int .i64 x).wf=true->(Lit.int .i64 y).wf=true->D.atKey (pk x y) (.lit (.int .i64 0)) = .lit (.int .i64 (M x y))/\(has D (pk x y)=true↔M x y≠0)))
  (h:w'.ownsMap P k (plainElem P e) b n (D.put (pk x y) (.lit (.int .i64 c)))):aGj P k e w' b n (D.put (pk x y) (.lit (.int .i64 c))) (bC2 M x y c):=by
 refine ⟨h,h2.1.put _ _,fun a b ha hb=>?_⟩
 have hkl:WideAt.IsKeyLit (pk x y):=trivial
 by_cases he:a=x/\b=y
 .obtain ⟨rfl,rfl⟩:=he
  refine ⟨?_,?_⟩
  .rw [atKey_put_same h2.1 hkl];simp [bC2]
  .simp only [bC2]
   simp [hc]
   exact has_true_of_atKey (y := .lit (.int .i64 c)) (fun z=>atKey_put_same h2.1 hkl _ z)
 .have hne:pk a b≠pk x y:=fun h=>he (bB4 A ha hb hx hy h)
  have hM:bC2 M x y c a b=M a b:=by unfold bC2;rw [if_neg he]
  obtain ⟨g1,g2⟩:=h2.2 a b ha hb;refine ⟨by rw [atKey_put_other hne,hM,g1],?_⟩
  rw [hM,<- g2];constructor
  .intro hh
   cases hD:has D (pk a b) with
   | true=>rfl
   | false =>
    have:has (D.put (pk x y) (.lit (.int .i64 c))) (pk a b)=false:=has_false_of_atKey (fun z=>by rw [atKey_put_other hne,atKey_of_not_has hD])
    rw [this] at hh;cases hh
  .intro hh
   cases hD:has (D.put (pk x y) (.lit (.int .i64 c))) (pk a b) with
   | true=>rfl
   | false =>
    have:has D (pk a b)=false:=has_false_of_atKey (fun z=>by rw [<- atKey_put_other hne (.lit (.int .i64 c)),atKey_of_not_has hD])
    rw [this] at hh;cases hh
def aGg (r:Rule):Nat:=r.guard.length+(r.sets.map (fun s=>s.value.length)).sum
def aM6 (p:Prg):Nat:=(p.rules.map aGg).sum
theorem aHg {α:Type} (f:α->Nat) (l:List α) (k:Nat) (h:k<l.length):((l.take (k+1)).map f).sum=((l.take k).map f).sum+f l[k]:=by
 rw [List.take_succ_eq_append_getElem h,List.map_append,List.sum_append];simp
theorem aPr {α:Type} (f:α->Nat) (l:List α) (b:Nat) (h:∀ x∈l,f x<=b):(l.map f).sum<=l.length*b:=by
 induction l with
 | nil=>simp
 | cons x l ih =>
  have h1:=h x (by simp)
  have h2:=ih (fun y hy=>h y (by simp [hy]))
  simp only [List.map_cons,List.sum_cons,List.length_cons,Nat.add_mul]
  omega
theorem aSv {r:Rule} (h:aFb r=true):aGg r<=2750:=by
 unfold aFb at h;simp at h
 obtain ⟨⟨⟨h1,h2⟩,h3⟩,h4⟩:=h;have:=aPr (fun s:SetT=>s.value.length) r.sets 250 h4;unfold aGg;have:r.sets.length*250<=2500:=by omega
 omega
theorem aBc {p:Prg} (h:aAu p=true):p.name.size<=40/\p.vars.length<=10/\p.rules.length<=16/\(∀ x∈p.vars,x.name.size<=40)/\(∀ r∈p.rules,aFb r=true):=by
 unfold aAu at h;simp at h
 obtain ⟨⟨⟨⟨h1,h2⟩,h3⟩,h4⟩,h5⟩:=h;exact ⟨h1,h2,h3,h4,h5⟩
theorem aBx {r:Rule} (h:aFb r=true):r.name.size<=40/\r.sets.length<=10/\r.guard.length<=250/\∀ s∈r.sets,s.value.length<=250:=by
 unfold aFb at h;simp at h
 obtain ⟨⟨⟨h1,h2⟩,h3⟩,h4⟩:=h;exact ⟨h1,h2,h3,h4⟩
theorem aSu {p:Prg} (h:aAu p=true):aM6 p<=44000:=by
 obtain ⟨_,_,h3,_,h5⟩:=aBc h;have:=aPr aGg p.rules 2750 (fun r hr=>aSv (h5 r hr));unfold aM6;have:p.rules.length*2750<=44000:=by omega
 omega
theorem aDd {g:Graph} (h:aB3 g=true):g.ids.length<=30/\g.ports.length<=30/\∀ r∈g.ports,r.length<=30:=by
 unfold aB3 at h;simp at h
 obtain ⟨⟨h1,h2⟩,h3⟩:=h;exact ⟨h1,h2,h3⟩
theorem aN0 {g:Graph} (h:aB3 g=true):1<=aDw g/\aDw g<=30:=by
 obtain ⟨_,_,h3⟩:=aDd h;refine ⟨aQe _ _,aQf _ _ _ (by omega) ?_⟩
 intro x hx
 obtain ⟨r,hr,rfl⟩:=List.mem_map.1 hx;exact h3 r hr
theorem aSw (v:Value) (p:Prg) (w:World) (h:aEi w v p) (hlight:aAu p=true) :
  Calls prog 32 #[v] w fun e w'=>e = .returned (.int .i64 (aM6 p:Nat))/\Bel w w':=by
 obtain ⟨A,k,A2,k2,rfl,_,_,_,hr,_,_⟩:=h;obtain ⟨_,_,hp3,_,hp5⟩:=aBc hlight;have HP:=aA0 hp5;clear hp5 hlight;have HR:=aA0 hr;clear hr;go_enter func32,ntmps32;go_wp2
 go_loopg [3,4,5] p.rules.length (fun m s i _z wr=>∃ j:Nat,j<=p.rules.length/\m=p.rules.length-j/\s = .int .i64 ((((p.rules.take j).map aGg).sum:Nat):Int)/\((p.rules.take j).map aGg).sum<=j*2750/\i = .int .i64 j/\w.alloc (.cells #[.string p.name,.slice A p.vars.length k,.slice A2 p.rules.length k2] 25)=wr)
 case atStart=>exact ⟨0,by omega,rfl,rfl,by simp,rfl,rfl⟩
 case round =>
  obtain ⟨i,hi,rfl,rfl,hsum,rfl,rfl⟩:=hrel
  by_cases hlt:i<p.rules.length
  .obtain ⟨b,o,G,c,S,c2,rfl,hb,hc1,hc2,hc3,_,_,_,hS,_,_⟩:=HR.out.at_ i hlt
   have HS:=aA0 hS;clear hS;have hL:=HP.out p.rules[i] (List.getElem_mem hlt);obtain ⟨_,hr2,hr3,hr4⟩:=aBx hL;have H4:=aA0 hr4;clear hr4;have hT:=aSv hL
   have HT:Hid (∀ t,((p.rules[i].sets.take p.rules[i].sets.length).map (fun s=>s.value.length)).sum=t->((p.rules.take i).map aGg).sum+p.rules[i].guard.length+t=((p.rules.take (i+1)).map aGg).sum):=by
    intro t ht
    rw [List.take_of_length_le (Nat.le_refl _)] at ht;rw [aHg aGg _ _ hlt];unfold aGg at *;omega
   have hsum2:Hid (((p.rules.take (i+1)).map aGg).sum<=(i+1)*2750):=by
    show ((p.rules.take (i+1)).map aGg).sum<=(i+1)*2750
    rw [aHg aGg _ _ hlt];omega
   clear hL hT;generalize ((p.rules.take i).map aGg).sum=N at *;go_wp2
   go_loopg [3,5] p.rules[i].sets.length (fun m s x ws=>∃ j:Nat,j<=p.rules[i].sets.length/\m=p.rules[i].sets.length-j/\s = .int .i64 ((N+p.rules[i].guard.length+((p.rules[i].sets.take j).map (fun s=>s.value.length)).sum:Nat):Int)/\((p.rules[i].sets.take j).map (fun s=>s.value.length)).sum<=j*250/\x = .int .i64 j/\w.alloc (.cells #[.string p.name,.slice A p.vars.length k,.slice (some ⟨b,o,none⟩) p.rules.length k2] 25)=ws)
   case atStart=>exact ⟨0,by omega,rfl,by simp,by simp,rfl,rfl⟩
   case round =>
    obtain ⟨q,hq,rfl,rfl,hs2,rfl,rfl⟩:=hrel
    by_cases hlt2:q<p.rules[i].sets.length
    .obtain ⟨b',o',R,c',rfl,hb',hs1,hs3,_,_,_⟩:=HS.out.at_ q hlt2
     have hv:=H4.out _ (List.getElem_mem hlt2);have hss:=aA0 (aHg (fun s:SetT=>s.value.length) _ _ hlt2);generalize hg:((p.rules[i].sets.take q).map (fun s=>s.value.length)).sum=M at *;clear hg;go_wp2
     go_roundg (p.rules[i].sets.length-(q+1))
     case rel=>exact ⟨q+1,by omega,rfl,by rw [hss.out];go_num,by rw [hss.out];omega,by go_num,rfl⟩
     case measure=>omega
    .have e:q=p.rules[i].sets.length:=by omega
     have HQ:=aA0 (HT.out _ (by rw [<- e]))
     clear e;generalize hg:((p.rules[i].sets.take q).map (fun s=>s.value.length)).sum=M at *;clear hg;go_wp2
     go_roundg (p.rules.length-(i+1))
     case rel=>exact ⟨i+1,by omega,rfl,by rw [<- HQ.out],hsum2.out,by go_num,rfl⟩
     case measure=>omega
  .go_wp2
   go_ret;exact ⟨aA5 (by unfold aM6;rw [List.take_of_length_le (by omega)]),(Bel.refl _).alloc _⟩
def aFz (p:Prg) (g:Graph):Bool:=aAu p&&aB3 g&&decide (aM6 p*g.ports.length*aDw g*aDw g<=100000)
theorem aJ0 {a b:Nat} {x y:Nat} (ha:a<=x) (hb:b<=y) (h:x*y<=9223372036854775807):IntKind.i64.wrap ((a:Int)*(b:Int))=((a*b:Nat):Int):=by
 have h1:a*b<=x*y:=Nat.mul_le_mul ha hb;rw [<- Int.natCast_mul];exact IntWalk.i64_in _ (by omega)
theorem aKp (v:Value) (p:Prg) (v2:Value) (g:Graph) (w:World) (h:aEi w v p) (h2:aAn w v2 g) :
  Calls prog 30 #[v,v2] w fun e w'=>e = .returned (.bool (aFz p g))/\Bel w w':=by
 have HP:=aA0 (fun w' (k:Bel w w')=>h.keep k);have HG:=aA0 (fun w' (k:Bel w w')=>h2.keep k);obtain ⟨A,k,A2,k2,rfl,_,_,_,_,_,_⟩:=h;obtain ⟨A3,k3,A4,k4,rfl,_,_,_,_,_,_⟩:=h2;have HW:=Bel.refl ((w.alloc (.cells #[.string p.name,.slice A p.vars.length k,.slice A2 p.rules.length k2] 25)).alloc (.cells #[.slice A3 g.ids.length k3,.slice A4 g.ports.length k4] 29));cases hlp:aAu p with
 | false =>
  have HF:Hid (aFz p g=false):=by show aFz p g=false;simp [aFz,hlp]
  go_enter func30,ntmps30
  go_wp2_with (go_at_call 56;refine (aF8 _ p _ (HP.out _ (aA1 HW))).mono ?_;rintro e w' ⟨rfl,hb⟩;replace HW:=HW.trans hb;clear hb)
  go_ret;exact ⟨aA2 HF.out.symm,aA1 HW⟩
 | true =>
  cases hlg:aB3 g with
  | false =>
   have HF:Hid (aFz p g=false):=by show aFz p g=false;simp [aFz,hlg]
   go_enter func30,ntmps30
   go_wp2_with (first
    | (go_at_call 56;refine (aF8 _ p _ (HP.out _ (aA1 HW))).mono ?_;rintro e w' ⟨rfl,hb⟩;replace HW:=HW.trans hb;clear hb;obtain ⟨p0,p1,p2,g0,g1,gsz⟩:=aAd HW)
    | (go_at_call 57;refine (aJ9 _ g _ (HG.out _ (aA1 HW))).mono ?_;rintro e w2 ⟨rfl,hb⟩;replace HW:=HW.trans hb;clear hb))
   go_ret;exact ⟨aA2 HF.out.symm,aA1 HW⟩
  | true =>
   have hT:=aSu hlp;have hD:=aN0 hlg;have hN:=(aDd hlg).2.1;have w1:=aJ0 hT hN (by decide)
   have w2:=aJ0 (Nat.mul_le_mul hT hN) hD.2 (by decide)
   have w3:=aJ0 (Nat.mul_le_mul (Nat.mul_le_mul hT hN) hD.2) hD.2 (by decide)
   have HF:Hid (aFz p g=decide (aM6 p*g.ports.length*aDw g*aDw g<=100000)):=by show aFz p g=_;simp [aFz,hlp,hlg]
   have HL:=aA0 hlp;have W2:=aA0 w2;have W3:=aA0 w3;rw [<- Int.natCast_mul] at W2 W3;clear hT hD hN w2 w3;go_enter func30,ntmps30
   go_wp2_with (first
    | (go_at_call 56;refine (aF8 _ p _ (HP.out _ (aA1 HW))).mono ?_;rintro e w' ⟨rfl,hb⟩;replace HW:=HW.trans hb;clear hb;obtain ⟨p0,p1,p2,g0,g1,gsz⟩:=aAd HW)
    | (go_at_call 57;refine (aJ9 _ g _ (HG.out _ (aA1 HW))).mono ?_;rintro e w2 ⟨rfl,hb⟩;replace HW:=HW.trans hb;clear hb p0 p1 p2 g0 g1 gsz;obtain ⟨p0,p1,p2,g0,g1,gsz⟩:=aAd HW)
    | (go_at_call 33;refine (aN1 _ g _ (HG.out _ (aA1 HW))).mono ?_;rintro e w2 ⟨rfl,hb⟩;replace HW:=HW.trans hb;clear hb p0 p1 p2 g0 g1 gsz;obtain ⟨p0,p1,p2,g0,g1,gsz⟩:=aAd HW))
   replace HW:=HW.drew
   go_region_held3 (fun w'=>w'.cell? ⟨w.heap.size,0,none⟩=some (.string p.name)/\w'.cell? ⟨w.heap.size,1,none⟩=some (.slice A p.vars.length k)/\w'.cell? ⟨w.heap.size,2,none⟩=some (.slice A2 p.rules.length k2)/\w'.cell? ⟨w.heap.size+1,0,none⟩=some (.slice A3 g.ids.length k3)/\w'.cell? ⟨w.heap.size+1,1,none⟩=some (.slice A4 g.ports.length k4)/\w.heap.size+1<w'.heap.size) (exact aAd HW) (first | (go_simp;go_at_call 32;refine (aSw _ p _ (HP.out _ (aA1 HW)) HL.out).mono ?_;rintro e w4 ⟨rfl,hb⟩;replace HW:=HW.trans hb;clear hb))
   all_goals
    go_wp2;go_ret;refine ⟨aA2 ?_,aA1 HW⟩
    rw [HF.out,Bool.eq_iff_iff];simp only [decide_eq_true_eq,<- Int.natCast_mul]
    rw [W2.out,<- Int.natCast_mul,W3.out];omega
theorem aEq {p:Prg} {g:Graph} (h:aFz p g=true):aAu p=true/\aB3 g=true:=by
 unfold aFz at h;simp at h;exact h.1
theorem aFj {a b:Int} {r:Int × Int} (h:r=(a,b)):Ending.returned (.tuple #[.int .i64 a,.int .i64 b]) = .returned (.tuple #[.int .i64 r.1,.int .i64 r.2]):=by rw [h]
theorem aEe (a:Int) (w:World):Calls prog 155 #[.int .i64 a] w fun e w'=>e = .returned (.bool (aWw a))/\w=w':=by
 go_enter func155,ntmps155;go_wp2
 all_goals
  go_ret;refine ⟨aA2 ?_,rfl⟩
  unfold aWw;rw [Bool.eq_iff_iff];simp;omega
theorem aIi (a:Int) (w:World):Calls prog 153 #[.int .i64 a] w fun e w'=>e = .returned (.int .i64 (aUf a))/\w=w':=by
 go_enter func153,ntmps153;go_wp2
 all_goals
  go_ret;refine ⟨aA5 ?_,rfl⟩
  unfold aUf;omega
theorem aDn (a:Int) (w:World):Calls prog 183 #[.int .i64 a] w fun e w'=>e = .returned (.int .i64 (aUf a))/\w=w':=by
 go_enter func183,ntmps183;go_wp2
 all_goals
  go_ret;refine ⟨aA5 ?_,rfl⟩
  unfold aUf;omega
theorem aDv (b:Bool) (w:World):Calls prog 181 #[.bool b] w fun e w'=>e = .returned (.int .i64 (aBj b))/\w=w':=by
 cases b
 all_goals
  go_enter func181,ntmps181;go_wp2;go_ret;exact ⟨rfl,rfl⟩
theorem aCf (b:Bool) (w:World):Calls prog 152 #[.bool b] w fun e w'=>e = .returned (.int .i64 (aBj b))/\w=w':=by
 cases b
 all_goals
  go_enter func152,ntmps152;go_wp2;go_ret;exact ⟨rfl,rfl⟩
theorem aLx (a b:Int) (w:World) (ha:Num a) (hb:Num b):Calls prog 184 #[.int .i64 a,.int .i64 b] w fun e w'=>e = .returned (.int .i64 (aEd a b))/\w=w':=by
 by_cases h0:b=0
 .subst h0
  go_enter func184,ntmps184;go_wp2;go_ret;exact ⟨rfl,rfl⟩
 .have hz:(b==0)=false:=by simpa using h0
  have ht:=aLj a b ha;obtain ⟨ht1,ht2⟩:=ht;have ha':=ha;unfold Num at ha hb;obtain ⟨ha1,ha2⟩:=ha;obtain ⟨hb1,hb2⟩:=hb
  by_cases hm:a.tmod b=0
  .have hmb:(a.tmod b != 0)=false:=by simpa using hm
   have HF:Hid (aEd a b=a.tdiv b):=by
    show aEd a b=_
    unfold aEd;rw [if_neg h0,if_neg (by simp [hm])]
   clear hm;go_enter func184,ntmps184;go_wp2;go_ret;exact ⟨aA5 HF.out.symm,rfl⟩
  .have hmb:(a.tmod b != 0)=true:=by simpa using hm
   cases hs:(decide (a<0) != decide (b<0)) with
   | true =>
    have HF:Hid (aEd a b=a.tdiv b-1):=by
     show aEd a b=_
     unfold aEd;rw [if_neg h0,if_pos ⟨hm,hs⟩]
    have hs':(!(decide (a<0)==decide (b<0)))=true:=hs;clear hm hs;go_enter func184,ntmps184;go_wp2;go_ret;exact ⟨aA5 HF.out.symm,rfl⟩
   | false =>
    have HF:Hid (aEd a b=a.tdiv b):=by
     show aEd a b=_
     unfold aEd;rw [if_neg h0,if_neg (by simp [hs])]
    have hs':(!(decide (a<0)==decide (b<0)))=false:=hs;clear hm hs;go_enter func184,ntmps184;go_wp2;go_ret;exact ⟨aA5 HF.out.symm,rfl⟩
theorem aIh (a b:Int) (w:World) (ha:Num a) (hb:Num b):Calls prog 171 #[.int .i64 a,.int .i64 b] w fun e w'=>e = .returned (.int .i64 (aEd a b))/\w=w':=by
 by_cases h0:b=0
 .subst h0
  go_enter func171,ntmps171;go_wp2;go_ret;exact ⟨rfl,rfl⟩
 .have hz:(b==0)=false:=by simpa using h0
  have ht:=aLj a b ha;obtain ⟨ht1,ht2⟩:=ht;have ha':=ha;unfold Num at ha hb;obtain ⟨ha1,ha2⟩:=ha;obtain ⟨hb1,hb2⟩:=hb
  by_cases hm:a.tmod b=0
  .have hmb:(a.tmod b != 0)=false:=by simpa using hm
   have HF:Hid (aEd a b=a.tdiv b):=by
    show aEd a b=_
    unfold aEd;rw [if_neg h0,if_neg (by simp [hm])]
   clear hm;go_enter func171,ntmps171;go_wp2;go_ret;exact ⟨aA5 HF.out.symm,rfl⟩
  .have hmb:(a.tmod b != 0)=true:=by simpa using hm
   cases hs:(decide (a<0) != decide (b<0)) with
   | true =>
    have HF:Hid (aEd a b=a.tdiv b-1):=by
     show aEd a b=_
     unfold aEd;rw [if_neg h0,if_pos ⟨hm,hs⟩]
    have hs':(!(decide (a<0)==decide (b<0)))=true:=hs;clear hm hs;go_enter func171,ntmps171;go_wp2;go_ret;exact ⟨aA5 HF.out.symm,rfl⟩
   | false =>
    have HF:Hid (aEd a b=a.tdiv b):=by
     show aEd a b=_
     unfold aEd;rw [if_neg h0,if_neg (by simp [hs])]
    have hs':(!(decide (a<0)==decide (b<0)))=false:=hs;clear hm hs;go_enter func171,ntmps171;go_wp2;go_ret;exact ⟨aA5 HF.out.symm,rfl⟩
theorem aZ7 (op a:Int) (w:World) (ha:Num a):Calls prog 164 #[.int .i64 op,.int .i64 a] w fun e w'=>e = .returned (.int .i64 (aHq op a))/\w=w':=by
 unfold Num at ha;obtain ⟨ha1,ha2⟩:=ha
 by_cases h:op=18
 .subst h
  go_enter func164,ntmps164;go_wp2;go_ret;exact ⟨rfl,rfl⟩
 .have HF:Hid (aHq op a=aBj (a==0)):=by show aHq op a=_;unfold aHq;rw [if_neg h]
  have hb:(op==18)=false:=by simpa using h
  clear h;go_enter func164,ntmps164
  go_wp2_with (go_at_call 181;refine (aDv _ _).mono ?_;rintro e w' ⟨rfl,rfl⟩)
  go_ret;exact ⟨aA5 HF.out.symm,rfl⟩
def cmpF (op a b:Int):Bool :=
 if op=35 then a==b else if op=36 then a != b else if op=37 then decide (a<b) else if op=38 then decide (a<=b) else if op=39 then decide (b<a) else decide (b<=a)
theorem aRf (op a b:Int) (w:World):Calls prog 185 #[.int .i64 op,.int .i64 a,.int .i64 b] w fun e w'=>e = .returned (.bool (cmpF op a b))/\w=w':=by
 go_enter func185,ntmps185;go_wp2
 all_goals
  go_ret;refine ⟨aA2 ?_,rfl⟩
  simp only [beq_iff_eq,beq_eq_false_iff_ne,ne_eq] at *
  unfold cmpF
  repeat' split
  all_goals first | rfl | omega
theorem aVl (op a b:Int) (h1:35<=op) (h2:op<=40):aHk op a b=aBj (cmpF op a b):=by
 have:op=35∨op=36∨op=37∨op=38∨op=39∨op=40:=by omega
 rcases this with h | h | h | h | h | h <;> subst h <;> rfl
theorem aVm (op a b:Int) (w:World) (h1:30<=op) (h2:op<=42) (ha:Num a) (hb:Num b):Calls prog 166 #[.int .i64 op,.int .i64 a,.int .i64 b] w fun e w'=>e = .returned (.int .i64 (aDz op a b))/\w=w':=by
 have hq:=aO9 a b ha;have hm:=aKh a b ha (by unfold Num at hb;omega)
 have hm2:=aKh b (aEd a b) hb (by omega)
 obtain ⟨hq1,hq2⟩:=hq;obtain ⟨hm1,hm3⟩:=hm;obtain ⟨hm4,hm5⟩:=hm2;have HA:=aA0 ha;have HB:=aA0 hb;unfold Num at ha hb;obtain ⟨ha1,ha2⟩:=ha;obtain ⟨hb1,hb2⟩:=hb;have hcase:op=30∨op=31∨op=32∨op=33∨op=34∨(35<=op/\op<=40)∨op=41∨op=42:=by omega
 rcases hcase with h | h | h | h | h | h | h | h
 .subst h
  go_enter func166,ntmps166
  go_wp2_with (go_at_call 183;refine (aDn _ _).mono ?_;rintro e w' ⟨rfl,rfl⟩)
  go_ret;exact ⟨rfl,rfl⟩
 .subst h
  go_enter func166,ntmps166
  go_wp2_with (first
   | (go_at_call 183;refine (aDn _ _).mono ?_;rintro e w' ⟨rfl,rfl⟩)
   | (go_at_call 184;refine (aLx _ _ _ HA.out HB.out).mono ?_;rintro e w' ⟨rfl,rfl⟩))
  go_ret;exact ⟨rfl,rfl⟩
 .subst h
  by_cases h0:b=0
  .subst h0
   go_enter func166,ntmps166;go_wp2;go_ret;exact ⟨rfl,rfl⟩
  .have hz:(b==0)=false:=by simpa using h0
   have HF:Hid (aDz 32 a b=aUf (a-b*aEd a b)):=by
    show aDz 32 a b=_
    unfold aDz aHk;simp [h0]
   clear h0;go_enter func166,ntmps166
   go_wp2_with (first
    | (go_at_call 183;refine (aDn _ _).mono ?_;rintro e w' ⟨rfl,rfl⟩)
    | (go_at_call 184;refine (aLx _ _ _ HA.out HB.out).mono ?_;rintro e w' ⟨rfl,rfl⟩))
   go_ret;exact ⟨aA5 HF.out.symm,rfl⟩
 .subst h
  go_enter func166,ntmps166
  go_wp2_with (go_at_call 183;refine (aDn _ _).mono ?_;rintro e w' ⟨rfl,rfl⟩)
  go_ret;exact ⟨rfl,rfl⟩
 .subst h
  go_enter func166,ntmps166
  go_wp2_with (go_at_call 183;refine (aDn _ _).mono ?_;rintro e w' ⟨rfl,rfl⟩)
  go_ret;exact ⟨rfl,rfl⟩
 .have HF:Hid (aDz op a b=aBj (cmpF op a b)):=by
   show aDz op a b=_
   unfold aDz;rw [aVl op a b h.1 h.2,aJy]
  have e1:(op==30)=false:=by simp;omega
  have e2:(op==31)=false:=by simp;omega
  have e3:(op==32)=false:=by simp;omega
  have e4:(op==33)=false:=by simp;omega
  have e5:(op==34)=false:=by simp;omega
  have e6:(op==41)=false:=by simp;omega
  have e7:(op==42)=false:=by simp;omega
  go_enter func166,ntmps166
  go_wp2_with (first
   | (go_at_call 185;refine (aRf _ _ _ _).mono ?_;rintro e w' ⟨rfl,rfl⟩)
   | (go_at_call 181;refine (aDv _ _).mono ?_;rintro e w' ⟨rfl,rfl⟩))
  go_ret;exact ⟨aA5 HF.out.symm,rfl⟩
 .subst h
  have HF:Hid (aDz 41 a b=aBj (a != 0&&b != 0)):=by show aDz 41 a b=_;exact aJy _
  by_cases h0:a=0
  .have hz:(a != 0)=false:=by simpa using h0
   rw [hz] at HF;clear h0;go_enter func166,ntmps166
   go_wp2_with (go_at_call 181;refine (aDv _ _).mono ?_;rintro e w' ⟨rfl,rfl⟩)
   go_ret;exact ⟨aA5 HF.out.symm,rfl⟩
  .have hz:(a != 0)=true:=by simpa using h0
   rw [hz] at HF;clear h0;go_enter func166,ntmps166
   go_wp2_with (go_at_call 181;refine (aDv _ _).mono ?_;rintro e w' ⟨rfl,rfl⟩)
   go_ret;exact ⟨aA5 HF.out.symm,rfl⟩
 .subst h
  have HF:Hid (aDz 42 a b=aBj (a != 0||b != 0)):=by show aDz 42 a b=_;exact aJy _
  by_cases h0:a=0
  .have hz:(a != 0)=false:=by simpa using h0
   rw [hz] at HF;clear h0;go_enter func166,ntmps166
   go_wp2_with (go_at_call 181;refine (aDv _ _).mono ?_;rintro e w' ⟨rfl,rfl⟩)
   go_ret;exact ⟨aA5 HF.out.symm,rfl⟩
  .have hz:(a != 0)=true:=by simpa using h0
   rw [hz] at HF;clear h0;go_enter func166,ntmps166
   go_wp2_with (go_at_call 181;refine (aDv _ _).mono ?_;rintro e w' ⟨rfl,rfl⟩)
   go_ret;exact ⟨aA5 HF.out.symm,rfl⟩
theorem aSl (op a:Int) (w:World):Calls prog 136 #[.int .i64 op,.int .i64 a] w fun e w'=>e = .returned (.tuple #[.int .i64 (aGi op a).1,.int .i64 (aGi op a).2])/\w=w':=by
 by_cases hop:op≠18/\op≠19
 .have HF:Hid (aGi op a=(0,2)):=by show aGi op a=_;unfold aGi;rw [if_pos (.inl hop)]
  have h1:(op != 18)=true:=by simpa using hop.1
  have h2:(op != 19)=true:=by simpa using hop.2
  clear hop;go_enter func136,ntmps136
  go_wp2_with fail
  go_ret2
  exact ⟨aFj HF.out,rfl⟩
 .cases hn:aWw a with
  | false =>
   have HF:Hid (aGi op a=(0,2)):=by show aGi op a=_;unfold aGi;rw [if_pos (.inr hn)]
   have hop':op=18∨op=19:=by omega
   clear hop
   rcases hop' with h | h
   all_goals
    subst h;go_enter func136,ntmps136
    go_wp2_with (go_at_call 155;refine (aEe _ _).mono ?_;rintro e w' ⟨rfl,rfl⟩;rw [hn])
    go_ret2
    exact ⟨aFj HF.out,rfl⟩
  | true =>
   have HF:Hid (aGi op a=(aHq op a,0)):=by show aGi op a=_;unfold aGi;rw [if_neg (by rw [hn];simp;omega)]
   have hop':op=18∨op=19:=by omega
   clear hop;have HN:=aJt hn;unfold Num at HN;obtain ⟨hn1,hn2⟩:=HN
   rcases hop' with h | h
   all_goals
    subst h;go_enter func136,ntmps136
    go_wp2_with (first
     | (go_at_call 155;refine (aEe _ _).mono ?_;rintro e w' ⟨rfl,rfl⟩;rw [hn])
     | (go_at_call 152;refine (aCf _ _).mono ?_;rintro e w' ⟨rfl,rfl⟩))
    go_ret2
    exact ⟨aFj HF.out,rfl⟩
theorem aX9 (op a b:Int) (w:World) (h1:30<=op) (h2:op<=42) (ha:Num a) (hb:Num b):Calls prog 156 #[.int .i64 op,.int .i64 a,.int .i64 b] w fun e w'=>e = .returned (.int .i64 (aHk op a b))/\w=w':=by
 have hq:=aO9 a b ha;have hm:=aKh a b ha (by unfold Num at hb;omega)
 have hm2:=aKh b (aEd a b) hb (by omega)
 obtain ⟨hq1,hq2⟩:=hq;obtain ⟨hm1,hm3⟩:=hm;obtain ⟨hm4,hm5⟩:=hm2;have HA:=aA0 ha;have HB:=aA0 hb;unfold Num at ha hb;obtain ⟨ha1,ha2⟩:=ha;obtain ⟨hb1,hb2⟩:=hb
 by_cases h32:op=32
 .subst h32
  by_cases h0:b=0
  .subst h0
   go_enter func156,ntmps156;go_wp2;go_ret;exact ⟨rfl,rfl⟩
  .have hz:(b==0)=false:=by simpa using h0
   have HF:Hid (aHk 32 a b=(a-b*aEd a b)):=by
    show aHk 32 a b=_
    unfold aHk;simp [h0]
   clear h0;go_enter func156,ntmps156
   go_wp2_with (go_at_call 171;refine (aIh _ _ _ HA.out HB.out).mono ?_;rintro e w' ⟨rfl,rfl⟩)
   go_ret;exact ⟨aA5 HF.out.symm,rfl⟩
 .by_cases h4:41<=op
  .have h4':op=41∨op=42:=by omega
   clear h32 h1 h2 h4
   by_cases h0:a=0
   .have hz:(a != 0)=false:=by simpa using h0
    rcases h4' with h | h
    .subst h
     have HF:Hid (aHk 41 a b=aBj false):=by show aBj (a != 0&&b != 0)=_;rw [hz];rfl
     clear h0;go_enter func156,ntmps156
     go_wp2_with (go_at_call 152;refine (aCf _ _).mono ?_;rintro e w' ⟨rfl,rfl⟩)
     go_ret;exact ⟨aA5 HF.out.symm,rfl⟩
    .subst h
     have HF:Hid (aHk 42 a b=aBj (b != 0)):=by show aBj (a != 0||b != 0)=_;rw [hz];rfl
     clear h0;go_enter func156,ntmps156
     go_wp2_with (go_at_call 152;refine (aCf _ _).mono ?_;rintro e w' ⟨rfl,rfl⟩)
     go_ret;exact ⟨aA5 HF.out.symm,rfl⟩
   .have hz:(a != 0)=true:=by simpa using h0
    rcases h4' with h | h
    .subst h
     have HF:Hid (aHk 41 a b=aBj (b != 0)):=by show aBj (a != 0&&b != 0)=_;rw [hz];rfl
     clear h0;go_enter func156,ntmps156
     go_wp2_with (go_at_call 152;refine (aCf _ _).mono ?_;rintro e w' ⟨rfl,rfl⟩)
     go_ret;exact ⟨aA5 HF.out.symm,rfl⟩
    .subst h
     have HF:Hid (aHk 42 a b=aBj true):=by show aBj (a != 0||b != 0)=_;rw [hz];rfl
     clear h0;go_enter func156,ntmps156
     go_wp2_with (go_at_call 152;refine (aCf _ _).mono ?_;rintro e w' ⟨rfl,rfl⟩)
     go_ret;exact ⟨aA5 HF.out.symm,rfl⟩
  .have hcase:op=30∨op=31∨op=33∨op=34∨op=35∨op=36∨op=37∨op=38∨op=39∨op=40:=by omega
   clear h1 h2 h32 h4
   rcases hcase with h | h | h | h | h | h | h | h | h | h
   all_goals
    subst h;go_enter func156,ntmps156
    go_wp2_with (first
     | (go_at_call 171;refine (aIh _ _ _ HA.out HB.out).mono ?_;rintro e w' ⟨rfl,rfl⟩)
     | (go_at_call 152;refine (aCf _ _).mono ?_;rintro e w' ⟨rfl,rfl⟩))
    go_ret;exact ⟨rfl,rfl⟩
theorem aQt (op a b:Int) (w:World):Calls prog 137 #[.int .i64 op,.int .i64 a,.int .i64 b] w fun e w'=>e = .returned (.tuple #[.int .i64 (aCp op a b).1,.int .i64 (aCp op a b).2])/\w=w':=by
 by_cases h30:op<30
 .have HF:Hid (aCp op a b=(0,2)):=by show aCp op a b=_;unfold aCp;rw [if_pos (.inl h30)]
  have hd:decide (op<30)=true:=by simpa using h30
  clear h30;go_enter func137,ntmps137
  go_wp2_with fail
  go_ret2
  exact ⟨aFj HF.out,rfl⟩
 have hd1:decide (op<30)=false:=by simpa using h30
 by_cases h42:42<op
 .have HF:Hid (aCp op a b=(0,2)):=by show aCp op a b=_;unfold aCp;rw [if_pos (.inr (.inl h42))]
  have hd:decide (42<op)=true:=by simpa using h42
  clear h42;go_enter func137,ntmps137
  go_wp2_with fail
  go_ret2
  exact ⟨aFj HF.out,rfl⟩
 have hd2:decide (42<op)=false:=by simpa using h42
 cases hna:aWw a with
 | false =>
  have HF:Hid (aCp op a b=(0,2)):=by show aCp op a b=_;unfold aCp;rw [if_pos (.inr (.inr (.inl hna)))]
  clear h30 h42;go_enter func137,ntmps137
  go_wp2_with (go_at_call_of 155 a;refine (aEe _ _).mono ?_;rintro e w' ⟨rfl,rfl⟩;rw [hna])
  go_ret2
  exact ⟨aFj HF.out,rfl⟩
 | true =>
  cases hnb:aWw b with
  | false =>
   have HF:Hid (aCp op a b=(0,2)):=by show aCp op a b=_;unfold aCp;rw [if_pos (.inr (.inr (.inr hnb)))]
   clear h30 h42;go_enter func137,ntmps137
   go_wp2_with (go_at_call 155;refine (aEe _ _).mono ?_;rintro e w' ⟨rfl,rfl⟩;first | rw [hna] | rw [hnb])
   go_ret2
   exact ⟨aFj HF.out,rfl⟩
  | true =>
   have HF:Hid (aCp op a b=(aUf (aHk op a b),0)):=by
    show aCp op a b=_
    unfold aCp;rw [if_neg (by rw [hna,hnb];simp;omega)];rfl
   have HA:=aA0 (aJt hna);have HB:=aA0 (aJt hnb);have HO:Hid (30<=op/\op<=42):=⟨by omega,by omega⟩
   clear h30 h42;go_enter func137,ntmps137
   go_wp2_with (first
    | (go_at_call 155;refine (aEe _ _).mono ?_;rintro e w' ⟨rfl,rfl⟩;first | rw [hna] | rw [hnb])
    | (go_at_call 156;refine (aX9 _ _ _ _ HO.out.1 HO.out.2 HA.out HB.out).mono ?_;rintro e w' ⟨rfl,rfl⟩)
    | (go_at_call 153;refine (aIi _ _).mono ?_;rintro e w' ⟨rfl,rfl⟩))
   go_ret2
   exact ⟨aFj HF.out,rfl⟩
section
variable {P:Program} {ops:Array Oper} {Q:Exit->Act->World->Prop} {md:Region.Mode} {S:World->Prop} {L:Nat}
def aA7 (P:Program) (md:Region.Mode) (ops:Array Oper) (Q:Exit->Act->World->Prop) (S:World->Prop) (L:Nat):Nat->Array Bool->Act->World->Prop
 | 0,listed,a,w=>Region.ready md ops listed=[]/\Q .normal a w
 | fuel+1,listed,a,w=>(Region.ready md ops listed=[]->Q .normal a w) /\
   ∀ i∈Region.ready md ops listed,wpOp P ops Q i (fun a' w'=>(i≠L->S w')/\aA7 P md ops Q S L fuel (listed.setIfInBounds i true) a' w') a w
theorem aA7.any:∀ (fuel:Nat) (listed:Array Bool) (a:Act) (w:World),aA7 P md ops Q S L fuel listed a w->wpAny P md ops Q fuel listed a w
 | 0,_,_,_,h=>h
 | fuel+1,_,_,_,h=>⟨h.1,fun i hi=>wpOp_mono (fun a' w' k=>aA7.any fuel _ a' w' k.2) (h.2 i hi)⟩
def aMa (md:Region.Mode) (ops:Array Oper):Nat->List Nat->Bool
 | _,[]=>true
 | i,c :: cs=>(match ops[c]? with | some o=>o.after.any (fun e=>Region.binds md e&&e.on==i) | none=>false)&&aMa md ops c cs
def aEw (listed:Array Bool) (cs:List Nat):Bool:=cs.all fun c => !(listed.getD c true)
theorem aS0 {listed:Array Bool} {j:Nat} (hj:j∈Region.ready md ops listed) (cs:List Nat):∀ i,listed.getD i true=false->aMa md ops i cs=true->aEw listed cs=true->j ∉ cs:=by
 induction cs with
 | nil=>intro i _ _ _ h;cases h
 | cons c cs ih =>
  intro i hi hw hu hm
  simp only [aMa,Bool.and_eq_true] at hw
  simp only [aEw,List.all_cons,Bool.and_eq_true] at hu
  have hc:listed.getD c true=false:=by simpa using hu.1
  rcases List.mem_cons.1 hm with rfl | hm
  .obtain ⟨_,oj,hoj,hall⟩:=mem_ready.1 hj
   have h1:=hw.1;rw [hoj] at h1;simp only [Array.any_eq_true'] at h1
   obtain ⟨e,he,hb⟩:=h1;simp only [Bool.and_eq_true,beq_iff_eq] at hb
   have h2:=hall e he hb.1;rw [hb.2] at h2
   rcases Nat.lt_or_ge i listed.size with h' | h'
   .simp [h'] at hi h2;rw [hi] at h2;cases h2
   .simp [Array.getElem?_eq_none h'] at h2
  .exact ih c hc hw.2 hu.2 hm
theorem aA7.first {i:Nat} {oi:Oper} {v:Value} (cs:List Nat) (hi:ops[i]?=some oi) (hsel:∀ (j:Nat) (o:Oper) cs b,ops[j]?=some o->o.op ≠ .select cs b)
  (hL:L∈cs) (hw:aMa md ops i cs=true)
  (hQ:∀ c a w,Q (.panic c) (a.put oi.dst v) w->Q (.panic c) a w) (fuel:Nat):∀ (listed:Array Bool) (a:Act) (w:World),
   (∀ j oj,ops[j]?=some oj->j≠i->listed.getD j true=false->(∀ e∈oj.after,Region.binds md e=true->e.on≠i)->oi.apart ops oj=true) ->
   i∈Region.ready md ops listed->aEw listed cs=true->YieldsIf P ops S oi v a->S w ->
   aA7 P md ops Q S L fuel (listed.setIfInBounds i true) (a.put oi.dst v) w->aA7 P md ops Q S L (fuel+1) listed a w:=by
 induction fuel with
 | zero =>
  intro listed a w _ hr _ hy hS H
  refine And.intro (fun h=>?_) (fun j hj=>?_)
  .rw [h] at hr;exact absurd hr (by simp)
  by_cases hji:j=i
  .subst hji;exact hy.wpOp hi hS ⟨fun _=>hS,H⟩
  .have:=ready_mono hj hji
   rw [H.1] at this;exact absurd this (by simp)
 | succ fuel ih =>
  intro listed a w hfree hr hun hy hS H
  refine And.intro (fun h=>?_) (fun j hj=>?_)
  .rw [h] at hr;exact absurd hr (by simp)
  by_cases hji:j=i
  .subst hji;exact hy.wpOp hi hS ⟨fun _=>hS,H⟩
  have hi0:=(mem_ready.1 hr).1;have hjc:=aS0 hj cs i hi0 hw hun;have hjL:j≠L:=fun e=>hjc (e ▸ hL);obtain ⟨hjun,oj,hoj,hall⟩:=mem_ready.1 hj
  have hnot:∀ e∈oj.after,Region.binds md e=true->e.on≠i:=fun e he hb heq=>by
   have h1:=hall e he hb;rw [heq] at h1
   rcases Nat.lt_or_ge i listed.size with h' | h'
   .simp [h'] at hi0 h1;rw [hi0] at h1;cases h1
   .simp [Array.getElem?_eq_none h'] at h1
  have h2:=wpOp_putIf hoj (hfree j oj hoj hji hjun hnot) (fun cs b=>hsel i oi cs b hi) (fun cs b=>hsel j oj cs b hoj) hQ hy (H.2 j (ready_mono hj hji));refine wpOp_mono (fun a' w' h3=>?_) h2
  obtain ⟨hy',hS',hrest⟩:=h3;have hs':=hS' hjL;refine ⟨fun _=>hs',ih _ a' w' ?_ (ready_mono hr (Ne.symm hji)) ?_ hy' hs' (by rw [Array.setIfInBounds_comm _ _ hji];exact hrest)⟩
  .intro k ok hk hki hunk hno
   refine hfree k ok hk hki ?_ hno
   by_cases hjk:j=k
   .subst hjk;exact hjun
   .rw [getD_set_ne true hjk] at hunk;exact hunk
  .unfold aEw at hun ⊢
   rw [List.all_eq_true] at hun ⊢;intro c hc
   rw [getD_set_ne true (show j≠c from fun e=>hjc (by rw [e];exact hc))]
   exact hun c hc
theorem aA7.take {i:Nat} {oi:Oper} {v:Value} {fuel:Nat} {listed:Array Bool} {a:Act} {w:World} (cs:List Nat) (d:Option Tmp) (hi:ops[i]?=some oi) (hd:oi.dst=d)
  (hs:Region.noSelect ops=true) (hf:Region.free md ops listed i=true) (hr:(Region.ready md ops listed).contains i=true)
  (hL:cs.contains L=true) (hw:aMa md ops i cs=true) (hu:aEw listed cs=true)
  (hQ:∀ c a w,Q (.panic c) (a.put d v) w->Q (.panic c) a w) (hS:S w) (hy:YieldsIf P ops S oi v a)
  (h:aA7 P md ops Q S L fuel (listed.setIfInBounds i true) (a.put d v) w):aA7 P md ops Q S L (fuel+1) listed a w :=
 aA7.first cs hi (Region.noSelect_spec hs) (by simpa using hL) hw (by rw [hd];exact hQ) fuel listed a w (Region.free_spec hi hf) (by simpa using hr) hu hy hS (by rw [hd];exact h)
theorem aA7.one {i:Nat} {o:Oper} {fuel:Nat} {listed:Array Bool} {a:Act} {w:World} (hr:Region.ready md ops listed=[i]) (ho:ops[i]?=some o)
  (h:∀ K':Act->World->Prop,Shut (∀ a w,(i≠L->S w)->aA7 P md ops Q S L fuel (listed.setIfInBounds i true) a w->K' a w)->if Region.wanted o (yielded ops a.tmps)=true then Oper.wp P o a w K' Q else K' (a.put o.dst undef) w) :
  aA7 P md ops Q S L (fuel+1) listed a w:=by
 refine And.intro (fun h=>by rw [h] at hr;exact absurd hr (by simp)) (fun j hj=>?_)
 rw [hr] at hj;obtain rfl:j=i:=by simpa using hj
 exact wpOp_step ho (fun K' hK=>h K' (fun a w hS hW=>hK a w ⟨hS,hW⟩))
theorem aA7.done {listed:Array Bool} {a:Act} {w:World} (hr:Region.ready md ops listed=[]) (h:Q .normal a w):∀ fuel,aA7 P md ops Q S L fuel listed a w
 | 0=>⟨hr,h⟩
 | _+1=>⟨fun _=>h,by rw [hr];simp⟩
theorem aA7.start (S:World->Prop) (L:Nat) {id:Nat} {a:Act} {w:World} (hm:P.follows .mixedOrders=true)
  (h:aA7 P .any ops Q S L ops.size (Array.replicate ops.size false) a w.drew):(Code.region id ops true).wp P Q a w :=
 wp_region_any hm (aA7.any _ _ _ _ h)
end
def bCd (md:Region.Mode) (ops:Array Oper) (i:Nat):Option Nat :=
 (List.range ops.size).find? fun j=>match ops[j]? with | some o=>o.after.any (fun e=>Region.binds md e&&e.on==i) | none=>false
def aHm (md:Region.Mode) (ops:Array Oper) (L:Nat):Nat->Nat->List Nat
 | 0,_=>[]
 | n+1,i=>match bCd md ops i with | none=>[] | some j=>j :: (if j==L then [] else aHm md ops L n j)
theorem aA7.takeC {P:Program} {ops:Array Oper} {Q:Exit->Act->World->Prop} {md:Region.Mode} {S:World->Prop} {L:Nat} {i:Nat} {oi:Oper} {v:Value} {fuel:Nat} {listed:Array Bool} {a:Act} {w:World} (d:Option Tmp) (hi:ops[i]?=some oi) (hd:oi.dst=d)
  (hs:Region.noSelect ops=true) (hf:Region.free md ops listed i=true) (hr:(Region.ready md ops listed).contains i=true)
  (hc:((aHm md ops L 60 i).contains L&&aMa md ops i (aHm md ops L 60 i)&&aEw listed (aHm md ops L 60 i))=true)
  (hQ:∀ c a w,Q (.panic c) (a.put d v) w->Q (.panic c) a w) (hS:S w) (hy:YieldsIf P ops S oi v a)
  (h:aA7 P md ops Q S L fuel (listed.setIfInBounds i true) (a.put d v) w):aA7 P md ops Q S L (fuel+1) listed a w:=by
 rw [Bool.and_eq_true,Bool.and_eq_true] at hc;exact aA7.take (aHm md ops L 60 i) d hi hd hs hf hr hc.1.1 hc.1.2 hc.2 hQ hS hy h
theorem aA7.t {P:Program} {ops:Array Oper} {Q:Exit->Act->World->Prop} {md:Region.Mode} {S:World->Prop} {L:Nat} {oi:Oper} {v:Value} {fuel:Nat} {listed:Array Bool} {a:Act} {w:World} (i d:Nat) (hi:ops[i]?=some oi) (hd:oi.dst=some d)
  (hc:(Region.noSelect ops&&Region.free md ops listed i&&(Region.ready md ops listed).contains i&&((aHm md ops L 60 i).contains L&&aMa md ops i (aHm md ops L 60 i)&&aEw listed (aHm md ops L 60 i)))=true)
  (hQ:∀ c a w,Q (.panic c) (a.put (some d) v) w->Q (.panic c) a w) (hS:S w) (hy:YieldsIf P ops S oi v a)
  (h:aA7 P md ops Q S L fuel (listed.setIfInBounds i true) (a.put (some d) v) w):aA7 P md ops Q S L (fuel+1) listed a w:=by
 rw [Bool.and_eq_true,Bool.and_eq_true,Bool.and_eq_true] at hc;exact aA7.takeC (some d) hi hd hc.1.1.1 hc.1.1.2 hc.1.2 hc.2 hQ hS hy h
def aQo:Op->Bool
 | .defer _=>false
 | _=>true
def aMk (ops:Array Oper):Bool:=ops.all fun o=>aQo o.op
section
variable {P:Program} {ops:Array Oper} {Q:Exit->Act->World->Prop} {md:Region.Mode} {l n:Nat}
theorem bBo {o:Oper} (ho:aQo o.op=true) {a:Act} {w:World} {K K':Act->World->Prop} (hK:∀ a w,K a w->K' a w) (h:o.wp P a w K Q):o.wpIn (Fence.wide.inRound l) n P a w K' Q:=by
 refine ⟨fun _ _=>trivial,?_⟩
 rw [Oper.semAt_eq _ _ _ (fun c h=>by rw [h] at ho;cases ho)]
 unfold Oper.wp at h;generalize (execOp a.eval o).run P w=r at *;cases r with
 | ok x w' =>
  cases x with
  | value v=>exact hK _ _ h
  | skip=>exact hK _ _ h
  | defer d=>exact hK _ _ h
  | enter f args=>exact ⟨(fun hd=>by cases hd),(CallsIn.inRound l ((callsIn_wide (n:=n-1)).2 h)).mono (fun e w'' he=>by cases e <;> first | exact hK _ _ he | exact he)⟩
  | row r args=>exact ⟨(fun hd=>by cases hd),fun c cs _=>let ⟨v,w'',hr,hs⟩:=h c cs;⟨v,w'',hK _ _ hr,stepsIn_wide.2 hs⟩⟩
  | round lr f tmps assign body=>exact h.elim
  | _=>first | exact h | exact h.elim
 | halt x w'=>cases x <;> first | exact h | exact h.elim
theorem op_in {i:Nat} (hd:aMk ops=true) (hq:¬ LetsOut Q) {a:Act} {w:World} {K K':Act->World->Prop} (hK:∀ a w,K a w->K' a w) (h:wpOp P ops Q i K a w):wpOpIn (Fence.wide.inRound l) n P ops Q i K' a w:=by
 unfold wpOp at h;unfold wpOpIn;cases ho:ops[i]? with
 | none=>simp only [ho] at h;exact hK _ _ h
 | some o =>
  simp only [ho] at h ⊢
  have hn:aQo o.op=true:=by
   unfold aMk at hd;rw [Array.all_eq_true] at hd;obtain ⟨hi,e⟩:=Array.getElem?_eq_some_iff.1 ho;have:=hd i hi
   rwa [e] at this
  by_cases hw:Region.wanted o (yielded ops a.tmps)=true
  .rw [if_pos hw] at h ⊢;exact bBo hn hK (h.resolve_right (fun e=>hq e.2))
  .rw [if_neg hw] at h ⊢;exact ⟨fun _ _=>trivial,hK _ _ h⟩
theorem bAx (hd:aMk ops=true) (hq:¬ LetsOut Q):∀ (fuel:Nat) (listed:Array Bool) (a:Act) (w:World),wpAny P md ops Q fuel listed a w->wpAnyIn (Fence.wide.inRound l) n P md ops Q fuel listed a w
 | 0,_,_,_,h=>h
 | fuel+1,_,_,_,h=>⟨h.1,fun i hi=>op_in hd hq (fun a w k=>bAx hd hq fuel _ a w k) (h.2 i hi)⟩
theorem aA7.startIn (S:World->Prop) (L:Nat) {id:Nat} {a:Act} {w:World} (hm:P.follows .mixedOrders=true) (hd:aMk ops=true) (hq:¬ LetsOut Q)
  (h:aA7 P .any ops Q S L ops.size (Array.replicate ops.size false) a w.drew):(Code.region id ops true).wpIn (Fence.wide.inRound l) n P Q a w :=
 wpIn_region_any hm (bAx hd hq _ _ _ _ (aA7.any _ _ _ _ h))
end
theorem bB2 {r s:Int} (hr:1<=r) (hs:1<=s):r<=r*s:=by
 have:=Int.mul_le_mul_of_nonneg_left hs (show 0<=r by omega)
 rwa [Int.mul_one] at this
theorem bAb {t:List (Int × Int)} (h:okL t) (x:Nat):okL (t.drop x):=fun b hb=>h b (List.mem_of_mem_drop hb)
theorem bAc {T:List (List (Int × Int))} (h:okN T) (x:Nat):okN (T.drop x):=fun b hb=>h b (List.mem_of_mem_drop hb)
theorem aP6:∀ {bs:List (Int × Int)} {cs:List Int},inL bs cs->cs.length=bs.length
 | [],[],_=>rfl
 | [],_ :: _,h=>h.elim
 | _ :: _,[],h=>h.elim
 | _ :: _,_ :: _,h=>by simpa using aP6 h.2.2
section
variable {P:Program} {ops:Array Oper} {Q:Exit->Act->World->Prop} {md:Region.Mode} {S:World->Prop} {L:Nat}
theorem aA7.two {i j:Nat} {o o2:Oper} {fuel:Nat} {listed:Array Bool} {a:Act} {w:World} (hr:Region.ready md ops listed=[i,j]) (ho:ops[i]?=some o) (ho2:ops[j]?=some o2)
  (h:∀ K':Act->World->Prop,Shut (∀ a w,(i≠L->S w)->aA7 P md ops Q S L fuel (listed.setIfInBounds i true) a w->K' a w)->if Region.wanted o (yielded ops a.tmps)=true then Oper.wp P o a w K' Q else K' (a.put o.dst undef) w)
  (h2:∀ K':Act->World->Prop,Shut (∀ a w,(j≠L->S w)->aA7 P md ops Q S L fuel (listed.setIfInBounds j true) a w->K' a w)->if Region.wanted o2 (yielded ops a.tmps)=true then Oper.wp P o2 a w K' Q else K' (a.put o2.dst undef) w) :
  aA7 P md ops Q S L (fuel+1) listed a w:=by
 refine And.intro (fun h=>by rw [h] at hr;exact absurd hr (by simp)) (fun k hk=>?_)
 rw [hr] at hk;have hk':k=i∨k=j:=by simpa using hk
 rcases hk' with rfl | rfl
 .exact wpOp_step ho (fun K' hK=>h K' (fun a w hS hW=>hK a w ⟨hS,hW⟩))
 .exact wpOp_step ho2 (fun K' hK=>h2 K' (fun a w hS hW=>hK a w ⟨hS,hW⟩))
theorem aA7.three {i j k:Nat} {o o2 o3:Oper} {fuel:Nat} {listed:Array Bool} {a:Act} {w:World} (hr:Region.ready md ops listed=[i,j,k]) (ho:ops[i]?=some o) (ho2:ops[j]?=some o2) (ho3:ops[k]?=some o3)
  (h:∀ K':Act->World->Prop,Shut (∀ a w,(i≠L->S w)->aA7 P md ops Q S L fuel (listed.setIfInBounds i true) a w->K' a w)->if Region.wanted o (yielded ops a.tmps)=true then Oper.wp P o a w K' Q else K' (a.put o.dst undef) w)
  (h2:∀ K':Act->World->Prop,Shut (∀ a w,(j≠L->S w)->aA7 P md ops Q S L fuel (listed.setIfInBounds j true) a w->K' a w)->if Region.wanted o2 (yielded ops a.tmps)=true then Oper.wp P o2 a w K' Q else K' (a.put o2.dst undef) w)
  (h3:∀ K':Act->World->Prop,Shut (∀ a w,(k≠L->S w)->aA7 P md ops Q S L fuel (listed.setIfInBounds k true) a w->K' a w)->if Region.wanted o3 (yielded ops a.tmps)=true then Oper.wp P o3 a w K' Q else K' (a.put o3.dst undef) w) :
  aA7 P md ops Q S L (fuel+1) listed a w:=by
 refine And.intro (fun h=>by rw [h] at hr;exact absurd hr (by simp)) (fun q hq=>?_)
 rw [hr] at hq;have hq':q=i∨q=j∨q=k:=by simpa using hq
 rcases hq' with rfl | rfl | rfl
 .exact wpOp_step ho (fun K' hK=>h K' (fun a w hS hW=>hK a w ⟨hS,hW⟩))
 .exact wpOp_step ho2 (fun K' hK=>h2 K' (fun a w hS hW=>hK a w ⟨hS,hW⟩))
 .exact wpOp_step ho3 (fun K' hK=>h3 K' (fun a w hS hW=>hK a w ⟨hS,hW⟩))
end
open Go.ChangeShapes Go.WideShapes Go.ChangeAt Go.RowKit Go.Deep
theorem Tryz.own:ownKnob prog.godebug=none:=by kernel_rfl
theorem Tryz.laidOut:laidOutB prog=true:=by kernel_rfl
theorem Tryz.cells_int:prog.cellsOf 3=1:=by kernel_rfl
section
variable {H:Type} {enc:TypeId × Value->H} {P:Program} {w:World} {base:Nat} {spare:Nat->Bool} {held:Bool}
theorem aZm {w:World} {a:Addr} {v:Value} (h:w.cell? a=some v):a.block<w.heap.size/\a.spot=none:=by
 unfold World.cell? at h;split at h
 .rename_i c e f hh
  refine ⟨?_,?_⟩
  .rcases Nat.lt_or_ge a.block w.heap.size with hlt | hge
   .exact hlt
   .rw [Array.getElem?_eq_none hge] at hh;cases hh
  .cases hs:a.spot with
   | none=>rfl
   | some s=>rw [hs] at h;simp at h
 .cases h
theorem aUk {b o k:Nat}:(⟨b,o,none⟩:Addr).add k=⟨b,o+k,none⟩:=by
 unfold Addr.add;split
 .rename_i h;subst h;rfl
 .rfl
theorem aJu {α:Type} [Inhabited α] {t e:TypeId} {size:Nat} {E:World->Nat->Nat->α->Prop} {Good:α->Prop} (ht:P.underlying t=some (.slice e)) (hC:P.cellsOf e=size) (hsz:0<size)
  (hE:∀ n cs y b o,(∀ j,j<size->w.cell? ⟨b,o+j,none⟩=cs[j]?)->cs.length=size->DataW.trod enc P w base spare held n e cs=some y->∃ x,E w b o x/\Good x)
  {fuel:Nat} {cs:List Value} {x:DataW H × List MemPlace} (h:DataW.trod enc P w base spare held fuel t cs=some x) :
  ∃ (A:Option Addr) (n c:Nat) (xs:List α),cs=[.slice A n c]/\aAi size E w A n xs/\(∀ x∈xs,Good x)/\n<=c/\c<=maxLen:=by
 rcases open_slice ht h with ⟨hcs,_⟩ | ⟨a,len,cap,m,n,D,Pl,hcs,hb,hl,hm,hmm,hx,hi⟩
 .exact ⟨none,0,0,[],hcs,aAi.nil,fun _ h=>by simp at h,Nat.le_refl _,by unfold maxLen;omega⟩
 .have hlm:len<=m:=by rw [hmm];split <;> omega
  rw [hC] at hi
  rcases Nat.eq_zero_or_pos len with h0 | h0
  .subst h0
   exact ⟨some a,0,cap,[],hcs,aAi.nil,fun _ h=>by simp at h,hl,hm⟩
  .have ha:a=⟨a.block,a.off,none⟩/\a.block<w.heap.size:=by
    obtain ⟨cs',hc,_⟩:=hi 0 (by omega)
    obtain ⟨_,hcl,hat⟩:=World.cells?_some hc;have h1:=hat 0 (by omega)
    rw [List.getElem?_eq_getElem (by omega)] at h1
    simp [Addr.add] at h1
    obtain ⟨h2,h3⟩:=aZm h1;exact ⟨by rw [<- h3],h2⟩
   obtain ⟨hae,hab⟩:=ha;generalize a.block=b at *;generalize a.off=o at *;subst hae
   have hch:∀ i,i<len->∃ x,E w b (o+i*size) x/\Good x:=by
    intro i hi'
    obtain ⟨cs',hc,htr⟩:=hi i (by omega)
    obtain ⟨_,hcl,hat⟩:=World.cells?_some hc;refine hE n cs' _ b (o+i*size) (fun j hj=>?_) hcl htr
    have:=hat j hj;rw [aUk,aUk] at this;exact this
   obtain ⟨f,hf⟩:=choose_lt hch;refine ⟨some ⟨b,o,none⟩,len,cap,(List.range len).map f,hcs,⟨by simp,fun i x hx=>?_⟩,fun x hx=>?_,hl,hm⟩
   .have hil:i<len:=by
     have:=(List.getElem?_eq_some_iff.1 hx).1;simpa using this
    rw [List.getElem?_map,List.getElem?_range hil] at hx;simp at hx
    subst hx;exact ⟨b,o,rfl,hab,(hf i hil).1⟩
   .obtain ⟨i,hi',rfl⟩:=List.mem_map.1 hx
    exact (hf i (List.mem_range.1 hi')).2
def aWz (x:Int):Prop := -9223372036854775808<=x/\x<=9223372036854775807
theorem aJn {x:Int} (h:(Lit.int .i64 x).wf=true):aWz x:=by
 simpa [aWz,Lit.wf,IntKind.min,IntKind.max,IntKind.signed,IntKind.bits] using h
theorem aU3 {e:TypeId} (he:P.underlying e=some (.int .i64)):∀ n cs y b o,(∀ j,j<1->w.cell? ⟨b,o+j,none⟩=cs[j]?)->cs.length=1->DataW.trod enc P w base spare held n e cs=some y->∃ x,aHr w b o x/\aWz x:=by
 intro n cs y b o hat hl h
 obtain ⟨x,rfl,_,hwf⟩:=DataW.trod_int he h;refine ⟨x,?_,aJn hwf⟩
 have:=hat 0 (by omega)
 simpa [aHr] using this
end
section
variable {H:Type} {enc:TypeId × Value->H} {P:Program}
theorem aKv (hl:laidOutB P=true) {W W':World} {sp:Nat->Bool} (hb:Below W.heap.size W W'):∀ {ts:List TypeId} {vs:List Value} {ds:List (DataW H)} {ps:List MemPlace},
  (∀ t∈ts,P.readableRec t=true/\t<P.types.size)->DataW.TrodAll enc P W 0 (fun _=>true) true ts vs ds ps->(∀ x∈ps,x.block<W.heap.size)->(∀ x∈ps,sp x.block=true)->DataW.TrodAll enc P W' 0 sp true ts vs ds ps
 | [],vs,ds,ps,_,h,_,_=>by
  obtain ⟨rfl,rfl,rfl⟩:=trodAll_nil h;exact trodAll_mk0
 | t :: ts,vs,ds,ps,hr,h,hlt,hsp=>by
  obtain ⟨v,vs',d,ds',p,q,rfl,rfl,rfl,hd,hrest⟩:=trodAll_cons h;refine trodAll_cons_mk ?_ (aKv hl hb (fun t ht=>hr t (by simp [ht])) hrest (fun x hx=>hlt x (by simp [hx])) (fun x hx=>hsp x (by simp [hx])))
  exact WideElems.Trod_stays hl (hr t (by simp)).1 (hr t (by simp)).2 hd (fun x hx=>hb.same (hlt x (by simp [hx]))) (fun x hx=>hsp x (by simp [hx]))
theorem aUw {f:Func} {s:ChangeSpec} {apart fresh handsOn again:Bool} {W W':World} {args:Array Value} {ds gs:List (DataW H)} {before:List MemPlace} {tb:TypeId}
  (hl:laidOutB P=true) (hvs:s.vars=[]) (hr0:(f.params.toList.all fun t=>P.readableRec t&&decide (t<P.types.size))=true) (hres:f.resultTypes=#[tb]) (htb:P.underlying tb=some .bool)
  (hW:DataW.Whole enc P f.params.toList s.vars apart W args.toList ds gs before)
  (hfn:(s.fn H (ds++gs)).results=[.lit (.bool true)]/\(s.fn H (ds++gs)).args=ds/\(s.fn H (ds++gs)).vars=[])
  (hb:Bel W W'):s.post enc P f apart fresh handsOn again W args (.bool true) W':=by
 have hr:∀ t∈f.params.toList,P.readableRec t=true/\t<P.types.size:=fun t ht=>by
  have:=List.all_eq_true.1 hr0 t ht;simpa using this
 have hb':Below W.heap.size W W':=hb;have hlt:∀ p∈before,p.block<W.heap.size:=fun p hp=>hW.lt p hp;have hold:∀ p∈before,(fun b=>decide (b<W.heap.size)) p.block=true:=fun p hp=>by simpa using hlt p hp
 have hWh:=hW;obtain ⟨pa,pv,hA,hV,hps,hz,hn⟩:=hW;rw [hvs] at hV;obtain ⟨hg,hpv⟩:=trodVars_none hV;subst hg;subst hpv;have hps':before=pa:=by simpa using hps
 subst hps'
 have hargs:∀ sp:Nat->Bool,(∀ p∈before,sp p.block=true)->DataW.TrodAll enc P W' 0 sp true f.params.toList args.toList (s.fn H (ds++[])).args before:=fun sp hsp=>by
  rw [hfn.2.1];exact aKv hl hb' hr hA hlt hsp
 have hvars:∀ sp:Nat->Bool,DataW.TrodVars enc P W' sp s.vars (s.fn H (ds++[])).vars []:=fun sp=>by
  rw [hvs,hfn.2.2];exact rfl
 have hresT:∀ (b:Nat) (sp:Nat->Bool) (hd:Bool),DataW.TrodAll enc P W' b sp hd f.resultTypes.toList ((Value.bool true).resultList f.resultTypes.size) (s.fn H (ds++[])).results []:=fun b sp hd=>by
  rw [hres,hfn.1];exact trodAll_cons_mk (shut_bool htb _) trodAll_mk0
 refine ⟨ds,[],before,[],before,[],hWh,hresT _ _ _,hargs _ hold,hvars _,World.keptBut_mono (fun p hp=>⟨hp,?_⟩) (hb'.frame (·∈before)),fun _=>?_⟩
 .right;simpa using hp
 .refine ⟨ok_one hres rfl (okWide_bool_mk htb _),_,_,([]++before)++[],⟨[]++before,[],trodAll_append (hargs _ (fun _ _=>rfl)) (hresT _ _ _),hvars _,rfl,?_,?_⟩,?_⟩
  .intro b off hp
   have hin:MemPlace.cell b off∈before:=by simpa using hp
   rw [hb'.frozen (hlt _ hin)];exact hz b off hin
  .intro ha
   have:=hn ha;simpa using this
  .intro p hp _
   simpa using hp
end
theorem Tryz.cells_term:prog.cellsOf 98=2:=by kernel_rfl
def GoodT (t:Term):Prop:=aWz t.op/\aWz t.arg
theorem aDo {H:Type} {enc:TypeId × Value->H} {P:Program} {w:World} {base:Nat} {spare:Nat->Bool} {held:Bool} {m i n:Nat} {f:TypeId} {cs us:List Value} {xs:List (DataW H × List MemPlace)}
  (h:DataW.trod enc P w base spare held m f cs=xs[i]?) (hl:xs.length=n) (hi:i<n) (hcs:cs=us):∃ y,DataW.trod enc P w base spare held m f us=some y:=by
 subst hcs;rw [List.getElem?_eq_getElem (by omega)] at h
 exact ⟨_,h⟩
theorem aS6 {H:Type} {enc:TypeId × Value->H} {w:World} {base:Nat} {spare:Nat->Bool} {held:Bool}:∀ n cs y b o,(∀ j,j<2->w.cell? ⟨b,o+j,none⟩=cs[j]?)->cs.length=2->DataW.trod enc prog w base spare held n 98 cs=some y->∃ x,aJ4 w b o x/\GoodT x:=by
 intro n cs y b o hat hl h
 obtain ⟨xs,m,_,_,_,hxl,hf⟩:=DataW.trod_struct underlying98 h
 match cs,hl with
 | [u,v],_ =>
  obtain ⟨y0,h0⟩:=aDo (us:=[u]) (hf 0 _ rfl) hxl (by decide) (by simp [Tryz.cells_int])
  obtain ⟨y1,h1⟩:=aDo (us:=[v]) (hf 1 _ rfl) hxl (by decide) (by simp [Tryz.cells_int])
  obtain ⟨x0,hx0,_,wf0⟩:=DataW.trod_int underlying3 h0;obtain ⟨x1,hx1,_,wf1⟩:=DataW.trod_int underlying3 h1;simp at hx0 hx1
  subst hx0;subst hx1;exact ⟨⟨x0,x1⟩,⟨by simpa using hat 0 (by omega),by simpa using hat 1 (by omega)⟩,aJn wf0,aJn wf1⟩
end Go.Proofs.YtdcjnhoabbdanaaGreatDoor

