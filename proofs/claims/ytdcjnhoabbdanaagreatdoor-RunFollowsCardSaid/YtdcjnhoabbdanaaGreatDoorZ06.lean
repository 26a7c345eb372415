/- Merged. -/
import Derived.RangeFuncNested
import Derived.RangeFuncLeaves
import Derived.RangeFuncBox
import Derived.Test.YtdcjnhoabbdanaaGreatDoorZ04
import Derived.Deep.RegionHeld
set_option linter.unusedSimpArgs false
set_option linter.unnecessarySimpa false
set_option linter.unusedVariables false
set_option maxRecDepth 100000
set_option maxHeartbeats 1000000
open Go.Proofs.Tryz

namespace Go.Proofs.YtdcjnhoabbdanaaGreatDoor
open Go.RowKit
structure Agr (E:Nat->Prop) (A B:World):Prop where
 os:B.os=A.os
 tape:B.tape=A.tape
 output:B.output=A.output
 size:A.heap.size<=B.heap.size
 block:∀ k,k<A.heap.size->¬ E k->B.heap[k]?=A.heap[k]?
theorem Agr.refl (E:Nat->Prop) (A:World):Agr E A A:=⟨rfl,rfl,rfl,Nat.le_refl _,fun _ _ _=>rfl⟩
theorem Agr.mono {E E':Nat->Prop} {A B:World} (h:Agr E A B) (hE:∀ k,E k->E' k):Agr E' A B :=
 ⟨h.os,h.tape,h.output,h.size,fun k hk hn=>h.block k hk (fun e=>hn (hE k e))⟩
theorem Agr.trans {E:Nat->Prop} {A B C:World} (h:Agr E A B) (k:Agr E B C):Agr E A C :=
 ⟨k.os.trans h.os,k.tape.trans h.tape,k.output.trans h.output,Nat.le_trans h.size k.size,fun i hi hn=>(k.block i (Nat.lt_of_lt_of_le hi h.size) hn).trans (h.block i hi hn)⟩
theorem Agr.alloc (E:Nat->Prop) (A:World) (o:Obj):Agr E A (A.alloc o) :=
 ⟨rfl,rfl,rfl,by simp,fun k hk _=>Below.heap_alloc A o k hk⟩
theorem Agr.putObj {E:Nat->Prop} (A:World) (l:Nat) (o:Obj) (hl:E l):Agr E A (A.putObj l o) :=
 ⟨rfl,rfl,rfl,by simp,fun k _ hn=>World.putObj_heap_other (fun e=>hn (e ▸ hl))⟩
theorem Agr.setCell {E:Nat->Prop} (A:World) (p:Addr) (v:Value) (hl:E p.block):Agr E A (A.setCell p v) :=
 ⟨rfl,rfl,rfl,by simp,fun k _ hn=>Below.heap_setCell A p v k (fun e=>hn (e ▸ hl))⟩
def aCi (E:Nat->Prop) (A B:World):Prop:=A.heap.size<=B.heap.size/\∀ k,k<A.heap.size->E k->B.heap[k]?=A.heap[k]?
def orE (E R:Nat->Prop) (k:Nat):Prop:=E k∨R k
def postE {α:Type} (E:Nat->Prop) (I:List α->World->Prop) (Ix:Code->List α->World->Prop) (xs:List α) (W:World):Exit->Act->World->Prop
 | .normal,_,W'=>aCi E W W'/\I xs W'
 | .ret,_,W'=>aCi E W W'/\Ix .ret xs W'
 | .exit id,_,W'=>aCi E W W'/\Ix (.exit id) xs W'
 | .goto t,_,W'=>aCi E W W'/\Ix (.goto t) xs W'
 | .panic _,_,_=>False
 | .outgrown,_,_=>False
def bB8 {α:Type} (F:Fence) (n:Nat) (P:Program) (g:Nat) (lb:Array Value) (encs:α->Array Value) (Bs Rs:Nat->Prop) (S:List α) (w:World):Prop :=
 ∀ (l:Nat) (J Jx:List α->World->Prop) (W:World),Bel w W->(∀ s A B,J s A->Agr Bs A B->J s B)->(∀ s A B,Jx s A->Agr Bs A B->Jx s B) ->
  (∀ pre x W1,pre++[x] <+: S->J pre W1->YieldAt F (n-1) P l (encs x) W1 fun e W' =>
   (e = .returned (.bool true)/\J (pre++[x]) W'/\aCi (orE Bs Rs) W1 W')∨(e = .returned (.bool false)/\Jx (pre++[x]) W')) ->
  J [] W ->
  CallsIn F n P g (#[.func (.yield l) #[] #[]]++lb) W fun e W'=>(∃ v,e = .returned v)/\(J S W'∨∃ pre,pre <+: S/\Jx pre W')
variable {F:Fence} {n:Nat} {P:Program}
theorem aJq {α:Type} {g:Operand} {ps:Array Tmp} {assign body:Code} {Q:Exit->Act->World->Prop} {a:Act} {w:World}
  (hro:F.round=none) (h1:1<=n) {gf:Nat} {lb:Array Value} (hg:a.eval g = .func (.func gf) #[] lb) (hFg:F.fn gf) (eg:∀ args w,(callFunc gf args).run P w = .ok (.enter gf args) w)
  {encs:α->Array Value} {Bs Rs:Nat->Prop} {S:List α} (hseq:bB8 F (n-1) P gf lb encs Bs Rs S w) (hBs:∀ k,Bs k->k<w.heap.size) (hRs:∀ k,Rs k->k<w.heap.size) (hps:∀ x,(encs x).size=ps.size)
  (E:Nat->Prop) (hE:∀ k,E k↔Bs k∨k=w.heap.size∨k=w.heap.size+1)
  (I:List α->World->Prop) (Ix:Code->List α->World->Prop) (hI:∀ s A B,I s A->Agr E A B->I s B) (hIx:∀ c s A B,Ix c s A->Agr E A B->Ix c s B) (h0:I [] w)
  (Ax:α->Act->World->Prop) (hAx:∀ x a' A B,Ax x a' A->Agr E A B->Ax x a' B)
  (hassign:∀ (pre:List α) (x:α) (W:World) (K:Act->World->Prop),pre++[x] <+: S->I pre W->w.heap.size+1<W.heap.size->(∀ a' W',aCi (orE E Rs) W W'->I pre W'->Ax x a' W'->K a' W') ->
   assign.wpIn (F.inRound (w.heap.size+1)) (n-1-1) P (Exit.then K (fun _ _ _=>False)) { tmps:=(ps.zip (encs x)).foldl (fun t (p,v)=>t.setIfInBounds p v) a.tmps,defers:=[] } W)
  (hbody:∀ (pre:List α) (x:α) (a':Act) (W:World),pre++[x] <+: S->I pre W->Ax x a' W->w.heap.size+1<W.heap.size->(∃ r,W.heap[w.heap.size+1]?=some (.loop r)) ->
   body.wpIn (F.inRound (w.heap.size+1)) (n-1-1) P (postE (orE E Rs) I Ix (pre++[x]) W) a' W)
  (hdone:∀ (W:World),I S W->W.heap[w.heap.size]?=some (.deferred (some []))->Q .normal { a with defers:={ target := .collected w.heap.size,args:=#[] } :: a.defers } W)
  (hstop:∀ (c:Code) (pre:List α) (W:World),pre <+: S->Ix c pre W->W.heap[w.heap.size]?=some (.deferred (some []))->c.wpIn F n P Q { a with defers:={ target := .collected w.heap.size,args:=#[] } :: a.defers } W) :
  (Code.rangeFunc g ps assign body).wpIn F n P Q a w:=by
 have El:E (w.heap.size+1):=(hE _).2 (.inr (.inr rfl));have Ed:E w.heap.size:=(hE _).2 (.inr (.inl rfl));have nl:¬ Bs (w.heap.size+1):=fun h=>by have:=hBs _ h;omega
 have nek:∀ k,orE Bs Rs k->k<w.heap.size:=fun k h=>h.elim (hBs k) (hRs k);have up:∀ k,orE Bs Rs k->orE E Rs k:=fun k h=>h.elim (fun h => .inl ((hE k).2 (.inl h))) .inr;have nd:¬ Bs w.heap.size:=fun h=>by have:=hBs _ h;omega
 have sub:∀ {A B:World},Agr Bs A B->Agr E A B:=fun h=>h.mono (fun k hk=>(hE k).2 (.inl hk));refine wpIn_rangeFunc fun fn hfn=>?_
 rw [hro];obtain ⟨rec,hrec⟩:∃ rec:LoopState->Option Code->Loop,rec=fun st pe=>{ state:=st,pending:=pe,fn,tmps:=a.tmps,params:=ps,assign,body,defers:=w.heap.size }:=⟨_,rfl⟩
 have hL1:((w.alloc (.deferred (some []))).alloc (.loop (rec .ready none))).heap[w.heap.size+1]?=some (.loop (rec .ready none)):=by
  have:=World.alloc_heap_new (w.alloc (.deferred (some []))) (.loop (rec .ready none));rwa [World.size_alloc] at this
 have hK1:((w.alloc (.deferred (some []))).alloc (.loop (rec .ready none))).heap[w.heap.size]?=some (.deferred (some [])) :=
  (Below.heap_alloc _ _ _ (by simp)).trans (World.alloc_heap_new w _)
 have hI1:I [] ((w.alloc (.deferred (some []))).alloc (.loop (rec .ready none))):=hI _ _ _ (hI _ _ _ h0 (Agr.alloc E w _)) (Agr.alloc E _ _);have hb1:Bel w ((w.alloc (.deferred (some []))).alloc (.loop (rec .ready none))):=((Bel.refl w).alloc _).alloc _
 refine ⟨w.heap.size+1,[{ target := .collected w.heap.size,args:=#[] }],_,{ target := .fn (.func gf) lb,args:=#[.func (.yield (w.heap.size+1)) #[] #[]] },_,gf,
  #[.func (.yield (w.heap.size+1)) #[] #[]]++lb,_,by rw [run_enterLoop_outer],by simp only [resolve,hg];simp [go_sem];rfl,fun f' hf'=>by simp [Target.leads] at hf';subst hf';exact hFg,by simp [invoke,go_sem,eg];rfl,fun _=>h1,?_⟩
 revert hL1 hK1 hI1 hb1
 rw [hrec];intro hL1 hK1 hI1 hb1
 refine (hseq (w.heap.size+1)
  (fun pre W=>I pre W/\W.heap[w.heap.size+1]?=some (.loop (rec .ready none))/\W.heap[w.heap.size]?=some (.deferred (some [])))
  (fun pre W=>∃ c,Ix c pre W/\W.heap[w.heap.size+1]?=some (.loop (rec .done (some c)))/\W.heap[w.heap.size]?=some (.deferred (some [])))
  _ hb1 (fun s A B hs hg'=>⟨hI _ _ _ hs.1 (sub hg'),(hg'.block _ (Array.getElem?_eq_some_iff.1 hs.2.1).1 nl).trans hs.2.1,(hg'.block _ (Array.getElem?_eq_some_iff.1 hs.2.2).1 nd).trans hs.2.2⟩)
  (fun s A B hs hg'=>by
   obtain ⟨c,hc,hl,hk⟩:=hs
   exact ⟨c,hIx _ _ _ _ hc (sub hg'),(hg'.block _ (Array.getElem?_eq_some_iff.1 hl).1 nl).trans hl,(hg'.block _ (Array.getElem?_eq_some_iff.1 hk).1 nd).trans hk⟩)
  ?_ ⟨hI1,by rw [hrec];exact hL1,hK1⟩).mono ?_
 .-- one round
  rintro pre x W hpre ⟨hi,hl,hk⟩;have hlt:=(Array.getElem?_eq_some_iff.1 hl).1;have hy:=run_yield (P:=P) (args:=encs x) hl (by rw [hrec];exact hps x)
  rw [hrec] at hy;refine ⟨fn,_,assign,body,hy,roundIn_of_wpIn hfn (hassign pre x W _ hpre hi hlt ?_)⟩
  clear hy;intro a' Wa hsa hia hax
  have hl2:=(hsa.2 _ hlt (.inl El)).trans hl;have hk2:=(hsa.2 _ (by omega) (.inl Ed)).trans hk
  have hlta:=(Array.getElem?_eq_some_iff.1 hl2).1;refine ⟨_,run_beginRound hl2 (by rw [hrec]),?_⟩
  have agb:Agr E Wa (Wa.putObj (w.heap.size+1) (.loop { rec .ready none with state := .busy })):=Agr.putObj _ _ _ El
  have hl3:(Wa.putObj (w.heap.size+1) (.loop { rec .ready none with state := .busy })).heap[w.heap.size+1]?=some (.loop { rec .ready none with state := .busy }):=World.putObj_heap_same hlta
  have hk3:(Wa.putObj (w.heap.size+1) (.loop { rec .ready none with state := .busy })).heap[w.heap.size]?=some (.deferred (some [])):=(World.putObj_heap_other (by omega)).trans hk2
  have hsz:=agb.size
  have hsb:aCi (orE Bs Rs) W (Wa.putObj (w.heap.size+1) (.loop { rec .ready none with state := .busy })) :=
   ⟨Nat.le_trans hsa.1 hsz,fun k hk hB=>(World.putObj_heap_other (by have:=nek k hB;omega)).trans (hsa.2 k hk (up k hB))⟩
  refine wpIn_mono (hbody pre x a' _ hpre (hI _ _ _ hia agb) (hAx _ _ _ _ hax agb) (Nat.lt_of_lt_of_le hlta hsz) ⟨_,hl3⟩) ?_
  generalize Wa.putObj (w.heap.size+1) (.loop { rec .ready none with state := .busy })=Wb at *
  have fin:∀ (jump:Option Code) (W3:World),aCi (orE E Rs) Wb W3 ->
    (Instr.endRound (w.heap.size+1) jump).run P W3 = .ok (.bool jump.isNone) (W3.putObj (w.heap.size+1) (.loop (rec (if jump.isNone then .ready else .done) jump))) /\
    (W3.putObj (w.heap.size+1) (.loop (rec (if jump.isNone then .ready else .done) jump))).heap[w.heap.size+1]?=some (.loop (rec (if jump.isNone then .ready else .done) jump)) /\
    (W3.putObj (w.heap.size+1) (.loop (rec (if jump.isNone then .ready else .done) jump))).heap[w.heap.size]?=some (.deferred (some [])):=fun jump W3 h3=>by
   have hl4:=(h3.2 _ (by omega) (.inl El)).trans hl3
   have:=run_endRound (P:=P) jump hl4;rw [hrec] at this ⊢;exact ⟨this,World.putObj_heap_same (Array.getElem?_eq_some_iff.1 hl4).1,(World.putObj_heap_other (by omega)).trans ((h3.2 _ (by omega) (.inl Ed)).trans hk3)⟩
  rintro e a3 W3 hp;cases e with
  | normal =>
   obtain ⟨h3,hi3⟩:=hp;obtain ⟨hr,hl4,hk4⟩:=fin none W3 h3
   exact ⟨_,_,hr,.inl ⟨rfl,⟨hI _ _ _ hi3 (Agr.putObj _ _ _ El),hl4,hk4⟩,Nat.le_trans hsb.1 (Nat.le_trans h3.1 (Agr.putObj (E:=E) W3 _ _ El).size),fun k hk hB =>
    (World.putObj_heap_other (by have:=nek k hB;omega)).trans ((h3.2 k (Nat.lt_of_lt_of_le hk hsb.1) (up k hB)).trans (hsb.2 k hk hB))⟩⟩
  | ret =>
   obtain ⟨h3,hi3⟩:=hp;obtain ⟨hr,hl4,hk4⟩:=fin (some .ret) W3 h3;exact ⟨_,_,hr,.inr ⟨rfl,.ret,hIx _ _ _ _ hi3 (Agr.putObj _ _ _ El),hl4,hk4⟩⟩
  | exit id =>
   obtain ⟨h3,hi3⟩:=hp;obtain ⟨hr,hl4,hk4⟩:=fin (some (.exit id)) W3 h3;exact ⟨_,_,hr,.inr ⟨rfl,.exit id,hIx _ _ _ _ hi3 (Agr.putObj _ _ _ El),hl4,hk4⟩⟩
  | goto t =>
   obtain ⟨h3,hi3⟩:=hp;obtain ⟨hr,hl4,hk4⟩:=fin (some (.goto t)) W3 h3;exact ⟨_,_,hr,.inr ⟨rfl,.goto t,hIx _ _ _ _ hi3 (Agr.putObj _ _ _ El),hl4,hk4⟩⟩
  | panic ch=>exact hp.elim
  | outgrown=>exact hp.elim
 .-- behind the iterator
  rintro e W2 ⟨⟨v,rfl⟩,(⟨hi,hl,hk⟩ | ⟨pre,hSp,c,hi,hl,hk⟩)⟩
  .exact ⟨none,_,by have:=run_endLoop (P:=P) hl (by rw [hrec];simp);rw [hrec] at this;exact this,hdone _ (hI _ _ _ hi (Agr.putObj _ _ _ El)) ((World.putObj_heap_other (by omega)).trans hk)⟩
  .exact ⟨some c,_,by have:=run_endLoop (P:=P) hl (by rw [hrec];simp);rw [hrec] at this;exact this,hstop c pre _ hSp (hIx _ _ _ _ hi (Agr.putObj _ _ _ El)) ((World.putObj_heap_other (by omega)).trans hk)⟩
theorem aJc {P:Program} {f:FuncId} {fn:Func} {c:Code} {args:Array Value} {w:World} {R:Ending->World->Prop}
  (hf:P.funcs[f]?=some fn) (hb:fn.body=some c)
  (h:c.wp P (bodyPostM Fence.wide 5 P fn R) { tmps:=args++Array.replicate (fn.ntmps-args.size) undef,defers:=[] } w):Calls P f args w R :=
 callsIn_wide.1 (callsIn_of_wp_marks hf hb trivial (wpIn_wide.2 h) rfl)
def aFd (B:Nat) (W:World):List Deferred->Prop
 | []=>True
 | d :: ds=>(∃ D,d={ target := .collected D,args:=#[] }/\B<=D/\W.heap[D]?=some (.deferred (some []))/\∀ d'∈ds,∀ D',d'.target = .collected D'->D' < D)/\aFd B W ds
theorem aFd.nil (B:Nat) (W:World):aFd B W []:=trivial
def bB2 (B:Nat) (W:World) (k:Nat):Prop:=B<=k/\∃ x,W.heap[k]?=some (.deferred x)
theorem aFd.keep {B:Nat} {W W':World}:∀ {ds:List Deferred},aFd B W ds->(∀ D,B<=D->W.heap[D]?=some (.deferred (some []))->W'.heap[D]?=some (.deferred (some [])))->aFd B W' ds
 | [],_,_=>trivial
 | _ :: _,h,hk=>by
  obtain ⟨⟨D,e,h1,h2,h3⟩,h4⟩:=h;exact ⟨⟨D,e,h1,hk D h1 h2,h3⟩,h4.keep hk⟩
theorem aFd.below {B:Nat} {W:World}:∀ {ds:List Deferred},aFd B W ds->∀ d∈ds,∀ D,d.target = .collected D->B<=D/\D<W.heap.size
 | [],_,_,hd,_,_=>by cases hd
 | d0 :: ds,h,d,hd,D,e=>by
  obtain ⟨⟨D0,e0,h1,h2,h3⟩,h4⟩:=h
  rcases List.mem_cons.1 hd with rfl | hd
  .subst e0
   injection e with e
   subst e;exact ⟨h1,(Array.getElem?_eq_some_iff.1 h2).1⟩
  .exact h4.below d hd D e
theorem aFd.push {B:Nat} {W:World} {ds:List Deferred} {D:Nat} (h:aFd B W ds) (hB:B<=D) (hD:W.heap[D]?=some (.deferred (some []))) (hlt:∀ d'∈ds,∀ D',d'.target = .collected D'->D' < D):aFd B W ({ target := .collected D,args:=#[] } :: ds) :=
 ⟨⟨D,rfl,hB,hD,hlt⟩,h⟩
theorem aFd.shut {B D:Nat} {W:World}:∀ {ds:List Deferred},aFd B W ds->(∀ d'∈ds,∀ D',d'.target = .collected D'->D' < D)->aFd B (W.putObj D (.deferred none)) ds
 | [],_,_=>trivial
 | d :: ds,h,hl=>by
  obtain ⟨⟨D0,e,h1,h2,h3⟩,h4⟩:=h;have:=hl d (List.mem_cons_self ..) D0 (by rw [e])
  exact ⟨⟨D0,e,h1,(World.putObj_heap_other (by omega)).trans h2,h3⟩,h4.shut (fun d' hd=>hl d' (List.mem_cons_of_mem _ hd))⟩
theorem aFm {P:Program} {fn:Func} {tmps:Array Value} {R:Ending->World->Prop} {F:Fence} {n B:Nat}:∀ {ds:List Deferred} {W:World},aFd B W ds ->
  (∀ W',Agr (bB2 B W) W W'->W'.heap.size=W.heap.size->∃ v,(results fn tmps).run P W' = .ok v W'/\R (.returned v) W')->LeavesInM F n P fn tmps R ds .returning W
 | [],W,_,hR=>hR W (Agr.refl _ W) rfl
 | d :: ds,W,h,hR=>by
  obtain ⟨⟨D,rfl,h1,h2,h3⟩,h4⟩:=h;refine ⟨by simp,.inl ⟨D,_,rfl,run_takeDeferred h2,?_⟩⟩
  have hlt:=(Array.getElem?_eq_some_iff.1 h2).1;refine aFm (B:=B) (h4.shut h3) ?_
  intro W' hA hs
  have hE:∀ k,bB2 B (W.putObj D (.deferred none)) k->bB2 B W k:=by
   rintro k ⟨hk,x,hx⟩
   by_cases hkD:k=D
   .subst hkD;exact ⟨hk,_,h2⟩
   .rw [World.putObj_heap_other hkD] at hx;exact ⟨hk,x,hx⟩
  have hsz:(W.putObj D (.deferred none)).heap.size=W.heap.size:=by simp
  exact hR W' ((Agr.putObj W D _ ⟨h1,_,h2⟩).trans (hA.mono hE)) (by omega)
theorem Agr.cell {E:Nat->Prop} {A B:World} (h:Agr E A B) {k o:Nat} (hk:k<A.heap.size) (hE:¬ E k):B.cell? ⟨k,o,none⟩=A.cell? ⟨k,o,none⟩ :=
 World.cell?_of_block (h.block k hk hE)
theorem Agr.cellD {B0:Nat} {A B:World} (h:Agr (bB2 B0 A) A B) {k o:Nat} {v:Value} (hc:A.cell? ⟨k,o,none⟩=some v):B.cell? ⟨k,o,none⟩=some v:=by
 have hne:¬ bB2 B0 A k:=by
  rintro ⟨_,x,hx⟩;simp [World.cell?,hx] at hc
 have hk:k<A.heap.size:=by
  rcases Nat.lt_or_ge k A.heap.size with h | h
  .exact h
  .simp [World.cell?,Array.getElem?_eq_none h] at hc
 rw [h.cell hk hne];exact hc
theorem Agr.bel {w A C:World} (hb:Bel w A) (h:Agr (bB2 w.heap.size A) A C):Bel w C :=
 ⟨h.os.trans hb.os,h.tape.trans hb.tape,h.output.trans hb.output,Nat.le_trans hb.size h.size,fun k hk=>(h.block k (Nat.lt_of_lt_of_le hk hb.size) (fun e=>by have:=e.1;omega)).trans (hb.block k hk)⟩
theorem Agr.belE {E:Nat->Prop} {w A C:World} (hb:Bel w A) (h:Agr E A C) (hE:∀ k,E k->w.heap.size<=k):Bel w C :=
 ⟨h.os.trans hb.os,h.tape.trans hb.tape,h.output.trans hb.output,Nat.le_trans hb.size h.size,fun k hk=>(h.block k (Nat.lt_of_lt_of_le hk hb.size) (fun e=>by have:=hE k e;omega)).trans (hb.block k hk)⟩
theorem Agr.boxed {E:Nat->Prop} {A B:World} (h:Agr E A B) {k:Nat} {t:TypeId} {v:Value} (hx:Boxed A k t v) (hk:¬ E k):Boxed B k t v:=(h.block k hx.lt hk).trans hx
theorem Agr.blk {E:Nat->Prop} {A B:World} (h:Agr E A B) {k:Nat} {t:TypeId} {cs:Array Value} (hx:A.heap[k]?=some (.cells cs t (0,0))) (hk:¬ E k):B.heap[k]?=some (.cells cs t (0,0)):=(h.block k (Array.getElem?_eq_some_iff.1 hx).1 hk).trans hx
theorem aCi.refl (E:Nat->Prop) (A:World):aCi E A A:=⟨Nat.le_refl _,fun _ _ _=>rfl⟩
theorem aCi.trans {E:Nat->Prop} {A B C:World} (h:aCi E A B) (k:aCi E B C):aCi E A C :=
 ⟨Nat.le_trans h.1 k.1,fun i hi hE=>(k.2 i (Nat.lt_of_lt_of_le hi h.1) hE).trans (h.2 i hi hE)⟩
theorem aCi.setCell {E:Nat->Prop} (A:World) (p:Addr) (v:Value) (hp:¬ E p.block):aCi E A (A.setCell p v) :=
 ⟨by simp,fun k _ hE=>Below.heap_setCell A p v k (fun e=>hp (e ▸ hE))⟩
theorem aCi.of_bel {E:Nat->Prop} {A B:World} (h:Bel A B):aCi E A B:=⟨h.size,fun k hk _=>h.block k hk⟩
theorem aBb {W:World} {B:Nat} {t:TypeId} {v:Value} (h:Boxed W B t v):W.cell? ⟨B,0,none⟩=some v/\W.frozen? ⟨B,0,none⟩=false/\B<W.heap.size:=⟨h.cell,h.frozen,h.lt⟩
def aDj (ls:List Link) (u:Int):Int:=match ls.findIdx? (fun l=>l.to==u) with | some i=>(i:Int) | none => -1
theorem aNh {ls:List Link} {u:Int} {j:Nat} (h:j<ls.length) (ha:(ls.take j).all (fun l => !(l.to==u))=true) (hj:(ls[j].to==u)=true):aDj ls u=(j:Int):=by
 unfold aDj
 have:ls.findIdx? (fun l=>l.to==u)=some j:=by
  rw [List.findIdx?_eq_some_iff_getElem];refine ⟨h,hj,fun k hk=>?_⟩
  have:=List.all_eq_true.1 ha ls[k] (by rw [List.mem_take_iff_getElem];exact ⟨k,by omega,rfl⟩)
  simpa using this
 rw [this]
theorem aOy {ls:List Link} {u:Int} (ha:ls.all (fun l => !(l.to==u))=true):aDj ls u = -1:=by
 unfold aDj
 have:ls.findIdx? (fun l=>l.to==u)=none:=by
  rw [List.findIdx?_eq_none_iff];intro x hx
  have:=List.all_eq_true.1 ha x hx;simpa using this
 rw [this]
theorem aU5:∀ (n:Nat) (l:List Int),l.Nodup->(∀ x∈l,0<=x/\x<(n:Int))->l.length<=n
 | 0,l,_,h=>by
  cases l with
  | nil=>simp
  | cons x l=>have:=h x (by simp);omega
 | n+1,l,hn,h=>by
  have h1:=aU5 n (l.erase (n:Int)) (hn.erase _) (fun x hx=>by
   have h2:=h x (List.mem_of_mem_erase hx)
   have h3:x≠(n:Int):=by
    rintro rfl;exact (List.Nodup.not_mem_erase hn) hx
   omega)
  have h4:l.length<=(l.erase (n:Int)).length+1:=by
   rw [List.length_erase];split <;> omega
  omega
def aK2 (n v:Nat) (l:Link):Bool:=decide (0<=l.to/\l.to<(n:Int)/\l.to≠(v:Int)/\1<=l.weight/\l.weight<=15)
def aCt (n v:Nat) (ls:List Link):Bool:=ls.all (aK2 n v)&&decide ((ls.map Link.to).Nodup)
def aFy (g:Graph) (v:Nat) (l:Link):Bool:=(g.ports.getD l.to.toNat []).any fun k=>k.to==(v:Int)&&k.weight==l.weight
def aO4 (ids:List Int):Bool:=ids.all (fun i=>decide (0<=i/\i<=255))&&decide ids.Nodup
def aEa (g:Graph):Bool :=
 decide (1<=g.ports.length/\g.ports.length<=24/\g.ids.length=g.ports.length)&&aO4 g.ids
  && (List.range g.ports.length).all (fun v=>aCt g.ports.length v (g.ports.getD v []))
  && (List.range g.ports.length).all (fun v=>(g.ports.getD v []).all (aFy g v))
structure GOK (g:Graph):Prop where
 pos:1<=g.ports.length
 le:g.ports.length<=24
 ids:g.ids.length=g.ports.length
 idr:∀ i∈g.ids,0<=i/\i<=255
 idn:g.ids.Nodup
 links:∀ v,(h:v<g.ports.length)->aCt g.ports.length v g.ports[v]=true
 back:∀ v,(h:v<g.ports.length)->∀ l∈g.ports[v],aFy g v l=true
theorem aAa {α:Type} {l:List α} {k:Nat} {d:α} (h:k<l.length):l.getD k d=l[k]:=by simp [List.getD_eq_getElem?_getD,h]
theorem aEe (g:Graph):aEa g=true↔GOK g:=by
 unfold aEa aO4;simp only [Bool.and_eq_true,decide_eq_true_eq,List.all_eq_true,List.mem_range]
 constructor
 .rintro ⟨⟨⟨⟨h1,h2,h3⟩,h4,h5⟩,h6⟩,h7⟩
  exact ⟨h1,h2,h3,h4,h5,fun v hv=>by have:=h6 v hv;rwa [aAa hv] at this,fun v hv l hl=>by have:=h7 v hv;rw [aAa hv] at this;exact this l hl⟩
 .rintro ⟨h1,h2,h3,h4,h5,h6,h7⟩
  exact ⟨⟨⟨⟨h1,h2,h3⟩,h4,h5⟩,fun v hv=>by rw [aAa hv];exact h6 v hv⟩,fun v hv=>by rw [aAa hv];exact h7 v hv⟩
theorem aBj {n v:Nat} {ls:List Link}:aCt n v ls=true↔(∀ l∈ls,aK2 n v l=true)/\(ls.map Link.to).Nodup:=by
 unfold aCt;simp only [Bool.and_eq_true,decide_eq_true_eq,List.all_eq_true]
theorem aBt {n v:Nat} {l:Link}:aK2 n v l=true↔0<=l.to/\l.to<(n:Int)/\l.to≠(v:Int)/\1<=l.weight/\l.weight<=15:=by
 unfold aK2;simp only [decide_eq_true_eq]
theorem aCh {n v:Nat} {ls:List Link} (hv:v<n) (h:aCt n v ls=true):ls.length<n:=by
 obtain ⟨h1,h2⟩:=aBj.1 h
 have:=aU5 n ((v:Int) :: ls.map Link.to) (by
  rw [List.nodup_cons];refine ⟨?_,h2⟩
  intro hm
  obtain ⟨l,hl,he⟩:=List.mem_map.1 hm;exact (aBt.1 (h1 l hl)).2.2.1 he) (by
  intro x hx
  rcases List.mem_cons.1 hx with rfl | hx
  .omega
  .obtain ⟨l,hl,rfl⟩:=List.mem_map.1 hx
   have:=aBt.1 (h1 l hl)
   omega)
 simp at this
 omega
theorem aE0 {l:List Int} {k:Nat} (h:k<l.length) (hn:(l.take k).Nodup) (hne:∀ j (hj:j<k),l[j]≠l[k]):(l.take (k+1)).Nodup:=by
 rw [List.take_succ_eq_append_getElem h,List.nodup_append];refine ⟨hn,by simp,?_⟩
 intro a ha b hb
 simp at hb
 subst hb;rw [List.mem_take_iff_getElem] at ha;obtain ⟨j,hj,rfl⟩:=ha;exact hne j (by omega)
theorem aEq {l:List Int} {j k:Nat} (hj:j<k) (hk:k<l.length) (he:l[j]=l[k]):¬ l.Nodup:=by
 intro hn
 have:=(List.nodup_iff_pairwise_ne.1 hn);rw [List.pairwise_iff_getElem] at this;exact this j k (by omega) hk hj he
theorem aVn {ls:List Link} {u:Int} (h:0<=aDj ls u):∃ k:Nat,∃ hk:k<ls.length,aDj ls u=(k:Int)/\ls[k].to=u:=by
 unfold aDj at *;cases hf:ls.findIdx? (fun l=>l.to==u) with
 | none=>rw [hf] at h;simp at h
 | some k =>
  rw [List.findIdx?_eq_some_iff_getElem] at hf;obtain ⟨hk,h1,_⟩:=hf;exact ⟨k,hk,rfl,by simpa using h1⟩
theorem aXr {ls:List Link} {u:Int} (h:aDj ls u<0):∀ l∈ls,l.to≠u:=by
 unfold aDj at *;cases hf:ls.findIdx? (fun l=>l.to==u) with
 | none =>
  rw [List.findIdx?_eq_none_iff] at hf;intro l hl
  simpa using hf l hl
 | some k=>rw [hf] at h;simp at h;omega
theorem aNi (ls:List Link) (u:Int) : -1<=aDj ls u/\aDj ls u<ls.length:=by
 unfold aDj;cases hf:ls.findIdx? (fun l=>l.to==u) with
 | none=>simp;omega
 | some k =>
  rw [List.findIdx?_eq_some_iff_getElem] at hf;obtain ⟨hk,_⟩:=hf;simp;omega
theorem aSl {ls:List Link} {v:Nat} {x:Int} (hn:(ls.map Link.to).Nodup) (k:Nat) (hk:k<ls.length) (ht:ls[k].to=(v:Int)):(ls.any fun k=>k.to==(v:Int)&&k.weight==x)=(ls[k].weight==x):=by
 rw [Bool.eq_iff_iff,List.any_eq_true];constructor
 .rintro ⟨l,hl,hh⟩
  simp at hh
  obtain ⟨h1,h2⟩:=hh;obtain ⟨j,hj,rfl⟩:=List.getElem_of_mem hl
  have:j=k:=by
   rcases Nat.lt_trichotomy j k with h | h | h
   .exact absurd hn (aEq (k:=k) h (by simpa using hk) (by simp [h1,ht]))
   .exact h
   .exact absurd hn (aEq (k:=j) h (by simpa using hj) (by simp [h1,ht]))
  subst this;simpa using h2
 .intro h
  exact ⟨ls[k],List.getElem_mem hk,by simp [ht];simpa using h⟩
theorem aWj {ls:List Link} {v:Nat} {x:Int} (h:aDj ls v<0):(ls.any fun k=>k.to==(v:Int)&&k.weight==x)=false:=by
 rw [List.any_eq_false];intro l hl
 have:=aXr h l hl;simp [this]
def inB (v lo hi:Int):Bool:=decide (lo<=v/\v<=hi)
theorem aDm {v lo hi:Int} (h1:lo<=v) (h2:v<=hi):inB v lo hi=true:=by unfold inB;simp [h1,h2]
theorem aHz {v lo hi:Int} (h:v<lo∨hi<v):inB v lo hi=false:=by unfold inB;simp;omega
theorem aKu {v lo hi:Int}:inB v lo hi=true↔lo<=v/\v<=hi:=by unfold inB;simp
theorem aCk (v lo hi:Int) (w:World):Calls prog 92 #[.int .i64 v,.int .i64 lo,.int .i64 hi] w fun e w'=>e = .returned (.bool (inB v lo hi))/\w=w':=by
 go_enter func92,ntmps92;go_wp2
 all_goals (go_ret;refine ⟨aA2 ?_,rfl⟩;unfold inB;rw [Bool.eq_iff_iff];simp) <;> omega
theorem aDx (v lo hi:Int) (w:World):Calls prog 145 #[.int .i64 v,.int .i64 lo,.int .i64 hi] w fun e w'=>e = .returned (.bool (inB v lo hi))/\w=w':=by
 go_enter func145,ntmps145;go_wp2
 all_goals (go_ret;refine ⟨aA2 ?_,rfl⟩;unfold inB;rw [Bool.eq_iff_iff];simp) <;> omega
theorem aGt (v lo hi:Int) (w:World):Calls prog 160 #[.int .i64 v,.int .i64 lo,.int .i64 hi] w fun e w'=>e = .returned (.bool (inB v lo hi))/\w=w':=by
 go_enter func160,ntmps160;go_wp2
 all_goals (go_ret;refine ⟨aA2 ?_,rfl⟩;unfold inB;rw [Bool.eq_iff_iff];simp) <;> omega
theorem aOx (v:Value) (g:Graph) (i:Nat) (u:Int) (w:World) (h:aAn w v g) (hi:i<g.ports.length) :
  Calls prog 98 #[v,.int .i64 i,.int .i64 u] w fun e w'=>e = .returned (.int .i64 (aDj g.ports[i] u))/\Bel w w':=by
 obtain ⟨A,k,A2,k2,rfl,_,_,_,hr,_,hm⟩:=h;obtain ⟨b,o,R,c1,rfl,hb,hc1,hL,hn,hm2⟩:=hr.at_ i hi;have H:=aA0 hL;clear hL hr;unfold maxLen at hm hm2;go_enter func98,ntmps98;go_wp2
 go_loopg [7] g.ports[i].length (fun m x wr=>∃ j:Nat,j<=g.ports[i].length/\m=g.ports[i].length-j/\Hid ((g.ports[i].take j).all (fun l => !(l.to==u))=true)/\x = .int .i64 j/\w.alloc (.cells #[.slice A g.ids.length k,.slice (some ⟨b,o,none⟩) g.ports.length k2] 29)=wr)
 case atStart=>exact ⟨0,by omega,rfl,rfl,rfl,rfl⟩
 case round =>
  obtain ⟨j,hj,rfl,HK,rfl,rfl⟩:=hrel
  by_cases hlt:j<g.ports[i].length
  .obtain ⟨b',o',rfl,hb',hl1,hl2⟩:=H.out.at_ j hlt
   by_cases he:(g.ports[i][j].to==u)=true
   .go_wp2
    go_ret;exact ⟨aA5 (aNh hlt HK.out he).symm,(Bel.refl _).alloc _⟩
   .have he':(g.ports[i][j].to==u)=false:=by simpa using he
    clear he;go_wp2
    go_roundg (g.ports[i].length-(j+1))
    case rel=>exact ⟨j+1,by omega,rfl,aAb hlt HK.out (by simp [he']),by go_num,rfl⟩
    case measure=>omega
  .go_wp2
   go_ret;exact ⟨aA5 (aOy (aAq (by omega) HK.out)).symm,(Bel.refl _).alloc _⟩
theorem aVo (v:Value) (g:Graph) (i:Nat) (u:Int) (w:World) (h:aAn w v g) (hi:i<g.ports.length) :
  Calls prog 105 #[v,.int .i64 i,.int .i64 u] w fun e w'=>e = .returned (.int .i64 (aDj g.ports[i] u))/\Bel w w':=by
 obtain ⟨A,k,A2,k2,rfl,_,_,_,hr,_,hm⟩:=h;obtain ⟨b,o,R,c1,rfl,hb,hc1,hL,hn,hm2⟩:=hr.at_ i hi;have H:=aA0 (fun w' (k:Bel w w')=>aGj.keep hL k);clear hL hr;unfold maxLen at hm hm2;go_enter func105,ntmps105;go_wp2
 go_loopg [7,8,15] g.ports[i].length (fun m _x _y z wr=>∃ j:Nat,j<=g.ports[i].length/\m=g.ports[i].length-j/\Hid ((g.ports[i].take j).all (fun l => !(l.to==u))=true)/\z = .int .i64 j/\Bel w wr)
 case atStart=>exact ⟨0,by omega,rfl,rfl,rfl,(Bel.refl w).alloc _⟩
 case round =>
  obtain ⟨j,hj,rfl,HK,rfl,HB⟩:=hrel
  by_cases hlt:j<g.ports[i].length
  .obtain ⟨b',o',rfl,hb',hl1,hl2⟩:=(H.out _ HB).at_ j hlt
   have HB2:=HB.alloc (.cells #[.int .i64 g.ports[i][j].to,.int .i64 g.ports[i][j].weight] 102)
   by_cases he:(g.ports[i][j].to==u)=true
   .go_wp2
    go_ret;exact ⟨aA5 (aNh hlt HK.out he).symm,HB2⟩
   .have he':(g.ports[i][j].to==u)=false:=by simpa using he
    clear he;go_wp2
    go_roundg (g.ports[i].length-(j+1))
    case rel=>exact ⟨j+1,by omega,rfl,aAb hlt HK.out (by simp [he']),by go_num,HB2⟩
    case measure=>omega
  .go_wp2
   go_ret;exact ⟨aA5 (aOy (aAq (by omega) HK.out)).symm,HB⟩
theorem aN6 {l m:List Int} {k:Nat} (h1:l.length<=k) (h2:m.length<=k) (h:l.take k=m.take k):l=m:=by rwa [List.take_of_length_le h1,List.take_of_length_le h2] at h
theorem aLq (A:Option Addr) (c:Nat) (l:List Int) (A2:Option Addr) (c2:Nat) (m:List Int) (w:World) (h1:aBr w A l.length l) (h2:aBr w A2 m.length m) (hl:l.length<=1000000) :
  Calls prog 47 #[.slice A l.length c,.slice A2 m.length c2] w fun e w'=>e = .returned (.bool (decide (l=m)))/\Bel w w':=by
 have H1:=aA0 (fun w' (k:Bel w w')=>aBr.keep h1 k);clear h1;have H2:=aA0 (fun w' (k:Bel w w')=>aBr.keep h2 k);clear h2
 by_cases hn:l.length=m.length
 .have HN:=aA0 hn
  rw [<- hn];clear hn;have hb:(l.length != l.length)=false:=by simp
  go_enter func47,ntmps47;go_wp2
  go_loopg [5] l.length (fun q x wr=>∃ j:Nat,j<=l.length/\q=l.length-j/\Hid (l.take j=m.take j)/\x = .int .i64 j/\Bel w wr)
  case atStart=>exact ⟨0,by omega,rfl,rfl,rfl,Bel.refl w⟩
  case round =>
   obtain ⟨j,hj,rfl,HK,rfl,HB⟩:=hrel
   by_cases hlt:j<l.length
   .have hlt2:j<m.length:=by rw [<- HN.out];exact hlt
    obtain ⟨b',o',rfl,hb',hl1⟩:=(H1.out _ HB).at_ j hlt;obtain ⟨b2,o2,rfl,hb2,hl2⟩:=(H2.out _ HB).at_ j hlt2;go_wp2
    go_quiet (fail)
    go_wp2
    .have he:(l[j] != m[j]'(by rw [<- HN.out];exact hlt))=true:=by assumption
     go_ret;refine ⟨aA2 ?_,HB.drewN _⟩
     symm
     simp only [decide_eq_false_iff_not]
     rintro rfl;simp at he
    .have he:(l[j] != m[j]'(by rw [<- HN.out];exact hlt))=false:=by assumption
     go_roundg (l.length-(j+1))
     case rel =>
      refine ⟨j+1,by omega,rfl,?_,by go_num,HB.drewN _⟩
      show l.take (j+1)=m.take (j+1)
      rw [List.take_succ_eq_append_getElem hlt,List.take_succ_eq_append_getElem (by rw [<- HN.out];exact hlt),HK.out,show l[j]=m[j]'(by rw [<- HN.out];exact hlt) by simpa using he]
     case measure=>omega
   .go_wp2
    go_ret;exact ⟨aA2 (by symm;simp only [decide_eq_true_eq];exact aN6 (k:=j) (by omega) (by rw [<- HN.out];omega) HK.out),HB⟩
 .have hb:(l.length != m.length)=true:=by simpa using hn
  have hb2:((l.length:Int) != (m.length:Int))=true:=by simp;omega
  go_enter func47,ntmps47;go_wp2;go_ret;exact ⟨aA2 (by symm;simp only [decide_eq_false_iff_not];rintro rfl;exact hn rfl),Bel.refl w⟩
def aTn (a:Int):Int:=max (-1073741824) (min a 1073741824)
def aW3 (a:Int):Bool:=decide (-1073741824<=a/\a<=1073741824)
def Num (a:Int):Prop := -1073741824<=a/\a<=1073741824
def aBg (b:Bool):Int:=if b then 1 else 0
theorem aUh (a:Int):Num (aTn a):=by unfold Num aTn;omega
theorem bAx {a:Int} (h:Num a):aTn a=a:=by unfold Num at h;unfold aTn;omega
theorem aNa {a:Int} (h:Num a):aW3 a=true:=by unfold aW3;unfold Num at h;exact decide_eq_true h
theorem aJi {a:Int} (h:aW3 a=true):Num a:=by unfold aW3 at h;unfold Num;exact of_decide_eq_true h
theorem aYa (b:Bool):aBg b=0∨aBg b=1:=by cases b <;> simp [aBg]
theorem aEl (b:Bool):Num (aBg b):=by unfold Num;have:=aYa b;omega
theorem aJo (b:Bool):aTn (aBg b)=aBg b:=bAx (aEl b)
def aHm (op a:Int):Int:=if op=18 then -a else aBg (a==0)
def aGc (op a:Int):Int × Int:=if (op≠18/\op≠19)∨aW3 a=false then (0,2) else (aHm op a,0)
def aE4 (a b:Int):Int:=if b=0 then 0 else if a.tmod b≠0/\(decide (a<0) != decide (b<0))=true then a.tdiv b-1 else a.tdiv b
theorem aL4 (a b:Int) (ha:Num a) : -1073741824<=a.tdiv b/\a.tdiv b<=1073741824:=by
 have h:=Int.natAbs_tdiv_le_natAbs a b;unfold Num at ha;omega
theorem aNj (a b:Int) (ha:Num a) : -1073741825<=aE4 a b/\aE4 a b<=1073741824:=by
 unfold aE4;split
 .omega
 .have:=aL4 a b ha
  split <;> omega
theorem aK7 (a b:Int) (ha:Num a) (hb : -1073741825<=b/\b<=1073741825) : -1152921505680588800<=a*b/\a*b<=1152921505680588800:=by
 have h:(a*b).natAbs<=1073741824*1073741825:=by
  rw [Int.natAbs_mul];unfold Num at ha;exact Nat.mul_le_mul (by omega) (by omega)
 omega
def aHg (op a b:Int):Int :=
 if op=30 then a*b
 else if op=31 then aE4 a b
 else if op=32 then (if b=0 then 0 else a-b*aE4 a b)
 else if op=33 then a+b
 else if op=34 then a-b
 else if op=35 then aBg (a==b)
 else if op=36 then aBg (a != b)
 else if op=37 then aBg (decide (a<b))
 else if op=38 then aBg (decide (a<=b))
 else if op=39 then aBg (decide (b<a))
 else if op=40 then aBg (decide (b<=a))
 else if op=41 then aBg (a != 0&&b != 0)
 else aBg (a != 0||b != 0)
def aDo (op a b:Int):Int:=aTn (aHg op a b)
def aCl (op a b:Int):Int × Int:=if op<30∨42<op∨aW3 a=false∨aW3 b=false then (0,2) else (aDo op a b,0)
def aD1 (l:List Int):Int:=(l.filter (fun a=>a != 0)).length
def aDw:List Int->Int->Int
 | [],_ => -1
 | a :: l,i=>if a≠0 then i else aDw l (i+1)
def minF (l:List Int):Int:=l.foldl min 1073741824
def aJp:List Int->Int->Int->Int × Int
 | [],g,s=>(g,s)
 | a :: l,g,s=>if g<a then aJp l a g else aJp l g (max s a)
def aZw (l:List Int):Int × Int:=aJp l (-1073741824) (-1073741824)
def sumF (l:List Int):Int:=l.foldl (·+·) 0
def aKn (l:List Int) (k:Int):Nat:=(l.filter (fun x=>decide (k<=x))).length
def aI2 (l:List Int):Nat->Int->Int
 | 0,k=>k
 | f+1,k=>if k∈l then aI2 l f (k+1) else k
def aZc (l:List Int):Int:=aI2 l (aKn l 0) 0
def aIt (op:Int) (l:List Int):Int :=
 if op=20 then aBg (aD1 l==l.length)
 else if op=21 then aBg (decide (0<aD1 l))
 else if op=22 then aD1 l
 else if op=23 then aDw l 0
 else if op=24 then minF l
 else if op=25 then (aZw l).1
 else if op=26 then aTn (sumF l)
 else if op=27 then aZc l
 else if op=28 then (aZw l).2
 else l.headD 0
theorem aMi (a:Int) (l:List Int):aD1 (a :: l)=(if a=0 then 0 else 1)+aD1 l:=by
 unfold aD1
 by_cases h:a=0
 .simp [h]
 .simp [h];omega
theorem aWr (l:List Int):0<=aD1 l/\aD1 l<=l.length:=by
 unfold aD1;have:=List.length_filter_le (fun a:Int=>a != 0) l;omega
theorem aM1 {l:List Int} {k:Int} (h:k∈l):aKn l (k+1)<aKn l k:=by
 unfold aKn
 induction l with
 | nil=>cases h
 | cons x l ih =>
  have hmono:∀ l:List Int,(l.filter (fun x=>decide (k+1<=x))).length<=(l.filter (fun x=>decide (k<=x))).length:=by
   intro l
   induction l with
   | nil=>simp
   | cons y l ih =>
    simp only [List.filter_cons]
    by_cases h1:k+1<=y <;> by_cases h2:k<=y <;> simp [h1,h2] <;> omega
  rcases List.mem_cons.1 h with e | e
  .subst e
   have:=hmono l;simp only [List.filter_cons]
   rw [if_neg (by simp;omega),if_pos (by simp)]
   simp;omega
  .have:=ih e
   simp only [List.filter_cons]
   by_cases h1:k+1<=x <;> by_cases h2:k<=x <;> simp [h1,h2] <;> omega
theorem aPk (l:List Int) (k:Int):aKn l k<=l.length:=List.length_filter_le _ _
theorem aZd (l:List Int):∀ (f:Nat) (k:Int),aKn l k<=f->k<=aI2 l f k/\aI2 l f k<=k+f/\aI2 l f k ∉ l/\∀ j,k<=j->j<aI2 l f k->j∈l:=by
 intro f
 induction f with
 | zero =>
  intro k h
  have hk:k ∉ l:=fun hm=>by have:=aM1 hm;omega
  exact ⟨Int.le_refl _,by simp [aI2],hk,fun j h1 h2=>by simp [aI2] at h2;omega⟩
 | succ f ih =>
  intro k h
  simp only [aI2]
  by_cases hk:k∈l
  .rw [if_pos hk]
   have hc:=aM1 hk;obtain ⟨i1,i2,i3,i4⟩:=ih (k+1) (by omega)
   refine ⟨by omega,by omega,i3,fun j h1 h2=>?_⟩
   by_cases e:j=k
   .subst e;exact hk
   .exact i4 j (by omega) h2
  .rw [if_neg hk]
   exact ⟨Int.le_refl _,by omega,hk,fun j h1 h2=>by omega⟩
theorem aF9 {a b:Int} {r:Int × Int} (h:r=(a,b)):Ending.returned (.tuple #[.int .i64 a,.int .i64 b]) = .returned (.tuple #[.int .i64 r.1,.int .i64 r.2]):=by rw [h]
theorem aE6 (a:Int) (w:World):Calls prog 155 #[.int .i64 a] w fun e w'=>e = .returned (.bool (aW3 a))/\w=w':=by
 go_enter func155,ntmps155;go_wp2
 all_goals
  go_ret;refine ⟨aA2 ?_,rfl⟩
  unfold aW3;rw [Bool.eq_iff_iff];simp;omega
theorem aIb (a:Int) (w:World):Calls prog 153 #[.int .i64 a] w fun e w'=>e = .returned (.int .i64 (aTn a))/\w=w':=by
 go_enter func153,ntmps153;go_wp2
 all_goals
  go_ret;refine ⟨aA5 ?_,rfl⟩
  unfold aTn;omega
theorem aDd (a:Int) (w:World):Calls prog 183 #[.int .i64 a] w fun e w'=>e = .returned (.int .i64 (aTn a))/\w=w':=by
 go_enter func183,ntmps183;go_wp2
 all_goals
  go_ret;refine ⟨aA5 ?_,rfl⟩
  unfold aTn;omega
theorem aDk (b:Bool) (w:World):Calls prog 181 #[.bool b] w fun e w'=>e = .returned (.int .i64 (aBg b))/\w=w':=by
 cases b
 all_goals
  go_enter func181,ntmps181;go_wp2;go_ret;exact ⟨rfl,rfl⟩
theorem aCd (b:Bool) (w:World):Calls prog 152 #[.bool b] w fun e w'=>e = .returned (.int .i64 (aBg b))/\w=w':=by
 cases b
 all_goals
  go_enter func152,ntmps152;go_wp2;go_ret;exact ⟨rfl,rfl⟩
theorem aLi (a b:Int) (w:World) (ha:Num a) (hb:Num b):Calls prog 184 #[.int .i64 a,.int .i64 b] w fun e w'=>e = .returned (.int .i64 (aE4 a b))/\w=w':=by
 by_cases h0:b=0
 .subst h0
  go_enter func184,ntmps184;go_wp2;go_ret;exact ⟨rfl,rfl⟩
 .have hz:(b==0)=false:=by simpa using h0
  have ht:=aL4 a b ha;obtain ⟨ht1,ht2⟩:=ht;have ha':=ha;unfold Num at ha hb;obtain ⟨ha1,ha2⟩:=ha;obtain ⟨hb1,hb2⟩:=hb
  by_cases hm:a.tmod b=0
  .have hmb:(a.tmod b != 0)=false:=by simpa using hm
   have HF:Hid (aE4 a b=a.tdiv b):=by
    show aE4 a b=_
    unfold aE4;rw [if_neg h0,if_neg (by simp [hm])]
   clear hm;go_enter func184,ntmps184;go_wp2;go_ret;exact ⟨aA5 HF.out.symm,rfl⟩
  .have hmb:(a.tmod b != 0)=true:=by simpa using hm
   cases hs:(decide (a<0) != decide (b<0)) with
   | true =>
    have HF:Hid (aE4 a b=a.tdiv b-1):=by
     show aE4 a b=_
     unfold aE4;rw [if_neg h0,if_pos ⟨hm,hs⟩]
    have hs':(!(decide (a<0)==decide (b<0)))=true:=hs;clear hm hs;go_enter func184,ntmps184;go_wp2;go_ret;exact ⟨aA5 HF.out.symm,rfl⟩
   | false =>
    have HF:Hid (aE4 a b=a.tdiv b):=by
     show aE4 a b=_
     unfold aE4;rw [if_neg h0,if_neg (by simp [hs])]
    have hs':(!(decide (a<0)==decide (b<0)))=false:=hs;clear hm hs;go_enter func184,ntmps184;go_wp2;go_ret;exact ⟨aA5 HF.out.symm,rfl⟩
theorem aI9 (a b:Int) (w:World) (ha:Num a) (hb:Num b):Calls prog 171 #[.int .i64 a,.int .i64 b] w fun e w'=>e = .returned (.int .i64 (aE4 a b))/\w=w':=by
 by_cases h0:b=0
 .subst h0
  go_enter func171,ntmps171;go_wp2;go_ret;exact ⟨rfl,rfl⟩
 .have hz:(b==0)=false:=by simpa using h0
  have ht:=aL4 a b ha;obtain ⟨ht1,ht2⟩:=ht;have ha':=ha;unfold Num at ha hb;obtain ⟨ha1,ha2⟩:=ha;obtain ⟨hb1,hb2⟩:=hb
  by_cases hm:a.tmod b=0
  .have hmb:(a.tmod b != 0)=false:=by simpa using hm
   have HF:Hid (aE4 a b=a.tdiv b):=by
    show aE4 a b=_
    unfold aE4;rw [if_neg h0,if_neg (by simp [hm])]
   clear hm;go_enter func171,ntmps171;go_wp2;go_ret;exact ⟨aA5 HF.out.symm,rfl⟩
  .have hmb:(a.tmod b != 0)=true:=by simpa using hm
   cases hs:(decide (a<0) != decide (b<0)) with
   | true =>
    have HF:Hid (aE4 a b=a.tdiv b-1):=by
     show aE4 a b=_
     unfold aE4;rw [if_neg h0,if_pos ⟨hm,hs⟩]
    have hs':(!(decide (a<0)==decide (b<0)))=true:=hs;clear hm hs;go_enter func171,ntmps171;go_wp2;go_ret;exact ⟨aA5 HF.out.symm,rfl⟩
   | false =>
    have HF:Hid (aE4 a b=a.tdiv b):=by
     show aE4 a b=_
     unfold aE4;rw [if_neg h0,if_neg (by simp [hs])]
    have hs':(!(decide (a<0)==decide (b<0)))=false:=hs;clear hm hs;go_enter func171,ntmps171;go_wp2;go_ret;exact ⟨aA5 HF.out.symm,rfl⟩
theorem aYd (op a:Int) (w:World) (ha:Num a):Calls prog 164 #[.int .i64 op,.int .i64 a] w fun e w'=>e = .returned (.int .i64 (aHm op a))/\w=w':=by
 unfold Num at ha;obtain ⟨ha1,ha2⟩:=ha
 by_cases h:op=18
 .subst h
  go_enter func164,ntmps164;go_wp2;go_ret;exact ⟨rfl,rfl⟩
 .have HF:Hid (aHm op a=aBg (a==0)):=by show aHm op a=_;unfold aHm;rw [if_neg h]
  have hb:(op==18)=false:=by simpa using h
  clear h;go_enter func164,ntmps164
  go_wp2_with (go_at_call 181;refine (aDk _ _).mono ?_;rintro e w' ⟨rfl,rfl⟩)
  go_ret;exact ⟨aA5 HF.out.symm,rfl⟩
def cmpF (op a b:Int):Bool :=
 if op=35 then a==b else if op=36 then a != b else if op=37 then decide (a<b) else if op=38 then decide (a<=b) else if op=39 then decide (b<a) else decide (b<=a)
theorem aQo (op a b:Int) (w:World):Calls prog 185 #[.int .i64 op,.int .i64 a,.int .i64 b] w fun e w'=>e = .returned (.bool (cmpF op a b))/\w=w':=by
 go_enter func185,ntmps185;go_wp2
 all_goals
  go_ret;refine ⟨aA2 ?_,rfl⟩
  simp only [beq_iff_eq,beq_eq_false_iff_ne,ne_eq] at *
  unfold cmpF
  repeat' split
  all_goals first | rfl | omega
theorem aUp (op a b:Int) (h1:35<=op) (h2:op<=40):aHg op a b=aBg (cmpF op a b):=by
 have:op=35∨op=36∨op=37∨op=38∨op=39∨op=40:=by omega
 rcases this with h | h | h | h | h | h <;> subst h <;> rfl
theorem aUq (op a b:Int) (w:World) (h1:30<=op) (h2:op<=42) (ha:Num a) (hb:Num b):Calls prog 166 #[.int .i64 op,.int .i64 a,.int .i64 b] w fun e w'=>e = .returned (.int .i64 (aDo op a b))/\w=w':=by
 have hq:=aNj a b ha;have hm:=aK7 a b ha (by unfold Num at hb;omega)
 have hm2:=aK7 b (aE4 a b) hb (by omega)
 obtain ⟨hq1,hq2⟩:=hq;obtain ⟨hm1,hm3⟩:=hm;obtain ⟨hm4,hm5⟩:=hm2;have HA:=aA0 ha;have HB:=aA0 hb;unfold Num at ha hb;obtain ⟨ha1,ha2⟩:=ha;obtain ⟨hb1,hb2⟩:=hb;have hcase:op=30∨op=31∨op=32∨op=33∨op=34∨(35<=op/\op<=40)∨op=41∨op=42:=by omega
 rcases hcase with h | h | h | h | h | h | h | h
 .subst h
  go_enter func166,ntmps166
  go_wp2_with (go_at_call 183;refine (aDd _ _).mono ?_;rintro e w' ⟨rfl,rfl⟩)
  go_ret;exact ⟨rfl,rfl⟩
 .subst h
  go_enter func166,ntmps166
  go_wp2_with (first
   | (go_at_call 183;refine (aDd _ _).mono ?_;rintro e w' ⟨rfl,rfl⟩)
   | (go_at_call 184;refine (aLi _ _ _ HA.out HB.out).mono ?_;rintro e w' ⟨rfl,rfl⟩))
  go_ret;exact ⟨rfl,rfl⟩
 .subst h
  by_cases h0:b=0
  .subst h0
   go_enter func166,ntmps166;go_wp2;go_ret;exact ⟨rfl,rfl⟩
  .have hz:(b==0)=false:=by simpa using h0
   have HF:Hid (aDo 32 a b=aTn (a-b*aE4 a b)):=by
    show aDo 32 a b=_
    unfold aDo aHg;simp [h0]
   clear h0;go_enter func166,ntmps166
   go_wp2_with (first
    | (go_at_call 183;refine (aDd _ _).mono ?_;rintro e w' ⟨rfl,rfl⟩)
    | (go_at_call 184;refine (aLi _ _ _ HA.out HB.out).mono ?_;rintro e w' ⟨rfl,rfl⟩))
   go_ret;exact ⟨aA5 HF.out.symm,rfl⟩
 .subst h
  go_enter func166,ntmps166
  go_wp2_with (go_at_call 183;refine (aDd _ _).mono ?_;rintro e w' ⟨rfl,rfl⟩)
  go_ret;exact ⟨rfl,rfl⟩
 .subst h
  go_enter func166,ntmps166
  go_wp2_with (go_at_call 183;refine (aDd _ _).mono ?_;rintro e w' ⟨rfl,rfl⟩)
  go_ret;exact ⟨rfl,rfl⟩
 .have HF:Hid (aDo op a b=aBg (cmpF op a b)):=by
   show aDo op a b=_
   unfold aDo;rw [aUp op a b h.1 h.2,aJo]
  have e1:(op==30)=false:=by simp;omega
  have e2:(op==31)=false:=by simp;omega
  have e3:(op==32)=false:=by simp;omega
  have e4:(op==33)=false:=by simp;omega
  have e5:(op==34)=false:=by simp;omega
  have e6:(op==41)=false:=by simp;omega
  have e7:(op==42)=false:=by simp;omega
  go_enter func166,ntmps166
  go_wp2_with (first
   | (go_at_call 185;refine (aQo _ _ _ _).mono ?_;rintro e w' ⟨rfl,rfl⟩)
   | (go_at_call 181;refine (aDk _ _).mono ?_;rintro e w' ⟨rfl,rfl⟩))
  go_ret;exact ⟨aA5 HF.out.symm,rfl⟩
 .subst h
  have HF:Hid (aDo 41 a b=aBg (a != 0&&b != 0)):=by show aDo 41 a b=_;exact aJo _
  by_cases h0:a=0
  .have hz:(a != 0)=false:=by simpa using h0
   rw [hz] at HF;clear h0;go_enter func166,ntmps166
   go_wp2_with (go_at_call 181;refine (aDk _ _).mono ?_;rintro e w' ⟨rfl,rfl⟩)
   go_ret;exact ⟨aA5 HF.out.symm,rfl⟩
  .have hz:(a != 0)=true:=by simpa using h0
   rw [hz] at HF;clear h0;go_enter func166,ntmps166
   go_wp2_with (go_at_call 181;refine (aDk _ _).mono ?_;rintro e w' ⟨rfl,rfl⟩)
   go_ret;exact ⟨aA5 HF.out.symm,rfl⟩
 .subst h
  have HF:Hid (aDo 42 a b=aBg (a != 0||b != 0)):=by show aDo 42 a b=_;exact aJo _
  by_cases h0:a=0
  .have hz:(a != 0)=false:=by simpa using h0
   rw [hz] at HF;clear h0;go_enter func166,ntmps166
   go_wp2_with (go_at_call 181;refine (aDk _ _).mono ?_;rintro e w' ⟨rfl,rfl⟩)
   go_ret;exact ⟨aA5 HF.out.symm,rfl⟩
  .have hz:(a != 0)=true:=by simpa using h0
   rw [hz] at HF;clear h0;go_enter func166,ntmps166
   go_wp2_with (go_at_call 181;refine (aDk _ _).mono ?_;rintro e w' ⟨rfl,rfl⟩)
   go_ret;exact ⟨aA5 HF.out.symm,rfl⟩
section
variable {P:Program} {ops:Array Oper} {Q:Exit->Act->World->Prop} {md:Region.Mode} {S:World->Prop} {L:Nat}
def aA6 (P:Program) (md:Region.Mode) (ops:Array Oper) (Q:Exit->Act->World->Prop) (S:World->Prop) (L:Nat):Nat->Array Bool->Act->World->Prop
 | 0,listed,a,w=>Region.ready md ops listed=[]/\Q .normal a w
 | fuel+1,listed,a,w=>(Region.ready md ops listed=[]->Q .normal a w) /\
   ∀ i∈Region.ready md ops listed,wpOp P ops Q i (fun a' w'=>(i≠L->S w')/\aA6 P md ops Q S L fuel (listed.setIfInBounds i true) a' w') a w
theorem aA6.any:∀ (fuel:Nat) (listed:Array Bool) (a:Act) (w:World),aA6 P md ops Q S L fuel listed a w->wpAny P md ops Q fuel listed a w
 | 0,_,_,_,h=>h
 | fuel+1,_,_,_,h=>⟨h.1,fun i hi=>wpOp_mono (fun a' w' k=>aA6.any fuel _ a' w' k.2) (h.2 i hi)⟩
def aLy (md:Region.Mode) (ops:Array Oper):Nat->List Nat->Bool
 | _,[]=>true
 | i,c :: cs=>(match ops[c]? with | some o=>o.after.any (fun e=>Region.binds md e&&e.on==i) | none=>false)&&aLy md ops c cs
def aEo (listed:Array Bool) (cs:List Nat):Bool:=cs.all fun c => !(listed.getD c true)
theorem aRf {listed:Array Bool} {j:Nat} (hj:j∈Region.ready md ops listed) (cs:List Nat):∀ i,listed.getD i true=false->aLy md ops i cs=true->aEo listed cs=true->j ∉ cs:=by
 induction cs with
 | nil=>intro i _ _ _ h;cases h
 | cons c cs ih =>
  intro i hi hw hu hm
  simp only [aLy,Bool.and_eq_true] at hw
  simp only [aEo,List.all_cons,Bool.and_eq_true] at hu
  have hc:listed.getD c true=false:=by simpa using hu.1
  rcases List.mem_cons.1 hm with rfl | hm
  .obtain ⟨_,oj,hoj,hall⟩:=mem_ready.1 hj
   have h1:=hw.1;rw [hoj] at h1;simp only [Array.any_eq_true'] at h1
   obtain ⟨e,he,hb⟩:=h1;simp only [Bool.and_eq_true,beq_iff_eq] at hb
   have h2:=hall e he hb.1;rw [hb.2] at h2
   rcases Nat.lt_or_ge i listed.size with h' | h'
   .simp [h'] at hi h2;rw [hi] at h2;cases h2
   .simp [Array.getElem?_eq_none h'] at h2
  .exact ih c hc hw.2 hu.2 hm
theorem aA6.first {i:Nat} {oi:Oper} {v:Value} (cs:List Nat) (hi:ops[i]?=some oi) (hsel:∀ (j:Nat) (o:Oper) cs b,ops[j]?=some o->o.op ≠ .select cs b)
  (hL:L∈cs) (hw:aLy md ops i cs=true)
  (hQ:∀ c a w,Q (.panic c) (a.put oi.dst v) w->Q (.panic c) a w) (fuel:Nat):∀ (listed:Array Bool) (a:Act) (w:World),
   (∀ j oj,ops[j]?=some oj->j≠i->listed.getD j true=false->(∀ e∈oj.after,Region.binds md e=true->e.on≠i)->oi.apart ops oj=true) ->
   i∈Region.ready md ops listed->aEo listed cs=true->YieldsIf P ops S oi v a->S w ->
   aA6 P md ops Q S L fuel (listed.setIfInBounds i true) (a.put oi.dst v) w->aA6 P md ops Q S L (fuel+1) listed a w:=by
 induction fuel with
 | zero =>
  intro listed a w _ hr _ hy hS H
  refine And.intro (fun h=>?_) (fun j hj=>?_)
  .rw [h] at hr;exact absurd hr (by simp)
  by_cases hji:j=i
  .subst hji;exact hy.wpOp hi hS ⟨fun _=>hS,H⟩
  .have:=ready_mono hj hji
   rw [H.1] at this;exact absurd this (by simp)
 | succ fuel ih =>
  intro listed a w hfree hr hun hy hS H
  refine And.intro (fun h=>?_) (fun j hj=>?_)
  .rw [h] at hr;exact absurd hr (by simp)
  by_cases hji:j=i
  .subst hji;exact hy.wpOp hi hS ⟨fun _=>hS,H⟩
  have hi0:=(mem_ready.1 hr).1;have hjc:=aRf hj cs i hi0 hw hun;have hjL:j≠L:=fun e=>hjc (e ▸ hL);obtain ⟨hjun,oj,hoj,hall⟩:=mem_ready.1 hj
  have hnot:∀ e∈oj.after,Region.binds md e=true->e.on≠i:=fun e he hb heq=>by
   have h1:=hall e he hb;rw [heq] at h1
   rcases Nat.lt_or_ge i listed.size with h' | h'
   .simp [h'] at hi0 h1;rw [hi0] at h1;cases h1
   .simp [Array.getElem?_eq_none h'] at h1
  have h2:=wpOp_putIf hoj (hfree j oj hoj hji hjun hnot) (fun cs b=>hsel i oi cs b hi) (fun cs b=>hsel j oj cs b hoj) hQ hy (H.2 j (ready_mono hj hji));refine wpOp_mono (fun a' w' h3=>?_) h2
  obtain ⟨hy',hS',hrest⟩:=h3;have hs':=hS' hjL;refine ⟨fun _=>hs',ih _ a' w' ?_ (ready_mono hr (Ne.symm hji)) ?_ hy' hs' (by rw [Array.setIfInBounds_comm _ _ hji];exact hrest)⟩
  .intro k ok hk hki hunk hno
   refine hfree k ok hk hki ?_ hno
   by_cases hjk:j=k
   .subst hjk;exact hjun
   .rw [getD_set_ne true hjk] at hunk;exact hunk
  .unfold aEo at hun ⊢
   rw [List.all_eq_true] at hun ⊢;intro c hc
   rw [getD_set_ne true (show j≠c from fun e=>hjc (by rw [e];exact hc))]
   exact hun c hc
theorem aA6.take {i:Nat} {oi:Oper} {v:Value} {fuel:Nat} {listed:Array Bool} {a:Act} {w:World} (cs:List Nat) (d:Option Tmp) (hi:ops[i]?=some oi) (hd:oi.dst=d)
  (hs:Region.noSelect ops=true) (hf:Region.free md ops listed i=true) (hr:(Region.ready md ops listed).contains i=true)
  (hL:cs.contains L=true) (hw:aLy md ops i cs=true) (hu:aEo listed cs=true)
  (hQ:∀ c a w,Q (.panic c) (a.put d v) w->Q (.panic c) a w) (hS:S w) (hy:YieldsIf P ops S oi v a)
  (h:aA6 P md ops Q S L fuel (listed.setIfInBounds i true) (a.put d v) w):aA6 P md ops Q S L (fuel+1) listed a w :=
 aA6.first cs hi (Region.noSelect_spec hs) (by simpa using hL) hw (by rw [hd];exact hQ) fuel listed a w (Region.free_spec hi hf) (by simpa using hr) hu hy hS (by rw [hd];exact h)
theorem aA6.one {i:Nat} {o:Oper} {fuel:Nat} {listed:Array Bool} {a:Act} {w:World} (hr:Region.ready md ops listed=[i]) (ho:ops[i]?=some o)
  (h:∀ K':Act->World->Prop,Shut (∀ a w,(i≠L->S w)->aA6 P md ops Q S L fuel (listed.setIfInBounds i true) a w->K' a w)->if Region.wanted o (yielded ops a.tmps)=true then Oper.wp P o a w K' Q else K' (a.put o.dst undef) w) :
  aA6 P md ops Q S L (fuel+1) listed a w:=by
 refine And.intro (fun h=>by rw [h] at hr;exact absurd hr (by simp)) (fun j hj=>?_)
 rw [hr] at hj;obtain rfl:j=i:=by simpa using hj
 exact wpOp_step ho (fun K' hK=>h K' (fun a w hS hW=>hK a w ⟨hS,hW⟩))
theorem aA6.done {listed:Array Bool} {a:Act} {w:World} (hr:Region.ready md ops listed=[]) (h:Q .normal a w):∀ fuel,aA6 P md ops Q S L fuel listed a w
 | 0=>⟨hr,h⟩
 | _+1=>⟨fun _=>h,by rw [hr];simp⟩
theorem aA6.start (S:World->Prop) (L:Nat) {id:Nat} {a:Act} {w:World} (hm:P.follows .mixedOrders=true)
  (h:aA6 P .any ops Q S L ops.size (Array.replicate ops.size false) a w.drew):(Code.region id ops true).wp P Q a w :=
 wp_region_any hm (aA6.any _ _ _ _ h)
end
end Go.Proofs.YtdcjnhoabbdanaaGreatDoor

