/- Merged. -/
import Derived.RangeFuncNested
import Derived.RangeFuncLeaves
import Derived.RangeFuncBox
import Derived.WideKeyArr
import Derived.Maps.RangeWalk
import Derived.Test.YtmifhmdghfbalaaGreatDoorZ05
import Derived.Deep.RegionHeld3
import Derived.OrdersIn
set_option linter.unusedSimpArgs false
set_option linter.unnecessarySimpa false
set_option linter.unusedVariables false
set_option maxRecDepth 100000
set_option maxHeartbeats 2000000
open Go.Proofs.Tryz

namespace Go.Proofs.YtmifhmdghfbalaaGreatDoor
open Go.RowKit
structure Agr (E:Nat->Prop) (A B:World):Prop where
 os:B.os=A.os
 tape:B.tape=A.tape
 output:B.output=A.output
 size:A.heap.size<=B.heap.size
 block:∀ k,k<A.heap.size->¬ E k->B.heap[k]?=A.heap[k]?
theorem Agr.refl (E:Nat->Prop) (A:World):Agr E A A:=⟨rfl,rfl,rfl,Nat.le_refl _,fun _ _ _=>rfl⟩
theorem Agr.mono {E E':Nat->Prop} {A B:World} (h:Agr E A B) (hE:∀ k,E k->E' k):Agr E' A B :=
 ⟨h.os,h.tape,h.output,h.size,fun k hk hn=>h.block k hk (fun e=>hn (hE k e))⟩
theorem Agr.trans {E:Nat->Prop} {A B C:World} (h:Agr E A B) (k:Agr E B C):Agr E A C :=
 ⟨k.os.trans h.os,k.tape.trans h.tape,k.output.trans h.output,Nat.le_trans h.size k.size,fun i hi hn=>(k.block i (Nat.lt_of_lt_of_le hi h.size) hn).trans (h.block i hi hn)⟩
theorem Agr.alloc (E:Nat->Prop) (A:World) (o:Obj):Agr E A (A.alloc o) :=
 ⟨rfl,rfl,rfl,by simp,fun k hk _=>Below.heap_alloc A o k hk⟩
theorem Agr.putObj {E:Nat->Prop} (A:World) (l:Nat) (o:Obj) (hl:E l):Agr E A (A.putObj l o) :=
 ⟨rfl,rfl,rfl,by simp,fun k _ hn=>World.putObj_heap_other (fun e=>hn (e ▸ hl))⟩
theorem Agr.setCell {E:Nat->Prop} (A:World) (p:Addr) (v:Value) (hl:E p.block):Agr E A (A.setCell p v) :=
 ⟨rfl,rfl,rfl,by simp,fun k _ hn=>Below.heap_setCell A p v k (fun e=>hn (e ▸ hl))⟩
def aBk (E:Nat->Prop) (A B:World):Prop:=A.heap.size<=B.heap.size/\∀ k,k<A.heap.size->E k->B.heap[k]?=A.heap[k]?
def orE (E R:Nat->Prop) (k:Nat):Prop:=E k∨R k
def bMl {α:Type} (E:Nat->Prop) (I:List α->World->Prop) (Ix:Code->List α->World->Prop) (xs:List α) (W:World):Exit->Act->World->Prop
 | .normal,_,W'=>aBk E W W'/\I xs W'
 | .ret,_,W'=>aBk E W W'/\Ix .ret xs W'
 | .exit id,_,W'=>aBk E W W'/\Ix (.exit id) xs W'
 | .goto t,_,W'=>aBk E W W'/\Ix (.goto t) xs W'
 | .panic _,_,_=>False
 | .outgrown,_,_=>False
def bHy {α:Type} (F:Fence) (n:Nat) (P:Program) (g:Nat) (lb:Array Value) (encs:α->Array Value) (Bs Rs:Nat->Prop) (S:List α) (w:World):Prop :=
 ∀ (l:Nat) (J Jx:List α->World->Prop) (W:World),Bel w W->(∀ s A B,J s A->Agr Bs A B->J s B)->(∀ s A B,Jx s A->Agr Bs A B->Jx s B) ->
  (∀ pre x W1,pre++[x] <+: S->J pre W1->YieldAt F (n-1) P l (encs x) W1 fun e W' =>
   (e = .returned (.bool true)/\J (pre++[x]) W'/\aBk (orE Bs Rs) W1 W')∨(e = .returned (.bool false)/\Jx (pre++[x]) W')) ->
  J [] W ->
  CallsIn F n P g (#[.func (.yield l) #[] #[]]++lb) W fun e W'=>(∃ v,e = .returned v)/\(J S W'∨∃ pre,pre <+: S/\Jx pre W')
variable {F:Fence} {n:Nat} {P:Program}
theorem aFc {α:Type} {g:Operand} {ps:Array Tmp} {assign body:Code} {Q:Exit->Act->World->Prop} {a:Act} {w:World}
  (hro:F.round=none) (h1:1<=n) {gf:Nat} {lb:Array Value} (hg:a.eval g = .func (.func gf) #[] lb) (hFg:F.fn gf) (eg:∀ args w,(callFunc gf args).run P w = .ok (.enter gf args) w)
  {encs:α->Array Value} {Bs Rs:Nat->Prop} {S:List α} (hseq:bHy F (n-1) P gf lb encs Bs Rs S w) (hBs:∀ k,Bs k->k<w.heap.size) (hRs:∀ k,Rs k->k<w.heap.size) (hps:∀ x,(encs x).size=ps.size)
  (E:Nat->Prop) (hE:∀ k,E k↔Bs k∨k=w.heap.size∨k=w.heap.size+1)
  (I:List α->World->Prop) (Ix:Code->List α->World->Prop) (hI:∀ s A B,I s A->Agr E A B->I s B) (hIx:∀ c s A B,Ix c s A->Agr E A B->Ix c s B) (h0:I [] w)
  (Ax:α->Act->World->Prop) (hAx:∀ x a' A B,Ax x a' A->Agr E A B->Ax x a' B)
  (hassign:∀ (pre:List α) (x:α) (W:World) (K:Act->World->Prop),pre++[x] <+: S->I pre W->w.heap.size+1<W.heap.size->(∀ a' W',aBk (orE E Rs) W W'->I pre W'->Ax x a' W'->K a' W') ->
   assign.wpIn (F.inRound (w.heap.size+1)) (n-1-1) P (Exit.then K (fun _ _ _=>False)) { tmps:=(ps.zip (encs x)).foldl (fun t (p,v)=>t.setIfInBounds p v) a.tmps,defers:=[] } W)
  (hbody:∀ (pre:List α) (x:α) (a':Act) (W:World),pre++[x] <+: S->I pre W->Ax x a' W->w.heap.size+1<W.heap.size->(∃ r,W.heap[w.heap.size+1]?=some (.loop r)) ->
   body.wpIn (F.inRound (w.heap.size+1)) (n-1-1) P (bMl (orE E Rs) I Ix (pre++[x]) W) a' W)
  (hdone:∀ (W:World),I S W->W.heap[w.heap.size]?=some (.deferred (some []))->Q .normal { a with defers:={ target := .collected w.heap.size,args:=#[] } :: a.defers } W)
  (hstop:∀ (c:Code) (pre:List α) (W:World),pre <+: S->Ix c pre W->W.heap[w.heap.size]?=some (.deferred (some []))->c.wpIn F n P Q { a with defers:={ target := .collected w.heap.size,args:=#[] } :: a.defers } W) :
  (Code.rangeFunc g ps assign body).wpIn F n P Q a w:=by
 have El:E (w.heap.size+1):=(hE _).2 (.inr (.inr rfl));have Ed:E w.heap.size:=(hE _).2 (.inr (.inl rfl));have nl:¬ Bs (w.heap.size+1):=fun h=>by have:=hBs _ h;omega
 have nek:∀ k,orE Bs Rs k->k<w.heap.size:=fun k h=>h.elim (hBs k) (hRs k);have up:∀ k,orE Bs Rs k->orE E Rs k:=fun k h=>h.elim (fun h => .inl ((hE k).2 (.inl h))) .inr;have nd:¬ Bs w.heap.size:=fun h=>by have:=hBs _ h;omega
 have sub:∀ {A B:World},Agr Bs A B->Agr E A B:=fun h=>h.mono (fun k hk=>(hE k).2 (.inl hk));refine wpIn_rangeFunc fun fn hfn=>?_
 rw [hro];obtain ⟨rec,hrec⟩:∃ rec:LoopState->Option Code->Loop,rec=fun st pe=>{ state:=st,pending:=pe,fn,tmps:=a.tmps,params:=ps,assign,body,defers:=w.heap.size }:=⟨_,rfl⟩
 have hL1:((w.alloc (.deferred (some []))).alloc (.loop (rec .ready none))).heap[w.heap.size+1]?=some (.loop (rec .ready none)):=by
  have:=World.alloc_heap_new (w.alloc (.deferred (some []))) (.loop (rec .ready none));rwa [World.size_alloc] at this
 have hK1:((w.alloc (.deferred (some []))).alloc (.loop (rec .ready none))).heap[w.heap.size]?=some (.deferred (some [])) :=
  (Below.heap_alloc _ _ _ (by simp)).trans (World.alloc_heap_new w _)
 have hI1:I [] ((w.alloc (.deferred (some []))).alloc (.loop (rec .ready none))):=hI _ _ _ (hI _ _ _ h0 (Agr.alloc E w _)) (Agr.alloc E _ _);have hb1:Bel w ((w.alloc (.deferred (some []))).alloc (.loop (rec .ready none))):=((Bel.refl w).alloc _).alloc _
 refine ⟨w.heap.size+1,[{ target := .collected w.heap.size,args:=#[] }],_,{ target := .fn (.func gf) lb,args:=#[.func (.yield (w.heap.size+1)) #[] #[]] },_,gf,
  #[.func (.yield (w.heap.size+1)) #[] #[]]++lb,_,by rw [run_enterLoop_outer],by simp only [resolve,hg];simp [go_sem];rfl,fun f' hf'=>by simp [Target.leads] at hf';subst hf';exact hFg,by simp [invoke,go_sem,eg];rfl,fun _=>h1,?_⟩
 revert hL1 hK1 hI1 hb1
 rw [hrec];intro hL1 hK1 hI1 hb1
 refine (hseq (w.heap.size+1)
  (fun pre W=>I pre W/\W.heap[w.heap.size+1]?=some (.loop (rec .ready none))/\W.heap[w.heap.size]?=some (.deferred (some [])))
  (fun pre W=>∃ c,Ix c pre W/\W.heap[w.heap.size+1]?=some (.loop (rec .done (some c)))/\W.heap[w.heap.size]?=some (.deferred (some [])))
  _ hb1 (fun s A B hs hg'=>⟨hI _ _ _ hs.1 (sub hg'),(hg'.block _ (Array.getElem?_eq_some_iff.1 hs.2.1).1 nl).trans hs.2.1,(hg'.block _ (Array.getElem?_eq_some_iff.1 hs.2.2).1 nd).trans hs.2.2⟩)
  (fun s A B hs hg'=>by
   obtain ⟨c,hc,hl,hk⟩:=hs
   exact ⟨c,hIx _ _ _ _ hc (sub hg'),(hg'.block _ (Array.getElem?_eq_some_iff.1 hl).1 nl).trans hl,(hg'.block _ (Array.getElem?_eq_some_iff.1 hk).1 nd).trans hk⟩)
  ?_ ⟨hI1,by rw [hrec];exact hL1,hK1⟩).mono ?_
 .-- one round
  rintro pre x W hpre ⟨hi,hl,hk⟩;have hlt:=(Array.getElem?_eq_some_iff.1 hl).1;have hy:=run_yield (P:=P) (args:=encs x) hl (by rw [hrec];exact hps x)
  rw [hrec] at hy;refine ⟨fn,_,assign,body,hy,roundIn_of_wpIn hfn (hassign pre x W _ hpre hi hlt ?_)⟩
  clear hy;intro a' Wa hsa hia hax
  have hl2:=(hsa.2 _ hlt (.inl El)).trans hl;have hk2:=(hsa.2 _ (by omega) (.inl Ed)).trans hk
  have hlta:=(Array.getElem?_eq_some_iff.1 hl2).1;refine ⟨_,run_beginRound hl2 (by rw [hrec]),?_⟩
  have agb:Agr E Wa (Wa.putObj (w.heap.size+1) (.loop { rec .ready none with state := .busy })):=Agr.putObj _ _ _ El
  have hl3:(Wa.putObj (w.heap.size+1) (.loop { rec .ready none with state := .busy })).heap[w.heap.size+1]?=some (.loop { rec .ready none with state := .busy }):=World.putObj_heap_same hlta
  have hk3:(Wa.putObj (w.heap.size+1) (.loop { rec .ready none with state := .busy })).heap[w.heap.size]?=some (.deferred (some [])):=(World.putObj_heap_other (by omega)).trans hk2
  have hsz:=agb.size
  have hsb:aBk (orE Bs Rs) W (Wa.putObj (w.heap.size+1) (.loop { rec .ready none with state := .busy })) :=
   ⟨Nat.le_trans hsa.1 hsz,fun k hk hB=>(World.putObj_heap_other (by have:=nek k hB;omega)).trans (hsa.2 k hk (up k hB))⟩
  refine wpIn_mono (hbody pre x a' _ hpre (hI _ _ _ hia agb) (hAx _ _ _ _ hax agb) (Nat.lt_of_lt_of_le hlta hsz) ⟨_,hl3⟩) ?_
  generalize Wa.putObj (w.heap.size+1) (.loop { rec .ready none with state := .busy })=Wb at *
  have fin:∀ (jump:Option Code) (W3:World),aBk (orE E Rs) Wb W3 ->
    (Instr.endRound (w.heap.size+1) jump).run P W3 = .ok (.bool jump.isNone) (W3.putObj (w.heap.size+1) (.loop (rec (if jump.isNone then .ready else .done) jump))) /\
    (W3.putObj (w.heap.size+1) (.loop (rec (if jump.isNone then .ready else .done) jump))).heap[w.heap.size+1]?=some (.loop (rec (if jump.isNone then .ready else .done) jump)) /\
    (W3.putObj (w.heap.size+1) (.loop (rec (if jump.isNone then .ready else .done) jump))).heap[w.heap.size]?=some (.deferred (some [])):=fun jump W3 h3=>by
   have hl4:=(h3.2 _ (by omega) (.inl El)).trans hl3
   have:=run_endRound (P:=P) jump hl4;rw [hrec] at this ⊢;exact ⟨this,World.putObj_heap_same (Array.getElem?_eq_some_iff.1 hl4).1,(World.putObj_heap_other (by omega)).trans ((h3.2 _ (by omega) (.inl Ed)).trans hk3)⟩
  rintro e a3 W3 hp;cases e with
  | normal =>
   obtain ⟨h3,hi3⟩:=hp;obtain ⟨hr,hl4,hk4⟩:=fin none W3 h3
   exact ⟨_,_,hr,.inl ⟨rfl,⟨hI _ _ _ hi3 (Agr.putObj _ _ _ El),hl4,hk4⟩,Nat.le_trans hsb.1 (Nat.le_trans h3.1 (Agr.putObj (E:=E) W3 _ _ El).size),fun k hk hB =>
    (World.putObj_heap_other (by have:=nek k hB;omega)).trans ((h3.2 k (Nat.lt_of_lt_of_le hk hsb.1) (up k hB)).trans (hsb.2 k hk hB))⟩⟩
  | ret =>
   obtain ⟨h3,hi3⟩:=hp;obtain ⟨hr,hl4,hk4⟩:=fin (some .ret) W3 h3;exact ⟨_,_,hr,.inr ⟨rfl,.ret,hIx _ _ _ _ hi3 (Agr.putObj _ _ _ El),hl4,hk4⟩⟩
  | exit id =>
   obtain ⟨h3,hi3⟩:=hp;obtain ⟨hr,hl4,hk4⟩:=fin (some (.exit id)) W3 h3;exact ⟨_,_,hr,.inr ⟨rfl,.exit id,hIx _ _ _ _ hi3 (Agr.putObj _ _ _ El),hl4,hk4⟩⟩
  | goto t =>
   obtain ⟨h3,hi3⟩:=hp;obtain ⟨hr,hl4,hk4⟩:=fin (some (.goto t)) W3 h3;exact ⟨_,_,hr,.inr ⟨rfl,.goto t,hIx _ _ _ _ hi3 (Agr.putObj _ _ _ El),hl4,hk4⟩⟩
  | panic ch=>exact hp.elim
  | outgrown=>exact hp.elim
 .-- behind the iterator
  rintro e W2 ⟨⟨v,rfl⟩,(⟨hi,hl,hk⟩ | ⟨pre,hSp,c,hi,hl,hk⟩)⟩
  .exact ⟨none,_,by have:=run_endLoop (P:=P) hl (by rw [hrec];simp);rw [hrec] at this;exact this,hdone _ (hI _ _ _ hi (Agr.putObj _ _ _ El)) ((World.putObj_heap_other (by omega)).trans hk)⟩
  .exact ⟨some c,_,by have:=run_endLoop (P:=P) hl (by rw [hrec];simp);rw [hrec] at this;exact this,hstop c pre _ hSp (hIx _ _ _ _ hi (Agr.putObj _ _ _ El)) ((World.putObj_heap_other (by omega)).trans hk)⟩
theorem aZ9 {α:Type} {g:Operand} {ps:Array Tmp} {assign body:Code} {Q:Exit->Act->World->Prop} {a:Act} {w:World}
  {l₀:Nat} {r₀:Loop} (hro:F.round=some l₀) (hl₀:w.heap[l₀]?=some (.loop r₀)) (h1:1<=n) {gf:Nat} {lb:Array Value} (hg:a.eval g = .func (.func gf) #[] lb) (hFg:F.fn gf) (eg:∀ args w,(callFunc gf args).run P w = .ok (.enter gf args) w)
  {encs:α->Array Value} {Bs Rs:Nat->Prop} {S:List α} (hseq:bHy F (n-1) P gf lb encs Bs Rs S w) (hBs:∀ k,Bs k->k<w.heap.size) (hRs:∀ k,Rs k->k<w.heap.size) (hps:∀ x,(encs x).size=ps.size)
  (E:Nat->Prop) (hE:∀ k,E k↔Bs k∨k=w.heap.size)
  (I:List α->World->Prop) (Ix:Code->List α->World->Prop) (hI:∀ s A B,I s A->Agr E A B->I s B) (hIx:∀ c s A B,Ix c s A->Agr E A B->Ix c s B) (h0:I [] w)
  (Ax:α->Act->World->Prop) (hAx:∀ x a' A B,Ax x a' A->Agr E A B->Ax x a' B)
  (hassign:∀ (pre:List α) (x:α) (W:World) (K:Act->World->Prop),pre++[x] <+: S->I pre W->w.heap.size<W.heap.size->(∀ a' W',aBk (orE E Rs) W W'->I pre W'->Ax x a' W'->K a' W') ->
   assign.wpIn (F.inRound (w.heap.size)) (n-1-1) P (Exit.then K (fun _ _ _=>False)) { tmps:=(ps.zip (encs x)).foldl (fun t (p,v)=>t.setIfInBounds p v) a.tmps,defers:=[] } W)
  (hbody:∀ (pre:List α) (x:α) (a':Act) (W:World),pre++[x] <+: S->I pre W->Ax x a' W->w.heap.size<W.heap.size->(∃ r,W.heap[w.heap.size]?=some (.loop r)) ->
   body.wpIn (F.inRound (w.heap.size)) (n-1-1) P (bMl (orE E Rs) I Ix (pre++[x]) W) a' W)
  (hdone:∀ (W:World),I S W->Q .normal a W)
  (hstop:∀ (c:Code) (pre:List α) (W:World),pre <+: S->Ix c pre W->c.wpIn F n P Q a W) :
  (Code.rangeFunc g ps assign body).wpIn F n P Q a w:=by
 have El:E (w.heap.size):=(hE _).2 (.inr rfl);have nl:¬ Bs (w.heap.size):=fun h=>by have:=hBs _ h;omega
 have nek:∀ k,orE Bs Rs k->k<w.heap.size:=fun k h=>h.elim (hBs k) (hRs k);have up:∀ k,orE Bs Rs k->orE E Rs k:=fun k h=>h.elim (fun h => .inl ((hE k).2 (.inl h))) .inr;have sub:∀ {A B:World},Agr Bs A B->Agr E A B:=fun h=>h.mono (fun k hk=>(hE k).2 (.inl hk));refine wpIn_rangeFunc fun fn hfn=>?_
 rw [hro];obtain ⟨rec,hrec⟩:∃ rec:LoopState->Option Code->Loop,rec=fun st pe=>{ state:=st,pending:=pe,fn,tmps:=a.tmps,params:=ps,assign,body,defers:=r₀.defers }:=⟨_,rfl⟩
 have hL1:(w.alloc (.loop (rec .ready none))).heap[w.heap.size]?=some (.loop (rec .ready none)) :=
  World.alloc_heap_new w _
 have hI1:I [] (w.alloc (.loop (rec .ready none))):=hI _ _ _ h0 (Agr.alloc E w _);have hb1:Bel w (w.alloc (.loop (rec .ready none))):=(Bel.refl w).alloc _
 refine ⟨w.heap.size,[],_,{ target := .fn (.func gf) lb,args:=#[.func (.yield (w.heap.size)) #[] #[]] },_,gf,
  #[.func (.yield (w.heap.size)) #[] #[]]++lb,_,by rw [run_enterLoop_inner hl₀],by simp only [resolve,hg];simp [go_sem];rfl,fun f' hf'=>by simp [Target.leads] at hf';subst hf';exact hFg,by simp [invoke,go_sem,eg];rfl,fun _=>h1,?_⟩
 revert hL1 hI1 hb1
 rw [hrec];intro hL1 hI1 hb1
 refine (hseq (w.heap.size)
  (fun pre W=>I pre W/\W.heap[w.heap.size]?=some (.loop (rec .ready none)))
  (fun pre W=>∃ c,Ix c pre W/\W.heap[w.heap.size]?=some (.loop (rec .done (some c))))
  _ hb1 (fun s A B hs hg'=>⟨hI _ _ _ hs.1 (sub hg'),(hg'.block _ (Array.getElem?_eq_some_iff.1 hs.2).1 nl).trans hs.2⟩)
  (fun s A B hs hg'=>by
   obtain ⟨c,hc,hl⟩:=hs
   exact ⟨c,hIx _ _ _ _ hc (sub hg'),(hg'.block _ (Array.getElem?_eq_some_iff.1 hl).1 nl).trans hl⟩)
  ?_ ⟨hI1,by rw [hrec];exact hL1⟩).mono ?_
 .-- one round
  rintro pre x W hpre ⟨hi,hl⟩;have hlt:=(Array.getElem?_eq_some_iff.1 hl).1;have hy:=run_yield (P:=P) (args:=encs x) hl (by rw [hrec];exact hps x)
  rw [hrec] at hy;refine ⟨fn,_,assign,body,hy,roundIn_of_wpIn hfn (hassign pre x W _ hpre hi hlt ?_)⟩
  clear hy;intro a' Wa hsa hia hax
  have hl2:=(hsa.2 _ hlt (.inl El)).trans hl;have hlta:=(Array.getElem?_eq_some_iff.1 hl2).1;refine ⟨_,run_beginRound hl2 (by rw [hrec]),?_⟩
  have agb:Agr E Wa (Wa.putObj (w.heap.size) (.loop { rec .ready none with state := .busy })):=Agr.putObj _ _ _ El
  have hl3:(Wa.putObj (w.heap.size) (.loop { rec .ready none with state := .busy })).heap[w.heap.size]?=some (.loop { rec .ready none with state := .busy }):=World.putObj_heap_same hlta
  have hsz:=agb.size
  have hsb:aBk (orE Bs Rs) W (Wa.putObj (w.heap.size) (.loop { rec .ready none with state := .busy })) :=
   ⟨Nat.le_trans hsa.1 hsz,fun k hk hB=>(World.putObj_heap_other (by have:=nek k hB;omega)).trans (hsa.2 k hk (up k hB))⟩
  refine wpIn_mono (hbody pre x a' _ hpre (hI _ _ _ hia agb) (hAx _ _ _ _ hax agb) (Nat.lt_of_lt_of_le hlta hsz) ⟨_,hl3⟩) ?_
  generalize Wa.putObj (w.heap.size) (.loop { rec .ready none with state := .busy })=Wb at *
  have fin:∀ (jump:Option Code) (W3:World),aBk (orE E Rs) Wb W3 ->
    (Instr.endRound (w.heap.size) jump).run P W3 = .ok (.bool jump.isNone) (W3.putObj (w.heap.size) (.loop (rec (if jump.isNone then .ready else .done) jump))) /\
    (W3.putObj (w.heap.size) (.loop (rec (if jump.isNone then .ready else .done) jump))).heap[w.heap.size]?=some (.loop (rec (if jump.isNone then .ready else .done) jump)):=fun jump W3 h3=>by
   have hl4:=(h3.2 _ (by omega) (.inl El)).trans hl3
   have:=run_endRound (P:=P) jump hl4;rw [hrec] at this ⊢;exact ⟨this,World.putObj_heap_same (Array.getElem?_eq_some_iff.1 hl4).1⟩
  rintro e a3 W3 hp;cases e with
  | normal =>
   obtain ⟨h3,hi3⟩:=hp;obtain ⟨hr,hl4⟩:=fin none W3 h3
   exact ⟨_,_,hr,.inl ⟨rfl,⟨hI _ _ _ hi3 (Agr.putObj _ _ _ El),hl4⟩,Nat.le_trans hsb.1 (Nat.le_trans h3.1 (Agr.putObj (E:=E) W3 _ _ El).size),fun k hk hB =>
    (World.putObj_heap_other (by have:=nek k hB;omega)).trans ((h3.2 k (Nat.lt_of_lt_of_le hk hsb.1) (up k hB)).trans (hsb.2 k hk hB))⟩⟩
  | ret =>
   obtain ⟨h3,hi3⟩:=hp;obtain ⟨hr,hl4⟩:=fin (some .ret) W3 h3;exact ⟨_,_,hr,.inr ⟨rfl,.ret,hIx _ _ _ _ hi3 (Agr.putObj _ _ _ El),hl4⟩⟩
  | exit id =>
   obtain ⟨h3,hi3⟩:=hp;obtain ⟨hr,hl4⟩:=fin (some (.exit id)) W3 h3;exact ⟨_,_,hr,.inr ⟨rfl,.exit id,hIx _ _ _ _ hi3 (Agr.putObj _ _ _ El),hl4⟩⟩
  | goto t =>
   obtain ⟨h3,hi3⟩:=hp;obtain ⟨hr,hl4⟩:=fin (some (.goto t)) W3 h3;exact ⟨_,_,hr,.inr ⟨rfl,.goto t,hIx _ _ _ _ hi3 (Agr.putObj _ _ _ El),hl4⟩⟩
  | panic ch=>exact hp.elim
  | outgrown=>exact hp.elim
 .-- behind the iterator
  rintro e W2 ⟨⟨v,rfl⟩,(⟨hi,hl⟩ | ⟨pre,hSp,c,hi,hl⟩)⟩
  .exact ⟨none,_,by have:=run_endLoop (P:=P) hl (by rw [hrec];simp);rw [hrec] at this;exact this,hdone _ (hI _ _ _ hi (Agr.putObj _ _ _ El))⟩
  .exact ⟨some c,_,by have:=run_endLoop (P:=P) hl (by rw [hrec];simp);rw [hrec] at this;exact this,hstop c pre _ hSp (hIx _ _ _ _ hi (Agr.putObj _ _ _ El))⟩
theorem aF5 {P:Program} {f:FuncId} {fn:Func} {c:Code} {args:Array Value} {w:World} {R:Ending->World->Prop}
  (hf:P.funcs[f]?=some fn) (hb:fn.body=some c)
  (h:c.wp P (bodyPostM Fence.wide 5 P fn R) { tmps:=args++Array.replicate (fn.ntmps-args.size) undef,defers:=[] } w):Calls P f args w R :=
 callsIn_wide.1 (callsIn_of_wp_marks hf hb trivial (wpIn_wide.2 h) rfl)
def aDg (B:Nat) (W:World):List Deferred->Prop
 | []=>True
 | d :: ds=>(∃ D,d={ target := .collected D,args:=#[] }/\B<=D/\W.heap[D]?=some (.deferred (some []))/\∀ d'∈ds,∀ D',d'.target = .collected D'->D' < D)/\aDg B W ds
theorem aDg.nil (B:Nat) (W:World):aDg B W []:=trivial
def bHw (B:Nat) (W:World) (k:Nat):Prop:=B<=k/\∃ x,W.heap[k]?=some (.deferred x)
theorem aDg.keep {B:Nat} {W W':World}:∀ {ds:List Deferred},aDg B W ds->(∀ D,B<=D->W.heap[D]?=some (.deferred (some []))->W'.heap[D]?=some (.deferred (some [])))->aDg B W' ds
 | [],_,_=>trivial
 | _ :: _,h,hk=>by
  obtain ⟨⟨D,e,h1,h2,h3⟩,h4⟩:=h;exact ⟨⟨D,e,h1,hk D h1 h2,h3⟩,h4.keep hk⟩
theorem aDg.below {B:Nat} {W:World}:∀ {ds:List Deferred},aDg B W ds->∀ d∈ds,∀ D,d.target = .collected D->B<=D/\D<W.heap.size
 | [],_,_,hd,_,_=>by cases hd
 | d0 :: ds,h,d,hd,D,e=>by
  obtain ⟨⟨D0,e0,h1,h2,h3⟩,h4⟩:=h
  rcases List.mem_cons.1 hd with rfl | hd
  .subst e0
   injection e with e
   subst e;exact ⟨h1,(Array.getElem?_eq_some_iff.1 h2).1⟩
  .exact h4.below d hd D e
theorem aDg.push {B:Nat} {W:World} {ds:List Deferred} {D:Nat} (h:aDg B W ds) (hB:B<=D) (hD:W.heap[D]?=some (.deferred (some []))) (hlt:∀ d'∈ds,∀ D',d'.target = .collected D'->D' < D):aDg B W ({ target := .collected D,args:=#[] } :: ds) :=
 ⟨⟨D,rfl,hB,hD,hlt⟩,h⟩
theorem aDg.shut {B D:Nat} {W:World}:∀ {ds:List Deferred},aDg B W ds->(∀ d'∈ds,∀ D',d'.target = .collected D'->D' < D)->aDg B (W.putObj D (.deferred none)) ds
 | [],_,_=>trivial
 | d :: ds,h,hl=>by
  obtain ⟨⟨D0,e,h1,h2,h3⟩,h4⟩:=h;have:=hl d (List.mem_cons_self ..) D0 (by rw [e])
  exact ⟨⟨D0,e,h1,(World.putObj_heap_other (by omega)).trans h2,h3⟩,h4.shut (fun d' hd=>hl d' (List.mem_cons_of_mem _ hd))⟩
theorem aCe {P:Program} {fn:Func} {tmps:Array Value} {R:Ending->World->Prop} {F:Fence} {n B:Nat}:∀ {ds:List Deferred} {W:World},aDg B W ds ->
  (∀ W',Agr (bHw B W) W W'->W'.heap.size=W.heap.size->∃ v,(results fn tmps).run P W' = .ok v W'/\R (.returned v) W')->LeavesInM F n P fn tmps R ds .returning W
 | [],W,_,hR=>hR W (Agr.refl _ W) rfl
 | d :: ds,W,h,hR=>by
  obtain ⟨⟨D,rfl,h1,h2,h3⟩,h4⟩:=h;refine ⟨by simp,.inl ⟨D,_,rfl,run_takeDeferred h2,?_⟩⟩
  have hlt:=(Array.getElem?_eq_some_iff.1 h2).1;refine aCe (B:=B) (h4.shut h3) ?_
  intro W' hA hs
  have hE:∀ k,bHw B (W.putObj D (.deferred none)) k->bHw B W k:=by
   rintro k ⟨hk,x,hx⟩
   by_cases hkD:k=D
   .subst hkD;exact ⟨hk,_,h2⟩
   .rw [World.putObj_heap_other hkD] at hx;exact ⟨hk,x,hx⟩
  have hsz:(W.putObj D (.deferred none)).heap.size=W.heap.size:=by simp
  exact hR W' ((Agr.putObj W D _ ⟨h1,_,h2⟩).trans (hA.mono hE)) (by omega)
theorem Agr.cell {E:Nat->Prop} {A B:World} (h:Agr E A B) {k o:Nat} (hk:k<A.heap.size) (hE:¬ E k):B.cell? ⟨k,o,none⟩=A.cell? ⟨k,o,none⟩ :=
 World.cell?_of_block (h.block k hk hE)
theorem Agr.cellD {B0:Nat} {A B:World} (h:Agr (bHw B0 A) A B) {k o:Nat} {v:Value} (hc:A.cell? ⟨k,o,none⟩=some v):B.cell? ⟨k,o,none⟩=some v:=by
 have hne:¬ bHw B0 A k:=by
  rintro ⟨_,x,hx⟩;simp [World.cell?,hx] at hc
 have hk:k<A.heap.size:=by
  rcases Nat.lt_or_ge k A.heap.size with h | h
  .exact h
  .simp [World.cell?,Array.getElem?_eq_none h] at hc
 rw [h.cell hk hne];exact hc
theorem Agr.bel {w A C:World} (hb:Bel w A) (h:Agr (bHw w.heap.size A) A C):Bel w C :=
 ⟨h.os.trans hb.os,h.tape.trans hb.tape,h.output.trans hb.output,Nat.le_trans hb.size h.size,fun k hk=>(h.block k (Nat.lt_of_lt_of_le hk hb.size) (fun e=>by have:=e.1;omega)).trans (hb.block k hk)⟩
theorem Agr.belE {E:Nat->Prop} {w A C:World} (hb:Bel w A) (h:Agr E A C) (hE:∀ k,E k->w.heap.size<=k):Bel w C :=
 ⟨h.os.trans hb.os,h.tape.trans hb.tape,h.output.trans hb.output,Nat.le_trans hb.size h.size,fun k hk=>(h.block k (Nat.lt_of_lt_of_le hk hb.size) (fun e=>by have:=hE k e;omega)).trans (hb.block k hk)⟩
theorem Agr.boxed {E:Nat->Prop} {A B:World} (h:Agr E A B) {k:Nat} {t:TypeId} {v:Value} (hx:Boxed A k t v) (hk:¬ E k):Boxed B k t v:=(h.block k hx.lt hk).trans hx
theorem Agr.blk {E:Nat->Prop} {A B:World} (h:Agr E A B) {k:Nat} {t:TypeId} {cs:Array Value} (hx:A.heap[k]?=some (.cells cs t (0,0))) (hk:¬ E k):B.heap[k]?=some (.cells cs t (0,0)):=(h.block k (Array.getElem?_eq_some_iff.1 hx).1 hk).trans hx
theorem aBk.refl (E:Nat->Prop) (A:World):aBk E A A:=⟨Nat.le_refl _,fun _ _ _=>rfl⟩
theorem aBk.trans {E:Nat->Prop} {A B C:World} (h:aBk E A B) (k:aBk E B C):aBk E A C :=
 ⟨Nat.le_trans h.1 k.1,fun i hi hE=>(k.2 i (Nat.lt_of_lt_of_le hi h.1) hE).trans (h.2 i hi hE)⟩
theorem aBk.setCell {E:Nat->Prop} (A:World) (p:Addr) (v:Value) (hp:¬ E p.block):aBk E A (A.setCell p v) :=
 ⟨by simp,fun k _ hE=>Below.heap_setCell A p v k (fun e=>hp (e ▸ hE))⟩
theorem aBk.of_bel {E:Nat->Prop} {A B:World} (h:Bel A B):aBk E A B:=⟨h.size,fun k hk _=>h.block k hk⟩
theorem aBk.of_agr {E G:Nat->Prop} {A B:World} (h:Agr G A B) (hG:∀ k,E k->¬ G k):aBk E A B:=⟨h.size,fun k hk hE=>h.block k hk (hG k hE)⟩
theorem aA5 {W:World} {B:Nat} {t:TypeId} {v:Value} (h:Boxed W B t v):W.cell? ⟨B,0,none⟩=some v/\W.frozen? ⟨B,0,none⟩=false/\B<W.heap.size:=⟨h.cell,h.frozen,h.lt⟩
theorem aIm (S:Nat) (x:Int) (w:World) (hS:S<4294967296) :
  Calls prog 79 #[.int .u32 (S:Int),.int .i64 x] w fun e w'=>e = .returned (.bool (aR0 S x))/\w=w':=by
 have HF:Hid (aR0 S x=(decide (0<=x)&&decide (x<32)&&S.testBit x.toNat)):=rfl
 by_cases h0:0<=x
 .have d0:decide (0<=x)=true:=by simpa using h0
  rw [d0] at HF;obtain ⟨v,rfl⟩:=Int.eq_ofNat_of_zero_le h0
  by_cases h1:v<32
  .have d1:decide ((v:Int)<32)=true:=by simp;omega
   have d2:decide (v<32)=true:=by simpa using h1
   rw [d1,Int.toNat_natCast] at HF;clear h0;have hq:=bKn (v:=v) hS;go_enter func79,ntmps79
   go_wp2_with fail
   go_ret;exact ⟨aA2 (by rw [HF.out];simp [bHh]),rfl⟩
  .have d1:decide ((v:Int)<32)=false:=by simp;omega
   have d2:decide (v<32)=false:=by simpa using h1
   rw [d1] at HF;clear h0;go_enter func79,ntmps79
   go_wp2_with fail
   go_ret;exact ⟨aA2 (by rw [HF.out];simp),rfl⟩
 .have d0:decide (0<=x)=false:=by simpa using h0
  rw [d0] at HF;go_enter func79,ntmps79
  go_wp2_with fail
  go_ret;exact ⟨aA2 (by rw [HF.out];simp),rfl⟩
def wOf (ls:List Link) (b:Int):Int:=match ls.find? (fun l=>l.to==b) with | some l=>l.weight | none=>0
def mOf (ports:List (List Link)) (v j:Nat) (a b:Int):Int :=
 if 0<=a/\a<(v:Int) then wOf (ports.getD a.toNat []) b else if a=(v:Int) then wOf ((ports.getD v []).take j) b else 0
def bJt (ports:List (List Link)):Bool :=
 (List.range ports.length).all (fun v=>aDm ports.length v (ports.getD v []))&&(List.range ports.length).all (fun v=>(ports.getD v []).all (aIw ⟨[],ports⟩ v))
structure SymOK (ports:List (List Link)):Prop where
 links:∀ v,(h:v<ports.length)->aDm ports.length v ports[v]=true
 back:∀ v,(h:v<ports.length)->∀ l∈ports[v],aIw ⟨[],ports⟩ v l=true
theorem bCd (ports:List (List Link)):bJt ports=true↔SymOK ports:=by
 unfold bJt;simp only [Bool.and_eq_true,List.all_eq_true,List.mem_range]
 constructor
 .rintro ⟨h6,h7⟩
  exact ⟨fun v hv=>by have:=h6 v hv;rwa [aA7 hv] at this,fun v hv l hl=>by have:=h7 v hv;rw [aA7 hv] at this;exact this l hl⟩
 .rintro ⟨h6,h7⟩
  exact ⟨fun v hv=>by rw [aA7 hv];exact h6 v hv,fun v hv=>by rw [aA7 hv];exact h7 v hv⟩
theorem aOu {ports:List (List Link)} (h:¬ SymOK ports):bJt ports=false:=by
 rw [Bool.eq_false_iff];intro hb;exact h ((bCd ports).1 hb)
theorem bDe (g:Graph):aFz g=(decide (1<=g.ports.length/\g.ports.length<=24/\g.ids.length=g.ports.length)&&aSs g.ids&&bJt g.ports):=by
 unfold aFz bJt;have:∀ v,aIw g v=aIw ⟨[],g.ports⟩ v:=fun v=>rfl;simp only [this,Bool.and_assoc]
theorem bLd {ls:List Link} {b:Int} (hw:∀ l∈ls,1<=l.weight) (h:wOf ls b=0):∀ l∈ls,l.to≠b:=by
 unfold wOf at h;cases hf:ls.find? (fun l=>l.to==b) with
 | none =>
  rw [List.find?_eq_none] at hf;intro l hl;simpa using hf l hl
 | some l =>
  rw [hf] at h;simp only [] at h
  have:=hw l (List.mem_of_find?_eq_some hf);omega
theorem aQ6 {ls:List Link} {b:Int} (h:wOf ls b≠0):∃ l∈ls,l.to=b/\wOf ls b=l.weight:=by
 unfold wOf at *;cases hf:ls.find? (fun l=>l.to==b) with
 | none=>rw [hf] at h;exact absurd rfl h
 | some l=>exact ⟨l,List.mem_of_find?_eq_some hf,by simpa using List.find?_some hf,rfl⟩
theorem aUj {ls:List Link} (hn:(ls.map Link.to).Nodup) {l:Link} (hl:l∈ls):wOf ls l.to=l.weight:=by
 unfold wOf;cases hf:ls.find? (fun k=>k.to==l.to) with
 | none =>
  rw [List.find?_eq_none] at hf;have:=hf l hl;simp at this
 | some k =>
  have h1:k.to=l.to:=by simpa using List.find?_some hf
  have h2:=List.mem_of_find?_eq_some hf;obtain ⟨i,hi,rfl⟩:=List.getElem_of_mem hl;obtain ⟨j,hj,rfl⟩:=List.getElem_of_mem h2
  have:i=j:=by
   rcases Nat.lt_trichotomy i j with h | h | h
   .exact absurd hn (aGq h (by simpa using hj) (by simp [h1]))
   .exact h
   .exact absurd hn (aGq h (by simpa using hi) (by simp [h1]))
  subst this;rfl
theorem bJy {ls:List Link} {j:Nat} (h:j<ls.length) (hno:∀ l∈ls.take j,l.to≠ls[j].to) (b:Int):wOf (ls.take (j+1)) b=if b=ls[j].to then ls[j].weight else wOf (ls.take j) b:=by
 unfold wOf;rw [List.take_succ_eq_append_getElem h,List.find?_append]
 by_cases hb:b=ls[j].to
 .subst hb
  have:(ls.take j).find? (fun l=>l.to==ls[j].to)=none:=by
   rw [List.find?_eq_none];intro l hl;simpa using hno l hl
  rw [this,if_pos rfl];simp
 .rw [if_neg hb]
  cases hf:(ls.take j).find? (fun l=>l.to==b) with
  | some l=>simp
  | none =>
   have:(ls[j].to==b)=false:=by simp;exact fun h=>hb h.symm
   simp [this]
theorem bJ8 {ports:List (List Link)} {v j:Nat} (hv:v<ports.length) (hj:j<ports[v].length) (hno:∀ l∈ports[v].take j,l.to≠ports[v][j].to) (a b:Int) :
  mOf ports v (j+1) a b=if a=(v:Int)/\b=ports[v][j].to then ports[v][j].weight else mOf ports v j a b:=by
 unfold mOf;rw [aA7 hv]
 by_cases ha:a=(v:Int)
 .subst ha
  have hn:¬ (0<=(v:Int)/\(v:Int)<(v:Int)):=by omega
  simp only [if_neg hn,if_pos,true_and]
  rw [bJy hj hno]
 .rw [if_neg (c:=a=(v:Int)/\_) (fun h=>ha h.1)]
  simp only [if_neg ha]
theorem bKz {ports:List (List Link)} {v j:Nat} (hv:v<ports.length) (hj:ports[v].length<=j) (a b:Int):mOf ports v j a b=mOf ports (v+1) 0 a b:=by
 unfold mOf;rw [aA7 hv,List.take_of_length_le hj]
 by_cases ha:a=(v:Int)
 .subst ha
  rw [if_neg (by omega),if_pos rfl,if_pos (by omega),Int.toNat_natCast,aA7 hv]
 .by_cases h1:0<=a/\a<(v:Int)
  .rw [if_pos h1,if_pos (by omega)]
  .rw [if_neg h1,if_neg ha,if_neg (by omega)]
   split
   .simp [wOf]
   .rfl
theorem bG9 (ports:List (List Link)) (a b:Int):mOf ports 0 0 a b=0:=by
 unfold mOf;rw [if_neg (by omega)]
 split
 .simp [wOf]
 .rfl
theorem aXu {ports:List (List Link)} {n v j:Nat} (h:v<ports.length) (hn:v<n) (b:Int):mOf ports n j (v:Int) b=wOf ports[v] b:=by
 unfold mOf;rw [if_pos (by omega),Int.toNat_natCast,aA7 h]
theorem bG8 {ports:List (List Link)} {n:Nat} {a b:Int} (h:mOf ports n 0 a b≠0):0<=a/\a<(n:Int):=by
 unfold mOf at h;split at h
 .assumption
 .split at h
  .simp [wOf] at h
  .exact absurd rfl h
theorem bEf {ports:List (List Link)} (hl:∀ v,(h:v<ports.length)->aDm ports.length v ports[v]=true):SymOK ports↔∀ a b,mOf ports ports.length 0 a b≠0->mOf ports ports.length 0 b a=mOf ports ports.length 0 a b:=by
 constructor
 .intro hs a b hne
  obtain ⟨h0,h1⟩:=bG8 hne;obtain ⟨v,rfl⟩:=Int.eq_ofNat_of_zero_le h0;have hv:v<ports.length:=by omega
  rw [aXu hv hv] at hne ⊢;obtain ⟨l,hlm,rfl,he⟩:=aQ6 hne;rw [he];obtain ⟨k1,k2⟩:=aC1.1 (hl v hv);obtain ⟨t0,t1,_⟩:=aCb.1 (k1 l hlm);obtain ⟨t,ht⟩:=Int.eq_ofNat_of_zero_le t0;have htl:t<ports.length:=by omega
  have hb:=hs.back v hv l hlm;unfold aIw at hb;simp only [] at hb
  rw [ht,Int.toNat_natCast,aA7 htl,List.any_eq_true] at hb;obtain ⟨k,hk,hkk⟩:=hb;simp at hkk
  rw [ht,aXu htl htl];have hu:=aUj (aC1.1 (hl t htl)).2 hk;rw [hkk.1] at hu;rw [hu,hkk.2]
 .intro h
  refine ⟨hl,fun v hv l hlm=>?_⟩
  obtain ⟨k1,k2⟩:=aC1.1 (hl v hv);obtain ⟨t0,t1,_,t3,_⟩:=aCb.1 (k1 l hlm);obtain ⟨t,ht⟩:=Int.eq_ofNat_of_zero_le t0;have htl:t<ports.length:=by omega
  have hw:=aUj k2 hlm;have h1:mOf ports ports.length 0 (v:Int) l.to=l.weight:=by rw [aXu hv hv,hw]
  have h2:=h (v:Int) l.to (by rw [h1];omega)
  rw [h1,ht,aXu htl htl] at h2;obtain ⟨k,hk,hk1,hk2⟩:=aQ6 (ls:=ports[t]) (b:=(v:Int)) (by omega)
  unfold aIw;simp only []
  rw [ht,Int.toNat_natCast,aA7 htl,List.any_eq_true];exact ⟨k,hk,by simp [hk1];omega⟩
open Go.RowKit Go.Maps
structure PairK (P:Program) (k e:TypeId):Prop where
 hu:P.underlying k=some (.array 2 e)
 he:P.underlying e=some (.int .i64)
 one:P.cellsOf e=1
 two:P.cellsOf k=2
 kt:P.keyType k=true
 sz:∃ m,P.types.size=m+1
def pk (a b:Int):Lit := .string (keyBytes [.int .i64 a,.int .i64 b])
def aSy (x:Int × Int):Value := .agg #[.int .i64 x.1,.int .i64 x.2]
theorem PairK.law {P:Program} {k e:TypeId} (A:PairK P k e):Keyed P k :=
 Keyed.of_law (WideMaps.ArrKey.law ⟨A.hu,by unfold Program.plainKey;rw [A.he],A.one,A.two⟩)
theorem PairK.keyOf {P:Program} {k e:TypeId} (A:PairK P k e) {a b:Int} (ha:(Lit.int .i64 a).wf=true) (hb:(Lit.int .i64 b).wf=true):Go.keyOf P k (aSy (a,b))=some (pk a b):=by
 obtain ⟨m,hm⟩:=A.sz;unfold Go.keyOf aSy;rw [A.hu];simp only []
 rw [A.kt];simp only [Value.formed,A.hu,A.two,Bool.true_and]
 rw [hm];simp only [Program.keyLits,A.hu,A.he,A.one,A.two,Value.cells,List.range,List.range.loop]
 simp [ha,hb,pk]
theorem PairK.inv {P:Program} {k e:TypeId} (A:PairK P k e) {v:Value} {l:Lit} (h:Go.keyOf P k v=some l):∃ x:Int × Int,v=aSy x/\(Lit.int .i64 x.1).wf=true/\(Lit.int .i64 x.2).wf=true/\l=pk x.1 x.2:=by
 obtain ⟨m,hm⟩:=A.sz;unfold Go.keyOf at h;rw [A.hu] at h;simp only [] at h
 rw [A.kt] at h;cases v with
 | agg cs =>
  simp only [Value.formed,A.hu,A.two,Bool.true_and] at h
  split at h
  .rename_i hs
   obtain ⟨l'⟩:=cs;simp at hs
   match l',hs with
   | [u,v],_ =>
    rw [hm] at h;cases u with
    | int q a =>
     cases v with
     | int q' b =>
      simp only [Program.keyLits,A.hu,A.he,A.one,A.two,Value.cells,List.range,List.range.loop] at h
      by_cases h1:q = .i64/\(Lit.int .i64 a).wf=true
      .by_cases h2:q' = .i64/\(Lit.int .i64 b).wf=true
       .obtain ⟨rfl,h1⟩:=h1
        obtain ⟨rfl,h2⟩:=h2;simp [h1,h2] at h
        exact ⟨(a,b),rfl,h1,h2,h.symm⟩
       .simp [h1,h2] at h
      .simp [h1] at h
     | _=>simp [Program.keyLits,A.hu,A.he,A.one,A.two,Value.cells,List.range,List.range.loop] at h
    | _=>simp [Program.keyLits,A.hu,A.he,A.one,A.two,Value.cells,List.range,List.range.loop] at h
  .cases h
 | _=>simp [Value.formed,A.hu] at h
theorem bK9 {P:Program} {k e:TypeId} (A:PairK P k e) {a b c d:Int} (ha:(Lit.int .i64 a).wf=true) (hb:(Lit.int .i64 b).wf=true) (hc:(Lit.int .i64 c).wf=true) (hd:(Lit.int .i64 d).wf=true) (h:pk a b=pk c d):a=c/\b=d:=by
 have h1:=A.keyOf ha hb;have h2:=A.keyOf hc hd;rw [h] at h1;have:=A.law.inj h1 h2;simp [aSy] at this
 exact this
def aIi (P:Program) (k e:TypeId) (w:World) (b n:Nat) (D:DataW Unit) (M:Int->Int->Int):Prop :=
 w.ownsMap P k (plainElem P e) b n D/\IsMap D/\(∀ x y,(Lit.int .i64 x).wf=true->(Lit.int .i64 y).wf=true->D.atKey (pk x y) (.lit (.int .i64 0)) = .lit (.int .i64 (M x y))/\(has D (pk x y)=true↔M x y≠0))
theorem aIi.made (P:Program) (k e:TypeId) (w:World):aIi P k e (w.alloc (.map #[] 0)) w.heap.size 0 (.map []) (fun _ _=>0) :=
 ⟨World.ownsMap_made w P k _,isMap_empty,fun x y _ _=>⟨by simp [DataW.atKey],by simp [has]⟩⟩
theorem aIi.kept {P:Program} {k e:TypeId} {w w':World} {b n:Nat} {D:DataW Unit} {M:Int->Int->Int} {row:Option Nat} (h:aIi P k e w b n D M) (hg:w.grownBy w' row) (hne:some b≠row):aIi P k e w' b n D M :=
 ⟨h.1.kept hg hne,h.2⟩
theorem aIi.keep {P:Program} {k e:TypeId} {w w':World} {b n:Nat} {D:DataW Unit} {M:Int->Int->Int} (h:aIi P k e w b n D M) (hb:Bel w w'):aIi P k e w' b n D M:=h.kept (hb.grownBy none) (by simp)
theorem aIi.lookOk {P:Program} {k e t:TypeId} (A:PairK P k e) (ht:P.underlying t=some (.map k e)) {w:World} {b n:Nat} {D:DataW Unit} {M:Int->Int->Int} (h:aIi P k e w b n D M) (hz:(zeroValue e).run P w = .ok (.int .i64 0) w) {x y:Int} (hx:(Lit.int .i64 x).wf=true) (hy:(Lit.int .i64 y).wf=true) :
  (Instr.lookup t (.map (some b)) (aSy (x,y)) true).run P w = .ok (.tuple #[.int .i64 (M x y),.bool (decide (M x y≠0))]) w:=by
 obtain ⟨v,ps,hrun,hv⟩:=h.1.look_ok A.law ht hz (plainElem_int A.he (by decide)) (A.keyOf hx hy)
 obtain ⟨h1,h2⟩:=h.2.2 x y hx hy;rw [h1] at hv;obtain ⟨c,rfl,hc,_⟩:=plainElem_int_inv A.he hv;simp at hc
 rw [hrun,<- hc.1]
 congr 3
 rw [show has D (pk x y)=decide (M x y≠0) by rw [Bool.eq_iff_iff];simpa using h2]
theorem aIi.look {P:Program} {k e t:TypeId} (A:PairK P k e) (ht:P.underlying t=some (.map k e)) {w:World} {b n:Nat} {D:DataW Unit} {M:Int->Int->Int} (h:aIi P k e w b n D M) (hz:(zeroValue e).run P w = .ok (.int .i64 0) w) {x y:Int} (hx:(Lit.int .i64 x).wf=true) (hy:(Lit.int .i64 y).wf=true) :
  (Instr.lookup t (.map (some b)) (aSy (x,y)) false).run P w = .ok (.int .i64 (M x y)) w:=by
 obtain ⟨c,hrun,hc,_⟩:=h.1.lookup_int A.law ht A.he hz (A.keyOf hx hy);rw [(h.2.2 x y hx hy).1] at hc;simp at hc
 rw [hrun,hc]
def bM3 (M:Int->Int->Int) (x y c:Int):Int->Int->Int:=fun a b=>if a=x/\b=y then c else M a b
theorem aIi.put {P:Program} {k e:TypeId} (A:PairK P k e) {w':World} {b n:Nat} {D:DataW Unit} {M:Int->Int->Int} {x y c:Int} (hx:(Lit.int .i64 x).wf=true) (hy:(Lit.int .i64 y).wf=true) (hc:c≠0)
  (h2:IsMap D/\(∀ x y,(Lit.int .i64 x).wf=true->(Lit.int .i64 y).wf=true->D.atKey (pk x y) (.lit (.int .i64 0)) = .lit (.int .i64 (M x y))/\(has D (pk x y)=true↔M x y≠0)))
  (h:w'.ownsMap P k (plainElem P e) b n (D.put (pk x y) (.lit (.int .i64 c)))):aIi P k e w' b n (D.put (pk x y) (.lit (.int .i64 c))) (bM3 M x y c):=by
 refine ⟨h,h2.1.put _ _,fun a b ha hb=>?_⟩
 have hkl:WideAt.IsKeyLit (pk x y):=trivial
 by_cases he:a=x/\b=y
 .obtain ⟨rfl,rfl⟩:=he
  refine ⟨?_,?_⟩
  .rw [atKey_put_same h2.1 hkl];simp [bM3]
  .simp only [bM3]
   simp [hc]
   exact has_true_of_atKey (y := .lit (.int .i64 c)) (fun z=>atKey_put_same h2.1 hkl _ z)
 .have hne:pk a b≠pk x y:=fun h=>he (bK9 A ha hb hx hy h)
  have hM:bM3 M x y c a b=M a b:=by unfold bM3;rw [if_neg he]
  obtain ⟨g1,g2⟩:=h2.2 a b ha hb;refine ⟨by rw [atKey_put_other hne,hM,g1],?_⟩
  rw [hM,<- g2];constructor
  .intro hh
   cases hD:has D (pk a b) with
   | true=>rfl
   | false =>
    have:has (D.put (pk x y) (.lit (.int .i64 c))) (pk a b)=false:=has_false_of_atKey (fun z=>by rw [atKey_put_other hne,atKey_of_not_has hD])
    rw [this] at hh;cases hh
  .intro hh
   cases hD:has (D.put (pk x y) (.lit (.int .i64 c))) (pk a b) with
   | true=>rfl
   | false =>
    have:has D (pk a b)=false:=has_false_of_atKey (fun z=>by rw [<- atKey_put_other hne (.lit (.int .i64 c)),atKey_of_not_has hD])
    rw [this] at hh;cases hh
def aIf (r:Rule):Nat:=r.guard.length+(r.sets.map (fun s=>s.value.length)).sum
def aUi (p:Prg):Nat:=(p.rules.map aIf).sum
theorem aJy {α:Type} (f:α->Nat) (l:List α) (k:Nat) (h:k<l.length):((l.take (k+1)).map f).sum=((l.take k).map f).sum+f l[k]:=by
 rw [List.take_succ_eq_append_getElem h,List.map_append,List.sum_append];simp
theorem aUg {α:Type} (f:α->Nat) (l:List α) (b:Nat) (h:∀ x∈l,f x<=b):(l.map f).sum<=l.length*b:=by
 induction l with
 | nil=>simp
 | cons x l ih =>
  have h1:=h x (by simp)
  have h2:=ih (fun y hy=>h y (by simp [hy]))
  simp only [List.map_cons,List.sum_cons,List.length_cons,Nat.add_mul]
  omega
theorem aZ1 {r:Rule} (h:aH1 r=true):aIf r<=2750:=by
 unfold aH1 at h;simp at h
 obtain ⟨⟨⟨h1,h2⟩,h3⟩,h4⟩:=h;have:=aUg (fun s:SetT=>s.value.length) r.sets 250 h4;unfold aIf;have:r.sets.length*250<=2500:=by omega
 omega
theorem aAi {p:Prg} (h:aAt p=true):p.name.size<=40/\p.vars.length<=10/\p.rules.length<=16/\(∀ x∈p.vars,x.name.size<=40)/\(∀ r∈p.rules,aH1 r=true):=by
 unfold aAt at h;simp at h
 obtain ⟨⟨⟨⟨h1,h2⟩,h3⟩,h4⟩,h5⟩:=h;exact ⟨h1,h2,h3,h4,h5⟩
theorem aCh {r:Rule} (h:aH1 r=true):r.name.size<=40/\r.sets.length<=10/\r.guard.length<=250/\∀ s∈r.sets,s.value.length<=250:=by
 unfold aH1 at h;simp at h
 obtain ⟨⟨⟨h1,h2⟩,h3⟩,h4⟩:=h;exact ⟨h1,h2,h3,h4⟩
theorem bHe {p:Prg} (h:aAt p=true):aUi p<=44000:=by
 obtain ⟨_,_,h3,_,h5⟩:=aAi h;have:=aUg aIf p.rules 2750 (fun r hr=>aZ1 (h5 r hr));unfold aUi;have:p.rules.length*2750<=44000:=by omega
 omega
theorem aE2 {g:Graph} (h:aB3 g=true):g.ids.length<=30/\g.ports.length<=30/\∀ r∈g.ports,r.length<=30:=by
 unfold aB3 at h;simp at h
 obtain ⟨⟨h1,h2⟩,h3⟩:=h;exact ⟨h1,h2,h3⟩
theorem aQr {g:Graph} (h:aB3 g=true):1<=aF1 g/\aF1 g<=30:=by
 obtain ⟨_,_,h3⟩:=aE2 h;refine ⟨aV7 _ _,aV8 _ _ _ (by omega) ?_⟩
 intro x hx
 obtain ⟨r,hr,rfl⟩:=List.mem_map.1 hx;exact h3 r hr
theorem bHf (v:Value) (p:Prg) (w:World) (h:aE0 w v p) (hlight:aAt p=true) :
  Calls prog 58 #[v] w fun e w'=>e = .returned (.int .i64 (aUi p:Nat))/\Bel w w':=by
 obtain ⟨A,k,A2,k2,rfl,_,_,_,hr,_,_⟩:=h;obtain ⟨_,_,hp3,_,hp5⟩:=aAi hlight;have HP:=aA1 hp5;clear hp5 hlight;have HR:=aA1 hr;clear hr;go_enter func58,ntmps58;go_wp2
 go_loopg [3,4,5] p.rules.length (fun m s i _z wr=>∃ j:Nat,j<=p.rules.length/\m=p.rules.length-j/\s = .int .i64 ((((p.rules.take j).map aIf).sum:Nat):Int)/\((p.rules.take j).map aIf).sum<=j*2750/\i = .int .i64 j/\w.alloc (.cells #[.string p.name,.slice A p.vars.length k,.slice A2 p.rules.length k2] 25)=wr)
 case atStart=>exact ⟨0,by omega,rfl,rfl,by simp,rfl,rfl⟩
 case round =>
  obtain ⟨i,hi,rfl,rfl,hsum,rfl,rfl⟩:=hrel
  by_cases hlt:i<p.rules.length
  .obtain ⟨b,o,G,c,S,c2,rfl,hb,hc1,hc2,hc3,_,_,_,hS,_,_⟩:=HR.out.at_ i hlt
   have HS:=aA1 hS;clear hS;have hL:=HP.out p.rules[i] (List.getElem_mem hlt);obtain ⟨_,hr2,hr3,hr4⟩:=aCh hL;have H4:=aA1 hr4;clear hr4;have hT:=aZ1 hL
   have HT:Hid (∀ t,((p.rules[i].sets.take p.rules[i].sets.length).map (fun s=>s.value.length)).sum=t->((p.rules.take i).map aIf).sum+p.rules[i].guard.length+t=((p.rules.take (i+1)).map aIf).sum):=by
    intro t ht
    rw [List.take_of_length_le (Nat.le_refl _)] at ht;rw [aJy aIf _ _ hlt];unfold aIf at *;omega
   have hsum2:Hid (((p.rules.take (i+1)).map aIf).sum<=(i+1)*2750):=by
    show ((p.rules.take (i+1)).map aIf).sum<=(i+1)*2750
    rw [aJy aIf _ _ hlt];omega
   clear hL hT;generalize ((p.rules.take i).map aIf).sum=N at *;go_wp2
   go_loopg [3,5] p.rules[i].sets.length (fun m s x ws=>∃ j:Nat,j<=p.rules[i].sets.length/\m=p.rules[i].sets.length-j/\s = .int .i64 ((N+p.rules[i].guard.length+((p.rules[i].sets.take j).map (fun s=>s.value.length)).sum:Nat):Int)/\((p.rules[i].sets.take j).map (fun s=>s.value.length)).sum<=j*250/\x = .int .i64 j/\w.alloc (.cells #[.string p.name,.slice A p.vars.length k,.slice (some ⟨b,o,none⟩) p.rules.length k2] 25)=ws)
   case atStart=>exact ⟨0,by omega,rfl,by simp,by simp,rfl,rfl⟩
   case round =>
    obtain ⟨q,hq,rfl,rfl,hs2,rfl,rfl⟩:=hrel
    by_cases hlt2:q<p.rules[i].sets.length
    .obtain ⟨b',o',R,c',rfl,hb',hs1,hs3,_,_,_⟩:=HS.out.at_ q hlt2
     have hv:=H4.out _ (List.getElem_mem hlt2);have hss:=aA1 (aJy (fun s:SetT=>s.value.length) _ _ hlt2);generalize hg:((p.rules[i].sets.take q).map (fun s=>s.value.length)).sum=M at *;clear hg;go_wp2
     go_roundg (p.rules[i].sets.length-(q+1))
     case rel=>exact ⟨q+1,by omega,rfl,by rw [hss.out];go_num,by rw [hss.out];omega,by go_num,rfl⟩
     case measure=>omega
    .have e:q=p.rules[i].sets.length:=by omega
     have HQ:=aA1 (HT.out _ (by rw [<- e]))
     clear e;generalize hg:((p.rules[i].sets.take q).map (fun s=>s.value.length)).sum=M at *;clear hg;go_wp2
     go_roundg (p.rules.length-(i+1))
     case rel=>exact ⟨i+1,by omega,rfl,by rw [<- HQ.out],hsum2.out,by go_num,rfl⟩
     case measure=>omega
  .go_wp2
   go_ret;exact ⟨aA4 (by unfold aUi;rw [List.take_of_length_le (by omega)]),(Bel.refl _).alloc _⟩
def aFr (p:Prg) (g:Graph):Bool:=aAt p&&aB3 g&&decide (aUi p*g.ports.length*aF1 g*aF1 g<=100000)
theorem aLr {a b:Nat} {x y:Nat} (ha:a<=x) (hb:b<=y) (h:x*y<=9223372036854775807):IntKind.i64.wrap ((a:Int)*(b:Int))=((a*b:Nat):Int):=by
 have h1:a*b<=x*y:=Nat.mul_le_mul ha hb;rw [<- Int.natCast_mul];exact IntWalk.i64_in _ (by omega)
theorem aGt (v:Value) (p:Prg) (v2:Value) (g:Graph) (w:World) (h:aE0 w v p) (h2:aAl w v2 g) :
  Calls prog 57 #[v,v2] w fun e w'=>e = .returned (.bool (aFr p g))/\Bel w w':=by
 have HP:=aA1 (fun w' (k:Bel w w')=>h.keep k);have HG:=aA1 (fun w' (k:Bel w w')=>h2.keep k);obtain ⟨A,k,A2,k2,rfl,_,_,_,_,_,_⟩:=h;obtain ⟨A3,k3,A4,k4,rfl,_,_,_,_,_,_⟩:=h2;have HW:=Bel.refl ((w.alloc (.cells #[.string p.name,.slice A p.vars.length k,.slice A2 p.rules.length k2] 25)).alloc (.cells #[.slice A3 g.ids.length k3,.slice A4 g.ports.length k4] 29));cases hlp:aAt p with
 | false =>
  have HF:Hid (aFr p g=false):=by show aFr p g=false;simp [aFr,hlp]
  go_enter func57,ntmps57
  go_wp2_with (go_at_call 112;refine (aGx _ p _ (HP.out _ (aA0 HW))).mono ?_;rintro e w' ⟨rfl,hb⟩;replace HW:=HW.trans hb;clear hb)
  go_ret;exact ⟨aA2 HF.out.symm,aA0 HW⟩
 | true =>
  cases hlg:aB3 g with
  | false =>
   have HF:Hid (aFr p g=false):=by show aFr p g=false;simp [aFr,hlg]
   go_enter func57,ntmps57
   go_wp2_with (first
    | (go_at_call 112;refine (aGx _ p _ (HP.out _ (aA0 HW))).mono ?_;rintro e w' ⟨rfl,hb⟩;replace HW:=HW.trans hb;clear hb;obtain ⟨p0,p1,p2,g0,g1,gsz⟩:=aA6 HW)
    | (go_at_call 113;refine (aM5 _ g _ (HG.out _ (aA0 HW))).mono ?_;rintro e w2 ⟨rfl,hb⟩;replace HW:=HW.trans hb;clear hb))
   go_ret;exact ⟨aA2 HF.out.symm,aA0 HW⟩
  | true =>
   have hT:=bHe hlp;have hD:=aQr hlg;have hN:=(aE2 hlg).2.1;have w1:=aLr hT hN (by decide)
   have w2:=aLr (Nat.mul_le_mul hT hN) hD.2 (by decide)
   have w3:=aLr (Nat.mul_le_mul (Nat.mul_le_mul hT hN) hD.2) hD.2 (by decide)
   have HF:Hid (aFr p g=decide (aUi p*g.ports.length*aF1 g*aF1 g<=100000)):=by show aFr p g=_;simp [aFr,hlp,hlg]
   have HL:=aA1 hlp;have W2:=aA1 w2;have W3:=aA1 w3;rw [<- Int.natCast_mul] at W2 W3;clear hT hD hN w2 w3;go_enter func57,ntmps57
   go_wp2_with (first
    | (go_at_call 112;refine (aGx _ p _ (HP.out _ (aA0 HW))).mono ?_;rintro e w' ⟨rfl,hb⟩;replace HW:=HW.trans hb;clear hb;obtain ⟨p0,p1,p2,g0,g1,gsz⟩:=aA6 HW)
    | (go_at_call 113;refine (aM5 _ g _ (HG.out _ (aA0 HW))).mono ?_;rintro e w2 ⟨rfl,hb⟩;replace HW:=HW.trans hb;clear hb p0 p1 p2 g0 g1 gsz;obtain ⟨p0,p1,p2,g0,g1,gsz⟩:=aA6 HW)
    | (go_at_call 59;refine (aQs _ g _ (HG.out _ (aA0 HW))).mono ?_;rintro e w2 ⟨rfl,hb⟩;replace HW:=HW.trans hb;clear hb p0 p1 p2 g0 g1 gsz;obtain ⟨p0,p1,p2,g0,g1,gsz⟩:=aA6 HW))
   replace HW:=HW.drew
   go_region_held3 (fun w'=>w'.cell? ⟨w.heap.size,0,none⟩=some (.string p.name)/\w'.cell? ⟨w.heap.size,1,none⟩=some (.slice A p.vars.length k)/\w'.cell? ⟨w.heap.size,2,none⟩=some (.slice A2 p.rules.length k2)/\w'.cell? ⟨w.heap.size+1,0,none⟩=some (.slice A3 g.ids.length k3)/\w'.cell? ⟨w.heap.size+1,1,none⟩=some (.slice A4 g.ports.length k4)/\w.heap.size+1<w'.heap.size) (exact aA6 HW) (first | (go_simp;go_at_call 58;refine (bHf _ p _ (HP.out _ (aA0 HW)) HL.out).mono ?_;rintro e w4 ⟨rfl,hb⟩;replace HW:=HW.trans hb;clear hb))
   all_goals
    go_wp2;go_ret;refine ⟨aA2 ?_,aA0 HW⟩
    rw [HF.out,Bool.eq_iff_iff];simp only [decide_eq_true_eq,<- Int.natCast_mul]
    rw [W2.out,<- Int.natCast_mul,W3.out];omega
theorem aE8 {p:Prg} {g:Graph} (h:aFr p g=true):aAt p=true/\aB3 g=true:=by
 unfold aFr at h;simp at h;exact h.1
def aFn (c:UInt8):Bool:=decide ((97<=(c.toNat:Int)/\(c.toNat:Int)<=122)∨(65<=(c.toNat:Int)/\(c.toNat:Int)<=90))
def aN9 (c:UInt8):Bool:=decide (48<=(c.toNat:Int)/\(c.toNat:Int)<=57)
def aCd (c:UInt8):Bool:=aFn c||aN9 c||decide ((c.toNat:Int)=95)
theorem aOi (c:UInt8) (w:World):Calls prog 270 #[.int .u8 (c.toNat:Int)] w fun e w'=>e = .returned (.bool (aFn c))/\w=w':=by
 go_enter func270,ntmps270;go_wp2
 all_goals (go_ret;refine ⟨aA2 ?_,rfl⟩;unfold aFn;rw [Bool.eq_iff_iff];simp) <;> omega
theorem aJu (c:UInt8) (w:World):Calls prog 261 #[.int .u8 (c.toNat:Int)] w fun e w'=>e = .returned (.bool (aFn c))/\w=w':=by
 go_enter func261,ntmps261;go_wp2
 all_goals (go_ret;refine ⟨aA2 ?_,rfl⟩;unfold aFn;rw [Bool.eq_iff_iff];simp) <;> omega
theorem bFk (c:UInt8) (w:World):Calls prog 279 #[.int .u8 (c.toNat:Int)] w fun e w'=>e = .returned (.bool (aN9 c))/\w=w':=by
 go_enter func279,ntmps279;go_wp2
 all_goals (go_ret;refine ⟨aA2 ?_,rfl⟩;unfold aN9;rw [Bool.eq_iff_iff];simp) <;> omega
theorem aYj (c:UInt8) (w:World):Calls prog 273 #[.int .u8 (c.toNat:Int)] w fun e w'=>e = .returned (.bool (aN9 c))/\w=w':=by
 go_enter func273,ntmps273;go_wp2
 all_goals (go_ret;refine ⟨aA2 ?_,rfl⟩;unfold aN9;rw [Bool.eq_iff_iff];simp) <;> omega
theorem aTl (c:UInt8) (w:World):Calls prog 271 #[.int .u8 (c.toNat:Int)] w fun e w'=>e = .returned (.bool (aCd c))/\w=w':=by
 cases h1:aFn c <;> cases h2:aN9 c
 all_goals
  have HF:=aA1 (show aCd c=(aFn c||aN9 c||decide ((c.toNat:Int)=95)) from rfl)
  rw [h1,h2] at HF;go_enter func271,ntmps271
  go_wp2_with (first
   | (go_at_call 270;refine (aOi _ _).mono ?_;rintro e w' ⟨rfl,rfl⟩)
   | (go_at_call 279;refine (bFk _ _).mono ?_;rintro e w' ⟨rfl,rfl⟩))
  all_goals (go_ret;refine ⟨aA2 ?_,rfl⟩;rw [HF.out];simp;try (rw [Bool.eq_iff_iff];simp))
theorem aPf (c:UInt8) (w:World):Calls prog 262 #[.int .u8 (c.toNat:Int)] w fun e w'=>e = .returned (.bool (aCd c))/\w=w':=by
 cases h1:aFn c <;> cases h2:aN9 c
 all_goals
  have HF:=aA1 (show aCd c=(aFn c||aN9 c||decide ((c.toNat:Int)=95)) from rfl)
  rw [h1,h2] at HF;go_enter func262,ntmps262
  go_wp2_with (first
   | (go_at_call 261;refine (aJu _ _).mono ?_;rintro e w' ⟨rfl,rfl⟩)
   | (go_at_call 273;refine (aYj _ _).mono ?_;rintro e w' ⟨rfl,rfl⟩))
  all_goals (go_ret;refine ⟨aA2 ?_,rfl⟩;rw [HF.out];simp;try (rw [Bool.eq_iff_iff];simp))
def wordsL:List (List UInt8):=[[112,114,111,103,114,97,109],[118,97,114],[114,117,108,101],[98,111,111,108],[112,111,114,116],[116,114,117,101],[102,97,108,115,101],[110,111,110,101],[110],[105,100,115],[105,100],[100,101,103],[114,111,111,116],[113],[119,101,105,103,104,116],[98,97,99,107],[97,108,108],[115,111,109,101],[99,111,117,110,116],[102,105,114,115,116],[109,105,110],[109,97,120],[115,117,109],[109,101,120],[115,101,99,111,110,100],[104,101,97,100]]
def aEa (s:ByteArray):Bool:=wordsL.any fun l=>s.toList==l
theorem aYu (s:ByteArray) (w:World):Calls prog 272 #[.string s] w fun e w'=>e = .returned (.bool (aEa s))/\w=w':=by
 have HR:Hid (aEa s=((s.toList==[112,114,111,103,114,97,109])||((s.toList==[118,97,114])||((s.toList==[114,117,108,101])||((s.toList==[98,111,111,108])||((s.toList==[112,111,114,116])||((s.toList==[116,114,117,101])||((s.toList==[102,97,108,115,101])||((s.toList==[110,111,110,101])||((s.toList==[110])||((s.toList==[105,100,115])||((s.toList==[105,100])||((s.toList==[100,101,103])||((s.toList==[114,111,111,116])||((s.toList==[113])||((s.toList==[119,101,105,103,104,116])||((s.toList==[98,97,99,107])||((s.toList==[97,108,108])||((s.toList==[115,111,109,101])||((s.toList==[99,111,117,110,116])||((s.toList==[102,105,114,115,116])||((s.toList==[109,105,110])||((s.toList==[109,97,120])||((s.toList==[115,117,109])||((s.toList==[109,101,120])||((s.toList==[115,101,99,111,110,100])||((s.toList==[104,101,97,100])))))))))))))))))))))))))))):=by
  show aEa s=_
  simp only [aEa,wordsL,List.any_cons,List.any_nil,Bool.or_false]
 obtain ⟨b0,h0⟩:∃ b,(s.toList==[112,114,111,103,114,97,109])=b:=⟨_,rfl⟩;obtain ⟨b1,h1⟩:∃ b,(s.toList==[118,97,114])=b:=⟨_,rfl⟩;obtain ⟨b2,h2⟩:∃ b,(s.toList==[114,117,108,101])=b:=⟨_,rfl⟩;obtain ⟨b3,h3⟩:∃ b,(s.toList==[98,111,111,108])=b:=⟨_,rfl⟩;obtain ⟨b4,h4⟩:∃ b,(s.toList==[112,111,114,116])=b:=⟨_,rfl⟩;obtain ⟨b5,h5⟩:∃ b,(s.toList==[116,114,117,101])=b:=⟨_,rfl⟩;obtain ⟨b6,h6⟩:∃ b,(s.toList==[102,97,108,115,101])=b:=⟨_,rfl⟩;obtain ⟨b7,h7⟩:∃ b,(s.toList==[110,111,110,101])=b:=⟨_,rfl⟩;obtain ⟨b8,h8⟩:∃ b,(s.toList==[110])=b:=⟨_,rfl⟩;obtain ⟨b9,h9⟩:∃ b,(s.toList==[105,100,115])=b:=⟨_,rfl⟩;obtain ⟨b10,h10⟩:∃ b,(s.toList==[105,100])=b:=⟨_,rfl⟩;obtain ⟨b11,h11⟩:∃ b,(s.toList==[100,101,103])=b:=⟨_,rfl⟩;obtain ⟨b12,h12⟩:∃ b,(s.toList==[114,111,111,116])=b:=⟨_,rfl⟩;obtain ⟨b13,h13⟩:∃ b,(s.toList==[113])=b:=⟨_,rfl⟩;obtain ⟨b14,h14⟩:∃ b,(s.toList==[119,101,105,103,104,116])=b:=⟨_,rfl⟩;obtain ⟨b15,h15⟩:∃ b,(s.toList==[98,97,99,107])=b:=⟨_,rfl⟩;obtain ⟨b16,h16⟩:∃ b,(s.toList==[97,108,108])=b:=⟨_,rfl⟩;obtain ⟨b17,h17⟩:∃ b,(s.toList==[115,111,109,101])=b:=⟨_,rfl⟩;obtain ⟨b18,h18⟩:∃ b,(s.toList==[99,111,117,110,116])=b:=⟨_,rfl⟩;obtain ⟨b19,h19⟩:∃ b,(s.toList==[102,105,114,115,116])=b:=⟨_,rfl⟩;obtain ⟨b20,h20⟩:∃ b,(s.toList==[109,105,110])=b:=⟨_,rfl⟩;obtain ⟨b21,h21⟩:∃ b,(s.toList==[109,97,120])=b:=⟨_,rfl⟩;obtain ⟨b22,h22⟩:∃ b,(s.toList==[115,117,109])=b:=⟨_,rfl⟩;obtain ⟨b23,h23⟩:∃ b,(s.toList==[109,101,120])=b:=⟨_,rfl⟩;obtain ⟨b24,h24⟩:∃ b,(s.toList==[115,101,99,111,110,100])=b:=⟨_,rfl⟩;obtain ⟨b25,h25⟩:∃ b,(s.toList==[104,101,97,100])=b:=⟨_,rfl⟩;rw [h0,h1,h2,h3,h4,h5,h6,h7,h8,h9,h10,h11,h12,h13,h14,h15,h16,h17,h18,h19,h20,h21,h22,h23,h24,h25] at HR;go_enter func272,ntmps272;cases b0 with
 | true =>
  go_wp2;go_ret;exact ⟨aA2 (by rw [HR.out];simp),rfl⟩
 | false =>
 cases b1 with
 | true =>
  go_wp2;go_ret;exact ⟨aA2 (by rw [HR.out];simp),rfl⟩
 | false =>
 cases b2 with
 | true =>
  go_wp2;go_ret;exact ⟨aA2 (by rw [HR.out];simp),rfl⟩
 | false =>
 cases b3 with
 | true =>
  go_wp2;go_ret;exact ⟨aA2 (by rw [HR.out];simp),rfl⟩
 | false =>
 cases b4 with
 | true =>
  go_wp2;go_ret;exact ⟨aA2 (by rw [HR.out];simp),rfl⟩
 | false =>
 cases b5 with
 | true =>
  go_wp2;go_ret;exact ⟨aA2 (by rw [HR.out];simp),rfl⟩
 | false =>
 cases b6 with
 | true =>
  go_wp2;go_ret;exact ⟨aA2 (by rw [HR.out];simp),rfl⟩
 | false =>
 cases b7 with
 | true =>
  go_wp2;go_ret;exact ⟨aA2 (by rw [HR.out];simp),rfl⟩
 | false =>
 cases b8 with
 | true =>
  go_wp2;go_ret;exact ⟨aA2 (by rw [HR.out];simp),rfl⟩
 | false =>
 cases b9 with
 | true =>
  go_wp2;go_ret;exact ⟨aA2 (by rw [HR.out];simp),rfl⟩
 | false =>
 cases b10 with
 | true =>
  go_wp2;go_ret;exact ⟨aA2 (by rw [HR.out];simp),rfl⟩
 | false =>
 cases b11 with
 | true =>
  go_wp2;go_ret;exact ⟨aA2 (by rw [HR.out];simp),rfl⟩
 | false =>
 cases b12 with
 | true =>
  go_wp2;go_ret;exact ⟨aA2 (by rw [HR.out];simp),rfl⟩
 | false =>
 cases b13 with
 | true =>
  go_wp2;go_ret;exact ⟨aA2 (by rw [HR.out];simp),rfl⟩
 | false =>
 cases b14 with
 | true =>
  go_wp2;go_ret;exact ⟨aA2 (by rw [HR.out];simp),rfl⟩
 | false =>
 cases b15 with
 | true =>
  go_wp2;go_ret;exact ⟨aA2 (by rw [HR.out];simp),rfl⟩
 | false =>
 cases b16 with
 | true =>
  go_wp2;go_ret;exact ⟨aA2 (by rw [HR.out];simp),rfl⟩
 | false =>
 cases b17 with
 | true =>
  go_wp2;go_ret;exact ⟨aA2 (by rw [HR.out];simp),rfl⟩
 | false =>
 cases b18 with
 | true =>
  go_wp2;go_ret;exact ⟨aA2 (by rw [HR.out];simp),rfl⟩
 | false =>
 cases b19 with
 | true =>
  go_wp2;go_ret;exact ⟨aA2 (by rw [HR.out];simp),rfl⟩
 | false =>
 cases b20 with
 | true =>
  go_wp2;go_ret;exact ⟨aA2 (by rw [HR.out];simp),rfl⟩
 | false =>
 cases b21 with
 | true =>
  go_wp2;go_ret;exact ⟨aA2 (by rw [HR.out];simp),rfl⟩
 | false =>
 cases b22 with
 | true =>
  go_wp2;go_ret;exact ⟨aA2 (by rw [HR.out];simp),rfl⟩
 | false =>
 cases b23 with
 | true =>
  go_wp2;go_ret;exact ⟨aA2 (by rw [HR.out];simp),rfl⟩
 | false =>
 cases b24 with
 | true =>
  go_wp2;go_ret;exact ⟨aA2 (by rw [HR.out];simp),rfl⟩
 | false =>
 cases b25 with
 | true =>
  go_wp2;go_ret;exact ⟨aA2 (by rw [HR.out];simp),rfl⟩
 | false =>
 go_wp2;go_ret;exact ⟨aA2 (by rw [HR.out];rfl),rfl⟩
theorem aS4 (s:ByteArray) (w:World):Calls prog 263 #[.string s] w fun e w'=>e = .returned (.bool (aEa s))/\w=w':=by
 have HR:Hid (aEa s=((s.toList==[112,114,111,103,114,97,109])||((s.toList==[118,97,114])||((s.toList==[114,117,108,101])||((s.toList==[98,111,111,108])||((s.toList==[112,111,114,116])||((s.toList==[116,114,117,101])||((s.toList==[102,97,108,115,101])||((s.toList==[110,111,110,101])||((s.toList==[110])||((s.toList==[105,100,115])||((s.toList==[105,100])||((s.toList==[100,101,103])||((s.toList==[114,111,111,116])||((s.toList==[113])||((s.toList==[119,101,105,103,104,116])||((s.toList==[98,97,99,107])||((s.toList==[97,108,108])||((s.toList==[115,111,109,101])||((s.toList==[99,111,117,110,116])||((s.toList==[102,105,114,115,116])||((s.toList==[109,105,110])||((s.toList==[109,97,120])||((s.toList==[115,117,109])||((s.toList==[109,101,120])||((s.toList==[115,101,99,111,110,100])||((s.toList==[104,101,97,100])))))))))))))))))))))))))))):=by
  show aEa s=_
  simp only [aEa,wordsL,List.any_cons,List.any_nil,Bool.or_false]
 obtain ⟨b0,h0⟩:∃ b,(s.toList==[112,114,111,103,114,97,109])=b:=⟨_,rfl⟩;obtain ⟨b1,h1⟩:∃ b,(s.toList==[118,97,114])=b:=⟨_,rfl⟩;obtain ⟨b2,h2⟩:∃ b,(s.toList==[114,117,108,101])=b:=⟨_,rfl⟩;obtain ⟨b3,h3⟩:∃ b,(s.toList==[98,111,111,108])=b:=⟨_,rfl⟩;obtain ⟨b4,h4⟩:∃ b,(s.toList==[112,111,114,116])=b:=⟨_,rfl⟩;obtain ⟨b5,h5⟩:∃ b,(s.toList==[116,114,117,101])=b:=⟨_,rfl⟩;obtain ⟨b6,h6⟩:∃ b,(s.toList==[102,97,108,115,101])=b:=⟨_,rfl⟩;obtain ⟨b7,h7⟩:∃ b,(s.toList==[110,111,110,101])=b:=⟨_,rfl⟩;obtain ⟨b8,h8⟩:∃ b,(s.toList==[110])=b:=⟨_,rfl⟩;obtain ⟨b9,h9⟩:∃ b,(s.toList==[105,100,115])=b:=⟨_,rfl⟩;obtain ⟨b10,h10⟩:∃ b,(s.toList==[105,100])=b:=⟨_,rfl⟩;obtain ⟨b11,h11⟩:∃ b,(s.toList==[100,101,103])=b:=⟨_,rfl⟩;obtain ⟨b12,h12⟩:∃ b,(s.toList==[114,111,111,116])=b:=⟨_,rfl⟩;obtain ⟨b13,h13⟩:∃ b,(s.toList==[113])=b:=⟨_,rfl⟩;obtain ⟨b14,h14⟩:∃ b,(s.toList==[119,101,105,103,104,116])=b:=⟨_,rfl⟩;obtain ⟨b15,h15⟩:∃ b,(s.toList==[98,97,99,107])=b:=⟨_,rfl⟩;obtain ⟨b16,h16⟩:∃ b,(s.toList==[97,108,108])=b:=⟨_,rfl⟩;obtain ⟨b17,h17⟩:∃ b,(s.toList==[115,111,109,101])=b:=⟨_,rfl⟩;obtain ⟨b18,h18⟩:∃ b,(s.toList==[99,111,117,110,116])=b:=⟨_,rfl⟩;obtain ⟨b19,h19⟩:∃ b,(s.toList==[102,105,114,115,116])=b:=⟨_,rfl⟩;obtain ⟨b20,h20⟩:∃ b,(s.toList==[109,105,110])=b:=⟨_,rfl⟩;obtain ⟨b21,h21⟩:∃ b,(s.toList==[109,97,120])=b:=⟨_,rfl⟩;obtain ⟨b22,h22⟩:∃ b,(s.toList==[115,117,109])=b:=⟨_,rfl⟩;obtain ⟨b23,h23⟩:∃ b,(s.toList==[109,101,120])=b:=⟨_,rfl⟩;obtain ⟨b24,h24⟩:∃ b,(s.toList==[115,101,99,111,110,100])=b:=⟨_,rfl⟩;obtain ⟨b25,h25⟩:∃ b,(s.toList==[104,101,97,100])=b:=⟨_,rfl⟩;rw [h0,h1,h2,h3,h4,h5,h6,h7,h8,h9,h10,h11,h12,h13,h14,h15,h16,h17,h18,h19,h20,h21,h22,h23,h24,h25] at HR;go_enter func263,ntmps263;cases b0 with
 | true =>
  go_wp2;go_ret;exact ⟨aA2 (by rw [HR.out];simp),rfl⟩
 | false =>
 cases b1 with
 | true =>
  go_wp2;go_ret;exact ⟨aA2 (by rw [HR.out];simp),rfl⟩
 | false =>
 cases b2 with
 | true =>
  go_wp2;go_ret;exact ⟨aA2 (by rw [HR.out];simp),rfl⟩
 | false =>
 cases b3 with
 | true =>
  go_wp2;go_ret;exact ⟨aA2 (by rw [HR.out];simp),rfl⟩
 | false =>
 cases b4 with
 | true =>
  go_wp2;go_ret;exact ⟨aA2 (by rw [HR.out];simp),rfl⟩
 | false =>
 cases b5 with
 | true =>
  go_wp2;go_ret;exact ⟨aA2 (by rw [HR.out];simp),rfl⟩
 | false =>
 cases b6 with
 | true =>
  go_wp2;go_ret;exact ⟨aA2 (by rw [HR.out];simp),rfl⟩
 | false =>
 cases b7 with
 | true =>
  go_wp2;go_ret;exact ⟨aA2 (by rw [HR.out];simp),rfl⟩
 | false =>
 cases b8 with
 | true =>
  go_wp2;go_ret;exact ⟨aA2 (by rw [HR.out];simp),rfl⟩
 | false =>
 cases b9 with
 | true =>
  go_wp2;go_ret;exact ⟨aA2 (by rw [HR.out];simp),rfl⟩
 | false =>
 cases b10 with
 | true =>
  go_wp2;go_ret;exact ⟨aA2 (by rw [HR.out];simp),rfl⟩
 | false =>
 cases b11 with
 | true =>
  go_wp2;go_ret;exact ⟨aA2 (by rw [HR.out];simp),rfl⟩
 | false =>
 cases b12 with
 | true =>
  go_wp2;go_ret;exact ⟨aA2 (by rw [HR.out];simp),rfl⟩
 | false =>
 cases b13 with
 | true =>
  go_wp2;go_ret;exact ⟨aA2 (by rw [HR.out];simp),rfl⟩
 | false =>
 cases b14 with
 | true =>
  go_wp2;go_ret;exact ⟨aA2 (by rw [HR.out];simp),rfl⟩
 | false =>
 cases b15 with
 | true =>
  go_wp2;go_ret;exact ⟨aA2 (by rw [HR.out];simp),rfl⟩
 | false =>
 cases b16 with
 | true =>
  go_wp2;go_ret;exact ⟨aA2 (by rw [HR.out];simp),rfl⟩
 | false =>
 cases b17 with
 | true =>
  go_wp2;go_ret;exact ⟨aA2 (by rw [HR.out];simp),rfl⟩
 | false =>
 cases b18 with
 | true =>
  go_wp2;go_ret;exact ⟨aA2 (by rw [HR.out];simp),rfl⟩
 | false =>
 cases b19 with
 | true =>
  go_wp2;go_ret;exact ⟨aA2 (by rw [HR.out];simp),rfl⟩
 | false =>
 cases b20 with
 | true =>
  go_wp2;go_ret;exact ⟨aA2 (by rw [HR.out];simp),rfl⟩
 | false =>
 cases b21 with
 | true =>
  go_wp2;go_ret;exact ⟨aA2 (by rw [HR.out];simp),rfl⟩
 | false =>
 cases b22 with
 | true =>
  go_wp2;go_ret;exact ⟨aA2 (by rw [HR.out];simp),rfl⟩
 | false =>
 cases b23 with
 | true =>
  go_wp2;go_ret;exact ⟨aA2 (by rw [HR.out];simp),rfl⟩
 | false =>
 cases b24 with
 | true =>
  go_wp2;go_ret;exact ⟨aA2 (by rw [HR.out];simp),rfl⟩
 | false =>
 cases b25 with
 | true =>
  go_wp2;go_ret;exact ⟨aA2 (by rw [HR.out];simp),rfl⟩
 | false =>
 go_wp2;go_ret;exact ⟨aA2 (by rw [HR.out];rfl),rfl⟩
def aG9 (s:ByteArray):Bool:=decide (1<=s.size/\s.size<=24)&&aFn (s.data.toList.headD 0)&&s.data.toList.all aCd && !aEa s
theorem bFu (s:ByteArray) (h:0<s.size):s.data.toList.headD 0=s[0]:=by
 have h':0<s.data.toList.length:=by simpa using h
 show s.data.toList.headD 0=s.data.toList[0]
 match hl:s.data.toList,h' with
 | x :: l,_=>rfl
theorem aI9 (s:ByteArray) (w:World) (hs:s.size<=1000000):Calls prog 253 #[.string s] w fun e w'=>e = .returned (.bool (aG9 s))/\w=w':=by
 by_cases hn:1<=s.size/\s.size<=24
 .obtain ⟨hn1,hn2⟩:=hn
  have h0:0<s.size:=by omega
  have HF:Hid (aG9 s=(aFn s[0]&&s.data.toList.all aCd && !aEa s)):=by
   show aG9 s=_
   unfold aG9;rw [bFu s h0,show decide (1<=s.size/\s.size<=24)=true by simp;omega];simp
  cases hl:aFn s[0] with
  | false =>
   rw [hl] at HF;go_enter func253,ntmps253
   go_wp2_with (go_at_call 270;refine (aOi s[0] _).mono ?_;rintro e w' ⟨rfl,rfl⟩)
   go_ret;exact ⟨aA2 (by rw [HF.out];rfl),rfl⟩
  | true =>
   rw [hl] at HF;go_enter func253,ntmps253
   go_wp2_with (go_at_call 270;refine (aOi s[0] _).mono ?_;rintro e w' ⟨rfl,rfl⟩)
   go_loopg [3,20] s.size (fun m _x z wr=>∃ j:Nat,j<=s.size/\m=s.size-j/\Hid ((s.data.toList.take j).all aCd=true)/\z = .int .i64 j/\w=wr)
   case atStart=>exact ⟨0,by omega,rfl,rfl,rfl,rfl⟩
   case round =>
    obtain ⟨j,hj,rfl,HK,rfl,rfl⟩:=hrel
    by_cases hlt:j<s.size
    .have hd0:decide (j<s.size)=true:=by simpa using hlt
     cases hw:aCd s[j] with
     | false =>
      have HG:=aA1 (aAv (f:=aCd) (l:=s.data.toList) (by simpa using hlt) (show aCd (s.data.toList[j]'(by simpa using hlt))=false from hw))
      go_wp2_with (go_at_call 271;refine (aTl s[j] _).mono ?_;rintro e w' ⟨rfl,rfl⟩)
      go_ret;exact ⟨aA2 (by rw [HF.out,HG.out];rfl),rfl⟩
     | true =>
      have HG:=aA1 (aAb (f:=aCd) (l:=s.data.toList) (by simpa using hlt) HK.out (show aCd (s.data.toList[j]'(by simpa using hlt))=true from hw))
      go_wp2_with (go_at_call 271;refine (aTl s[j] _).mono ?_;rintro e w' ⟨rfl,rfl⟩)
      go_roundg (s.size-(j+1))
      case rel=>exact ⟨j+1,by omega,rfl,HG,by go_num,rfl⟩
      case measure=>omega
    .have hd0:decide (j<s.size)=false:=by simpa using hlt
     have HG:=aA1 (aAy (f:=aCd) (l:=s.data.toList) (by simp;omega) HK.out)
     rw [HG.out] at HF
     go_wp2_with (go_at_call 272;refine (aYu s _).mono ?_;rintro e w' ⟨rfl,rfl⟩)
     all_goals (go_ret;exact ⟨aA2 (by rw [HF.out];simp),rfl⟩)
 .have HF:Hid (aG9 s=false):=by
   show aG9 s=false
   unfold aG9;rw [show decide (1<=s.size/\s.size<=24)=false by simpa using hn];rfl
  rcases (show s.size=0∨24<s.size by omega) with h | h
  .have h':s.size<1:=by omega
   clear hn h;go_enter func253,ntmps253;go_wp2;go_ret;exact ⟨aA2 HF.out.symm,rfl⟩
  .have h':1<=s.size:=by omega
   clear hn;go_enter func253,ntmps253;go_wp2;go_ret;exact ⟨aA2 HF.out.symm,rfl⟩
theorem aGd (s:ByteArray) (w:World) (hs:s.size<=1000000):Calls prog 241 #[.string s] w fun e w'=>e = .returned (.bool (aG9 s))/\w=w':=by
 by_cases hn:1<=s.size/\s.size<=24
 .obtain ⟨hn1,hn2⟩:=hn
  have h0:0<s.size:=by omega
  have HF:Hid (aG9 s=(aFn s[0]&&s.data.toList.all aCd && !aEa s)):=by
   show aG9 s=_
   unfold aG9;rw [bFu s h0,show decide (1<=s.size/\s.size<=24)=true by simp;omega];simp
  cases hl:aFn s[0] with
  | false =>
   rw [hl] at HF;go_enter func241,ntmps241
   go_wp2_with (go_at_call 261;refine (aJu s[0] _).mono ?_;rintro e w' ⟨rfl,rfl⟩)
   go_ret;exact ⟨aA2 (by rw [HF.out];rfl),rfl⟩
  | true =>
   rw [hl] at HF
   have HS:Hid ((s.data.toList.take 1).all aCd=true):=by
    have:=aAb (f:=aCd) (l:=s.data.toList) (k:=0) (by simpa using h0) rfl (by show aCd s[0]=true;unfold aCd;rw [hl];rfl)
    exact this
   go_enter func241,ntmps241
   go_wp2_with (go_at_call 261;refine (aJu s[0] _).mono ?_;rintro e w' ⟨rfl,rfl⟩)
   go_loopg [3] (s.size-1) (fun m z wr=>∃ j:Nat,j<=s.size/\m=s.size-j/\Hid ((s.data.toList.take j).all aCd=true)/\z = .int .i64 j/\w=wr)
   case atStart=>exact ⟨1,by omega,rfl,HS,rfl,rfl⟩
   case round =>
    obtain ⟨j,hj,rfl,HK,rfl,rfl⟩:=hrel
    by_cases hlt:j<s.size
    .have hd0:decide (j<s.size)=true:=by simpa using hlt
     cases hw:aCd s[j] with
     | false =>
      have HG:=aA1 (aAv (f:=aCd) (l:=s.data.toList) (by simpa using hlt) (show aCd (s.data.toList[j]'(by simpa using hlt))=false from hw))
      go_wp2_with (go_at_call 262;refine (aPf s[j] _).mono ?_;rintro e w' ⟨rfl,rfl⟩)
      go_ret;exact ⟨aA2 (by rw [HF.out,HG.out];rfl),rfl⟩
     | true =>
      have HG:=aA1 (aAb (f:=aCd) (l:=s.data.toList) (by simpa using hlt) HK.out (show aCd (s.data.toList[j]'(by simpa using hlt))=true from hw))
      go_wp2_with (go_at_call 262;refine (aPf s[j] _).mono ?_;rintro e w' ⟨rfl,rfl⟩)
      go_roundg (s.size-(j+1))
      case rel=>exact ⟨j+1,by omega,rfl,HG,by go_num,rfl⟩
      case measure=>omega
    .have hd0:decide (j<s.size)=false:=by simpa using hlt
     have HG:=aA1 (aAy (f:=aCd) (l:=s.data.toList) (by simp;omega) HK.out)
     rw [HG.out] at HF
     go_wp2_with (go_at_call 263;refine (aS4 s _).mono ?_;rintro e w' ⟨rfl,rfl⟩)
     all_goals (go_ret;exact ⟨aA2 (by rw [HF.out];simp),rfl⟩)
 .have HF:Hid (aG9 s=false):=by
   show aG9 s=false
   unfold aG9;rw [show decide (1<=s.size/\s.size<=24)=false by simpa using hn];rfl
  rcases (show s.size=0∨24<s.size by omega) with h | h
  .have h':s.size<1:=by omega
   clear hn h;go_enter func241,ntmps241;go_wp2;go_ret;exact ⟨aA2 HF.out.symm,rfl⟩
  .have h':1<=s.size:=by omega
   clear hn;go_enter func241,ntmps241;go_wp2;go_ret;exact ⟨aA2 HF.out.symm,rfl⟩
theorem aHa {a b:Int} {r:Int × Int} (h:r=(a,b)):Ending.returned (.tuple #[.int .i64 a,.int .i64 b]) = .returned (.tuple #[.int .i64 r.1,.int .i64 r.2]):=by rw [h]
theorem aFu (a:Int) (w:World):Calls prog 222 #[.int .i64 a] w fun e w'=>e = .returned (.bool (bEl a))/\w=w':=by
 go_enter func222,ntmps222;go_wp2
 all_goals
  go_ret;refine ⟨aA2 ?_,rfl⟩
  unfold bEl;rw [Bool.eq_iff_iff];simp;omega
theorem aL3 (a:Int) (w:World):Calls prog 220 #[.int .i64 a] w fun e w'=>e = .returned (.int .i64 (bAy a))/\w=w':=by
 go_enter func220,ntmps220;go_wp2
 all_goals
  go_ret;refine ⟨aA4 ?_,rfl⟩
  unfold bAy;omega
theorem aEl (a:Int) (w:World):Calls prog 267 #[.int .i64 a] w fun e w'=>e = .returned (.int .i64 (bAy a))/\w=w':=by
 go_enter func267,ntmps267;go_wp2
 all_goals
  go_ret;refine ⟨aA4 ?_,rfl⟩
  unfold bAy;omega
theorem aEz (b:Bool) (w:World):Calls prog 265 #[.bool b] w fun e w'=>e = .returned (.int .i64 (aBz b))/\w=w':=by
 cases b
 all_goals
  go_enter func265,ntmps265;go_wp2;go_ret;exact ⟨rfl,rfl⟩
theorem aD3 (b:Bool) (w:World):Calls prog 219 #[.bool b] w fun e w'=>e = .returned (.int .i64 (aBz b))/\w=w':=by
 cases b
 all_goals
  go_enter func219,ntmps219;go_wp2;go_ret;exact ⟨rfl,rfl⟩
theorem aPd (a b:Int) (w:World) (ha:Num a) (hb:Num b):Calls prog 268 #[.int .i64 a,.int .i64 b] w fun e w'=>e = .returned (.int .i64 (aFs a b))/\w=w':=by
 by_cases h0:b=0
 .subst h0
  go_enter func268,ntmps268;go_wp2;go_ret;exact ⟨rfl,rfl⟩
 .have hz:(b==0)=false:=by simpa using h0
  have ht:=aOw a b ha;obtain ⟨ht1,ht2⟩:=ht;have ha':=ha;unfold Num at ha hb;obtain ⟨ha1,ha2⟩:=ha;obtain ⟨hb1,hb2⟩:=hb
  by_cases hm:a.tmod b=0
  .have hmb:(a.tmod b != 0)=false:=by simpa using hm
   have HF:Hid (aFs a b=a.tdiv b):=by
    show aFs a b=_
    unfold aFs;rw [if_neg h0,if_neg (by simp [hm])]
   clear hm;go_enter func268,ntmps268;go_wp2;go_ret;exact ⟨aA4 HF.out.symm,rfl⟩
  .have hmb:(a.tmod b != 0)=true:=by simpa using hm
   cases hs:(decide (a<0) != decide (b<0)) with
   | true =>
    have HF:Hid (aFs a b=a.tdiv b-1):=by
     show aFs a b=_
     unfold aFs;rw [if_neg h0,if_pos ⟨hm,hs⟩]
    have hs':(!(decide (a<0)==decide (b<0)))=true:=hs;clear hm hs;go_enter func268,ntmps268;go_wp2;go_ret;exact ⟨aA4 HF.out.symm,rfl⟩
   | false =>
    have HF:Hid (aFs a b=a.tdiv b):=by
     show aFs a b=_
     unfold aFs;rw [if_neg h0,if_neg (by simp [hs])]
    have hs':(!(decide (a<0)==decide (b<0)))=false:=hs;clear hm hs;go_enter func268,ntmps268;go_wp2;go_ret;exact ⟨aA4 HF.out.symm,rfl⟩
theorem aL2 (a b:Int) (w:World) (ha:Num a) (hb:Num b):Calls prog 256 #[.int .i64 a,.int .i64 b] w fun e w'=>e = .returned (.int .i64 (aFs a b))/\w=w':=by
 by_cases h0:b=0
 .subst h0
  go_enter func256,ntmps256;go_wp2;go_ret;exact ⟨rfl,rfl⟩
 .have hz:(b==0)=false:=by simpa using h0
  have ht:=aOw a b ha;obtain ⟨ht1,ht2⟩:=ht;have ha':=ha;unfold Num at ha hb;obtain ⟨ha1,ha2⟩:=ha;obtain ⟨hb1,hb2⟩:=hb
  by_cases hm:a.tmod b=0
  .have hmb:(a.tmod b != 0)=false:=by simpa using hm
   have HF:Hid (aFs a b=a.tdiv b):=by
    show aFs a b=_
    unfold aFs;rw [if_neg h0,if_neg (by simp [hm])]
   clear hm;go_enter func256,ntmps256;go_wp2;go_ret;exact ⟨aA4 HF.out.symm,rfl⟩
  .have hmb:(a.tmod b != 0)=true:=by simpa using hm
   cases hs:(decide (a<0) != decide (b<0)) with
   | true =>
    have HF:Hid (aFs a b=a.tdiv b-1):=by
     show aFs a b=_
     unfold aFs;rw [if_neg h0,if_pos ⟨hm,hs⟩]
    have hs':(!(decide (a<0)==decide (b<0)))=true:=hs;clear hm hs;go_enter func256,ntmps256;go_wp2;go_ret;exact ⟨aA4 HF.out.symm,rfl⟩
   | false =>
    have HF:Hid (aFs a b=a.tdiv b):=by
     show aFs a b=_
     unfold aFs;rw [if_neg h0,if_neg (by simp [hs])]
    have hs':(!(decide (a<0)==decide (b<0)))=false:=hs;clear hm hs;go_enter func256,ntmps256;go_wp2;go_ret;exact ⟨aA4 HF.out.symm,rfl⟩
theorem bHm (op a:Int) (w:World) (ha:Num a):Calls prog 250 #[.int .i64 op,.int .i64 a] w fun e w'=>e = .returned (.int .i64 (aKb op a))/\w=w':=by
 unfold Num at ha;obtain ⟨ha1,ha2⟩:=ha
 by_cases h:op=18
 .subst h
  go_enter func250,ntmps250;go_wp2;go_ret;exact ⟨rfl,rfl⟩
 .have HF:Hid (aKb op a=aBz (a==0)):=by show aKb op a=_;unfold aKb;rw [if_neg h]
  have hb:(op==18)=false:=by simpa using h
  clear h;go_enter func250,ntmps250
  go_wp2_with (go_at_call 265;refine (aEz _ _).mono ?_;rintro e w' ⟨rfl,rfl⟩)
  go_ret;exact ⟨aA4 HF.out.symm,rfl⟩
def cmpF (op a b:Int):Bool :=
 if op=35 then a==b else if op=36 then a != b else if op=37 then decide (a<b) else if op=38 then decide (a<=b) else if op=39 then decide (b<a) else decide (b<=a)
theorem aWw (op a b:Int) (w:World):Calls prog 269 #[.int .i64 op,.int .i64 a,.int .i64 b] w fun e w'=>e = .returned (.bool (cmpF op a b))/\w=w':=by
 go_enter func269,ntmps269;go_wp2
 all_goals
  go_ret;refine ⟨aA2 ?_,rfl⟩
  simp only [beq_iff_eq,beq_eq_false_iff_ne,ne_eq] at *
  unfold cmpF
  repeat' split
  all_goals first | rfl | omega
theorem bCk (op a b:Int) (h1:35<=op) (h2:op<=40):aK4 op a b=aBz (cmpF op a b):=by
 have:op=35∨op=36∨op=37∨op=38∨op=39∨op=40:=by omega
 rcases this with h | h | h | h | h | h <;> subst h <;> rfl
theorem bCq (op a b:Int) (w:World) (h1:30<=op) (h2:op<=42) (ha:Num a) (hb:Num b):Calls prog 252 #[.int .i64 op,.int .i64 a,.int .i64 b] w fun e w'=>e = .returned (.int .i64 (aF4 op a b))/\w=w':=by
 have hq:=aRx a b ha;have hm:=aNj a b ha (by unfold Num at hb;omega)
 have hm2:=aNj b (aFs a b) hb (by omega)
 obtain ⟨hq1,hq2⟩:=hq;obtain ⟨hm1,hm3⟩:=hm;obtain ⟨hm4,hm5⟩:=hm2;have HA:=aA1 ha;have HB:=aA1 hb;unfold Num at ha hb;obtain ⟨ha1,ha2⟩:=ha;obtain ⟨hb1,hb2⟩:=hb;have hcase:op=30∨op=31∨op=32∨op=33∨op=34∨(35<=op/\op<=40)∨op=41∨op=42:=by omega
 rcases hcase with h | h | h | h | h | h | h | h
 .subst h
  go_enter func252,ntmps252
  go_wp2_with (go_at_call 267;refine (aEl _ _).mono ?_;rintro e w' ⟨rfl,rfl⟩)
  go_ret;exact ⟨rfl,rfl⟩
 .subst h
  go_enter func252,ntmps252
  go_wp2_with (first
   | (go_at_call 267;refine (aEl _ _).mono ?_;rintro e w' ⟨rfl,rfl⟩)
   | (go_at_call 268;refine (aPd _ _ _ HA.out HB.out).mono ?_;rintro e w' ⟨rfl,rfl⟩))
  go_ret;exact ⟨rfl,rfl⟩
 .subst h
  by_cases h0:b=0
  .subst h0
   go_enter func252,ntmps252;go_wp2;go_ret;exact ⟨rfl,rfl⟩
  .have hz:(b==0)=false:=by simpa using h0
   have HF:Hid (aF4 32 a b=bAy (a-b*aFs a b)):=by
    show aF4 32 a b=_
    unfold aF4 aK4;simp [h0]
   clear h0;go_enter func252,ntmps252
   go_wp2_with (first
    | (go_at_call 267;refine (aEl _ _).mono ?_;rintro e w' ⟨rfl,rfl⟩)
    | (go_at_call 268;refine (aPd _ _ _ HA.out HB.out).mono ?_;rintro e w' ⟨rfl,rfl⟩))
   go_ret;exact ⟨aA4 HF.out.symm,rfl⟩
 .subst h
  go_enter func252,ntmps252
  go_wp2_with (go_at_call 267;refine (aEl _ _).mono ?_;rintro e w' ⟨rfl,rfl⟩)
  go_ret;exact ⟨rfl,rfl⟩
 .subst h
  go_enter func252,ntmps252
  go_wp2_with (go_at_call 267;refine (aEl _ _).mono ?_;rintro e w' ⟨rfl,rfl⟩)
  go_ret;exact ⟨rfl,rfl⟩
 .have HF:Hid (aF4 op a b=aBz (cmpF op a b)):=by
   show aF4 op a b=_
   unfold aF4;rw [bCk op a b h.1 h.2,aMv]
  have e1:(op==30)=false:=by simp;omega
  have e2:(op==31)=false:=by simp;omega
  have e3:(op==32)=false:=by simp;omega
  have e4:(op==33)=false:=by simp;omega
  have e5:(op==34)=false:=by simp;omega
  have e6:(op==41)=false:=by simp;omega
  have e7:(op==42)=false:=by simp;omega
  go_enter func252,ntmps252
  go_wp2_with (first
   | (go_at_call 269;refine (aWw _ _ _ _).mono ?_;rintro e w' ⟨rfl,rfl⟩)
   | (go_at_call 265;refine (aEz _ _).mono ?_;rintro e w' ⟨rfl,rfl⟩))
  go_ret;exact ⟨aA4 HF.out.symm,rfl⟩
 .subst h
  have HF:Hid (aF4 41 a b=aBz (a != 0&&b != 0)):=by show aF4 41 a b=_;exact aMv _
  by_cases h0:a=0
  .have hz:(a != 0)=false:=by simpa using h0
   rw [hz] at HF;clear h0;go_enter func252,ntmps252
   go_wp2_with (go_at_call 265;refine (aEz _ _).mono ?_;rintro e w' ⟨rfl,rfl⟩)
   go_ret;exact ⟨aA4 HF.out.symm,rfl⟩
  .have hz:(a != 0)=true:=by simpa using h0
   rw [hz] at HF;clear h0;go_enter func252,ntmps252
   go_wp2_with (go_at_call 265;refine (aEz _ _).mono ?_;rintro e w' ⟨rfl,rfl⟩)
   go_ret;exact ⟨aA4 HF.out.symm,rfl⟩
 .subst h
  have HF:Hid (aF4 42 a b=aBz (a != 0||b != 0)):=by show aF4 42 a b=_;exact aMv _
  by_cases h0:a=0
  .have hz:(a != 0)=false:=by simpa using h0
   rw [hz] at HF;clear h0;go_enter func252,ntmps252
   go_wp2_with (go_at_call 265;refine (aEz _ _).mono ?_;rintro e w' ⟨rfl,rfl⟩)
   go_ret;exact ⟨aA4 HF.out.symm,rfl⟩
  .have hz:(a != 0)=true:=by simpa using h0
   rw [hz] at HF;clear h0;go_enter func252,ntmps252
   go_wp2_with (go_at_call 265;refine (aEz _ _).mono ?_;rintro e w' ⟨rfl,rfl⟩)
   go_ret;exact ⟨aA4 HF.out.symm,rfl⟩
theorem aYs (op a:Int) (w:World):Calls prog 165 #[.int .i64 op,.int .i64 a] w fun e w'=>e = .returned (.tuple #[.int .i64 (aIh op a).1,.int .i64 (aIh op a).2])/\w=w':=by
 by_cases hop:op≠18/\op≠19
 .have HF:Hid (aIh op a=(0,2)):=by show aIh op a=_;unfold aIh;rw [if_pos (.inl hop)]
  have h1:(op != 18)=true:=by simpa using hop.1
  have h2:(op != 19)=true:=by simpa using hop.2
  clear hop;go_enter func165,ntmps165
  go_wp2_with fail
  go_ret2
  exact ⟨aHa HF.out,rfl⟩
 .cases hn:bEl a with
  | false =>
   have HF:Hid (aIh op a=(0,2)):=by show aIh op a=_;unfold aIh;rw [if_pos (.inr hn)]
   have hop':op=18∨op=19:=by omega
   clear hop
   rcases hop' with h | h
   all_goals
    subst h;go_enter func165,ntmps165
    go_wp2_with (go_at_call 222;refine (aFu _ _).mono ?_;rintro e w' ⟨rfl,rfl⟩;rw [hn])
    go_ret2
    exact ⟨aHa HF.out,rfl⟩
  | true =>
   have HF:Hid (aIh op a=(aKb op a,0)):=by show aIh op a=_;unfold aIh;rw [if_neg (by rw [hn];simp;omega)]
   have hop':op=18∨op=19:=by omega
   clear hop;have HN:=aMl hn;unfold Num at HN;obtain ⟨hn1,hn2⟩:=HN
   rcases hop' with h | h
   all_goals
    subst h;go_enter func165,ntmps165
    go_wp2_with (first
     | (go_at_call 222;refine (aFu _ _).mono ?_;rintro e w' ⟨rfl,rfl⟩;rw [hn])
     | (go_at_call 219;refine (aD3 _ _).mono ?_;rintro e w' ⟨rfl,rfl⟩))
    go_ret2
    exact ⟨aHa HF.out,rfl⟩
theorem bF1 (op a b:Int) (w:World) (h1:30<=op) (h2:op<=42) (ha:Num a) (hb:Num b):Calls prog 223 #[.int .i64 op,.int .i64 a,.int .i64 b] w fun e w'=>e = .returned (.int .i64 (aK4 op a b))/\w=w':=by
 have hq:=aRx a b ha;have hm:=aNj a b ha (by unfold Num at hb;omega)
 have hm2:=aNj b (aFs a b) hb (by omega)
 obtain ⟨hq1,hq2⟩:=hq;obtain ⟨hm1,hm3⟩:=hm;obtain ⟨hm4,hm5⟩:=hm2;have HA:=aA1 ha;have HB:=aA1 hb;unfold Num at ha hb;obtain ⟨ha1,ha2⟩:=ha;obtain ⟨hb1,hb2⟩:=hb
 by_cases h32:op=32
 .subst h32
  by_cases h0:b=0
  .subst h0
   go_enter func223,ntmps223;go_wp2;go_ret;exact ⟨rfl,rfl⟩
  .have hz:(b==0)=false:=by simpa using h0
   have HF:Hid (aK4 32 a b=(a-b*aFs a b)):=by
    show aK4 32 a b=_
    unfold aK4;simp [h0]
   clear h0;go_enter func223,ntmps223
   go_wp2_with (go_at_call 256;refine (aL2 _ _ _ HA.out HB.out).mono ?_;rintro e w' ⟨rfl,rfl⟩)
   go_ret;exact ⟨aA4 HF.out.symm,rfl⟩
 .by_cases h4:41<=op
  .have h4':op=41∨op=42:=by omega
   clear h32 h1 h2 h4
   by_cases h0:a=0
   .have hz:(a != 0)=false:=by simpa using h0
    rcases h4' with h | h
    .subst h
     have HF:Hid (aK4 41 a b=aBz false):=by show aBz (a != 0&&b != 0)=_;rw [hz];rfl
     clear h0;go_enter func223,ntmps223
     go_wp2_with (go_at_call 219;refine (aD3 _ _).mono ?_;rintro e w' ⟨rfl,rfl⟩)
     go_ret;exact ⟨aA4 HF.out.symm,rfl⟩
    .subst h
     have HF:Hid (aK4 42 a b=aBz (b != 0)):=by show aBz (a != 0||b != 0)=_;rw [hz];rfl
     clear h0;go_enter func223,ntmps223
     go_wp2_with (go_at_call 219;refine (aD3 _ _).mono ?_;rintro e w' ⟨rfl,rfl⟩)
     go_ret;exact ⟨aA4 HF.out.symm,rfl⟩
   .have hz:(a != 0)=true:=by simpa using h0
    rcases h4' with h | h
    .subst h
     have HF:Hid (aK4 41 a b=aBz (b != 0)):=by show aBz (a != 0&&b != 0)=_;rw [hz];rfl
     clear h0;go_enter func223,ntmps223
     go_wp2_with (go_at_call 219;refine (aD3 _ _).mono ?_;rintro e w' ⟨rfl,rfl⟩)
     go_ret;exact ⟨aA4 HF.out.symm,rfl⟩
    .subst h
     have HF:Hid (aK4 42 a b=aBz true):=by show aBz (a != 0||b != 0)=_;rw [hz];rfl
     clear h0;go_enter func223,ntmps223
     go_wp2_with (go_at_call 219;refine (aD3 _ _).mono ?_;rintro e w' ⟨rfl,rfl⟩)
     go_ret;exact ⟨aA4 HF.out.symm,rfl⟩
  .have hcase:op=30∨op=31∨op=33∨op=34∨op=35∨op=36∨op=37∨op=38∨op=39∨op=40:=by omega
   clear h1 h2 h32 h4
   rcases hcase with h | h | h | h | h | h | h | h | h | h
   all_goals
    subst h;go_enter func223,ntmps223
    go_wp2_with (first
     | (go_at_call 256;refine (aL2 _ _ _ HA.out HB.out).mono ?_;rintro e w' ⟨rfl,rfl⟩)
     | (go_at_call 219;refine (aD3 _ _).mono ?_;rintro e w' ⟨rfl,rfl⟩))
    go_ret;exact ⟨rfl,rfl⟩
theorem aVs (op a b:Int) (w:World):Calls prog 166 #[.int .i64 op,.int .i64 a,.int .i64 b] w fun e w'=>e = .returned (.tuple #[.int .i64 (aDb op a b).1,.int .i64 (aDb op a b).2])/\w=w':=by
 by_cases h30:op<30
 .have HF:Hid (aDb op a b=(0,2)):=by show aDb op a b=_;unfold aDb;rw [if_pos (.inl h30)]
  have hd:decide (op<30)=true:=by simpa using h30
  clear h30;go_enter func166,ntmps166
  go_wp2_with fail
  go_ret2
  exact ⟨aHa HF.out,rfl⟩
 have hd1:decide (op<30)=false:=by simpa using h30
 by_cases h42:42<op
 .have HF:Hid (aDb op a b=(0,2)):=by show aDb op a b=_;unfold aDb;rw [if_pos (.inr (.inl h42))]
  have hd:decide (42<op)=true:=by simpa using h42
  clear h42;go_enter func166,ntmps166
  go_wp2_with fail
  go_ret2
  exact ⟨aHa HF.out,rfl⟩
 have hd2:decide (42<op)=false:=by simpa using h42
 cases hna:bEl a with
 | false =>
  have HF:Hid (aDb op a b=(0,2)):=by show aDb op a b=_;unfold aDb;rw [if_pos (.inr (.inr (.inl hna)))]
  clear h30 h42;go_enter func166,ntmps166
  go_wp2_with (go_at_call_of 222 a;refine (aFu _ _).mono ?_;rintro e w' ⟨rfl,rfl⟩;rw [hna])
  go_ret2
  exact ⟨aHa HF.out,rfl⟩
 | true =>
  cases hnb:bEl b with
  | false =>
   have HF:Hid (aDb op a b=(0,2)):=by show aDb op a b=_;unfold aDb;rw [if_pos (.inr (.inr (.inr hnb)))]
   clear h30 h42;go_enter func166,ntmps166
   go_wp2_with (go_at_call 222;refine (aFu _ _).mono ?_;rintro e w' ⟨rfl,rfl⟩;first | rw [hna] | rw [hnb])
   go_ret2
   exact ⟨aHa HF.out,rfl⟩
  | true =>
   have HF:Hid (aDb op a b=(bAy (aK4 op a b),0)):=by
    show aDb op a b=_
    unfold aDb;rw [if_neg (by rw [hna,hnb];simp;omega)];rfl
   have HA:=aA1 (aMl hna);have HB:=aA1 (aMl hnb);have HO:Hid (30<=op/\op<=42):=⟨by omega,by omega⟩
   clear h30 h42;go_enter func166,ntmps166
   go_wp2_with (first
    | (go_at_call 222;refine (aFu _ _).mono ?_;rintro e w' ⟨rfl,rfl⟩;first | rw [hna] | rw [hnb])
    | (go_at_call 223;refine (bF1 _ _ _ _ HO.out.1 HO.out.2 HA.out HB.out).mono ?_;rintro e w' ⟨rfl,rfl⟩)
    | (go_at_call 220;refine (aL3 _ _).mono ?_;rintro e w' ⟨rfl,rfl⟩))
   go_ret2
   exact ⟨aHa HF.out,rfl⟩
def bMi (md:Region.Mode) (ops:Array Oper) (i:Nat):Option Nat :=
 (List.range ops.size).find? fun j=>match ops[j]? with | some o=>o.after.any (fun e=>Region.binds md e&&e.on==i) | none=>false
def aK5 (md:Region.Mode) (ops:Array Oper) (L:Nat):Nat->Nat->List Nat
 | 0,_=>[]
 | n+1,i=>match bMi md ops i with | none=>[] | some j=>j :: (if j==L then [] else aK5 md ops L n j)
theorem aAd.takeC {P:Program} {ops:Array Oper} {Q:Exit->Act->World->Prop} {md:Region.Mode} {S:World->Prop} {L:Nat} {i:Nat} {oi:Oper} {v:Value} {fuel:Nat} {listed:Array Bool} {a:Act} {w:World} (d:Option Tmp) (hi:ops[i]?=some oi) (hd:oi.dst=d)
  (hs:Region.noSelect ops=true) (hf:Region.free md ops listed i=true) (hr:(Region.ready md ops listed).contains i=true)
  (hc:((aK5 md ops L 60 i).contains L&&aPr md ops i (aK5 md ops L 60 i)&&aGl listed (aK5 md ops L 60 i))=true)
  (hQ:∀ c a w,Q (.panic c) (a.put d v) w->Q (.panic c) a w) (hS:S w) (hy:YieldsIf P ops S oi v a)
  (h:aAd P md ops Q S L fuel (listed.setIfInBounds i true) (a.put d v) w):aAd P md ops Q S L (fuel+1) listed a w:=by
 rw [Bool.and_eq_true,Bool.and_eq_true] at hc;exact aAd.take (aK5 md ops L 60 i) d hi hd hs hf hr hc.1.1 hc.1.2 hc.2 hQ hS hy h
theorem aAd.t {P:Program} {ops:Array Oper} {Q:Exit->Act->World->Prop} {md:Region.Mode} {S:World->Prop} {L:Nat} {oi:Oper} {v:Value} {fuel:Nat} {listed:Array Bool} {a:Act} {w:World} (i d:Nat) (hi:ops[i]?=some oi) (hd:oi.dst=some d)
  (hc:(Region.noSelect ops&&Region.free md ops listed i&&(Region.ready md ops listed).contains i&&((aK5 md ops L 60 i).contains L&&aPr md ops i (aK5 md ops L 60 i)&&aGl listed (aK5 md ops L 60 i)))=true)
  (hQ:∀ c a w,Q (.panic c) (a.put (some d) v) w->Q (.panic c) a w) (hS:S w) (hy:YieldsIf P ops S oi v a)
  (h:aAd P md ops Q S L fuel (listed.setIfInBounds i true) (a.put (some d) v) w):aAd P md ops Q S L (fuel+1) listed a w:=by
 rw [Bool.and_eq_true,Bool.and_eq_true,Bool.and_eq_true] at hc;exact aAd.takeC (some d) hi hd hc.1.1.1 hc.1.1.2 hc.1.2 hc.2 hQ hS hy h
theorem aAd.startN {P:Program} {ops:Array Oper} {Q:Exit->Act->World->Prop} (S:World->Prop) (L:Nat) {id:Nat} {a:Act} {w:World} (hm:P.follows .mixedOrders=true)
  (h:aAd P .any ops (NoPanic Q) S L ops.size (Array.replicate ops.size false) a w.drew):(Code.region id ops true).wp P Q a w :=
 wp_region_noPanic (aAd.start S L hm h)
def aVn:Op->Bool
 | .defer _=>false
 | _=>true
def aNl (ops:Array Oper):Bool:=ops.all fun o=>aVn o.op
section
variable {P:Program} {ops:Array Oper} {Q:Exit->Act->World->Prop} {md:Region.Mode} {l n:Nat}
theorem bL5 {o:Oper} (ho:aVn o.op=true) {a:Act} {w:World} {K K':Act->World->Prop} (hK:∀ a w,K a w->K' a w) (h:o.wp P a w K Q):o.wpIn (Fence.wide.inRound l) n P a w K' Q:=by
 refine ⟨fun _ _=>trivial,?_⟩
 rw [Oper.semAt_eq _ _ _ (fun c h=>by rw [h] at ho;cases ho)]
 unfold Oper.wp at h;generalize (execOp a.eval o).run P w=r at *;cases r with
 | ok x w' =>
  cases x with
  | value v=>exact hK _ _ h
  | skip=>exact hK _ _ h
  | defer d=>exact hK _ _ h
  | enter f args=>exact ⟨(fun hd=>by cases hd),(CallsIn.inRound l ((callsIn_wide (n:=n-1)).2 h)).mono (fun e w'' he=>by cases e <;> first | exact hK _ _ he | exact he)⟩
  | row r args=>exact ⟨(fun hd=>by cases hd),fun c cs _=>let ⟨v,w'',hr,hs⟩:=h c cs;⟨v,w'',hK _ _ hr,stepsIn_wide.2 hs⟩⟩
  | round lr f tmps assign body=>exact h.elim
  | _=>first | exact h | exact h.elim
 | halt x w'=>cases x <;> first | exact h | exact h.elim
theorem op_in {i:Nat} (hd:aNl ops=true) (hq:¬ LetsOut Q) {a:Act} {w:World} {K K':Act->World->Prop} (hK:∀ a w,K a w->K' a w) (h:wpOp P ops Q i K a w):wpOpIn (Fence.wide.inRound l) n P ops Q i K' a w:=by
 unfold wpOp at h;unfold wpOpIn;cases ho:ops[i]? with
 | none=>simp only [ho] at h;exact hK _ _ h
 | some o =>
  simp only [ho] at h ⊢
  have hn:aVn o.op=true:=by
   unfold aNl at hd;rw [Array.all_eq_true] at hd;obtain ⟨hi,e⟩:=Array.getElem?_eq_some_iff.1 ho;have:=hd i hi
   rwa [e] at this
  by_cases hw:Region.wanted o (yielded ops a.tmps)=true
  .rw [if_pos hw] at h ⊢;exact bL5 hn hK (h.resolve_right (fun e=>hq e.2))
  .rw [if_neg hw] at h ⊢;exact ⟨fun _ _=>trivial,hK _ _ h⟩
theorem bF0 (hd:aNl ops=true) (hq:¬ LetsOut Q):∀ (fuel:Nat) (listed:Array Bool) (a:Act) (w:World),wpAny P md ops Q fuel listed a w->wpAnyIn (Fence.wide.inRound l) n P md ops Q fuel listed a w
 | 0,_,_,_,h=>h
 | fuel+1,_,_,_,h=>⟨h.1,fun i hi=>op_in hd hq (fun a w k=>bF0 hd hq fuel _ a w k) (h.2 i hi)⟩
theorem aAd.startIn (S:World->Prop) (L:Nat) {id:Nat} {a:Act} {w:World} (hm:P.follows .mixedOrders=true) (hd:aNl ops=true) (hq:¬ LetsOut Q)
  (h:aAd P .any ops Q S L ops.size (Array.replicate ops.size false) a w.drew):(Code.region id ops true).wpIn (Fence.wide.inRound l) n P Q a w :=
 wpIn_region_any hm (bF0 hd hq _ _ _ _ (aAd.any _ _ _ _ h))
end
def bK6 (x:Int):Option Int:=if 32768<x then none else some x
theorem aK7 {r s:Int} (hr:1<=r) (hs:1<=s):r<=r*s:=by
 have:=Int.mul_le_mul_of_nonneg_left hs (show 0<=r by omega)
 rwa [Int.mul_one] at this
def szL (M:Int):Int->List (Int × Int)->Int
 | a,[]=>a
 | a,b :: bs=>szL M (min (a*(b.2-b.1+1)) M) bs
def bIm (M:Int):Int->List (List (Int × Int))->Option Int
 | r,[]=>some r
 | r,t :: T=>if 32768<szL M 1 t∨32768<r*szL M 1 t then none else bIm M (r*szL M 1 t) T
theorem bHc {M:Int} (hM:1<=M):∀ {bs:List (Int × Int)} {a:Int},okL bs->1<=a->a<=M->szL M a bs=min (a*aAp bs) M
 | [],a,_,h1,h2=>by
  show a=min (a*1) M
  rw [Int.mul_one];omega
 | b :: bs,a,ho,h1,h2=>by
  obtain ⟨hb,ho'⟩:=aF2 ho;have hp:=aCs ho';have h3:a<=a*(b.2-b.1+1):=aK7 h1 (by omega)
  show szL M (min (a*(b.2-b.1+1)) M) bs=min (a*((b.2-b.1+1)*aAp bs)) M
  rw [bHc hM ho' (by omega) (by omega),<- Int.mul_assoc]
  rcases Int.le_total (a*(b.2-b.1+1)) M with h | h
  .rw [Int.min_eq_left h]
  .have h4:a*(b.2-b.1+1)<=a*(b.2-b.1+1)*aAp bs:=aK7 (by omega) (by omega)
   have h5:M<=M*aAp bs:=aK7 hM (by omega)
   rw [Int.min_eq_right h];omega
theorem aZx {M:Int} (hM:32768<M):∀ {T:List (List (Int × Int))} {r:Int},okN T->1<=r->r<=32768->bIm M r T=bK6 (r*aAq T)
 | [],r,_,h1,h2=>by
  show some r=bK6 (r*1)
  rw [Int.mul_one];unfold bK6;rw [if_neg (by omega)]
 | t :: T,r,ho,h1,h2=>by
  obtain ⟨ht,ho'⟩:=aDx ho;have hp:=aCs ht;have hq:=aEx ho';have e:szL M 1 t=min (aAp t) M:=by rw [bHc (by omega) ht (by omega) (by omega),Int.one_mul]
  show (if 32768<szL M 1 t∨32768<r*szL M 1 t then none else bIm M (r*szL M 1 t) T)=bK6 (r*(aAp t*aAq T))
  rw [<- Int.mul_assoc]
  by_cases hs:32768<aAp t
  .have h3:1*aAp t<=r*aAp t:=Int.mul_le_mul_of_nonneg_right h1 (by omega)
   have h4:r*aAp t<=r*aAp t*aAq T:=aK7 (by omega) (by omega)
   rw [if_pos (.inl (by omega))];unfold bK6;rw [if_pos (by omega)]
  .have e2:szL M 1 t=aAp t:=by omega
   rw [e2];have h3:r<=r*aAp t:=aK7 h1 (by omega)
   by_cases h:32768<r*aAp t
   .have h4:r*aAp t<=r*aAp t*aAq T:=aK7 (by omega) (by omega)
    rw [if_pos (.inr h)];unfold bK6;rw [if_pos (by omega)]
   .rw [if_neg (by omega),aZx hM ho' (by omega) (by omega)]
end Go.Proofs.YtmifhmdghfbalaaGreatDoor

