/- Merged. -/
import Derived.RangeFuncNested
import Derived.WideKeyArr
import Derived.Maps.RangeWalk
import Derived.Test.YtdcjnhoabbdanaaGreatDoorZ06
import Derived.Deep.RegionHeld3
set_option linter.unusedSimpArgs false
set_option linter.unnecessarySimpa false
set_option linter.unusedVariables false
set_option maxRecDepth 100000
set_option maxHeartbeats 4000000
open Go.Proofs.Tryz

namespace Go.Proofs.YtdcjnhoabbdanaaGreatDoor
open Go.RowKit
structure Agr (E:Nat->Prop) (A B:World):Prop where
 os:B.os=A.os
 tape:B.tape=A.tape
 output:B.output=A.output
 size:A.heap.size<=B.heap.size
 block:∀ k,k<A.heap.size->¬ E k->B.heap[k]?=A.heap[k]?
theorem Agr.refl (E:Nat->Prop) (A:World):Agr E A A:=⟨rfl,rfl,rfl,Nat.le_refl _,fun _ _ _=>rfl⟩
theorem Agr.mono {E E':Nat->Prop} {A B:World} (h:Agr E A B) (hE:∀ k,E k->E' k):Agr E' A B :=
 ⟨h.os,h.tape,h.output,h.size,fun k hk hn=>h.block k hk (fun e=>hn (hE k e))⟩
theorem Agr.trans {E:Nat->Prop} {A B C:World} (h:Agr E A B) (k:Agr E B C):Agr E A C :=
 ⟨k.os.trans h.os,k.tape.trans h.tape,k.output.trans h.output,Nat.le_trans h.size k.size,fun i hi hn=>(k.block i (Nat.lt_of_lt_of_le hi h.size) hn).trans (h.block i hi hn)⟩
theorem Agr.alloc (E:Nat->Prop) (A:World) (o:Obj):Agr E A (A.alloc o) :=
 ⟨rfl,rfl,rfl,by simp,fun k hk _=>Below.heap_alloc A o k hk⟩
theorem Agr.putObj {E:Nat->Prop} (A:World) (l:Nat) (o:Obj) (hl:E l):Agr E A (A.putObj l o) :=
 ⟨rfl,rfl,rfl,by simp,fun k _ hn=>World.putObj_heap_other (fun e=>hn (e ▸ hl))⟩
theorem Agr.setCell {E:Nat->Prop} (A:World) (p:Addr) (v:Value) (hl:E p.block):Agr E A (A.setCell p v) :=
 ⟨rfl,rfl,rfl,by simp,fun k _ hn=>Below.heap_setCell A p v k (fun e=>hn (e ▸ hl))⟩
def aC1 (E:Nat->Prop) (A B:World):Prop:=A.heap.size<=B.heap.size/\∀ k,k<A.heap.size->E k->B.heap[k]?=A.heap[k]?
def orE (E R:Nat->Prop) (k:Nat):Prop:=E k∨R k
def postE {α:Type} (E:Nat->Prop) (I:List α->World->Prop) (Ix:Code->List α->World->Prop) (xs:List α) (W:World):Exit->Act->World->Prop
 | .normal,_,W'=>aC1 E W W'/\I xs W'
 | .ret,_,W'=>aC1 E W W'/\Ix .ret xs W'
 | .exit id,_,W'=>aC1 E W W'/\Ix (.exit id) xs W'
 | .goto t,_,W'=>aC1 E W W'/\Ix (.goto t) xs W'
 | .panic _,_,_=>False
 | .outgrown,_,_=>False
def bA5 {α:Type} (F:Fence) (n:Nat) (P:Program) (g:Nat) (lb:Array Value) (encs:α->Array Value) (Bs Rs:Nat->Prop) (S:List α) (w:World):Prop :=
 ∀ (l:Nat) (J Jx:List α->World->Prop) (W:World),Bel w W->(∀ s A B,J s A->Agr Bs A B->J s B)->(∀ s A B,Jx s A->Agr Bs A B->Jx s B) ->
  (∀ pre x W1,pre++[x] <+: S->J pre W1->YieldAt F (n-1) P l (encs x) W1 fun e W' =>
   (e = .returned (.bool true)/\J (pre++[x]) W'/\aC1 (orE Bs Rs) W1 W')∨(e = .returned (.bool false)/\Jx (pre++[x]) W')) ->
  J [] W ->
  CallsIn F n P g (#[.func (.yield l) #[] #[]]++lb) W fun e W'=>(∃ v,e = .returned v)/\(J S W'∨∃ pre,pre <+: S/\Jx pre W')
variable {F:Fence} {n:Nat} {P:Program}
theorem aIq {α:Type} {g:Operand} {ps:Array Tmp} {assign body:Code} {Q:Exit->Act->World->Prop} {a:Act} {w:World}
  (hro:F.round=none) (h1:1<=n) {gf:Nat} {lb:Array Value} (hg:a.eval g = .func (.func gf) #[] lb) (hFg:F.fn gf) (eg:∀ args w,(callFunc gf args).run P w = .ok (.enter gf args) w)
  {encs:α->Array Value} {Bs Rs:Nat->Prop} {S:List α} (hseq:bA5 F (n-1) P gf lb encs Bs Rs S w) (hBs:∀ k,Bs k->k<w.heap.size) (hRs:∀ k,Rs k->k<w.heap.size) (hps:∀ x,(encs x).size=ps.size)
  (E:Nat->Prop) (hE:∀ k,E k↔Bs k∨k=w.heap.size∨k=w.heap.size+1)
  (I:List α->World->Prop) (Ix:Code->List α->World->Prop) (hI:∀ s A B,I s A->Agr E A B->I s B) (hIx:∀ c s A B,Ix c s A->Agr E A B->Ix c s B) (h0:I [] w)
  (Ax:α->Act->World->Prop) (hAx:∀ x a' A B,Ax x a' A->Agr E A B->Ax x a' B)
  (hassign:∀ (pre:List α) (x:α) (W:World) (K:Act->World->Prop),pre++[x] <+: S->I pre W->w.heap.size+1<W.heap.size->(∀ a' W',aC1 (orE E Rs) W W'->I pre W'->Ax x a' W'->K a' W') ->
   assign.wpIn (F.inRound (w.heap.size+1)) (n-1-1) P (Exit.then K (fun _ _ _=>False)) { tmps:=(ps.zip (encs x)).foldl (fun t (p,v)=>t.setIfInBounds p v) a.tmps,defers:=[] } W)
  (hbody:∀ (pre:List α) (x:α) (a':Act) (W:World),pre++[x] <+: S->I pre W->Ax x a' W->w.heap.size+1<W.heap.size->(∃ r,W.heap[w.heap.size+1]?=some (.loop r)) ->
   body.wpIn (F.inRound (w.heap.size+1)) (n-1-1) P (postE (orE E Rs) I Ix (pre++[x]) W) a' W)
  (hdone:∀ (W:World),I S W->W.heap[w.heap.size]?=some (.deferred (some []))->Q .normal { a with defers:={ target := .collected w.heap.size,args:=#[] } :: a.defers } W)
  (hstop:∀ (c:Code) (pre:List α) (W:World),pre <+: S->Ix c pre W->W.heap[w.heap.size]?=some (.deferred (some []))->c.wpIn F n P Q { a with defers:={ target := .collected w.heap.size,args:=#[] } :: a.defers } W) :
  (Code.rangeFunc g ps assign body).wpIn F n P Q a w:=by
 have El:E (w.heap.size+1):=(hE _).2 (.inr (.inr rfl));have Ed:E w.heap.size:=(hE _).2 (.inr (.inl rfl));have nl:¬ Bs (w.heap.size+1):=fun h=>by have:=hBs _ h;omega
 have nek:∀ k,orE Bs Rs k->k<w.heap.size:=fun k h=>h.elim (hBs k) (hRs k);have up:∀ k,orE Bs Rs k->orE E Rs k:=fun k h=>h.elim (fun h => .inl ((hE k).2 (.inl h))) .inr;have nd:¬ Bs w.heap.size:=fun h=>by have:=hBs _ h;omega
 have sub:∀ {A B:World},Agr Bs A B->Agr E A B:=fun h=>h.mono (fun k hk=>(hE k).2 (.inl hk));refine wpIn_rangeFunc fun fn hfn=>?_
 rw [hro];obtain ⟨rec,hrec⟩:∃ rec:LoopState->Option Code->Loop,rec=fun st pe=>{ state:=st,pending:=pe,fn,tmps:=a.tmps,params:=ps,assign,body,defers:=w.heap.size }:=⟨_,rfl⟩
 have hL1:((w.alloc (.deferred (some []))).alloc (.loop (rec .ready none))).heap[w.heap.size+1]?=some (.loop (rec .ready none)):=by
  have:=World.alloc_heap_new (w.alloc (.deferred (some []))) (.loop (rec .ready none));rwa [World.size_alloc] at this
 have hK1:((w.alloc (.deferred (some []))).alloc (.loop (rec .ready none))).heap[w.heap.size]?=some (.deferred (some [])) :=
  (Below.heap_alloc _ _ _ (by simp)).trans (World.alloc_heap_new w _)
 have hI1:I [] ((w.alloc (.deferred (some []))).alloc (.loop (rec .ready none))):=hI _ _ _ (hI _ _ _ h0 (Agr.alloc E w _)) (Agr.alloc E _ _);have hb1:Bel w ((w.alloc (.deferred (some []))).alloc (.loop (rec .ready none))):=((Bel.refl w).alloc _).alloc _
 refine ⟨w.heap.size+1,[{ target := .collected w.heap.size,args:=#[] }],_,{ target := .fn (.func gf) lb,args:=#[.func (.yield (w.heap.size+1)) #[] #[]] },_,gf,
  #[.func (.yield (w.heap.size+1)) #[] #[]]++lb,_,by rw [run_enterLoop_outer],by simp only [resolve,hg];simp [go_sem];rfl,fun f' hf'=>by simp [Target.leads] at hf';subst hf';exact hFg,by simp [invoke,go_sem,eg];rfl,fun _=>h1,?_⟩
 revert hL1 hK1 hI1 hb1
 rw [hrec];intro hL1 hK1 hI1 hb1
 refine (hseq (w.heap.size+1)
  (fun pre W=>I pre W/\W.heap[w.heap.size+1]?=some (.loop (rec .ready none))/\W.heap[w.heap.size]?=some (.deferred (some [])))
  (fun pre W=>∃ c,Ix c pre W/\W.heap[w.heap.size+1]?=some (.loop (rec .done (some c)))/\W.heap[w.heap.size]?=some (.deferred (some [])))
  _ hb1 (fun s A B hs hg'=>⟨hI _ _ _ hs.1 (sub hg'),(hg'.block _ (Array.getElem?_eq_some_iff.1 hs.2.1).1 nl).trans hs.2.1,(hg'.block _ (Array.getElem?_eq_some_iff.1 hs.2.2).1 nd).trans hs.2.2⟩)
  (fun s A B hs hg'=>by
   obtain ⟨c,hc,hl,hk⟩:=hs
   exact ⟨c,hIx _ _ _ _ hc (sub hg'),(hg'.block _ (Array.getElem?_eq_some_iff.1 hl).1 nl).trans hl,(hg'.block _ (Array.getElem?_eq_some_iff.1 hk).1 nd).trans hk⟩)
  ?_ ⟨hI1,by rw [hrec];exact hL1,hK1⟩).mono ?_
 .-- one round
  rintro pre x W hpre ⟨hi,hl,hk⟩;have hlt:=(Array.getElem?_eq_some_iff.1 hl).1;have hy:=run_yield (P:=P) (args:=encs x) hl (by rw [hrec];exact hps x)
  rw [hrec] at hy;refine ⟨fn,_,assign,body,hy,roundIn_of_wpIn hfn (hassign pre x W _ hpre hi hlt ?_)⟩
  clear hy;intro a' Wa hsa hia hax
  have hl2:=(hsa.2 _ hlt (.inl El)).trans hl;have hk2:=(hsa.2 _ (by omega) (.inl Ed)).trans hk
  have hlta:=(Array.getElem?_eq_some_iff.1 hl2).1;refine ⟨_,run_beginRound hl2 (by rw [hrec]),?_⟩
  have agb:Agr E Wa (Wa.putObj (w.heap.size+1) (.loop { rec .ready none with state := .busy })):=Agr.putObj _ _ _ El
  have hl3:(Wa.putObj (w.heap.size+1) (.loop { rec .ready none with state := .busy })).heap[w.heap.size+1]?=some (.loop { rec .ready none with state := .busy }):=World.putObj_heap_same hlta
  have hk3:(Wa.putObj (w.heap.size+1) (.loop { rec .ready none with state := .busy })).heap[w.heap.size]?=some (.deferred (some [])):=(World.putObj_heap_other (by omega)).trans hk2
  have hsz:=agb.size
  have hsb:aC1 (orE Bs Rs) W (Wa.putObj (w.heap.size+1) (.loop { rec .ready none with state := .busy })) :=
   ⟨Nat.le_trans hsa.1 hsz,fun k hk hB=>(World.putObj_heap_other (by have:=nek k hB;omega)).trans (hsa.2 k hk (up k hB))⟩
  refine wpIn_mono (hbody pre x a' _ hpre (hI _ _ _ hia agb) (hAx _ _ _ _ hax agb) (Nat.lt_of_lt_of_le hlta hsz) ⟨_,hl3⟩) ?_
  generalize Wa.putObj (w.heap.size+1) (.loop { rec .ready none with state := .busy })=Wb at *
  have fin:∀ (jump:Option Code) (W3:World),aC1 (orE E Rs) Wb W3 ->
    (Instr.endRound (w.heap.size+1) jump).run P W3 = .ok (.bool jump.isNone) (W3.putObj (w.heap.size+1) (.loop (rec (if jump.isNone then .ready else .done) jump))) /\
    (W3.putObj (w.heap.size+1) (.loop (rec (if jump.isNone then .ready else .done) jump))).heap[w.heap.size+1]?=some (.loop (rec (if jump.isNone then .ready else .done) jump)) /\
    (W3.putObj (w.heap.size+1) (.loop (rec (if jump.isNone then .ready else .done) jump))).heap[w.heap.size]?=some (.deferred (some [])):=fun jump W3 h3=>by
   have hl4:=(h3.2 _ (by omega) (.inl El)).trans hl3
   have:=run_endRound (P:=P) jump hl4;rw [hrec] at this ⊢;exact ⟨this,World.putObj_heap_same (Array.getElem?_eq_some_iff.1 hl4).1,(World.putObj_heap_other (by omega)).trans ((h3.2 _ (by omega) (.inl Ed)).trans hk3)⟩
  rintro e a3 W3 hp;cases e with
  | normal =>
   obtain ⟨h3,hi3⟩:=hp;obtain ⟨hr,hl4,hk4⟩:=fin none W3 h3
   exact ⟨_,_,hr,.inl ⟨rfl,⟨hI _ _ _ hi3 (Agr.putObj _ _ _ El),hl4,hk4⟩,Nat.le_trans hsb.1 (Nat.le_trans h3.1 (Agr.putObj (E:=E) W3 _ _ El).size),fun k hk hB =>
    (World.putObj_heap_other (by have:=nek k hB;omega)).trans ((h3.2 k (Nat.lt_of_lt_of_le hk hsb.1) (up k hB)).trans (hsb.2 k hk hB))⟩⟩
  | ret =>
   obtain ⟨h3,hi3⟩:=hp;obtain ⟨hr,hl4,hk4⟩:=fin (some .ret) W3 h3;exact ⟨_,_,hr,.inr ⟨rfl,.ret,hIx _ _ _ _ hi3 (Agr.putObj _ _ _ El),hl4,hk4⟩⟩
  | exit id =>
   obtain ⟨h3,hi3⟩:=hp;obtain ⟨hr,hl4,hk4⟩:=fin (some (.exit id)) W3 h3;exact ⟨_,_,hr,.inr ⟨rfl,.exit id,hIx _ _ _ _ hi3 (Agr.putObj _ _ _ El),hl4,hk4⟩⟩
  | goto t =>
   obtain ⟨h3,hi3⟩:=hp;obtain ⟨hr,hl4,hk4⟩:=fin (some (.goto t)) W3 h3;exact ⟨_,_,hr,.inr ⟨rfl,.goto t,hIx _ _ _ _ hi3 (Agr.putObj _ _ _ El),hl4,hk4⟩⟩
  | panic ch=>exact hp.elim
  | outgrown=>exact hp.elim
 .-- behind the iterator
  rintro e W2 ⟨⟨v,rfl⟩,(⟨hi,hl,hk⟩ | ⟨pre,hSp,c,hi,hl,hk⟩)⟩
  .exact ⟨none,_,by have:=run_endLoop (P:=P) hl (by rw [hrec];simp);rw [hrec] at this;exact this,hdone _ (hI _ _ _ hi (Agr.putObj _ _ _ El)) ((World.putObj_heap_other (by omega)).trans hk)⟩
  .exact ⟨some c,_,by have:=run_endLoop (P:=P) hl (by rw [hrec];simp);rw [hrec] at this;exact this,hstop c pre _ hSp (hIx _ _ _ _ hi (Agr.putObj _ _ _ El)) ((World.putObj_heap_other (by omega)).trans hk)⟩
def aD8 (n:Nat) (h:Nat->Bool):Nat:=(List.range n).foldl (fun s v=>if h v then s|||2 ^ v else s) 0
theorem aWr (h:Nat->Bool):aD8 0 h=0:=rfl
theorem aHf (n:Nat) (h:Nat->Bool):aD8 (n+1) h=if h n then aD8 n h|||2 ^ n else aD8 n h:=by
 unfold aD8;rw [List.range_succ,List.foldl_append];rfl
theorem aHw (n:Nat) (h:Nat->Bool) (v:Nat):(aD8 n h).testBit v=(decide (v<n)&&h v):=by
 induction n with
 | zero=>simp [aWr]
 | succ n ih =>
  rw [aHf]
  by_cases hv:v=n
  .subst hv
   cases hh:h v with
   | false=>simp [ih]
   | true=>simp [Nat.testBit_or,Nat.testBit_two_pow_self]
  .have e:decide (v<n+1)=decide (v<n):=by rw [decide_eq_decide];omega
   rw [e];cases hh:h n with
   | false=>simpa using ih
   | true =>
    simp only [if_true,Nat.testBit_or,ih,Nat.testBit_two_pow]
    have:decide (n=v)=false:=by simp;omega
    rw [this,Bool.or_false]
theorem aWq (n:Nat) (h:Nat->Bool):aD8 n h<2 ^ n:=by
 apply Nat.lt_pow_two_of_testBit
 intro i hi
 rw [aHw,decide_eq_false (by omega)];rfl
theorem aHe {n:Nat} (h:Nat->Bool) (hn:n<=32):aD8 n h<4294967296 :=
 Nat.lt_of_lt_of_le (aWq n h) (Nat.pow_le_pow_right (n:=2) (by decide) hn)
def aB1 (S T:Nat):Bool:=(List.range 32).all fun i => !S.testBit i||T.testBit i
def aPu (S:Nat) (x:Int):Bool:=decide (0<=x)&&decide (x<32)&&S.testBit x.toNat
theorem aY5 {S T:Nat} (hS:S<4294967296) (hT:T<4294967296) (h:∀ v,v<32->S.testBit v=T.testBit v):S=T:=by
 refine Nat.eq_of_testBit_eq fun v=>?_
 rcases Nat.lt_or_ge v 32 with hv | hv
 .exact h v hv
 .have e:(4294967296:Nat)<=2 ^ v:=Nat.pow_le_pow_right (n:=2) (i:=32) (by decide) hv
  rw [Nat.testBit_lt_two_pow (Nat.lt_of_lt_of_le hS e),Nat.testBit_lt_two_pow (Nat.lt_of_lt_of_le hT e)]
theorem aB5 {S T:Nat}:aB1 S T=true↔∀ v,v<32->S.testBit v=true->T.testBit v=true:=by
 unfold aB1;simp only [List.all_eq_true,List.mem_range,Bool.or_eq_true,Bool.not_eq_true']
 constructor
 .intro h v hv hS
  rcases h v hv with h | h
  .rw [h] at hS;cases hS
  .exact h
 .intro h v hv
  cases hb:S.testBit v with
  | false=>exact .inl rfl
  | true=>exact .inr (h v hv hb)
theorem aI3 {S v:Nat} (hS:S<4294967296) (h:S.testBit v=true):v<32:=by
 rcases Nat.lt_or_ge v 32 with hv | hv
 .exact hv
 .have e:(4294967296:Nat)<=2 ^ v:=Nat.pow_le_pow_right (n:=2) (i:=32) (by decide) hv
  rw [Nat.testBit_lt_two_pow (Nat.lt_of_lt_of_le hS e)] at h;cases h
theorem aEh (i v:Nat):(2 ^ i).testBit v=decide (i=v):=Nat.testBit_two_pow
theorem aP4 {n:Nat} (h:n<4294967296):IntKind.u32.wrap (n:Int)=(n:Int):=by simp [IntKind.wrap,IntKind.bits,IntKind.signed];omega
theorem aJp {v:Nat} (h:v<32):2 ^ v<4294967296:=Nat.pow_lt_pow_right (a:=2) (by decide) h
theorem bv32 (S:Nat):BitVec.ofInt IntKind.u32.bits (S:Int)=BitVec.ofNat 32 S:=by
 simp [IntKind.bits]
theorem aZa {S T:Nat} (hS:S<4294967296) (hT:T<4294967296):bits .or .u32 (S:Int) (T:Int)=((S|||T:Nat):Int):=by
 have e:(BitVec.ofNat 32 S|||BitVec.ofNat 32 T).toNat=S|||T:=by
  simp only [BitVec.toNat_or,BitVec.toNat_ofNat]
  rw [Nat.mod_eq_of_lt (by omega),Nat.mod_eq_of_lt (by omega)]
 unfold bits;simp only [bv32]
 show IntKind.u32.wrap ((BitVec.ofNat 32 S|||BitVec.ofNat 32 T).toNat:Int)=_
 rw [e];exact aP4 (Nat.or_lt_two_pow (n:=32) hS hT)
theorem aCi {S T:Nat} (hS:S<4294967296) (_hT:T<4294967296):bits .and .u32 (S:Int) (T:Int)=((S&&&T:Nat):Int):=by
 have e:(BitVec.ofNat 32 S&&&BitVec.ofNat 32 T).toNat=S&&&T:=by
  simp only [BitVec.toNat_and,BitVec.toNat_ofNat]
  rw [Nat.mod_eq_of_lt (by omega),Nat.mod_eq_of_lt (by omega)]
 unfold bits;simp only [bv32]
 show IntKind.u32.wrap ((BitVec.ofNat 32 S&&&BitVec.ofNat 32 T).toNat:Int)=_
 rw [e];exact aP4 (Nat.and_lt_two_pow (n:=32) S _hT)
def aDy (S T:Nat):Nat:=(BitVec.ofNat 32 S&&&~~~BitVec.ofNat 32 T).toNat
theorem aO9 (S T:Nat):aDy S T<4294967296:=(BitVec.ofNat 32 S&&&~~~BitVec.ofNat 32 T).isLt
theorem aDx (S T:Nat):bits .andNot .u32 (S:Int) (T:Int)=((aDy S T:Nat):Int):=by
 unfold bits;simp only [bv32]
 exact aP4 (aO9 S T)
theorem aPh {S T:Nat} (hS:S<4294967296) (v:Nat):(aDy S T).testBit v=(S.testBit v && !T.testBit v):=by
 rcases Nat.lt_or_ge v 32 with hv | hv
 .unfold aDy
  rw [BitVec.testBit_toNat,BitVec.getLsbD_and,BitVec.getLsbD_not,BitVec.getLsbD_ofNat,BitVec.getLsbD_ofNat];simp [hv]
 .have e:(4294967296:Nat)<=2 ^ v:=Nat.pow_le_pow_right (n:=2) (i:=32) (by decide) hv
  rw [Nat.testBit_lt_two_pow (Nat.lt_of_lt_of_le (aO9 S T) e),Nat.testBit_lt_two_pow (Nat.lt_of_lt_of_le hS e)];rfl
theorem aFr {S T:Nat} (hS:S<4294967296):(aDy S T==0)=aB1 S T:=by
 rw [Bool.eq_iff_iff,beq_iff_eq,aB5];constructor
 .intro h v _ hv
  have:=aPh (T:=T) hS v;rw [h,Nat.zero_testBit,hv] at this;simpa using this.symm
 .intro h
  refine Nat.eq_of_testBit_eq fun v=>?_
  rw [aPh hS,Nat.zero_testBit];cases hb:S.testBit v with
  | false=>rfl
  | true=>rw [h v (aI3 hS hb) hb];rfl
theorem aZt (S v:Nat):(S >>> v)&&&1=(S.testBit v).toNat:=by
 rw [Nat.and_one_is_mod,Nat.shiftRight_eq_div_pow,Nat.testBit_eq_decide_div_mod_eq];have:=Nat.mod_lt (S / 2 ^ v) (show 0<2 by decide)
 by_cases h:S / 2 ^ v % 2=1
 .rw [h];simp
 .have:S / 2 ^ v % 2=0:=by omega
  rw [this];simp
theorem aRb {S v:Nat} (hS:S<4294967296):bits .and .u32 ((S:Int) / 2 ^ v) 1=((S.testBit v).toNat:Int):=by
 have h1:(S:Int) / 2 ^ v=((S >>> v:Nat):Int):=by rw [Nat.shiftRight_eq_div_pow];simp
 rw [h1,show (1:Int)=((1:Nat):Int) from rfl,aCi (by have:=Nat.shiftRight_le S v;omega) (by decide),aZt]
theorem aHm {S v:Nat} (hS:S<4294967296) (hv:v<32):bits .or .u32 (S:Int) (2 ^ v % 4294967296)=((S|||2 ^ v:Nat):Int):=by
 have h:=aJp hv
 have e:(2:Int) ^ v % 4294967296=((2 ^ v:Nat):Int):=by
  have e2:(2:Int) ^ v=((2 ^ v:Nat):Int):=by rw [Int.natCast_pow];rfl
  rw [e2];exact Int.emod_eq_of_lt (b:=4294967296) (Int.natCast_nonneg _) (Int.ofNat_lt.2 h)
 rw [e,aZa hS h]
theorem aX2 {x:Int} (h:(Lit.int .u32 x).wf=true):∃ S:Nat,x=(S:Int)/\S<4294967296:=by
 have h1:0<=x/\x<=4294967295:=by
  simp [Lit.wf,IntKind.min,IntKind.max,IntKind.signed,IntKind.bits] at h
  omega
 obtain ⟨S,rfl⟩:=Int.eq_ofNat_of_zero_le h1.1;exact ⟨S,rfl,by omega⟩
theorem aWy (b:Bool):((b.toNat:Int)==1)=b:=by cases b <;> rfl
theorem aRj {S n:Nat} (hn:n<=32) (hS:S<2 ^ n):aAe S=(List.range n).filter (S.testBit ·):=by
 unfold aAe;rw [show (32:Nat)=n+(32-n) by omega,List.range_add,List.filter_append]
 have e:List.filter (fun x=>S.testBit x) (List.map (n+·) (List.range (32-n)))=[]:=by
  rw [List.filter_eq_nil_iff];intro a ha
  simp only [List.mem_map,List.mem_range] at ha
  obtain ⟨b,_,rfl⟩:=ha;rw [Nat.testBit_lt_two_pow (Nat.lt_of_lt_of_le hS (Nat.pow_le_pow_right (by decide) (Nat.le_add_right n b)))]
  decide
 rw [e,List.append_nil]
def bruijn:List Nat:=[0,1,28,2,29,14,24,3,30,22,20,15,25,17,4,8,31,27,13,23,21,19,16,7,26,12,18,6,11,5,10,9]
theorem aVe:∀ k,k<32->bruijn[(2 ^ k*125613361 % 4294967296) / 134217728]?=some k:=by decide
def lsb (S:Nat):Nat:=S&&&(4294967296-S)
theorem aEc {S:Nat} (hS:S<4294967296) (h0:S≠0):∃ k m,S=2 ^ k*(2*m+1)/\k<32/\lsb S=2 ^ k/\S&&&(S-1)=2 ^ k*(2*m)/\aAe S=k :: aAe (2 ^ k*(2*m)):=by
 obtain ⟨k,m,e⟩:=aW8 (S+1) S (Nat.lt_succ_self S) h0;have h32:2 ^ k*(2*m+1)<2 ^ 32:=by rw [<- e];exact hS
 refine ⟨k,m,e,aYw h32,?_,?_,?_⟩
 .unfold lsb;rw [e];exact aZj k 32 m h32
 .rw [e];exact aTn k m
 .rw [e];exact aG3 h32
theorem aSv {S:Nat}:lsb S&&&S=lsb S:=by unfold lsb;rw [Nat.and_comm (S&&&_) S,<- Nat.and_assoc,Nat.and_self]
theorem aYx {S:Nat} (hS:S<4294967296) (h0:S≠0):lsb S≠0:=by
 obtain ⟨k,m,_,_,h,_⟩:=aEc hS h0;rw [h];exact Nat.ne_of_gt (Nat.two_pow_pos k)
theorem aSu {S:Nat} (hS:S<4294967296):lsb S<4294967296:=Nat.lt_of_le_of_lt Nat.and_le_left hS
theorem aFj {S:Nat} (hS:S<4294967296):(aAe S).length=0↔S=0:=by
 constructor
 .intro h
  by_cases h0:S=0
  .exact h0
  .obtain ⟨k,m,_,_,_,_,e⟩:=aEc hS h0
   rw [e] at h;simp at h
 .rintro rfl;rw [aIh];rfl
theorem aK8 {S:Nat} (hS:S<4294967296) (h0:S≠0):(S&&&(S-1)==0)=decide ((aAe S).length=1):=by
 obtain ⟨k,m,e,_,_,h2,h3⟩:=aEc hS h0
 have hlt:2 ^ k*(2*m)<4294967296:=by
  have:2 ^ k*(2*m)<=2 ^ k*(2*m+1):=Nat.mul_le_mul_left _ (by omega)
  omega
 rw [h2,h3,List.length_cons,Bool.eq_iff_iff,beq_iff_eq,decide_eq_true_eq];rw [show ((aAe (2 ^ k*(2*m))).length+1=1)↔(aAe (2 ^ k*(2*m))).length=0 by omega,aFj hlt]
def wOf (ls:List Link) (b:Int):Int:=match ls.find? (fun l=>l.to==b) with | some l=>l.weight | none=>0
def mOf (ports:List (List Link)) (v j:Nat) (a b:Int):Int :=
 if 0<=a/\a<(v:Int) then wOf (ports.getD a.toNat []) b else if a=(v:Int) then wOf ((ports.getD v []).take j) b else 0
def aYp (ports:List (List Link)):Bool :=
 (List.range ports.length).all (fun v=>aC9 ports.length v (ports.getD v []))&&(List.range ports.length).all (fun v=>(ports.getD v []).all (aF8 ⟨[],ports⟩ v))
structure SymOK (ports:List (List Link)):Prop where
 links:∀ v,(h:v<ports.length)->aC9 ports.length v ports[v]=true
 back:∀ v,(h:v<ports.length)->∀ l∈ports[v],aF8 ⟨[],ports⟩ v l=true
theorem aTc (ports:List (List Link)):aYp ports=true↔SymOK ports:=by
 unfold aYp;simp only [Bool.and_eq_true,List.all_eq_true,List.mem_range]
 constructor
 .rintro ⟨h6,h7⟩
  exact ⟨fun v hv=>by have:=h6 v hv;rwa [aA8 hv] at this,fun v hv l hl=>by have:=h7 v hv;rw [aA8 hv] at this;exact this l hl⟩
 .rintro ⟨h6,h7⟩
  exact ⟨fun v hv=>by rw [aA8 hv];exact h6 v hv,fun v hv=>by rw [aA8 hv];exact h7 v hv⟩
theorem aK9 {ports:List (List Link)} (h:¬ SymOK ports):aYp ports=false:=by
 rw [Bool.eq_false_iff];intro hb;exact h ((aTc ports).1 hb)
theorem aTy (g:Graph):aD4 g=(decide (1<=g.ports.length/\g.ports.length<=24/\g.ids.length=g.ports.length)&&aN2 g.ids&&aYp g.ports):=by
 unfold aD4 aYp;have:∀ v,aF8 g v=aF8 ⟨[],g.ports⟩ v:=fun v=>rfl;simp only [this,Bool.and_assoc]
theorem aZw {ls:List Link} {b:Int} (hw:∀ l∈ls,1<=l.weight) (h:wOf ls b=0):∀ l∈ls,l.to≠b:=by
 unfold wOf at h;cases hf:ls.find? (fun l=>l.to==b) with
 | none =>
  rw [List.find?_eq_none] at hf;intro l hl;simpa using hf l hl
 | some l =>
  rw [hf] at h;simp only [] at h
  have:=hw l (List.mem_of_find?_eq_some hf);omega
theorem aLk {ls:List Link} {b:Int} (h:wOf ls b≠0):∃ l∈ls,l.to=b/\wOf ls b=l.weight:=by
 unfold wOf at *;cases hf:ls.find? (fun l=>l.to==b) with
 | none=>rw [hf] at h;exact absurd rfl h
 | some l=>exact ⟨l,List.mem_of_find?_eq_some hf,by simpa using List.find?_some hf,rfl⟩
theorem aNz {ls:List Link} (hn:(ls.map Link.to).Nodup) {l:Link} (hl:l∈ls):wOf ls l.to=l.weight:=by
 unfold wOf;cases hf:ls.find? (fun k=>k.to==l.to) with
 | none =>
  rw [List.find?_eq_none] at hf;have:=hf l hl;simp at this
 | some k =>
  have h1:k.to=l.to:=by simpa using List.find?_some hf
  have h2:=List.mem_of_find?_eq_some hf;obtain ⟨i,hi,rfl⟩:=List.getElem_of_mem hl;obtain ⟨j,hj,rfl⟩:=List.getElem_of_mem h2
  have:i=j:=by
   rcases Nat.lt_trichotomy i j with h | h | h
   .exact absurd hn (aEa h (by simpa using hj) (by simp [h1]))
   .exact h
   .exact absurd hn (aEa h (by simpa using hi) (by simp [h1]))
  subst this;rfl
theorem aYr {ls:List Link} {j:Nat} (h:j<ls.length) (hno:∀ l∈ls.take j,l.to≠ls[j].to) (b:Int):wOf (ls.take (j+1)) b=if b=ls[j].to then ls[j].weight else wOf (ls.take j) b:=by
 unfold wOf;rw [List.take_succ_eq_append_getElem h,List.find?_append]
 by_cases hb:b=ls[j].to
 .subst hb
  have:(ls.take j).find? (fun l=>l.to==ls[j].to)=none:=by
   rw [List.find?_eq_none];intro l hl;simpa using hno l hl
  rw [this,if_pos rfl];simp
 .rw [if_neg hb]
  cases hf:(ls.take j).find? (fun l=>l.to==b) with
  | some l=>simp
  | none =>
   have:(ls[j].to==b)=false:=by simp;exact fun h=>hb h.symm
   simp [this]
theorem aY3 {ports:List (List Link)} {v j:Nat} (hv:v<ports.length) (hj:j<ports[v].length) (hno:∀ l∈ports[v].take j,l.to≠ports[v][j].to) (a b:Int) :
  mOf ports v (j+1) a b=if a=(v:Int)/\b=ports[v][j].to then ports[v][j].weight else mOf ports v j a b:=by
 unfold mOf;rw [aA8 hv]
 by_cases ha:a=(v:Int)
 .subst ha
  have hn:¬ (0<=(v:Int)/\(v:Int)<(v:Int)):=by omega
  simp only [if_neg hn,if_pos,true_and]
  rw [aYr hj hno]
 .rw [if_neg (c:=a=(v:Int)/\_) (fun h=>ha h.1)]
  simp only [if_neg ha]
theorem aZk {ports:List (List Link)} {v j:Nat} (hv:v<ports.length) (hj:ports[v].length<=j) (a b:Int):mOf ports v j a b=mOf ports (v+1) 0 a b:=by
 unfold mOf;rw [aA8 hv,List.take_of_length_le hj]
 by_cases ha:a=(v:Int)
 .subst ha
  rw [if_neg (by omega),if_pos rfl,if_pos (by omega),Int.toNat_natCast,aA8 hv]
 .by_cases h1:0<=a/\a<(v:Int)
  .rw [if_pos h1,if_pos (by omega)]
  .rw [if_neg h1,if_neg ha,if_neg (by omega)]
   split
   .simp [wOf]
   .rfl
theorem aW1 (ports:List (List Link)) (a b:Int):mOf ports 0 0 a b=0:=by
 unfold mOf;rw [if_neg (by omega)]
 split
 .simp [wOf]
 .rfl
theorem aPy {ports:List (List Link)} {n v j:Nat} (h:v<ports.length) (hn:v<n) (b:Int):mOf ports n j (v:Int) b=wOf ports[v] b:=by
 unfold mOf;rw [if_pos (by omega),Int.toNat_natCast,aA8 h]
theorem aW0 {ports:List (List Link)} {n:Nat} {a b:Int} (h:mOf ports n 0 a b≠0):0<=a/\a<(n:Int):=by
 unfold mOf at h;split at h
 .assumption
 .split at h
  .simp [wOf] at h
  .exact absurd rfl h
theorem aUq {ports:List (List Link)} (hl:∀ v,(h:v<ports.length)->aC9 ports.length v ports[v]=true):SymOK ports↔∀ a b,mOf ports ports.length 0 a b≠0->mOf ports ports.length 0 b a=mOf ports ports.length 0 a b:=by
 constructor
 .intro hs a b hne
  obtain ⟨h0,h1⟩:=aW0 hne;obtain ⟨v,rfl⟩:=Int.eq_ofNat_of_zero_le h0;have hv:v<ports.length:=by omega
  rw [aPy hv hv] at hne ⊢;obtain ⟨l,hlm,rfl,he⟩:=aLk hne;rw [he];obtain ⟨k1,k2⟩:=aB3.1 (hl v hv);obtain ⟨t0,t1,_⟩:=aBd.1 (k1 l hlm);obtain ⟨t,ht⟩:=Int.eq_ofNat_of_zero_le t0;have htl:t<ports.length:=by omega
  have hb:=hs.back v hv l hlm;unfold aF8 at hb;simp only [] at hb
  rw [ht,Int.toNat_natCast,aA8 htl,List.any_eq_true] at hb;obtain ⟨k,hk,hkk⟩:=hb;simp at hkk
  rw [ht,aPy htl htl];have hu:=aNz (aB3.1 (hl t htl)).2 hk;rw [hkk.1] at hu;rw [hu,hkk.2]
 .intro h
  refine ⟨hl,fun v hv l hlm=>?_⟩
  obtain ⟨k1,k2⟩:=aB3.1 (hl v hv);obtain ⟨t0,t1,_,t3,_⟩:=aBd.1 (k1 l hlm);obtain ⟨t,ht⟩:=Int.eq_ofNat_of_zero_le t0;have htl:t<ports.length:=by omega
  have hw:=aNz k2 hlm;have h1:mOf ports ports.length 0 (v:Int) l.to=l.weight:=by rw [aPy hv hv,hw]
  have h2:=h (v:Int) l.to (by rw [h1];omega)
  rw [h1,ht,aPy htl htl] at h2;obtain ⟨k,hk,hk1,hk2⟩:=aLk (ls:=ports[t]) (b:=(v:Int)) (by omega)
  unfold aF8;simp only []
  rw [ht,Int.toNat_natCast,aA8 htl,List.any_eq_true];exact ⟨k,hk,by simp [hk1];omega⟩
open Go.RowKit Go.Maps
structure PairK (P:Program) (k e:TypeId):Prop where
 hu:P.underlying k=some (.array 2 e)
 he:P.underlying e=some (.int .i64)
 one:P.cellsOf e=1
 two:P.cellsOf k=2
 kt:P.keyType k=true
 sz:∃ m,P.types.size=m+1
def pk (a b:Int):Lit := .string (keyBytes [.int .i64 a,.int .i64 b])
def aN6 (x:Int × Int):Value := .agg #[.int .i64 x.1,.int .i64 x.2]
theorem PairK.law {P:Program} {k e:TypeId} (A:PairK P k e):Keyed P k :=
 Keyed.of_law (WideMaps.ArrKey.law ⟨A.hu,by unfold Program.plainKey;rw [A.he],A.one,A.two⟩)
theorem PairK.keyOf {P:Program} {k e:TypeId} (A:PairK P k e) {a b:Int} (ha:(Lit.int .i64 a).wf=true) (hb:(Lit.int .i64 b).wf=true):Go.keyOf P k (aN6 (a,b))=some (pk a b):=by
 obtain ⟨m,hm⟩:=A.sz;unfold Go.keyOf aN6;rw [A.hu];simp only []
 rw [A.kt];simp only [Value.formed,A.hu,A.two,Bool.true_and]
 rw [hm];simp only [Program.keyLits,A.hu,A.he,A.one,A.two,Value.cells,List.range,List.range.loop]
 simp [ha,hb,pk]
theorem PairK.inv {P:Program} {k e:TypeId} (A:PairK P k e) {v:Value} {l:Lit} (h:Go.keyOf P k v=some l):∃ x:Int × Int,v=aN6 x/\(Lit.int .i64 x.1).wf=true/\(Lit.int .i64 x.2).wf=true/\l=pk x.1 x.2:=by
 obtain ⟨m,hm⟩:=A.sz;unfold Go.keyOf at h;rw [A.hu] at h;simp only [] at h
 rw [A.kt] at h;cases v with
 | agg cs =>
  simp only [Value.formed,A.hu,A.two,Bool.true_and] at h
  split at h
  .rename_i hs
   obtain ⟨l'⟩:=cs;simp at hs
   match l',hs with
   | [u,v],_ =>
    rw [hm] at h;cases u with
    | int q a =>
     cases v with
     | int q' b =>
      simp only [Program.keyLits,A.hu,A.he,A.one,A.two,Value.cells,List.range,List.range.loop] at h
      by_cases h1:q = .i64/\(Lit.int .i64 a).wf=true
      .by_cases h2:q' = .i64/\(Lit.int .i64 b).wf=true
       .obtain ⟨rfl,h1⟩:=h1
        obtain ⟨rfl,h2⟩:=h2;simp [h1,h2] at h
        exact ⟨(a,b),rfl,h1,h2,h.symm⟩
       .simp [h1,h2] at h
      .simp [h1] at h
     | _=>simp [Program.keyLits,A.hu,A.he,A.one,A.two,Value.cells,List.range,List.range.loop] at h
    | _=>simp [Program.keyLits,A.hu,A.he,A.one,A.two,Value.cells,List.range,List.range.loop] at h
  .cases h
 | _=>simp [Value.formed,A.hu] at h
theorem aZ0 {P:Program} {k e:TypeId} (A:PairK P k e) {a b c d:Int} (ha:(Lit.int .i64 a).wf=true) (hb:(Lit.int .i64 b).wf=true) (hc:(Lit.int .i64 c).wf=true) (hd:(Lit.int .i64 d).wf=true) (h:pk a b=pk c d):a=c/\b=d:=by
 have h1:=A.keyOf ha hb;have h2:=A.keyOf hc hd;rw [h] at h1;have:=A.law.inj h1 h2;simp [aN6] at this
 exact this
def aFi (P:Program) (k e:TypeId) (w:World) (b n:Nat) (D:DataW Unit) (M:Int->Int->Int):Prop :=
 w.ownsMap P k (plainElem P e) b n D/\IsMap D/\(∀ x y,(Lit.int .i64 x).wf=true->(Lit.int .i64 y).wf=true->D.atKey (pk x y) (.lit (.int .i64 0)) = .lit (.int .i64 (M x y))/\(has D (pk x y)=true↔M x y≠0))
theorem aFi.made (P:Program) (k e:TypeId) (w:World):aFi P k e (w.alloc (.map #[] 0)) w.heap.size 0 (.map []) (fun _ _=>0) :=
 ⟨World.ownsMap_made w P k _,isMap_empty,fun x y _ _=>⟨by simp [DataW.atKey],by simp [has]⟩⟩
theorem aFi.kept {P:Program} {k e:TypeId} {w w':World} {b n:Nat} {D:DataW Unit} {M:Int->Int->Int} {row:Option Nat} (h:aFi P k e w b n D M) (hg:w.grownBy w' row) (hne:some b≠row):aFi P k e w' b n D M :=
 ⟨h.1.kept hg hne,h.2⟩
theorem aFi.keep {P:Program} {k e:TypeId} {w w':World} {b n:Nat} {D:DataW Unit} {M:Int->Int->Int} (h:aFi P k e w b n D M) (hb:Bel w w'):aFi P k e w' b n D M:=h.kept (hb.grownBy none) (by simp)
theorem aFi.lookOk {P:Program} {k e t:TypeId} (A:PairK P k e) (ht:P.underlying t=some (.map k e)) {w:World} {b n:Nat} {D:DataW Unit} {M:Int->Int->Int} (h:aFi P k e w b n D M) (hz:(zeroValue e).run P w = .ok (.int .i64 0) w) {x y:Int} (hx:(Lit.int .i64 x).wf=true) (hy:(Lit.int .i64 y).wf=true) :
  (Instr.lookup t (.map (some b)) (aN6 (x,y)) true).run P w = .ok (.tuple #[.int .i64 (M x y),.bool (decide (M x y≠0))]) w:=by
 obtain ⟨v,ps,hrun,hv⟩:=h.1.look_ok A.law ht hz (plainElem_int A.he (by decide)) (A.keyOf hx hy)
 obtain ⟨h1,h2⟩:=h.2.2 x y hx hy;rw [h1] at hv;obtain ⟨c,rfl,hc,_⟩:=plainElem_int_inv A.he hv;simp at hc
 rw [hrun,<- hc.1]
 congr 3
 rw [show has D (pk x y)=decide (M x y≠0) by rw [Bool.eq_iff_iff];simpa using h2]
theorem aFi.look {P:Program} {k e t:TypeId} (A:PairK P k e) (ht:P.underlying t=some (.map k e)) {w:World} {b n:Nat} {D:DataW Unit} {M:Int->Int->Int} (h:aFi P k e w b n D M) (hz:(zeroValue e).run P w = .ok (.int .i64 0) w) {x y:Int} (hx:(Lit.int .i64 x).wf=true) (hy:(Lit.int .i64 y).wf=true) :
  (Instr.lookup t (.map (some b)) (aN6 (x,y)) false).run P w = .ok (.int .i64 (M x y)) w:=by
 obtain ⟨c,hrun,hc,_⟩:=h.1.lookup_int A.law ht A.he hz (A.keyOf hx hy);rw [(h.2.2 x y hx hy).1] at hc;simp at hc
 rw [hrun,hc]
def bA1 (M:Int->Int->Int) (x y c:Int):Int->Int->Int:=fun a b=>if a=x/\b=y then c else M a b
theorem aFi.put {P:Program} {k e:TypeId} (A:PairK P k e) {w':World} {b n:Nat} {D:DataW Unit} {M:Int->Int->Int} {x y c:Int} (hx:(Lit.int .i64 x).wf=true) (hy:(Lit.int .i64 y).wf=true) (hc:c≠0)
  (h2:IsMap D/\(∀ x y,(Lit.int .i64 x).wf=true->(Lit.int .i64 y).wf=true->D.atKey (pk x y) (.lit (.int .i64 0)) = .lit (.int .i64 (M x y))/\(has D (pk x y)=true↔M x y≠0)))
  (h:w'.ownsMap P k (plainElem P e) b n (D.put (pk x y) (.lit (.int .i64 c)))):aFi P k e w' b n (D.put (pk x y) (.lit (.int .i64 c))) (bA1 M x y c):=by
 refine ⟨h,h2.1.put _ _,fun a b ha hb=>?_⟩
 have hkl:WideAt.IsKeyLit (pk x y):=trivial
 by_cases he:a=x/\b=y
 .obtain ⟨rfl,rfl⟩:=he
  refine ⟨?_,?_⟩
  .rw [atKey_put_same h2.1 hkl];simp [bA1]
  .simp only [bA1]
   simp [hc]
   exact has_true_of_atKey (y := .lit (.int .i64 c)) (fun z=>atKey_put_same h2.1 hkl _ z)
 .have hne:pk a b≠pk x y:=fun h=>he (aZ0 A ha hb hx hy h)
  have hM:bA1 M x y c a b=M a b:=by unfold bA1;rw [if_neg he]
  obtain ⟨g1,g2⟩:=h2.2 a b ha hb;refine ⟨by rw [atKey_put_other hne,hM,g1],?_⟩
  rw [hM,<- g2];constructor
  .intro hh
   cases hD:has D (pk a b) with
   | true=>rfl
   | false =>
    have:has (D.put (pk x y) (.lit (.int .i64 c))) (pk a b)=false:=has_false_of_atKey (fun z=>by rw [atKey_put_other hne,atKey_of_not_has hD])
    rw [this] at hh;cases hh
  .intro hh
   cases hD:has (D.put (pk x y) (.lit (.int .i64 c))) (pk a b) with
   | true=>rfl
   | false =>
    have:has D (pk a b)=false:=has_false_of_atKey (fun z=>by rw [<- atKey_put_other hne (.lit (.int .i64 c)),atKey_of_not_has hD])
    rw [this] at hh;cases hh
theorem aRx {n v:Nat} {ls:List Link} {i:Nat} (h:i<ls.length) (hb:aJ4 n v ls[i]=false):aC9 n v ls=false:=by
 unfold aC9;rw [aAh h hb];rfl
theorem aRy {n v:Nat} {ls:List Link} {j i:Nat} (hj:j<i) (h:i<ls.length) (he:ls[j].to=ls[i].to):aC9 n v ls=false:=by
 unfold aC9
 have:decide ((ls.map Link.to).Nodup)=false:=by
  simp only [decide_eq_false_iff_not]
  exact aEa hj (by simpa using h) (by simpa using he)
 rw [this];simp
theorem aI9 (A:Option Addr) (c:Nat) (ls:List Link) (v n:Nat) (w:World) (h:aFp w A ls.length ls) (hl:ls.length<=1000000) (hn:n<=1000000) :
  Calls prog 97 #[.slice A ls.length c,.int .i64 v,.int .i64 n] w fun e w'=>e = .returned (.bool (aC9 n v ls))/\Bel w w':=by
 have H:=aA0 (fun w' (k:Bel w w')=>aFp.keep h k);clear h;go_enter func97,ntmps97;go_wp2
 go_loopg [7,8] ls.length (fun m x _y wr=>∃ j:Nat,j<=ls.length/\m=ls.length-j/\Hid ((ls.take j).all (aJ4 n v)=true/\((ls.map Link.to).take j).Nodup)/\x = .int .i64 j/\Bel w wr)
 case atStart=>exact ⟨0,by omega,rfl,⟨rfl,by simp⟩,rfl,Bel.refl _⟩
 case round =>
  obtain ⟨i,hi,rfl,HK,rfl,HB⟩:=hrel
  by_cases hlt:i<ls.length
  .obtain ⟨b,o,rfl,hb,hl1,hl2⟩:=(H.out _ HB).at_ i hlt
   cases hok:aJ4 n v ls[i] with
   | false =>
    have HF:=aA0 (aRx hlt hok);have HO:=aA0 hok;clear hok
    go_wp2_with (go_at_call 92;refine (aCs _ _ _ _).mono ?_;rintro e w' ⟨rfl,rfl⟩)
    all_goals first
     | (go_ret;exact ⟨aA2 HF.out.symm,HB⟩)
     | (exfalso
        have a1:inB ls[i].to 0 (↑n-1)=true:=by assumption
        obtain ⟨a2,a3'⟩:(ls[i].to==(v:Int))=false/\(!inB ls[i].weight 1 15)=false:=by assumption
        have a3:inB ls[i].weight 1 15=true:=by simpa using a3'
        rw [aM3] at a1 a3;have a4:ls[i].to≠(v:Int):=by simpa using a2
        have:=HO.out;rw [aBd.2 ⟨by omega,by omega,a4,by omega,by omega⟩] at this
        cases this)
   | true =>
    obtain ⟨q1,q2,q3,q4,q5⟩:=aBd.1 hok;have a1:inB ls[i].to 0 (↑n-1)=true:=aDb (by omega) (by omega)
    have a2:(ls[i].to==(v:Int))=false:=by simpa using q3
    have a3:inB ls[i].weight 1 15=true:=aDb (by omega) (by omega)
    have HO:=aA0 hok;clear hok q3
    go_wp2_with (go_at_call 92;refine (aCs _ _ _ _).mono ?_;rintro e w' ⟨rfl,rfl⟩)
    clear a1 a2 a3
    go_loopg [8] i (fun m x ws=>∃ j:Nat,j<=i/\m=i-j/\Hid (∀ q,(hq:q<j)->(hq':q<ls.length)->ls[q].to≠ls[i].to)/\x = .int .i64 j/\Bel wr ws)
    case atStart=>exact ⟨0,by omega,rfl,fun q hq=>absurd hq (by omega),rfl,Bel.refl _⟩
    case round =>
     obtain ⟨j,hj,rfl,HJ,rfl,HB2⟩:=hrel
     by_cases hlt2:j<i
     .have hji:j<ls.length:=by omega
      obtain ⟨b',o',e',hb',hj1,_⟩:=(H.out _ (HB.trans HB2)).at_ j hji;obtain ⟨rfl,rfl⟩:b=b'/\o=o':=by simpa using e'
      clear e';have hi1:=(HB2.cell hb).trans hl1;have hd:decide (j<i)=true:=by simpa using hlt2
      go_wp2
      go_quiet (fail)
      go_wp2
      .have he:(ls[j].to==ls[i].to)=true:=by assumption
       go_ret;exact ⟨aA2 (aRy hlt2 hlt (by simpa using he)).symm,(HB.trans HB2).drewN _⟩
      .have he:(ls[j].to==ls[i].to)=false:=by assumption
       go_roundg (i-(j+1))
       case rel =>
        refine ⟨j+1,by omega,rfl,?_,by go_num,HB2.drewN _⟩
        intro q hq hq'
        rcases Nat.lt_or_ge q j with h | h
        .exact HJ.out q h hq'
        .obtain rfl:q=j:=by omega
         simpa using he
       case measure=>omega
     .have hd:decide (j<i)=false:=by simpa using hlt2
      go_wp2
      go_roundg (ls.length-(i+1))
      case rel =>
       refine ⟨i+1,by omega,rfl,⟨aA9 hlt HK.out.1 HO.out,aDq (by simpa using hlt) HK.out.2 ?_⟩,by go_num,HB.trans HB2⟩
       intro q hq
       have:=HJ.out q (by omega) (by omega)
       simpa using this
      case measure=>omega
  .go_wp2
   go_ret;refine ⟨aA2 ?_,HB⟩
   symm
   rw [aB3];have h1:=HK.out;rw [List.take_of_length_le (by omega),List.take_of_length_le (by simp;omega)] at h1
   exact ⟨List.all_eq_true.1 h1.1,h1.2⟩
def aFh (r:Rule):Nat:=r.guard.length+(r.sets.map (fun s=>s.value.length)).sum
def aKy (p:Prg):Nat:=(p.rules.map aFh).sum
theorem aGe {α:Type} (f:α->Nat) (l:List α) (k:Nat) (h:k<l.length):((l.take (k+1)).map f).sum=((l.take k).map f).sum+f l[k]:=by
 rw [List.take_succ_eq_append_getElem h,List.map_append,List.sum_append];simp
theorem aNv {α:Type} (f:α->Nat) (l:List α) (b:Nat) (h:∀ x∈l,f x<=b):(l.map f).sum<=l.length*b:=by
 induction l with
 | nil=>simp
 | cons x l ih =>
  have h1:=h x (by simp)
  have h2:=ih (fun y hy=>h y (by simp [hy]))
  simp only [List.map_cons,List.sum_cons,List.length_cons,Nat.add_mul]
  omega
theorem aQx {r:Rule} (h:aEi r=true):aFh r<=2750:=by
 unfold aEi at h;simp at h
 obtain ⟨⟨⟨h1,h2⟩,h3⟩,h4⟩:=h;have:=aNv (fun s:SetT=>s.value.length) r.sets 250 h4;unfold aFh;have:r.sets.length*250<=2500:=by omega
 omega
theorem aBb {p:Prg} (h:aAq p=true):p.name.size<=40/\p.vars.length<=10/\p.rules.length<=16/\(∀ x∈p.vars,x.name.size<=40)/\(∀ r∈p.rules,aEi r=true):=by
 unfold aAq at h;simp at h
 obtain ⟨⟨⟨⟨h1,h2⟩,h3⟩,h4⟩,h5⟩:=h;exact ⟨h1,h2,h3,h4,h5⟩
theorem aBm {r:Rule} (h:aEi r=true):r.name.size<=40/\r.sets.length<=10/\r.guard.length<=250/\∀ s∈r.sets,s.value.length<=250:=by
 unfold aEi at h;simp at h
 obtain ⟨⟨⟨h1,h2⟩,h3⟩,h4⟩:=h;exact ⟨h1,h2,h3,h4⟩
theorem aQw {p:Prg} (h:aAq p=true):aKy p<=44000:=by
 obtain ⟨_,_,h3,_,h5⟩:=aBb h;have:=aNv aFh p.rules 2750 (fun r hr=>aQx (h5 r hr));unfold aKy;have:p.rules.length*2750<=44000:=by omega
 omega
theorem aCn {g:Graph} (h:aB2 g=true):g.ids.length<=30/\g.ports.length<=30/\∀ r∈g.ports,r.length<=30:=by
 unfold aB2 at h;simp at h
 obtain ⟨⟨h1,h2⟩,h3⟩:=h;exact ⟨h1,h2,h3⟩
theorem aLt {g:Graph} (h:aB2 g=true):1<=aDa g/\aDa g<=30:=by
 obtain ⟨_,_,h3⟩:=aCn h;refine ⟨aOh _ _,aOi _ _ _ (by omega) ?_⟩
 intro x hx
 obtain ⟨r,hr,rfl⟩:=List.mem_map.1 hx;exact h3 r hr
theorem aQy (v:Value) (p:Prg) (w:World) (h:aEo w v p) (hlight:aAq p=true) :
  Calls prog 32 #[v] w fun e w'=>e = .returned (.int .i64 (aKy p:Nat))/\Bel w w':=by
 obtain ⟨A,k,A2,k2,rfl,_,_,_,hr,_,_⟩:=h;obtain ⟨_,_,hp3,_,hp5⟩:=aBb hlight;have HP:=aA0 hp5;clear hp5 hlight;have HR:=aA0 hr;clear hr;go_enter func32,ntmps32;go_wp2
 go_loopg [3,4,5] p.rules.length (fun m s i _z wr=>∃ j:Nat,j<=p.rules.length/\m=p.rules.length-j/\s = .int .i64 ((((p.rules.take j).map aFh).sum:Nat):Int)/\((p.rules.take j).map aFh).sum<=j*2750/\i = .int .i64 j/\w.alloc (.cells #[.string p.name,.slice A p.vars.length k,.slice A2 p.rules.length k2] 25)=wr)
 case atStart=>exact ⟨0,by omega,rfl,rfl,by simp,rfl,rfl⟩
 case round =>
  obtain ⟨i,hi,rfl,rfl,hsum,rfl,rfl⟩:=hrel
  by_cases hlt:i<p.rules.length
  .obtain ⟨b,o,G,c,S,c2,rfl,hb,hc1,hc2,hc3,_,_,_,hS,_,_⟩:=HR.out.at_ i hlt
   have HS:=aA0 hS;clear hS;have hL:=HP.out p.rules[i] (List.getElem_mem hlt);obtain ⟨_,hr2,hr3,hr4⟩:=aBm hL;have H4:=aA0 hr4;clear hr4;have hT:=aQx hL
   have HT:Hid (∀ t,((p.rules[i].sets.take p.rules[i].sets.length).map (fun s=>s.value.length)).sum=t->((p.rules.take i).map aFh).sum+p.rules[i].guard.length+t=((p.rules.take (i+1)).map aFh).sum):=by
    intro t ht
    rw [List.take_of_length_le (Nat.le_refl _)] at ht;rw [aGe aFh _ _ hlt];unfold aFh at *;omega
   have hsum2:Hid (((p.rules.take (i+1)).map aFh).sum<=(i+1)*2750):=by
    show ((p.rules.take (i+1)).map aFh).sum<=(i+1)*2750
    rw [aGe aFh _ _ hlt];omega
   clear hL hT;generalize ((p.rules.take i).map aFh).sum=N at *;go_wp2
   go_loopg [3,5] p.rules[i].sets.length (fun m s x ws=>∃ j:Nat,j<=p.rules[i].sets.length/\m=p.rules[i].sets.length-j/\s = .int .i64 ((N+p.rules[i].guard.length+((p.rules[i].sets.take j).map (fun s=>s.value.length)).sum:Nat):Int)/\((p.rules[i].sets.take j).map (fun s=>s.value.length)).sum<=j*250/\x = .int .i64 j/\w.alloc (.cells #[.string p.name,.slice A p.vars.length k,.slice (some ⟨b,o,none⟩) p.rules.length k2] 25)=ws)
   case atStart=>exact ⟨0,by omega,rfl,by simp,by simp,rfl,rfl⟩
   case round =>
    obtain ⟨q,hq,rfl,rfl,hs2,rfl,rfl⟩:=hrel
    by_cases hlt2:q<p.rules[i].sets.length
    .obtain ⟨b',o',R,c',rfl,hb',hs1,hs3,_,_,_⟩:=HS.out.at_ q hlt2
     have hv:=H4.out _ (List.getElem_mem hlt2);have hss:=aA0 (aGe (fun s:SetT=>s.value.length) _ _ hlt2);generalize hg:((p.rules[i].sets.take q).map (fun s=>s.value.length)).sum=M at *;clear hg;go_wp2
     go_roundg (p.rules[i].sets.length-(q+1))
     case rel=>exact ⟨q+1,by omega,rfl,by rw [hss.out];go_num,by rw [hss.out];omega,by go_num,rfl⟩
     case measure=>omega
    .have e:q=p.rules[i].sets.length:=by omega
     have HQ:=aA0 (HT.out _ (by rw [<- e]))
     clear e;generalize hg:((p.rules[i].sets.take q).map (fun s=>s.value.length)).sum=M at *;clear hg;go_wp2
     go_roundg (p.rules.length-(i+1))
     case rel=>exact ⟨i+1,by omega,rfl,by rw [<- HQ.out],hsum2.out,by go_num,rfl⟩
     case measure=>omega
  .go_wp2
   go_ret;exact ⟨aA4 (by unfold aKy;rw [List.take_of_length_le (by omega)]),(Bel.refl _).alloc _⟩
def aF1 (p:Prg) (g:Graph):Bool:=aAq p&&aB2 g&&decide (aKy p*g.ports.length*aDa g*aDa g<=100000)
theorem aHx {a b:Nat} {x y:Nat} (ha:a<=x) (hb:b<=y) (h:x*y<=9223372036854775807):IntKind.i64.wrap ((a:Int)*(b:Int))=((a*b:Nat):Int):=by
 have h1:a*b<=x*y:=Nat.mul_le_mul ha hb;rw [<- Int.natCast_mul];exact IntWalk.i64_in _ (by omega)
theorem aJf (v:Value) (p:Prg) (v2:Value) (g:Graph) (w:World) (h:aEo w v p) (h2:aAm w v2 g) :
  Calls prog 30 #[v,v2] w fun e w'=>e = .returned (.bool (aF1 p g))/\Bel w w':=by
 have HP:=aA0 (fun w' (k:Bel w w')=>h.keep k);have HG:=aA0 (fun w' (k:Bel w w')=>h2.keep k);obtain ⟨A,k,A2,k2,rfl,_,_,_,_,_,_⟩:=h;obtain ⟨A3,k3,A4,k4,rfl,_,_,_,_,_,_⟩:=h2;have HW:=Bel.refl ((w.alloc (.cells #[.string p.name,.slice A p.vars.length k,.slice A2 p.rules.length k2] 25)).alloc (.cells #[.slice A3 g.ids.length k3,.slice A4 g.ports.length k4] 29));cases hlp:aAq p with
 | false =>
  have HF:Hid (aF1 p g=false):=by show aF1 p g=false;simp [aF1,hlp]
  go_enter func30,ntmps30
  go_wp2_with (go_at_call 56;refine (aEf _ p _ (HP.out _ (aA1 HW))).mono ?_;rintro e w' ⟨rfl,hb⟩;replace HW:=HW.trans hb;clear hb)
  go_ret;exact ⟨aA2 HF.out.symm,aA1 HW⟩
 | true =>
  cases hlg:aB2 g with
  | false =>
   have HF:Hid (aF1 p g=false):=by show aF1 p g=false;simp [aF1,hlg]
   go_enter func30,ntmps30
   go_wp2_with (first
    | (go_at_call 56;refine (aEf _ p _ (HP.out _ (aA1 HW))).mono ?_;rintro e w' ⟨rfl,hb⟩;replace HW:=HW.trans hb;clear hb;obtain ⟨p0,p1,p2,g0,g1,gsz⟩:=aAf HW)
    | (go_at_call 57;refine (aI8 _ g _ (HG.out _ (aA1 HW))).mono ?_;rintro e w2 ⟨rfl,hb⟩;replace HW:=HW.trans hb;clear hb))
   go_ret;exact ⟨aA2 HF.out.symm,aA1 HW⟩
  | true =>
   have hT:=aQw hlp;have hD:=aLt hlg;have hN:=(aCn hlg).2.1;have w1:=aHx hT hN (by decide)
   have w2:=aHx (Nat.mul_le_mul hT hN) hD.2 (by decide)
   have w3:=aHx (Nat.mul_le_mul (Nat.mul_le_mul hT hN) hD.2) hD.2 (by decide)
   have HF:Hid (aF1 p g=decide (aKy p*g.ports.length*aDa g*aDa g<=100000)):=by show aF1 p g=_;simp [aF1,hlp,hlg]
   have HL:=aA0 hlp;have W2:=aA0 w2;have W3:=aA0 w3;rw [<- Int.natCast_mul] at W2 W3;clear hT hD hN w2 w3;go_enter func30,ntmps30
   go_wp2_with (first
    | (go_at_call 56;refine (aEf _ p _ (HP.out _ (aA1 HW))).mono ?_;rintro e w' ⟨rfl,hb⟩;replace HW:=HW.trans hb;clear hb;obtain ⟨p0,p1,p2,g0,g1,gsz⟩:=aAf HW)
    | (go_at_call 57;refine (aI8 _ g _ (HG.out _ (aA1 HW))).mono ?_;rintro e w2 ⟨rfl,hb⟩;replace HW:=HW.trans hb;clear hb p0 p1 p2 g0 g1 gsz;obtain ⟨p0,p1,p2,g0,g1,gsz⟩:=aAf HW)
    | (go_at_call 33;refine (aLu _ g _ (HG.out _ (aA1 HW))).mono ?_;rintro e w2 ⟨rfl,hb⟩;replace HW:=HW.trans hb;clear hb p0 p1 p2 g0 g1 gsz;obtain ⟨p0,p1,p2,g0,g1,gsz⟩:=aAf HW))
   replace HW:=HW.drew
   go_region_held3 (fun w'=>w'.cell? ⟨w.heap.size,0,none⟩=some (.string p.name)/\w'.cell? ⟨w.heap.size,1,none⟩=some (.slice A p.vars.length k)/\w'.cell? ⟨w.heap.size,2,none⟩=some (.slice A2 p.rules.length k2)/\w'.cell? ⟨w.heap.size+1,0,none⟩=some (.slice A3 g.ids.length k3)/\w'.cell? ⟨w.heap.size+1,1,none⟩=some (.slice A4 g.ports.length k4)/\w.heap.size+1<w'.heap.size) (exact aAf HW) (first | (go_simp;go_at_call 32;refine (aQy _ p _ (HP.out _ (aA1 HW)) HL.out).mono ?_;rintro e w4 ⟨rfl,hb⟩;replace HW:=HW.trans hb;clear hb))
   all_goals
    go_wp2;go_ret;refine ⟨aA2 ?_,aA1 HW⟩
    rw [HF.out,Bool.eq_iff_iff];simp only [decide_eq_true_eq,<- Int.natCast_mul]
    rw [W2.out,<- Int.natCast_mul,W3.out];omega
theorem aE3 {p:Prg} {g:Graph} (h:aF1 p g=true):aAq p=true/\aB2 g=true:=by
 unfold aF1 at h;simp at h;exact h.1
theorem aDf {g:Graph} (h:¬ GOK g):aD4 g=false:=by
 rw [Bool.eq_false_iff];intro hb;exact h ((aCr g).1 hb)
theorem aBo (v:Value) (g:Graph) (w:World) (h:aAm w v g) (hlg:aB2 g=true) :
  Calls prog 72 #[v] w fun e w'=>e = .returned (.bool (aD4 g))/\Bel w w':=by
 have HG:=aA0 (fun w' (k:Bel w w')=>h.keep k);obtain ⟨A,k,A2,k2,rfl,hI,_,_,hP,_,_⟩:=h;have HI:=aA0 (fun w' (k:Bel w w')=>aBc.keep hI k);clear hI;have HP:=aA0 (fun w' (k:Bel w w')=>aEs.keep hP k);clear hP;obtain ⟨hl1,hl2,hl3⟩:=aCn hlg;have HL3:=aA0 hl3;clear hl3 hlg
 by_cases hn:1<=g.ports.length/\g.ports.length<=24/\g.ids.length=g.ports.length
 .obtain ⟨hn1,hn2,hn3⟩:=hn
  have hb1:inB (g.ports.length:Int) 1 24=true:=aDb (by omega) (by omega)
  rw [hn3] at HI HG ⊢;have HN:=aA0 hn3;clear hn3;have hb2:(g.ports.length != g.ports.length)=false:=by simp
  have HW:=Bel.refl (w.alloc (.cells #[.slice A g.ports.length k,.slice A2 g.ports.length k2] 29));go_enter func72,ntmps72
  go_wp2_with (go_at_call 92;refine (aCs _ _ _ _).mono ?_;rintro e w' ⟨rfl,rfl⟩)
  clear hb1 hb2
  go_loopg [4,5] g.ports.length (fun m x _y wr=>∃ j:Nat,j<=g.ports.length/\m=g.ports.length-j/\Hid ((g.ids.take j).all (fun i=>decide (0<=i/\i<=255))=true/\(g.ids.take j).Nodup/\∀ q,q<j->(hq:q<g.ports.length)->aC9 g.ports.length q g.ports[q]=true)/\x = .int .i64 j/\Bel (w.alloc (.cells #[.slice A g.ports.length k,.slice A2 g.ports.length k2] 29)) wr)
  case atStart=>exact ⟨0,by omega,rfl,⟨rfl,by simp,fun q hq=>absurd hq (by omega)⟩,rfl,HW⟩
  case round =>
   clear HW;obtain ⟨i,hi,rfl,HK,rfl,HB⟩:=hrel;have b0:=aA7 HB 0 rfl;have b1:=aA7 HB 1 rfl;have bs:=aAu HB
   by_cases hlt:i<g.ports.length
   .have hd0:decide (i<g.ports.length)=true:=by simpa using hlt
    have hlt':i<g.ids.length:=by rw [HN.out];exact hlt
    obtain ⟨b,o,rfl,hb,hid⟩:=(HI.out _ (aA3 HB)).at_ i hlt';obtain ⟨b',o',R,c',rfl,hb',hrow,hL,_,_⟩:=(HP.out _ (aA3 HB)).at_ i hlt;have HL:=aA0 hL;clear hL;have hle:=HL3.out g.ports[i] (List.getElem_mem hlt);cases hio:decide (0<=g.ids[i]/\g.ids[i]<=255) with
    | false =>
     have hio':=of_decide_eq_false hio;have HF:Hid (aD4 g=false):=aDf fun hg=>hio' (hg.idr _ (List.getElem_mem hlt'));have hin:inB g.ids[i] 0 255=false:=aJ0 (by omega)
     clear hio hio'
     go_wp2_with (go_at_call 92;refine (aCs _ _ _ _).mono ?_;rintro e w' ⟨rfl,rfl⟩)
     go_ret;exact ⟨aA2 HF.out.symm,aA3 HB⟩
    | true =>
     have hio':=of_decide_eq_true hio;have hin:inB g.ids[i] 0 255=true:=aDb hio'.1 hio'.2;have HIO:=aA0 hio;clear hio hio';cases hok:aC9 g.ports.length i g.ports[i] with
     | false =>
      have HF:Hid (aD4 g=false):=aDf fun hg=>by have:=hg.links i hlt;rw [hok] at this;cases this
      by_cases hge:g.ports.length<=g.ports[i].length
      .have hd:decide (g.ports.length<=g.ports[i].length)=true:=by simpa using hge
       go_wp2_with (go_at_call 92;refine (aCs _ _ _ _).mono ?_;rintro e w' ⟨rfl,rfl⟩)
       go_ret;exact ⟨aA2 HF.out.symm,aA3 HB⟩
      .have hd:decide (g.ports.length<=g.ports[i].length)=false:=by simpa using hge
       go_wp2_with (first
        | (go_at_call 92;refine (aCs _ _ _ _).mono ?_;rintro e w' ⟨rfl,rfl⟩)
        | (go_at_call 97;refine (aI9 _ _ g.ports[i] i g.ports.length _ HL.out (by omega) (by omega)).mono ?_;rintro e w' ⟨rfl,hbb⟩;replace HB:=HB.trans hbb;clear hbb))
       go_ret;exact ⟨aA2 HF.out.symm,aA3 HB⟩
     | true =>
      have hge:=aCa hlt hok;have hd:decide (g.ports.length<=g.ports[i].length)=false:=by simp;omega
      have HOK:=aA0 hok
      go_wp2_with (first
       | (go_at_call 92;refine (aCs _ _ _ _).mono ?_;rintro e w' ⟨rfl,rfl⟩)
       | (go_at_call 97;refine (aI9 _ _ g.ports[i] i g.ports.length _ HL.out (by omega) (by omega)).mono ?_;rintro e w' ⟨rfl,hbb⟩;replace HB:=HB.trans hbb;clear hbb hb hb' hid hrow;clear HL b0 b1 bs;have b0:=aA7 HB 0 rfl;have b1:=aA7 HB 1 rfl;have bs:=aAu HB))
      clear hok hin hd hd0 hge hle
      go_loopg [5] i (fun m x ws=>∃ j:Nat,j<=i/\m=i-j/\Hid (∀ q,(hq:q<j)->(hq':q<g.ids.length)->g.ids[q]≠g.ids[i])/\x = .int .i64 j/\Bel (w.alloc (.cells #[.slice (some ⟨b,o,none⟩) g.ports.length k,.slice (some ⟨b',o',none⟩) g.ports.length k2] 29)) ws)
      case atStart=>exact ⟨0,by omega,rfl,fun q hq=>absurd hq (by omega),rfl,HB⟩
      case round =>
       clear HB b0 b1 bs;obtain ⟨j,hj,rfl,HJ,rfl,HB⟩:=hrel;have b0:=aA7 HB 0 rfl;have bs:=aAu HB
       by_cases hlt2:j<i
       .have hji:j<g.ids.length:=by omega
        have hjn:j<g.ports.length:=by omega
        obtain ⟨b2,o2,e2,hb2,hj1⟩:=(HI.out _ (aA3 HB)).at_ j hji;obtain ⟨rfl,rfl⟩:b=b2/\o=o2:=by simpa using e2
        obtain ⟨b2,o2,e2,_,hi1⟩:=(HI.out _ (aA3 HB)).at_ i hlt';obtain ⟨rfl,rfl⟩:b=b2/\o=o2:=by simpa using e2
        clear e2;have hd:decide (j<i)=true:=by simpa using hlt2
        go_wp2
        go_quiet (fail)
        go_wp2
        .have he:(g.ids[j]==g.ids[i])=true:=by assumption
         go_ret;refine ⟨aA2 ?_,(aA3 HB).drewN _⟩
         symm
         refine aDf fun hg=>?_
         exact aEa hlt2 hlt' (by simpa using he) hg.idn
        .have he:(g.ids[j]==g.ids[i])=false:=by assumption
         go_roundg (i-(j+1))
         case rel =>
          refine ⟨j+1,by omega,rfl,?_,by go_num,HB.drewN _⟩
          intro q hq hq'
          rcases Nat.lt_or_ge q j with h | h
          .exact HJ.out q h hq'
          .obtain rfl:q=j:=by omega
           simpa using he
         case measure=>omega
       .have hd:decide (j<i)=false:=by simpa using hlt2
        go_wp2
        go_roundg (g.ports.length-(i+1))
        case rel =>
         refine ⟨i+1,by omega,rfl,⟨aA9 hlt' HK.out.1 HIO.out,aDq hlt' HK.out.2.1 (fun q hq=>HJ.out q (by omega) (by omega)),?_⟩,by go_num,HB⟩
         intro q hq hq'
         rcases Nat.lt_or_ge q i with h | h
         .exact HK.out.2.2 q h hq'
         .obtain rfl:q=i:=by omega
          exact HOK.out
        case measure=>omega
   .have hd0:decide (i<g.ports.length)=false:=by simpa using hlt
    have HK1:Hid (g.ids.all (fun i=>decide (0<=i/\i<=255))=true/\g.ids.Nodup/\∀ q,(hq:q<g.ports.length)->aC9 g.ports.length q g.ports[q]=true):=by
     obtain ⟨a1,a2,a3⟩:=HK.out;rw [List.take_of_length_le (by rw [HN.out];omega)] at a1 a2
     exact ⟨a1,a2,fun q hq=>a3 q (by omega) hq⟩
    clear HK;go_wp2;clear hd0
    go_loopg [6,7,8,9] g.ports.length (fun m x _y _z _u ws=>∃ j:Nat,j<=g.ports.length/\m=g.ports.length-j/\Hid (∀ q,q<j->(hq:q<g.ports.length)->∀ l∈g.ports[q],aF8 g q l=true)/\x = .int .i64 j/\Bel (w.alloc (.cells #[.slice A g.ports.length k,.slice A2 g.ports.length k2] 29)) ws)
    case atStart=>exact ⟨0,by omega,rfl,fun q hq=>absurd hq (by omega),rfl,HB⟩
    case round =>
     clear HB b0 b1 bs hlt hi;obtain ⟨v,hv,rfl,HQ,rfl,HB⟩:=hrel
     by_cases hlt:v<g.ports.length
     .have hd0:decide (v<g.ports.length)=true:=by simpa using hlt
      go_wp2;clear hd0
      go_loopg [7,8,9] g.ports[v].length (fun m x _y _z ws=>∃ j:Nat,j<=g.ports[v].length/\m=g.ports[v].length-j/\Hid ((g.ports[v].take j).all (aF8 g v)=true)/\x = .int .i64 j/\Bel (w.alloc (.cells #[.slice A g.ports.length k,.slice A2 g.ports.length k2] 29)) ws)
      case atStart=>exact ⟨0,by omega,rfl,rfl,rfl,HB⟩
      case round =>
       clear HB;obtain ⟨j,hj,rfl,HJ,rfl,HB⟩:=hrel;have b0:=aA7 HB 0 rfl;have b1:=aA7 HB 1 rfl;have bs:=aAu HB;obtain ⟨b',o',R,c',rfl,hb',hrow,hL,_,_⟩:=(HP.out _ (aA3 HB)).at_ v hlt;have hle:=HL3.out g.ports[v] (List.getElem_mem hlt)
       by_cases hlt2:j<g.ports[v].length
       .obtain ⟨b2,o2,rfl,hb2,hto,hwe⟩:=hL.at_ j hlt2
        obtain ⟨hv1,hv2⟩:=aB3.1 (HK1.out.2.2 v hlt);obtain ⟨l1,l2,l3,l4,l5⟩:=aBd.1 (hv1 _ (List.getElem_mem hlt2));obtain ⟨t,ht⟩:=Int.eq_ofNat_of_zero_le l1;have htl:t<g.ports.length:=by omega
        have HBK:Hid (aF8 g v g.ports[v][j]=(g.ports[t].any fun k=>k.to==(v:Int)&&k.weight==g.ports[v][j].weight)):=by
         show aF8 g v g.ports[v][j]=_
         unfold aF8;rw [ht,Int.toNat_natCast,aA8 htl]
        have hnd:=(aB3.1 (HK1.out.2.2 t htl)).2;rw [ht] at hto;have HB2:=HB.alloc (.cells #[.int .i64 (t:Int),.int .i64 g.ports[v][j].weight] 102);clear hL hv1 hv2 l1 l2 l3 ht
        go_wp2_with fail
        refine (aUg _ g t (v:Int) _ (HG.out _ (aA3 HB2)) htl).mono ?_
        rintro e w2 ⟨rfl,hbb⟩;have bx0:=aA7 hbb 0 rfl;have bx1:=aA7 hbb 1 rfl;have bxs:=aAu hbb;have hbw:=aA3 hbb;have b1':=(hbw.cell bs).trans b1;have hrange:=aMl g.ports[t] (v:Int)
        by_cases hk:aDl g.ports[t] (v:Int)<0
        .have hd1:decide (aDl g.ports[t] (v:Int)<0)=true:=by simpa using hk
         have HF:Hid (aD4 g=false):=aDf fun hg=>by
          have:=hg.back v hlt _ (List.getElem_mem hlt2);rw [HBK.out,aVa hk] at this;cases this
         go_wp2_with fail
         go_quiet (fail)
         go_wp2_with fail
         go_ret;exact ⟨aA2 HF.out.symm,((aA3 HB).trans hbw).drewN _⟩
        .obtain ⟨q,hq,hqe,hqt⟩:=aUh (Int.not_lt.1 hk)
         rw [hqe];have hd1:decide ((q:Int)<0)=false:=by simp
         have HW1:=aA0 (aR9 (x:=g.ports[v][j].weight) hnd q hq hqt);obtain ⟨b4,o4,R4,c4,e4,hb4,hrow4,hL4,_,_⟩:=(HP.out _ ((aA3 HB).trans hbw)).at_ t htl;obtain ⟨rfl,rfl⟩:b'=b4/\o'=o4:=by simpa using e4
         obtain ⟨b5,o5,rfl,hb5,_,hwe5⟩:=hL4.at_ q hq;have hd2:decide (t<g.ports.length)=true:=by simpa using htl
         clear e4 hL4 hk hrange hqe hqt hnd
         go_wp2_with fail
         go_quiet (fail)
         go_wp2_with fail
         .have he:(g.ports[t][q].weight != g.ports[v][j].weight)=true:=by assumption
          go_ret;refine ⟨aA2 ?_,((aA3 HB).trans hbw).drewN _⟩
          symm
          refine aDf fun hg=>?_
          have:=hg.back v hlt _ (List.getElem_mem hlt2);rw [HBK.out,HW1.out] at this;simp at this he
          exact he this
         .have he:(g.ports[t][q].weight != g.ports[v][j].weight)=false:=by assumption
          go_roundg (g.ports[v].length-(j+1))
          case rel =>
           refine ⟨j+1,by omega,rfl,aA9 hlt2 HJ.out ?_,by go_num,(HB.trans hbw).drewN _⟩
           rw [HBK.out,HW1.out];simpa using he
          case measure=>omega
       .go_wp2
        go_roundg (g.ports.length-(v+1))
        case rel =>
         refine ⟨v+1,by omega,rfl,?_,by go_num,HB⟩
         intro q hq hq'
         rcases Nat.lt_or_ge q v with h | h
         .exact HQ.out q h hq'
         .obtain rfl:q=v:=by omega
          exact List.all_eq_true.1 (aAi (by omega) HJ.out)
        case measure=>omega
     .have hd0:decide (v<g.ports.length)=false:=by simpa using hlt
      go_wp2;go_ret;refine ⟨aA2 ?_,aA3 HB⟩
      symm
      rw [aCr];refine ⟨hn1,hn2,HN.out,?_,HK1.out.2.1,HK1.out.2.2,fun q hq=>HQ.out q (by omega) hq⟩
      intro i hi
      have:=List.all_eq_true.1 HK1.out.1 i hi;simpa using this
 .have HF:Hid (aD4 g=false):=aDf fun hg=>hn ⟨hg.pos,hg.le,hg.ids⟩
  by_cases hn2:1<=g.ports.length/\g.ports.length<=24
  .have hb1:inB (g.ports.length:Int) 1 24=true:=aDb (by omega) (by omega)
   have hb2:(g.ids.length != g.ports.length)=true:=by simp;omega
   have hb3:((g.ids.length:Int) != (g.ports.length:Int))=true:=by simp;omega
   go_enter func72,ntmps72
   go_wp2_with (go_at_call 92;refine (aCs _ _ _ _).mono ?_;rintro e w' ⟨rfl,rfl⟩)
   go_ret;exact ⟨aA2 HF.out.symm,(Bel.refl _).alloc _⟩
  .have hb1:inB (g.ports.length:Int) 1 24=false:=aJ0 (by omega)
   go_enter func72,ntmps72
   go_wp2_with (go_at_call 92;refine (aCs _ _ _ _).mono ?_;rintro e w' ⟨rfl,rfl⟩)
   go_ret;exact ⟨aA2 HF.out.symm,(Bel.refl _).alloc _⟩
def aDp (c:UInt8):Bool:=decide ((97<=(c.toNat:Int)/\(c.toNat:Int)<=122)∨(65<=(c.toNat:Int)/\(c.toNat:Int)<=90))
def aIx (c:UInt8):Bool:=decide (48<=(c.toNat:Int)/\(c.toNat:Int)<=57)
def aBh (c:UInt8):Bool:=aDp c||aIx c||decide ((c.toNat:Int)=95)
theorem aJx (c:UInt8) (w:World):Calls prog 172 #[.int .u8 (c.toNat:Int)] w fun e w'=>e = .returned (.bool (aDp c))/\w=w':=by
 go_enter func172,ntmps172;go_wp2
 all_goals (go_ret;refine ⟨aA2 ?_,rfl⟩;unfold aDp;rw [Bool.eq_iff_iff];simp) <;> omega
theorem aGb (c:UInt8) (w:World):Calls prog 186 #[.int .u8 (c.toNat:Int)] w fun e w'=>e = .returned (.bool (aDp c))/\w=w':=by
 go_enter func186,ntmps186;go_wp2
 all_goals (go_ret;refine ⟨aA2 ?_,rfl⟩;unfold aDp;rw [Bool.eq_iff_iff];simp) <;> omega
theorem aVi (c:UInt8) (w:World):Calls prog 196 #[.int .u8 (c.toNat:Int)] w fun e w'=>e = .returned (.bool (aIx c))/\w=w':=by
 go_enter func196,ntmps196;go_wp2
 all_goals (go_ret;refine ⟨aA2 ?_,rfl⟩;unfold aIx;rw [Bool.eq_iff_iff];simp) <;> omega
theorem aQf (c:UInt8) (w:World):Calls prog 210 #[.int .u8 (c.toNat:Int)] w fun e w'=>e = .returned (.bool (aIx c))/\w=w':=by
 go_enter func210,ntmps210;go_wp2
 all_goals (go_ret;refine ⟨aA2 ?_,rfl⟩;unfold aIx;rw [Bool.eq_iff_iff];simp) <;> omega
theorem aNj (c:UInt8) (w:World):Calls prog 173 #[.int .u8 (c.toNat:Int)] w fun e w'=>e = .returned (.bool (aBh c))/\w=w':=by
 cases h1:aDp c <;> cases h2:aIx c
 all_goals
  have HF:=aA0 (show aBh c=(aDp c||aIx c||decide ((c.toNat:Int)=95)) from rfl)
  rw [h1,h2] at HF;go_enter func173,ntmps173
  go_wp2_with (first
   | (go_at_call 172;refine (aJx _ _).mono ?_;rintro e w' ⟨rfl,rfl⟩)
   | (go_at_call 196;refine (aVi _ _).mono ?_;rintro e w' ⟨rfl,rfl⟩))
  all_goals (go_ret;refine ⟨aA2 ?_,rfl⟩;rw [HF.out];simp;try (rw [Bool.eq_iff_iff];simp))
theorem aKs (c:UInt8) (w:World):Calls prog 187 #[.int .u8 (c.toNat:Int)] w fun e w'=>e = .returned (.bool (aBh c))/\w=w':=by
 cases h1:aDp c <;> cases h2:aIx c
 all_goals
  have HF:=aA0 (show aBh c=(aDp c||aIx c||decide ((c.toNat:Int)=95)) from rfl)
  rw [h1,h2] at HF;go_enter func187,ntmps187
  go_wp2_with (first
   | (go_at_call 186;refine (aGb _ _).mono ?_;rintro e w' ⟨rfl,rfl⟩)
   | (go_at_call 210;refine (aQf _ _).mono ?_;rintro e w' ⟨rfl,rfl⟩))
  all_goals (go_ret;refine ⟨aA2 ?_,rfl⟩;rw [HF.out];simp;try (rw [Bool.eq_iff_iff];simp))
def wordsL:List (List UInt8):=[[112,114,111,103,114,97,109],[118,97,114],[114,117,108,101],[98,111,111,108],[112,111,114,116],[116,114,117,101],[102,97,108,115,101],[110,111,110,101],[110],[105,100,115],[105,100],[100,101,103],[114,111,111,116],[113],[119,101,105,103,104,116],[98,97,99,107],[97,108,108],[115,111,109,101],[99,111,117,110,116],[102,105,114,115,116],[109,105,110],[109,97,120],[115,117,109],[109,101,120],[115,101,99,111,110,100],[104,101,97,100]]
def aCo (s:ByteArray):Bool:=wordsL.any fun l=>s.toList==l
theorem aQn (s:ByteArray) (w:World):Calls prog 174 #[.string s] w fun e w'=>e = .returned (.bool (aCo s))/\w=w':=by
 have HR:Hid (aCo s=((s.toList==[112,114,111,103,114,97,109])||((s.toList==[118,97,114])||((s.toList==[114,117,108,101])||((s.toList==[98,111,111,108])||((s.toList==[112,111,114,116])||((s.toList==[116,114,117,101])||((s.toList==[102,97,108,115,101])||((s.toList==[110,111,110,101])||((s.toList==[110])||((s.toList==[105,100,115])||((s.toList==[105,100])||((s.toList==[100,101,103])||((s.toList==[114,111,111,116])||((s.toList==[113])||((s.toList==[119,101,105,103,104,116])||((s.toList==[98,97,99,107])||((s.toList==[97,108,108])||((s.toList==[115,111,109,101])||((s.toList==[99,111,117,110,116])||((s.toList==[102,105,114,115,116])||((s.toList==[109,105,110])||((s.toList==[109,97,120])||((s.toList==[115,117,109])||((s.toList==[109,101,120])||((s.toList==[115,101,99,111,110,100])||((s.toList==[104,101,97,100])))))))))))))))))))))))))))):=by
  show aCo s=_
  simp only [aCo,wordsL,List.any_cons,List.any_nil,Bool.or_false]
 obtain ⟨b0,h0⟩:∃ b,(s.toList==[112,114,111,103,114,97,109])=b:=⟨_,rfl⟩;obtain ⟨b1,h1⟩:∃ b,(s.toList==[118,97,114])=b:=⟨_,rfl⟩;obtain ⟨b2,h2⟩:∃ b,(s.toList==[114,117,108,101])=b:=⟨_,rfl⟩;obtain ⟨b3,h3⟩:∃ b,(s.toList==[98,111,111,108])=b:=⟨_,rfl⟩;obtain ⟨b4,h4⟩:∃ b,(s.toList==[112,111,114,116])=b:=⟨_,rfl⟩;obtain ⟨b5,h5⟩:∃ b,(s.toList==[116,114,117,101])=b:=⟨_,rfl⟩;obtain ⟨b6,h6⟩:∃ b,(s.toList==[102,97,108,115,101])=b:=⟨_,rfl⟩;obtain ⟨b7,h7⟩:∃ b,(s.toList==[110,111,110,101])=b:=⟨_,rfl⟩;obtain ⟨b8,h8⟩:∃ b,(s.toList==[110])=b:=⟨_,rfl⟩;obtain ⟨b9,h9⟩:∃ b,(s.toList==[105,100,115])=b:=⟨_,rfl⟩;obtain ⟨b10,h10⟩:∃ b,(s.toList==[105,100])=b:=⟨_,rfl⟩;obtain ⟨b11,h11⟩:∃ b,(s.toList==[100,101,103])=b:=⟨_,rfl⟩;obtain ⟨b12,h12⟩:∃ b,(s.toList==[114,111,111,116])=b:=⟨_,rfl⟩;obtain ⟨b13,h13⟩:∃ b,(s.toList==[113])=b:=⟨_,rfl⟩;obtain ⟨b14,h14⟩:∃ b,(s.toList==[119,101,105,103,104,116])=b:=⟨_,rfl⟩;obtain ⟨b15,h15⟩:∃ b,(s.toList==[98,97,99,107])=b:=⟨_,rfl⟩;obtain ⟨b16,h16⟩:∃ b,(s.toList==[97,108,108])=b:=⟨_,rfl⟩;obtain ⟨b17,h17⟩:∃ b,(s.toList==[115,111,109,101])=b:=⟨_,rfl⟩;obtain ⟨b18,h18⟩:∃ b,(s.toList==[99,111,117,110,116])=b:=⟨_,rfl⟩;obtain ⟨b19,h19⟩:∃ b,(s.toList==[102,105,114,115,116])=b:=⟨_,rfl⟩;obtain ⟨b20,h20⟩:∃ b,(s.toList==[109,105,110])=b:=⟨_,rfl⟩;obtain ⟨b21,h21⟩:∃ b,(s.toList==[109,97,120])=b:=⟨_,rfl⟩;obtain ⟨b22,h22⟩:∃ b,(s.toList==[115,117,109])=b:=⟨_,rfl⟩;obtain ⟨b23,h23⟩:∃ b,(s.toList==[109,101,120])=b:=⟨_,rfl⟩;obtain ⟨b24,h24⟩:∃ b,(s.toList==[115,101,99,111,110,100])=b:=⟨_,rfl⟩;obtain ⟨b25,h25⟩:∃ b,(s.toList==[104,101,97,100])=b:=⟨_,rfl⟩;rw [h0,h1,h2,h3,h4,h5,h6,h7,h8,h9,h10,h11,h12,h13,h14,h15,h16,h17,h18,h19,h20,h21,h22,h23,h24,h25] at HR;go_enter func174,ntmps174;cases b0 with
 | true =>
  go_wp2;go_ret;exact ⟨aA2 (by rw [HR.out];simp),rfl⟩
 | false =>
 cases b1 with
 | true =>
  go_wp2;go_ret;exact ⟨aA2 (by rw [HR.out];simp),rfl⟩
 | false =>
 cases b2 with
 | true =>
  go_wp2;go_ret;exact ⟨aA2 (by rw [HR.out];simp),rfl⟩
 | false =>
 cases b3 with
 | true =>
  go_wp2;go_ret;exact ⟨aA2 (by rw [HR.out];simp),rfl⟩
 | false =>
 cases b4 with
 | true =>
  go_wp2;go_ret;exact ⟨aA2 (by rw [HR.out];simp),rfl⟩
 | false =>
 cases b5 with
 | true =>
  go_wp2;go_ret;exact ⟨aA2 (by rw [HR.out];simp),rfl⟩
 | false =>
 cases b6 with
 | true =>
  go_wp2;go_ret;exact ⟨aA2 (by rw [HR.out];simp),rfl⟩
 | false =>
 cases b7 with
 | true =>
  go_wp2;go_ret;exact ⟨aA2 (by rw [HR.out];simp),rfl⟩
 | false =>
 cases b8 with
 | true =>
  go_wp2;go_ret;exact ⟨aA2 (by rw [HR.out];simp),rfl⟩
 | false =>
 cases b9 with
 | true =>
  go_wp2;go_ret;exact ⟨aA2 (by rw [HR.out];simp),rfl⟩
 | false =>
 cases b10 with
 | true =>
  go_wp2;go_ret;exact ⟨aA2 (by rw [HR.out];simp),rfl⟩
 | false =>
 cases b11 with
 | true =>
  go_wp2;go_ret;exact ⟨aA2 (by rw [HR.out];simp),rfl⟩
 | false =>
 cases b12 with
 | true =>
  go_wp2;go_ret;exact ⟨aA2 (by rw [HR.out];simp),rfl⟩
 | false =>
 cases b13 with
 | true =>
  go_wp2;go_ret;exact ⟨aA2 (by rw [HR.out];simp),rfl⟩
 | false =>
 cases b14 with
 | true =>
  go_wp2;go_ret;exact ⟨aA2 (by rw [HR.out];simp),rfl⟩
 | false =>
 cases b15 with
 | true =>
  go_wp2;go_ret;exact ⟨aA2 (by rw [HR.out];simp),rfl⟩
 | false =>
 cases b16 with
 | true =>
  go_wp2;go_ret;exact ⟨aA2 (by rw [HR.out];simp),rfl⟩
 | false =>
 cases b17 with
 | true =>
  go_wp2;go_ret;exact ⟨aA2 (by rw [HR.out];simp),rfl⟩
 | false =>
 cases b18 with
 | true =>
  go_wp2;go_ret;exact ⟨aA2 (by rw [HR.out];simp),rfl⟩
 | false =>
 cases b19 with
 | true =>
  go_wp2;go_ret;exact ⟨aA2 (by rw [HR.out];simp),rfl⟩
 | false =>
 cases b20 with
 | true =>
  go_wp2;go_ret;exact ⟨aA2 (by rw [HR.out];simp),rfl⟩
 | false =>
 cases b21 with
 | true =>
  go_wp2;go_ret;exact ⟨aA2 (by rw [HR.out];simp),rfl⟩
 | false =>
 cases b22 with
 | true =>
  go_wp2;go_ret;exact ⟨aA2 (by rw [HR.out];simp),rfl⟩
 | false =>
 cases b23 with
 | true =>
  go_wp2;go_ret;exact ⟨aA2 (by rw [HR.out];simp),rfl⟩
 | false =>
 cases b24 with
 | true =>
  go_wp2;go_ret;exact ⟨aA2 (by rw [HR.out];simp),rfl⟩
 | false =>
 cases b25 with
 | true =>
  go_wp2;go_ret;exact ⟨aA2 (by rw [HR.out];simp),rfl⟩
 | false =>
 go_wp2;go_ret;exact ⟨aA2 (by rw [HR.out];rfl),rfl⟩
theorem aMq (s:ByteArray) (w:World):Calls prog 188 #[.string s] w fun e w'=>e = .returned (.bool (aCo s))/\w=w':=by
 have HR:Hid (aCo s=((s.toList==[112,114,111,103,114,97,109])||((s.toList==[118,97,114])||((s.toList==[114,117,108,101])||((s.toList==[98,111,111,108])||((s.toList==[112,111,114,116])||((s.toList==[116,114,117,101])||((s.toList==[102,97,108,115,101])||((s.toList==[110,111,110,101])||((s.toList==[110])||((s.toList==[105,100,115])||((s.toList==[105,100])||((s.toList==[100,101,103])||((s.toList==[114,111,111,116])||((s.toList==[113])||((s.toList==[119,101,105,103,104,116])||((s.toList==[98,97,99,107])||((s.toList==[97,108,108])||((s.toList==[115,111,109,101])||((s.toList==[99,111,117,110,116])||((s.toList==[102,105,114,115,116])||((s.toList==[109,105,110])||((s.toList==[109,97,120])||((s.toList==[115,117,109])||((s.toList==[109,101,120])||((s.toList==[115,101,99,111,110,100])||((s.toList==[104,101,97,100])))))))))))))))))))))))))))):=by
  show aCo s=_
  simp only [aCo,wordsL,List.any_cons,List.any_nil,Bool.or_false]
 obtain ⟨b0,h0⟩:∃ b,(s.toList==[112,114,111,103,114,97,109])=b:=⟨_,rfl⟩;obtain ⟨b1,h1⟩:∃ b,(s.toList==[118,97,114])=b:=⟨_,rfl⟩;obtain ⟨b2,h2⟩:∃ b,(s.toList==[114,117,108,101])=b:=⟨_,rfl⟩;obtain ⟨b3,h3⟩:∃ b,(s.toList==[98,111,111,108])=b:=⟨_,rfl⟩;obtain ⟨b4,h4⟩:∃ b,(s.toList==[112,111,114,116])=b:=⟨_,rfl⟩;obtain ⟨b5,h5⟩:∃ b,(s.toList==[116,114,117,101])=b:=⟨_,rfl⟩;obtain ⟨b6,h6⟩:∃ b,(s.toList==[102,97,108,115,101])=b:=⟨_,rfl⟩;obtain ⟨b7,h7⟩:∃ b,(s.toList==[110,111,110,101])=b:=⟨_,rfl⟩;obtain ⟨b8,h8⟩:∃ b,(s.toList==[110])=b:=⟨_,rfl⟩;obtain ⟨b9,h9⟩:∃ b,(s.toList==[105,100,115])=b:=⟨_,rfl⟩;obtain ⟨b10,h10⟩:∃ b,(s.toList==[105,100])=b:=⟨_,rfl⟩;obtain ⟨b11,h11⟩:∃ b,(s.toList==[100,101,103])=b:=⟨_,rfl⟩;obtain ⟨b12,h12⟩:∃ b,(s.toList==[114,111,111,116])=b:=⟨_,rfl⟩;obtain ⟨b13,h13⟩:∃ b,(s.toList==[113])=b:=⟨_,rfl⟩;obtain ⟨b14,h14⟩:∃ b,(s.toList==[119,101,105,103,104,116])=b:=⟨_,rfl⟩;obtain ⟨b15,h15⟩:∃ b,(s.toList==[98,97,99,107])=b:=⟨_,rfl⟩;obtain ⟨b16,h16⟩:∃ b,(s.toList==[97,108,108])=b:=⟨_,rfl⟩;obtain ⟨b17,h17⟩:∃ b,(s.toList==[115,111,109,101])=b:=⟨_,rfl⟩;obtain ⟨b18,h18⟩:∃ b,(s.toList==[99,111,117,110,116])=b:=⟨_,rfl⟩;obtain ⟨b19,h19⟩:∃ b,(s.toList==[102,105,114,115,116])=b:=⟨_,rfl⟩;obtain ⟨b20,h20⟩:∃ b,(s.toList==[109,105,110])=b:=⟨_,rfl⟩;obtain ⟨b21,h21⟩:∃ b,(s.toList==[109,97,120])=b:=⟨_,rfl⟩;obtain ⟨b22,h22⟩:∃ b,(s.toList==[115,117,109])=b:=⟨_,rfl⟩;obtain ⟨b23,h23⟩:∃ b,(s.toList==[109,101,120])=b:=⟨_,rfl⟩;obtain ⟨b24,h24⟩:∃ b,(s.toList==[115,101,99,111,110,100])=b:=⟨_,rfl⟩;obtain ⟨b25,h25⟩:∃ b,(s.toList==[104,101,97,100])=b:=⟨_,rfl⟩;rw [h0,h1,h2,h3,h4,h5,h6,h7,h8,h9,h10,h11,h12,h13,h14,h15,h16,h17,h18,h19,h20,h21,h22,h23,h24,h25] at HR;go_enter func188,ntmps188;cases b0 with
 | true =>
  go_wp2;go_ret;exact ⟨aA2 (by rw [HR.out];simp),rfl⟩
 | false =>
 cases b1 with
 | true =>
  go_wp2;go_ret;exact ⟨aA2 (by rw [HR.out];simp),rfl⟩
 | false =>
 cases b2 with
 | true =>
  go_wp2;go_ret;exact ⟨aA2 (by rw [HR.out];simp),rfl⟩
 | false =>
 cases b3 with
 | true =>
  go_wp2;go_ret;exact ⟨aA2 (by rw [HR.out];simp),rfl⟩
 | false =>
 cases b4 with
 | true =>
  go_wp2;go_ret;exact ⟨aA2 (by rw [HR.out];simp),rfl⟩
 | false =>
 cases b5 with
 | true =>
  go_wp2;go_ret;exact ⟨aA2 (by rw [HR.out];simp),rfl⟩
 | false =>
 cases b6 with
 | true =>
  go_wp2;go_ret;exact ⟨aA2 (by rw [HR.out];simp),rfl⟩
 | false =>
 cases b7 with
 | true =>
  go_wp2;go_ret;exact ⟨aA2 (by rw [HR.out];simp),rfl⟩
 | false =>
 cases b8 with
 | true =>
  go_wp2;go_ret;exact ⟨aA2 (by rw [HR.out];simp),rfl⟩
 | false =>
 cases b9 with
 | true =>
  go_wp2;go_ret;exact ⟨aA2 (by rw [HR.out];simp),rfl⟩
 | false =>
 cases b10 with
 | true =>
  go_wp2;go_ret;exact ⟨aA2 (by rw [HR.out];simp),rfl⟩
 | false =>
 cases b11 with
 | true =>
  go_wp2;go_ret;exact ⟨aA2 (by rw [HR.out];simp),rfl⟩
 | false =>
 cases b12 with
 | true =>
  go_wp2;go_ret;exact ⟨aA2 (by rw [HR.out];simp),rfl⟩
 | false =>
 cases b13 with
 | true =>
  go_wp2;go_ret;exact ⟨aA2 (by rw [HR.out];simp),rfl⟩
 | false =>
 cases b14 with
 | true =>
  go_wp2;go_ret;exact ⟨aA2 (by rw [HR.out];simp),rfl⟩
 | false =>
 cases b15 with
 | true =>
  go_wp2;go_ret;exact ⟨aA2 (by rw [HR.out];simp),rfl⟩
 | false =>
 cases b16 with
 | true =>
  go_wp2;go_ret;exact ⟨aA2 (by rw [HR.out];simp),rfl⟩
 | false =>
 cases b17 with
 | true =>
  go_wp2;go_ret;exact ⟨aA2 (by rw [HR.out];simp),rfl⟩
 | false =>
 cases b18 with
 | true =>
  go_wp2;go_ret;exact ⟨aA2 (by rw [HR.out];simp),rfl⟩
 | false =>
 cases b19 with
 | true =>
  go_wp2;go_ret;exact ⟨aA2 (by rw [HR.out];simp),rfl⟩
 | false =>
 cases b20 with
 | true =>
  go_wp2;go_ret;exact ⟨aA2 (by rw [HR.out];simp),rfl⟩
 | false =>
 cases b21 with
 | true =>
  go_wp2;go_ret;exact ⟨aA2 (by rw [HR.out];simp),rfl⟩
 | false =>
 cases b22 with
 | true =>
  go_wp2;go_ret;exact ⟨aA2 (by rw [HR.out];simp),rfl⟩
 | false =>
 cases b23 with
 | true =>
  go_wp2;go_ret;exact ⟨aA2 (by rw [HR.out];simp),rfl⟩
 | false =>
 cases b24 with
 | true =>
  go_wp2;go_ret;exact ⟨aA2 (by rw [HR.out];simp),rfl⟩
 | false =>
 cases b25 with
 | true =>
  go_wp2;go_ret;exact ⟨aA2 (by rw [HR.out];simp),rfl⟩
 | false =>
 go_wp2;go_ret;exact ⟨aA2 (by rw [HR.out];rfl),rfl⟩
def aE2 (s:ByteArray):Bool:=decide (1<=s.size/\s.size<=24)&&aDp (s.data.toList.headD 0)&&s.data.toList.all aBh && !aCo s
theorem aVr (s:ByteArray) (h:0<s.size):s.data.toList.headD 0=s[0]:=by
 have h':0<s.data.toList.length:=by simpa using h
 show s.data.toList.headD 0=s.data.toList[0]
 match hl:s.data.toList,h' with
 | x :: l,_=>rfl
theorem aFd (s:ByteArray) (w:World) (hs:s.size<=1000000):Calls prog 158 #[.string s] w fun e w'=>e = .returned (.bool (aE2 s))/\w=w':=by
 by_cases hn:1<=s.size/\s.size<=24
 .obtain ⟨hn1,hn2⟩:=hn
  have h0:0<s.size:=by omega
  have HF:Hid (aE2 s=(aDp s[0]&&s.data.toList.all aBh && !aCo s)):=by
   show aE2 s=_
   unfold aE2;rw [aVr s h0,show decide (1<=s.size/\s.size<=24)=true by simp;omega];simp
  cases hl:aDp s[0] with
  | false =>
   rw [hl] at HF;go_enter func158,ntmps158
   go_wp2_with (go_at_call 172;refine (aJx s[0] _).mono ?_;rintro e w' ⟨rfl,rfl⟩)
   go_ret;exact ⟨aA2 (by rw [HF.out];rfl),rfl⟩
  | true =>
   rw [hl] at HF;go_enter func158,ntmps158
   go_wp2_with (go_at_call 172;refine (aJx s[0] _).mono ?_;rintro e w' ⟨rfl,rfl⟩)
   go_loopg [3,20] s.size (fun m _x z wr=>∃ j:Nat,j<=s.size/\m=s.size-j/\Hid ((s.data.toList.take j).all aBh=true)/\z = .int .i64 j/\w=wr)
   case atStart=>exact ⟨0,by omega,rfl,rfl,rfl,rfl⟩
   case round =>
    obtain ⟨j,hj,rfl,HK,rfl,rfl⟩:=hrel
    by_cases hlt:j<s.size
    .have hd0:decide (j<s.size)=true:=by simpa using hlt
     cases hw:aBh s[j] with
     | false =>
      have HG:=aA0 (aAh (f:=aBh) (l:=s.data.toList) (by simpa using hlt) (show aBh (s.data.toList[j]'(by simpa using hlt))=false from hw))
      go_wp2_with (go_at_call 173;refine (aNj s[j] _).mono ?_;rintro e w' ⟨rfl,rfl⟩)
      go_ret;exact ⟨aA2 (by rw [HF.out,HG.out];rfl),rfl⟩
     | true =>
      have HG:=aA0 (aA9 (f:=aBh) (l:=s.data.toList) (by simpa using hlt) HK.out (show aBh (s.data.toList[j]'(by simpa using hlt))=true from hw))
      go_wp2_with (go_at_call 173;refine (aNj s[j] _).mono ?_;rintro e w' ⟨rfl,rfl⟩)
      go_roundg (s.size-(j+1))
      case rel=>exact ⟨j+1,by omega,rfl,HG,by go_num,rfl⟩
      case measure=>omega
    .have hd0:decide (j<s.size)=false:=by simpa using hlt
     have HG:=aA0 (aAi (f:=aBh) (l:=s.data.toList) (by simp;omega) HK.out)
     rw [HG.out] at HF
     go_wp2_with (go_at_call 174;refine (aQn s _).mono ?_;rintro e w' ⟨rfl,rfl⟩)
     all_goals (go_ret;exact ⟨aA2 (by rw [HF.out];simp),rfl⟩)
 .have HF:Hid (aE2 s=false):=by
   show aE2 s=false
   unfold aE2;rw [show decide (1<=s.size/\s.size<=24)=false by simpa using hn];rfl
  rcases (show s.size=0∨24<s.size by omega) with h | h
  .have h':s.size<1:=by omega
   clear hn h;go_enter func158,ntmps158;go_wp2;go_ret;exact ⟨aA2 HF.out.symm,rfl⟩
  .have h':1<=s.size:=by omega
   clear hn;go_enter func158,ntmps158;go_wp2;go_ret;exact ⟨aA2 HF.out.symm,rfl⟩
theorem aE4 (s:ByteArray) (w:World) (hs:s.size<=1000000):Calls prog 167 #[.string s] w fun e w'=>e = .returned (.bool (aE2 s))/\w=w':=by
 by_cases hn:1<=s.size/\s.size<=24
 .obtain ⟨hn1,hn2⟩:=hn
  have h0:0<s.size:=by omega
  have HF:Hid (aE2 s=(aDp s[0]&&s.data.toList.all aBh && !aCo s)):=by
   show aE2 s=_
   unfold aE2;rw [aVr s h0,show decide (1<=s.size/\s.size<=24)=true by simp;omega];simp
  cases hl:aDp s[0] with
  | false =>
   rw [hl] at HF;go_enter func167,ntmps167
   go_wp2_with (go_at_call 186;refine (aGb s[0] _).mono ?_;rintro e w' ⟨rfl,rfl⟩)
   go_ret;exact ⟨aA2 (by rw [HF.out];rfl),rfl⟩
  | true =>
   rw [hl] at HF
   have HS:Hid ((s.data.toList.take 1).all aBh=true):=by
    have:=aA9 (f:=aBh) (l:=s.data.toList) (k:=0) (by simpa using h0) rfl (by show aBh s[0]=true;unfold aBh;rw [hl];rfl)
    exact this
   go_enter func167,ntmps167
   go_wp2_with (go_at_call 186;refine (aGb s[0] _).mono ?_;rintro e w' ⟨rfl,rfl⟩)
   go_loopg [3] (s.size-1) (fun m z wr=>∃ j:Nat,j<=s.size/\m=s.size-j/\Hid ((s.data.toList.take j).all aBh=true)/\z = .int .i64 j/\w=wr)
   case atStart=>exact ⟨1,by omega,rfl,HS,rfl,rfl⟩
   case round =>
    obtain ⟨j,hj,rfl,HK,rfl,rfl⟩:=hrel
    by_cases hlt:j<s.size
    .have hd0:decide (j<s.size)=true:=by simpa using hlt
     cases hw:aBh s[j] with
     | false =>
      have HG:=aA0 (aAh (f:=aBh) (l:=s.data.toList) (by simpa using hlt) (show aBh (s.data.toList[j]'(by simpa using hlt))=false from hw))
      go_wp2_with (go_at_call 187;refine (aKs s[j] _).mono ?_;rintro e w' ⟨rfl,rfl⟩)
      go_ret;exact ⟨aA2 (by rw [HF.out,HG.out];rfl),rfl⟩
     | true =>
      have HG:=aA0 (aA9 (f:=aBh) (l:=s.data.toList) (by simpa using hlt) HK.out (show aBh (s.data.toList[j]'(by simpa using hlt))=true from hw))
      go_wp2_with (go_at_call 187;refine (aKs s[j] _).mono ?_;rintro e w' ⟨rfl,rfl⟩)
      go_roundg (s.size-(j+1))
      case rel=>exact ⟨j+1,by omega,rfl,HG,by go_num,rfl⟩
      case measure=>omega
    .have hd0:decide (j<s.size)=false:=by simpa using hlt
     have HG:=aA0 (aAi (f:=aBh) (l:=s.data.toList) (by simp;omega) HK.out)
     rw [HG.out] at HF
     go_wp2_with (go_at_call 188;refine (aMq s _).mono ?_;rintro e w' ⟨rfl,rfl⟩)
     all_goals (go_ret;exact ⟨aA2 (by rw [HF.out];simp),rfl⟩)
 .have HF:Hid (aE2 s=false):=by
   show aE2 s=false
   unfold aE2;rw [show decide (1<=s.size/\s.size<=24)=false by simpa using hn];rfl
  rcases (show s.size=0∨24<s.size by omega) with h | h
  .have h':s.size<1:=by omega
   clear hn h;go_enter func167,ntmps167;go_wp2;go_ret;exact ⟨aA2 HF.out.symm,rfl⟩
  .have h':1<=s.size:=by omega
   clear hn;go_enter func167,ntmps167;go_wp2;go_ret;exact ⟨aA2 HF.out.symm,rfl⟩
theorem aYy {r s:Int} (hr:1<=r) (hs:1<=s):r<=r*s:=by
 have:=Int.mul_le_mul_of_nonneg_left hs (show 0<=r by omega)
 rwa [Int.mul_one] at this
end Go.Proofs.YtdcjnhoabbdanaaGreatDoor

