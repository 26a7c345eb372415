/- Merged. -/
import Derived.RangeFuncLeaves
import Derived.RangeFuncBox
import Derived.Test.YtmoebklkkjbigaaGreatDoorZ08
import Derived.Lib.BitFns
import Derived.OrdersIn
import Derived.Lib.Strings
import Derived.Lib.Slices
import Derived.Lib.SlicesS
import Derived.Lib.Walk
import Derived.Lib.Bytealg
set_option linter.unusedSimpArgs false
set_option linter.unnecessarySimpa false
set_option linter.unusedVariables false
set_option maxRecDepth 100000
set_option maxHeartbeats 2000000
open Go.Proofs.Tryz

namespace Go.Proofs.YtmoebklkkjbigaaGreatDoor
open Go.RowKit
theorem aFj {P:Program} {f:FuncId} {fn:Func} {c:Code} {args:Array Value} {w:World} {R:Ending->World->Prop}
  (hf:P.funcs[f]?=some fn) (hb:fn.body=some c)
  (h:c.wp P (bodyPostM Fence.wide 5 P fn R) { tmps:=args++Array.replicate (fn.ntmps-args.size) undef,defers:=[] } w):Calls P f args w R :=
 callsIn_wide.1 (callsIn_of_wp_marks hf hb trivial (wpIn_wide.2 h) rfl)
def aE9 (B:Nat) (W:World):List Deferred->Prop
 | []=>True
 | d :: ds=>(∃ D,d={ target := .collected D,args:=#[] }/\B<=D/\W.heap[D]?=some (.deferred (some []))/\∀ d'∈ds,∀ D',d'.target = .collected D'->D' < D)/\aE9 B W ds
theorem aE9.nil (B:Nat) (W:World):aE9 B W []:=trivial
def bNe (B:Nat) (W:World) (k:Nat):Prop:=B<=k/\∃ x,W.heap[k]?=some (.deferred x)
theorem aE9.keep {B:Nat} {W W':World}:∀ {ds:List Deferred},aE9 B W ds->(∀ D,B<=D->W.heap[D]?=some (.deferred (some []))->W'.heap[D]?=some (.deferred (some [])))->aE9 B W' ds
 | [],_,_=>trivial
 | _ :: _,h,hk=>by
  obtain ⟨⟨D,e,h1,h2,h3⟩,h4⟩:=h;exact ⟨⟨D,e,h1,hk D h1 h2,h3⟩,h4.keep hk⟩
theorem aE9.below {B:Nat} {W:World}:∀ {ds:List Deferred},aE9 B W ds->∀ d∈ds,∀ D,d.target = .collected D->B<=D/\D<W.heap.size
 | [],_,_,hd,_,_=>by cases hd
 | d0 :: ds,h,d,hd,D,e=>by
  obtain ⟨⟨D0,e0,h1,h2,h3⟩,h4⟩:=h
  rcases List.mem_cons.1 hd with rfl | hd
  .subst e0
   injection e with e
   subst e;exact ⟨h1,(Array.getElem?_eq_some_iff.1 h2).1⟩
  .exact h4.below d hd D e
theorem aE9.push {B:Nat} {W:World} {ds:List Deferred} {D:Nat} (h:aE9 B W ds) (hB:B<=D) (hD:W.heap[D]?=some (.deferred (some []))) (hlt:∀ d'∈ds,∀ D',d'.target = .collected D'->D' < D):aE9 B W ({ target := .collected D,args:=#[] } :: ds) :=
 ⟨⟨D,rfl,hB,hD,hlt⟩,h⟩
theorem aE9.shut {B D:Nat} {W:World}:∀ {ds:List Deferred},aE9 B W ds->(∀ d'∈ds,∀ D',d'.target = .collected D'->D' < D)->aE9 B (W.putObj D (.deferred none)) ds
 | [],_,_=>trivial
 | d :: ds,h,hl=>by
  obtain ⟨⟨D0,e,h1,h2,h3⟩,h4⟩:=h;have:=hl d (List.mem_cons_self ..) D0 (by rw [e])
  exact ⟨⟨D0,e,h1,(World.putObj_heap_other (by omega)).trans h2,h3⟩,h4.shut (fun d' hd=>hl d' (List.mem_cons_of_mem _ hd))⟩
theorem aDd {P:Program} {fn:Func} {tmps:Array Value} {R:Ending->World->Prop} {F:Fence} {n B:Nat}:∀ {ds:List Deferred} {W:World},aE9 B W ds ->
  (∀ W',Agr (bNe B W) W W'->W'.heap.size=W.heap.size->∃ v,(results fn tmps).run P W' = .ok v W'/\R (.returned v) W')->LeavesInM F n P fn tmps R ds .returning W
 | [],W,_,hR=>hR W (Agr.refl _ W) rfl
 | d :: ds,W,h,hR=>by
  obtain ⟨⟨D,rfl,h1,h2,h3⟩,h4⟩:=h;refine ⟨by simp,.inl ⟨D,_,rfl,run_takeDeferred h2,?_⟩⟩
  have hlt:=(Array.getElem?_eq_some_iff.1 h2).1;refine aDd (B:=B) (h4.shut h3) ?_
  intro W' hA hs
  have hE:∀ k,bNe B (W.putObj D (.deferred none)) k->bNe B W k:=by
   rintro k ⟨hk,x,hx⟩
   by_cases hkD:k=D
   .subst hkD;exact ⟨hk,_,h2⟩
   .rw [World.putObj_heap_other hkD] at hx;exact ⟨hk,x,hx⟩
  have hsz:(W.putObj D (.deferred none)).heap.size=W.heap.size:=by simp
  exact hR W' ((Agr.putObj W D _ ⟨h1,_,h2⟩).trans (hA.mono hE)) (by omega)
theorem Agr.cell {E:Nat->Prop} {A B:World} (h:Agr E A B) {k o:Nat} (hk:k<A.heap.size) (hE:¬ E k):B.cell? ⟨k,o,none⟩=A.cell? ⟨k,o,none⟩ :=
 World.cell?_of_block (h.block k hk hE)
theorem Agr.cellD {B0:Nat} {A B:World} (h:Agr (bNe B0 A) A B) {k o:Nat} {v:Value} (hc:A.cell? ⟨k,o,none⟩=some v):B.cell? ⟨k,o,none⟩=some v:=by
 have hne:¬ bNe B0 A k:=by
  rintro ⟨_,x,hx⟩;simp [World.cell?,hx] at hc
 have hk:k<A.heap.size:=by
  rcases Nat.lt_or_ge k A.heap.size with h | h
  .exact h
  .simp [World.cell?,Array.getElem?_eq_none h] at hc
 rw [h.cell hk hne];exact hc
theorem Agr.bel {w A C:World} (hb:Bel w A) (h:Agr (bNe w.heap.size A) A C):Bel w C :=
 ⟨h.os.trans hb.os,h.tape.trans hb.tape,h.output.trans hb.output,Nat.le_trans hb.size h.size,fun k hk=>(h.block k (Nat.lt_of_lt_of_le hk hb.size) (fun e=>by have:=e.1;omega)).trans (hb.block k hk)⟩
theorem Agr.belE {E:Nat->Prop} {w A C:World} (hb:Bel w A) (h:Agr E A C) (hE:∀ k,E k->w.heap.size<=k):Bel w C :=
 ⟨h.os.trans hb.os,h.tape.trans hb.tape,h.output.trans hb.output,Nat.le_trans hb.size h.size,fun k hk=>(h.block k (Nat.lt_of_lt_of_le hk hb.size) (fun e=>by have:=hE k e;omega)).trans (hb.block k hk)⟩
theorem Agr.boxed {E:Nat->Prop} {A B:World} (h:Agr E A B) {k:Nat} {t:TypeId} {v:Value} (hx:Boxed A k t v) (hk:¬ E k):Boxed B k t v:=(h.block k hx.lt hk).trans hx
theorem Agr.blk {E:Nat->Prop} {A B:World} (h:Agr E A B) {k:Nat} {t:TypeId} {cs:Array Value} (hx:A.heap[k]?=some (.cells cs t (0,0))) (hk:¬ E k):B.heap[k]?=some (.cells cs t (0,0)):=(h.block k (Array.getElem?_eq_some_iff.1 hx).1 hk).trans hx
theorem aBg.refl (E:Nat->Prop) (A:World):aBg E A A:=⟨Nat.le_refl _,fun _ _ _=>rfl⟩
theorem aBg.trans {E:Nat->Prop} {A B C:World} (h:aBg E A B) (k:aBg E B C):aBg E A C :=
 ⟨Nat.le_trans h.1 k.1,fun i hi hE=>(k.2 i (Nat.lt_of_lt_of_le hi h.1) hE).trans (h.2 i hi hE)⟩
theorem aBg.setCell {E:Nat->Prop} (A:World) (p:Addr) (v:Value) (hp:¬ E p.block):aBg E A (A.setCell p v) :=
 ⟨by simp,fun k _ hE=>Below.heap_setCell A p v k (fun e=>hp (e ▸ hE))⟩
theorem aBg.of_bel {E:Nat->Prop} {A B:World} (h:Bel A B):aBg E A B:=⟨h.size,fun k hk _=>h.block k hk⟩
theorem aBg.of_agr {E G:Nat->Prop} {A B:World} (h:Agr G A B) (hG:∀ k,E k->¬ G k):aBg E A B:=⟨h.size,fun k hk hE=>h.block k hk (hG k hE)⟩
theorem aAt {W:World} {B:Nat} {t:TypeId} {v:Value} (h:Boxed W B t v):W.cell? ⟨B,0,none⟩=some v/\W.frozen? ⟨B,0,none⟩=false/\B<W.heap.size:=⟨h.cell,h.frozen,h.lt⟩
def lsb (S:Nat):Nat:=S&&&(4294967296-S)
theorem aDl {S:Nat} (hS:S<4294967296) (h0:S≠0):∃ k m,S=2 ^ k*(2*m+1)/\k<32/\lsb S=2 ^ k/\S&&&(S-1)=2 ^ k*(2*m)/\aAg S=k :: aAg (2 ^ k*(2*m)):=by
 obtain ⟨k,m,e⟩:=bIr (S+1) S (Nat.lt_succ_self S) h0;have h32:2 ^ k*(2*m+1)<2 ^ 32:=by rw [<- e];exact hS
 refine ⟨k,m,e,bN8 h32,?_,?_,?_⟩
 .unfold lsb;rw [e];exact bO8 k 32 m h32
 .rw [e];exact bEf k m
 .rw [e];exact aIl h32
theorem aIq {S:Nat}:lsb S&&&S=lsb S:=by unfold lsb;rw [Nat.and_comm (S&&&_) S,<- Nat.and_assoc,Nat.and_self]
theorem aT4 {S:Nat} (hS:S<4294967296) (h0:S≠0):lsb S≠0:=by
 obtain ⟨k,m,_,_,h,_⟩:=aDl hS h0;rw [h];exact Nat.ne_of_gt (Nat.two_pow_pos k)
theorem bCv {S:Nat} (hS:S<4294967296):lsb S<4294967296:=Nat.lt_of_le_of_lt Nat.and_le_left hS
theorem aFs {S:Nat} (hS:S<4294967296):(aAg S).length=0↔S=0:=by
 constructor
 .intro h
  by_cases h0:S=0
  .exact h0
  .obtain ⟨k,m,_,_,_,_,e⟩:=aDl hS h0
   rw [e] at h;simp at h
 .rintro rfl;rw [aLk];rfl
theorem aOp {S:Nat} (hS:S<4294967296) (h0:S≠0):(S&&&(S-1)==0)=decide ((aAg S).length=1):=by
 obtain ⟨k,m,e,_,_,h2,h3⟩:=aDl hS h0
 have hlt:2 ^ k*(2*m)<4294967296:=by
  have:2 ^ k*(2*m)<=2 ^ k*(2*m+1):=Nat.mul_le_mul_left _ (by omega)
  omega
 rw [h2,h3,List.length_cons,Bool.eq_iff_iff,beq_iff_eq,decide_eq_true_eq];rw [show ((aAg (2 ^ k*(2*m))).length+1=1)↔(aAg (2 ^ k*(2*m))).length=0 by omega,aFs hlt]
def aDr (w:World):Prop:=0<w.heap.size/\∀ i,i<32->w.cell? ⟨0,i,none⟩=some (.int .u8 ((bruijn.getD i 0:Nat):Int))
theorem aDr.keep {w w':World} (h:aDr w) (k:Bel w w'):aDr w':=⟨Nat.lt_of_lt_of_le h.1 k.size,fun i hi=>(k.cell h.1).trans (h.2 i hi)⟩
theorem bIi {S:Nat} (h0:S≠0) (hS:S<4294967296) : -(S:Int) % 4294967296=((4294967296-S:Nat):Int):=by omega
theorem bCa {S:Nat} (hS:S<4294967296) (h0:S≠0):bits .and .u32 (S:Int) (-(S:Int) % 4294967296)=((lsb S:Nat):Int):=by
 rw [bIi h0 hS,aCz hS (by omega)];rfl
theorem bHb {S:Nat} (hS:S<4294967296) (h0:S≠0):bits .and .u32 (-(S:Int) % 4294967296) (S:Int)=((lsb S:Nat):Int):=by
 rw [bIi h0 hS,aCz (by omega) hS,Nat.and_comm];rfl
theorem aWt {k:Nat} (hk:k<32):∃ J:Nat,J<32/\((2 ^ k:Nat):Int)*125613361 % 4294967296 / 134217728=(J:Int)/\bruijn.getD J 0=k:=by
 have h:=bHf k hk;refine ⟨2 ^ k*125613361 % 4294967296 / 134217728,?_,by omega,?_⟩
 .omega
 .rw [List.getD_eq_getElem?_getD,h];rfl
theorem bQ3 (S:Nat) (k m:Nat) (w:World) (hT:aDr w) (hS:S<4294967296) (e:S=2 ^ k*(2*m+1)) :
  Calls prog 126 #[.int .u32 (S:Int)] w fun e w'=>e = .returned (.int .i64 (k:Int))/\w=w':=by
 have h0:S≠0:=by rw [e];exact Nat.ne_of_gt (Nat.mul_pos (Nat.two_pow_pos k) (by omega))
 have hb:((S:Int)==0)=false:=by simp;omega
 have hlt:=hT.1;obtain ⟨k',m',e',hk,hl,_⟩:=aDl hS h0
 obtain rfl:k=k':=by
  have h1:=aIl (k:=k) (m:=m) (by rw [<- e];exact hS)
  have h2:=aIl (k:=k') (m:=m') (by rw [<- e'];exact hS)
  rw [<- e] at h1;rw [<- e',h1] at h2;injection h2
 have q1:=bCa hS h0;rw [hl] at q1;obtain ⟨J,hJ,q2,hv⟩:=aWt hk;have hc:=hT.2 J hJ;rw [hv] at hc;generalize 2 ^ k=P at q1 q2;have dJ:decide (J<32)=true:=by simpa using hJ
 clear e e' hl hv hT h0 hS hJ;go_enter func126,ntmps126
 go_wp2_with fail
 go_ret;exact ⟨rfl,rfl⟩
def bL8 (b:Nat):Nat:=((List.range 8).filter (b.testBit ·)).length
theorem bMf:∀ n:Fin 256,Lib.onesCount n.val=bL8 n.val:=by decide +kernel
theorem aVi {b:Nat} (h:b<256):Lib.pop8 (b:Int)=(bL8 b:Int):=by
 have h1:=Lib.pop8_eq ⟨b,h⟩;have h2:=bMf ⟨b,h⟩;simp only at h1 h2
 rw [h1,h2]
theorem aUb (b:Nat):bL8 b<=8:=Nat.le_trans (List.length_filter_le _ _) (by simp)
theorem aPq (S s:Nat):(List.filter (S.testBit ·) ((List.range 8).map (s+·))).length=bL8 (S / 2 ^ s % 256):=by
 unfold bL8;rw [List.filter_map,List.length_map]
 congr 1
 refine List.filter_congr fun i hi=>?_
 have hi:=List.mem_range.1 hi;show S.testBit (s+i)=(S / 2 ^ s % 2 ^ 8).testBit i
 rw [Nat.testBit_mod_two_pow,decide_eq_true hi,Bool.true_and,Nat.testBit_div_two_pow,Nat.add_comm]
theorem bA6 {S:Nat} (hS:S<4294967296):(aAg S).length=bL8 (S / 16777216)+bL8 (S / 65536 % 256)+bL8 (S / 256 % 256)+bL8 (S % 256):=by
 have e:List.range 32=(List.range 8).map (0+·)++((List.range 8).map (8+·)++((List.range 8).map (16+·)++(List.range 8).map (24+·))):=by decide
 unfold aAg;rw [e,List.filter_append,List.filter_append,List.filter_append,List.length_append,List.length_append,List.length_append,aPq,aPq,aPq,aPq];have e3:S / 2 ^ 24 % 256=S / 16777216:=by omega
 have e0:S / 2 ^ 0 % 256=S % 256:=by simp
 rw [e3,e0,show (2 ^ 16:Nat)=65536 by decide,show (2 ^ 8:Nat)=256 by decide]
 omega
def aV6:Op->Bool
 | .defer _=>false
 | _=>true
def aPw (ops:Array Oper):Bool:=ops.all fun o=>aV6 o.op
section
variable {P:Program} {ops:Array Oper} {Q:Exit->Act->World->Prop} {md:Region.Mode} {l n:Nat}
theorem bOd {o:Oper} (ho:aV6 o.op=true) {a:Act} {w:World} {K K':Act->World->Prop} (hK:∀ a w,K a w->K' a w) (h:o.wp P a w K Q):o.wpIn (Fence.wide.inRound l) n P a w K' Q:=by
 refine ⟨fun _ _=>trivial,?_⟩
 rw [Oper.semAt_eq _ _ _ (fun c h=>by rw [h] at ho;cases ho)]
 unfold Oper.wp at h;generalize (execOp a.eval o).run P w=r at *;cases r with
 | ok x w' =>
  cases x with
  | value v=>exact hK _ _ h
  | skip=>exact hK _ _ h
  | defer d=>exact hK _ _ h
  | enter f args=>exact ⟨(fun hd=>by cases hd),(CallsIn.inRound l ((callsIn_wide (n:=n-1)).2 h)).mono (fun e w'' he=>by cases e <;> first | exact hK _ _ he | exact he)⟩
  | row r args=>exact ⟨(fun hd=>by cases hd),fun c cs _=>let ⟨v,w'',hr,hs⟩:=h c cs;⟨v,w'',hK _ _ hr,stepsIn_wide.2 hs⟩⟩
  | round lr f tmps assign body=>exact h.elim
  | _=>first | exact h | exact h.elim
 | halt x w'=>cases x <;> first | exact h | exact h.elim
theorem op_in {i:Nat} (hd:aPw ops=true) (hq:¬ LetsOut Q) {a:Act} {w:World} {K K':Act->World->Prop} (hK:∀ a w,K a w->K' a w) (h:wpOp P ops Q i K a w):wpOpIn (Fence.wide.inRound l) n P ops Q i K' a w:=by
 unfold wpOp at h;unfold wpOpIn;cases ho:ops[i]? with
 | none=>simp only [ho] at h;exact hK _ _ h
 | some o =>
  simp only [ho] at h ⊢
  have hn:aV6 o.op=true:=by
   unfold aPw at hd;rw [Array.all_eq_true] at hd;obtain ⟨hi,e⟩:=Array.getElem?_eq_some_iff.1 ho;have:=hd i hi
   rwa [e] at this
  by_cases hw:Region.wanted o (yielded ops a.tmps)=true
  .rw [if_pos hw] at h ⊢;exact bOd hn hK (h.resolve_right (fun e=>hq e.2))
  .rw [if_neg hw] at h ⊢;exact ⟨fun _ _=>trivial,hK _ _ h⟩
theorem bN5 (hd:aPw ops=true) (hq:¬ LetsOut Q):∀ (fuel:Nat) (listed:Array Bool) (a:Act) (w:World),wpAny P md ops Q fuel listed a w->wpAnyIn (Fence.wide.inRound l) n P md ops Q fuel listed a w
 | 0,_,_,_,h=>h
 | fuel+1,_,_,_,h=>⟨h.1,fun i hi=>op_in hd hq (fun a w k=>bN5 hd hq fuel _ a w k) (h.2 i hi)⟩
theorem aA6.startIn (S:World->Prop) (L:Nat) {id:Nat} {a:Act} {w:World} (hm:P.follows .mixedOrders=true) (hd:aPw ops=true) (hq:¬ LetsOut Q)
  (h:aA6 P .any ops Q S L ops.size (Array.replicate ops.size false) a w.drew):(Code.region id ops true).wpIn (Fence.wide.inRound l) n P Q a w :=
 wpIn_region_any hm (bN5 hd hq _ _ _ _ (aA6.any _ _ _ _ h))
end
def aOi (t:List (Int × Int)) (M:Int) (x:Nat):List Int:=List.replicate x 0++aE5 M (t.drop x)
theorem aEg:∀ (M:Int) (t:List (Int × Int)),(aE5 M t).length=t.length
 | _,[]=>rfl
 | M,_ :: t=>by show _+1=_+1;rw [aEg M t]
theorem aCw:∀ (T:List (List (Int × Int))),(aEn T).length=T.length
 | []=>rfl
 | _ :: T=>by show _+1=_+1;rw [aCw T]
theorem aYv {t:List (Int × Int)} {M:Int} {x:Nat} (hx:x<=t.length):(aOi t M x).length=t.length:=by
 unfold aOi;rw [List.length_append,List.length_replicate,aEg,List.length_drop];omega
theorem bBd (t:List (Int × Int)) (M:Int):aOi t M t.length=List.replicate t.length 0:=by
 unfold aOi;rw [List.drop_length];simp [aE5]
theorem bFp (t:List (Int × Int)) (M:Int):aOi t M 0=aE5 M t:=by simp [aOi]
theorem bJ8 {t:List (Int × Int)} {M:Int} {x:Nat} (hx:x<t.length):(aOi t M (x+1)).set x (aAy (t.drop (x+1))*M)=aOi t M x:=by
 unfold aOi;have hd:t.drop x=t[x] :: t.drop (x+1):=(List.drop_eq_getElem_cons hx);rw [hd,List.replicate_succ',List.append_assoc,List.set_append_right _ _ (by simp),List.length_replicate,Nat.sub_self]
 rfl
theorem aKv:∀ {T:List (List (Int × Int))} {v:Nat} (hv:v<T.length),(aEn T)[v]?=some (aE5 (aAv (T.drop (v+1))) T[v])
 | t :: T,0,_=>by simp [aEn]
 | t :: T,v+1,hv=>by
  have:=aKv (T:=T) (v:=v) (by simpa using hv)
  simpa [aEn] using this
theorem aRn:∀ (M:Int) (t:List (Int × Int)) (x:Nat) (h:x<(aE5 M t).length),(aE5 M t)[x]=aAy (t.drop (x+1))*M
 | _,[],_,h=>by simp [aE5] at h
 | _,_ :: _,0,_=>rfl
 | M,_ :: t,x+1,h=>aRn M t x (by simpa [aE5] using h)
theorem bCg {n x:Nat} {pre:List Nat} (h:pre++[x] <+: (List.range n).reverse):x+pre.length+1=n:=by
 obtain ⟨t,ht⟩:=h;have hl:=congrArg List.length ht;simp at hl
 have hx:((List.range n).reverse)[pre.length]?=some x:=by
  rw [<- ht,List.append_assoc,List.getElem?_append_right (Nat.le_refl _),Nat.sub_self];rfl
 rw [List.getElem?_reverse (by simp;omega),List.length_range] at hx
 have:=(List.getElem?_eq_some_iff.1 hx).2;simp at this
 omega
theorem aXf (n:Nat):(List.range n).reverse.length=n:=by simp
structure Tok where
 kind:Nat
 at_:Nat
 en:Nat
 num:Nat
 deriving DecidableEq
instance:Inhabited Tok:=⟨⟨0,0,0,0⟩⟩
def aSs (c:UInt8):Bool:=c==32||c==9||c==10||c==13
def aJs (c:UInt8):Bool:=(97<=c.toNat&&c.toNat<=122)||(65<=c.toNat&&c.toNat<=90)
def aEu (c:UInt8):Bool:=48<=c.toNat&&c.toNat<=57
def aEe (c:UInt8):Bool:=aJs c||aEu c||c.toNat==95
def signs1:List UInt8:=[59,58,44,40,41,46,63,60,62,43,45,42,47,37,33]
def signs2:List (UInt8 × UInt8):=[(46,46),(45,62),(58,61),(38,38),(124,124),(61,61),(33,61),(60,61),(62,61)]
def aIc:List UInt8->Nat->Nat
 | c :: l,k=>if aSs c then aIc l (k+1) else k
 | [],k=>k
def aD6 (f:UInt8->Bool):List UInt8->Nat->Nat
 | c :: l,k=>if f c then aD6 f l (k+1) else k
 | [],k=>k
def aMw:List UInt8->Nat->Option Nat
 | [],v=>some v
 | c :: l,v=>if 10*v+(c.toNat-48)<=1073741824 then aMw l (10*v+(c.toNat-48)) else none
def aRd:List UInt8->Option Nat
 | []=>none
 | c :: l=>if c==48&&0<l.length then none else aMw (c :: l) 0
def aOn:List UInt8->Nat
 | []=>0
 | [c]=>if signs1.contains c then 1 else 0
 | c :: d :: _=>if signs2.contains (c,d) then 2 else if signs1.contains c then 1 else 0
def aV5 (l:List UInt8) (k:Nat):Option Tok :=
 match l.drop k with
 | []=>none
 | c :: r =>
  if aJs c then
   let e:=aD6 aEe (c :: r) k
   if e-k<=24 then some ⟨1,k,e,0⟩ else none
  else if aEu c then
   let e:=aD6 aEu (c :: r) k
   match aRd ((c :: r).take (e-k)) with | some v=>some ⟨2,k,e,v⟩ | none=>none
  else if aOn (c :: r)=0 then none else some ⟨3,k,k+aOn (c :: r),0⟩
def aOm (l:List UInt8):Nat->Nat->Option (List Tok)
 | 0,_=>none
 | n+1,k =>
  if k<l.length then
   match aV5 l k with
   | some t=>(match aOm l n (aIc (l.drop t.en) t.en) with | some r=>some (t :: r) | none=>none)
   | none=>none
  else some []
def aH6 (l:List UInt8):Option (List Tok) :=
 if l.all (· != 35)&&decide (l.length<=16384) then aOm l (l.length+1) (aIc l 0) else none
def wordL (l:List UInt8) (t:Tok):List UInt8:=(l.drop t.at_).take (t.en-t.at_)
def aBa (l:List UInt8):List Tok->List UInt8
 | []=>[]
 | t :: _=>wordL l t
abbrev Wd:=List UInt8
def bAt (w:Wd):Bool:=decide (1<=w.length)&&decide (w.length<=24)&&aJs (w.headD 0)&&w.all aEe && !([[112,114,111,103,114,97,109],[118,97,114],[114,117,108,101],[98,111,111,108],[112,111,114,116],[116,114,117,101],[102,97,108,115,101],[110,111,110,101],[110],[105,100,115],[105,100],[100,101,103],[114,111,111,116],[113],[119,101,105,103,104,116],[98,97,99,107],[97,108,108],[115,111,109,101],[99,111,117,110,116],[102,105,114,115,116],[109,105,110],[109,97,120],[115,117,109],[109,101,120],[115,101,99,111,110,100],[104,101,97,100]]:List Wd).contains w
def aG7 (w:Wd) (first:Nat) (l:List Wd):Nat:=if w=[] then 0 else match l.findIdx? (·==w) with | some i=>first+i | none=>0
def binL:List Wd:=[[42],[47],[37],[43],[45],[61,61],[33,61],[60],[60,61],[62],[62,61],[38,38],[124,124]]
def aggL:List Wd:=[[97,108,108],[115,111,109,101],[99,111,117,110,116],[102,105,114,115,116],[109,105,110],[109,97,120],[115,117,109],[109,101,120],[115,101,99,111,110,100],[104,101,97,100]]
def conL:List Wd:=[[116,114,117,101],[102,97,108,115,101],[110,111,110,101],[],[110],[105,100,115],[105,100],[100,101,103],[114,111,111,116]]
def fldL:List Wd:=[[105,100],[100,101,103],[114,111,111,116],[119,101,105,103,104,116],[98,97,99,107]]
def aS9 (w:Wd):Nat:=aG7 w 30 binL
def bE0 (w:Wd):Nat:=aG7 w 20 aggL
def bEc (w:Wd):Nat:=aG7 w 2 conL
def bAa (w:Wd):Nat:=aG7 w 13 fldL
def aY3 (op:Nat):Nat :=
 if op=43 then 0 else if op=42 then 1 else if op=41 then 2 else if 35<=op/\op<=40 then 3 else if op=33∨op=34 then 4 else if 30<=op/\op<=32 then 5 else if op=18∨op=19 then 6 else 7
section
variable (T:Wd)
def aJ6:List Tok->Nat
 | []=>0
 | t :: _=>t.kind
def aAh (w:Wd) (ts:List Tok):Option (List Tok):=if aBa T ts=w then some ts.tail else none
def aFb (N:List Wd) (ts:List Tok):Option (Nat × List Tok) :=
 if aJ6 ts=1/\bAt (aBa T ts)=true then (match N.findIdx? (·==aBa T ts) with | some i=>some (i,ts.tail) | none=>none) else none
def aL1 (op arg:Nat):List Term:=[⟨(op:Int),(arg:Int)⟩]
def aW9 (op:Nat) (l:List (List Term)):List Term:=aL1 op 0++l.flatten
inductive Cat where
 | choice
 | bin (l:Nat)
 | more (l:Nat) (left:List Term)
 | unary
 | primary
def aCc (N:List Wd):Nat->Cat->List Tok->Option (List Term × List Tok)
 | 0,_,_=>none
 | n+1,.choice,ts=>(aCc N n (.bin 1) ts).bind fun (c,t1) =>
   match aAh T [63] t1 with
   | none=>some (c,t1)
   | some t2=>(aCc N n .choice t2).bind fun (y,t3)=>(aAh T [58] t3).bind fun t4=>(aCc N n .choice t4).bind fun (z,t5)=>some (aW9 43 [c,y,z],t5)
 | n+1,.bin l,ts=>if l=6 then aCc N n .unary ts else (aCc N n (.bin (l+1)) ts).bind fun (a,t1)=>aCc N n (.more l a) t1
 | n+1,.more l a,ts =>
   if aS9 (aBa T ts)=0∨aY3 (aS9 (aBa T ts))≠l then some (a,ts)
   else (aCc N n (.bin (l+1)) ts.tail).bind fun (b,t1) =>
    if l=3 then some (aW9 (aS9 (aBa T ts)) [a,b],t1) else aCc N n (.more l (aW9 (aS9 (aBa T ts)) [a,b])) t1
 | n+1,.unary,ts =>
   match aAh T [45] ts with
   | some t1=>(aCc N n .unary t1).bind fun (a,t2)=>some (aW9 18 [a],t2)
   | none=>match aAh T [33] ts with
    | some t1=>(aCc N n .unary t1).bind fun (a,t2)=>some (aW9 19 [a],t2)
    | none=>aCc N n .primary ts
 | n+1,.primary,ts =>
   if aJ6 ts=2 then some (aL1 1 (ts.headD default).num,ts.tail)
   else match aAh T [40] ts with
    | some t1=>(aCc N n .choice t1).bind fun (a,t2)=>(aAh T [41] t2).bind fun t3=>some (a,t3)
    | none=>match aAh T [113] ts with
     | some t1=>(match aAh T [46] t1 with
      | none=>some (aL1 11 0,t1)
      | some t2=>if bAa (aBa T t2)≠0 then some (aL1 (bAa (aBa T t2)) 0,t2.tail) else (aFb T N t2).bind fun (x,t3)=>some (aL1 12 x,t3))
     | none =>
      if bEc (aBa T ts)≠0 then some (aL1 (bEc (aBa T ts)) 0,ts.tail)
      else if bE0 (aBa T ts)≠0 then (aAh T [40] ts.tail).bind fun t1=>(aCc N n .choice t1).bind fun (a,t2)=>(aAh T [41] t2).bind fun t3=>some (aW9 (bE0 (aBa T ts)) [a],t3)
      else (aFb T N ts).bind fun (x,t1)=>some (aL1 5 x,t1)
def aKu (taken:List Wd) (ts:List Tok):Option (Wd × List Tok) :=
 if aJ6 ts=1/\bAt (aBa T ts)=true/\taken.contains (aBa T ts)=false then some (aBa T ts,ts.tail) else none
def aV7 (lo hi:Nat) (ts:List Tok):Option (Nat × List Tok) :=
 if aJ6 ts=2/\lo<=(ts.headD default).num/\(ts.headD default).num<=hi then some ((ts.headD default).num,ts.tail) else none
def ba (w:Wd):ByteArray:=⟨⟨w⟩⟩
def bOx (ts:List Tok):Option ((Int × Int × Int) × List Tok) :=
 match aAh T [98,111,111,108] ts with
 | some t1=>some ((2,0,0),t1)
 | none=>match aAh T [112,111,114,116] ts with
  | some t1=>some ((3,0,0),t1)
  | none=>(aV7 0 4096 ts).bind fun (lo,t1)=>(aAh T [46,46] t1).bind fun t2 =>
    if aJ6 t2=2 then none else (aAh T [110] t2).bind fun t3=>if aBa T t3=[43]∨aBa T t3=[45] then none else some ((1,(lo:Int),1),t3)
def varL (N:List Wd) (ts:List Tok):Option ((Wd × Var) × List Tok) :=
 (aKu T N ts).bind fun (x,t1)=>(aAh T [58] t1).bind fun t2=>(bOx T t2).bind fun (k,t3)=>(aAh T [59] t3).bind fun t4=>some ((x,⟨ba x,k.1,k.2.1,0,k.2.2,0⟩),t4)
def bBt:Nat->List Wd->List Var->List Tok->Option ((List Wd × List Var) × List Tok)
 | 0,_,_,_=>none
 | n+1,N,V,ts=>if aBa T ts=[118,97,114] then (if V.length=6 then none else (varL T N ts.tail).bind fun (x,t1)=>bBt n (N++[x.1]) (V++[x.2]) t1) else some ((N,V),ts)
def aVu (N:List Wd):Nat->List SetT->List Tok->Option (List SetT × List Tok)
 | 0,_,_=>none
 | n+1,L,ts=>(aFb T N ts).bind fun (x,t1)=>(aAh T [58,61] t1).bind fun t2=>(aCc T N 100 .choice t2).bind fun (e,t3) =>
   match aAh T [44] t3 with
   | some t4=>aVu N n (L++[⟨(x:Int),e⟩]) t4
   | none=>some (L++[⟨(x:Int),e⟩],t3)
def bMp (N taken:List Wd) (ts:List Tok):Option ((Wd × Rule) × List Tok) :=
 (aKu T taken ts).bind fun (x,t1)=>(aAh T [58] t1).bind fun t2=>(aCc T N 100 .choice t2).bind fun (c,t3)=>(aAh T [45,62] t3).bind fun t4 =>
  (aVu T N 10 [] t4).bind fun (L,t5)=>(aAh T [59] t5).bind fun t6=>some ((x,⟨ba x,c,L⟩),t6)
def aN4 (N:List Wd):Nat->List Wd->List Rule->List Tok->Option (List Rule × List Tok)
 | 0,_,_,_=>none
 | n+1,K,R,ts=>if aBa T ts=[114,117,108,101] then (if R.length=12 then none else (bMp T N K ts.tail).bind fun (x,t1)=>aN4 N n (K++[x.1]) (R++[x.2]) t1) else some (R,ts)
def bKf (ts:List Tok):Option Prg :=
 (aAh T [112,114,111,103,114,97,109] ts).bind fun t1=>(aKu T [] t1).bind fun (x,t2)=>(aAh T [59] t2).bind fun t3=>(bBt T 10 [] [] t3).bind fun (NV,t4)=>(aN4 T NV.1 20 [] [] t4).bind fun (R,t5) =>
  if t5=[] then some ⟨ba x,NV.2,R⟩ else none
end
def aA4 (s:ByteArray):List UInt8:=s.data.toList
theorem aAx (s:ByteArray):(aA4 s).length=s.size:=by unfold aA4;simp
theorem aCe (s:ByteArray) {k:Nat} (h:k<s.size):(aA4 s).drop k=s[k] :: (aA4 s).drop (k+1):=by
 rw [List.drop_eq_getElem_cons (by rw [aAx];exact h)];rfl
theorem aKn (s:ByteArray) {k:Nat} (h:s.size<=k):(aA4 s).drop k=[]:=List.drop_eq_nil_of_le (by rw [aAx];exact h)
theorem bK7 (c d:UInt8) (n:Nat) (h:d.toNat=n):(c==d)=((c.toNat:Int)==(n:Int)):=by
 rw [Bool.eq_iff_iff,beq_iff_eq,beq_iff_eq,<- UInt8.toNat_inj,h];omega
theorem aO1 (c:UInt8):aJs c=aHv c:=by
 unfold aJs aHv;rw [Bool.eq_iff_iff];simp
 omega
theorem aX7 (c:UInt8):aEu c=aQp c:=by
 unfold aEu aQp;rw [Bool.eq_iff_iff];simp
 omega
theorem aT0 (c:UInt8):aEe c=aF3 c:=by
 unfold aEe aF3;rw [aO1,aX7]
 congr 1
 rw [Bool.eq_iff_iff];simp;omega
theorem aVx:∀ (l:List UInt8) (k:Nat),k<=aIc l k/\aIc l k<=k+l.length
 | [],k=>by simp [aIc]
 | c :: l,k=>by
  unfold aIc;split
  .have:=aVx l (k+1);simp;omega
  .simp
theorem aH7 (f:UInt8->Bool):∀ (l:List UInt8) (k:Nat),k<=aD6 f l k/\aD6 f l k<=k+l.length
 | [],k=>by simp [aD6]
 | c :: l,k=>by
  unfold aD6;split
  .have:=aH7 f l (k+1);simp;omega
  .simp
theorem bDm (T:ByteArray) (k:Nat) (w:World) (hk:k<=T.size) (hT:T.size<=1000000) (hc:∀ j (h:j<T.size),T[j].toNat≠35) :
  Calls prog 52 #[.string T,.int .i64 k] w fun e w'=>e = .returned (.int .i64 (aIc ((aA4 T).drop k) k:Nat))/\w=w':=by
 have HC:=aA0 hc;clear hc;go_enter func52,ntmps52;go_wp2
 go_loopg [1] (T.size-k) (fun m z wr=>∃ j:Nat,j<=T.size/\m=T.size-j/\Hid (aIc ((aA4 T).drop k) k=aIc ((aA4 T).drop j) j)/\z = .int .i64 j/\w=wr)
 case atStart=>exact ⟨k,hk,rfl,rfl,rfl,rfl⟩
 case round =>
  obtain ⟨j,hj,rfl,HK,rfl,rfl⟩:=hrel
  by_cases hlt:j<T.size
  .have hd0:decide (j<T.size)=true:=by simpa using hlt
   have HS:=aA0 (aCe T hlt);have HN:=aA0 (HC.out j hlt);obtain ⟨c,hcc⟩:∃ c,T[j]=c:=⟨_,rfl⟩;rw [hcc] at HS HN
   have HB:Hid (aSs c=(((c.toNat:Int)==32)||((c.toNat:Int)==9)||((c.toNat:Int)==10)||((c.toNat:Int)==13))):=by
    show aSs c=_
    unfold aSs;rw [bK7 c 32 32 rfl,bK7 c 9 9 rfl,bK7 c 10 10 rfl,bK7 c 13 13 rfl];rfl
   have hn35:((c.toNat:Int)==35)=false:=by simp;have:=HN.out;omega
   go_wp2
   all_goals first
    | (have hb : aSs c = true := by (rw [HB.out]; simp [*]; done)
       have HG:Hid (aIc ((aA4 T).drop k) k=aIc ((aA4 T).drop (j+1)) (j+1)):=by
        show _=_
        rw [HK.out,HS.out];simp only [aIc];rw [if_pos hb]
       go_roundg (T.size-(j+1))
       case rel=>exact ⟨j+1,by omega,rfl,HG,by go_num,rfl⟩
       case measure=>omega)
    | (have hb : aSs c = false := by (rw [HB.out]; simp [*]; done)
       go_ret;refine ⟨?_,rfl⟩
       rw [HK.out,HS.out];simp only [aIc];rw [if_neg (by rw [hb];simp)];rfl)
  .have hd0:decide (j<T.size)=false:=by simpa using hlt
   go_wp2;go_ret;refine ⟨?_,rfl⟩
   rw [HK.out,aKn T (by omega)]
   have:j=T.size:=by omega
   rfl
theorem aZf (f:FuncId) (p:UInt8->Bool) (hf:∀ (c:UInt8) w,Calls prog f #[.int .u8 (c.toNat:Int)] w fun e w'=>e = .returned (.bool (p c))/\w=w') (hcall:∀ a w,(callFunc f #[a]).run prog w = .ok (.enter f #[a]) w)
  (T:ByteArray) (k:Nat) (b1 b2:Nat) (w:World) (hk:k<=T.size) (hT:T.size<=1000000) (h1:w.cell? ⟨b1,0,none⟩=some (.int .i64 (k:Int))) (h2:w.cell? ⟨b2,0,none⟩=some (.string T)) :
  Calls prog 97 #[.func (.func f) #[] #[],.pointer (some ⟨b1,0,none⟩),.pointer (some ⟨b2,0,none⟩)] w fun e w'=>e = .returned (.int .i64 (aD6 p ((aA4 T).drop k) k:Nat))/\w=w':=by
 have HF:=aA0 hf;clear hf;go_enter func97,ntmps97
 go_wp2_with fail
 go_loopg [5] (T.size-k) (fun m z wr=>∃ j:Nat,j<=T.size/\m=T.size-j/\Hid (aD6 p ((aA4 T).drop k) k=aD6 p ((aA4 T).drop j) j)/\z = .int .i64 j/\w=wr)
 case atStart=>exact ⟨k,hk,rfl,rfl,rfl,rfl⟩
 case round =>
  obtain ⟨j,hj,rfl,HK,rfl,rfl⟩:=hrel
  by_cases hlt:j<T.size
  .have hd0:decide (j<T.size)=true:=by simpa using hlt
   have HS:=aA0 (aCe T hlt);cases hp:p T[j] with
   | true =>
    have HG:Hid (aD6 p ((aA4 T).drop k) k=aD6 p ((aA4 T).drop (j+1)) (j+1)):=by
     show _=_
     rw [HK.out,HS.out];simp only [aD6];rw [if_pos hp]
    go_wp2_with ((with_reducible refine (HF.out _ _).mono ?_);rintro e w' ⟨rfl,rfl⟩;rw [hp])
    go_roundg (T.size-(j+1))
    case rel=>exact ⟨j+1,by omega,rfl,HG,by go_num,rfl⟩
    case measure=>omega
   | false =>
    have HG:Hid (aD6 p ((aA4 T).drop k) k=j):=by
     show _=_
     rw [HK.out,HS.out];simp only [aD6];rw [if_neg (by rw [hp];simp)]
    go_wp2_with ((with_reducible refine (HF.out _ _).mono ?_);rintro e w' ⟨rfl,rfl⟩;rw [hp])
    go_ret;exact ⟨aA9 (by rw [HG.out]),rfl⟩
  .have hd0:decide (j<T.size)=false:=by simpa using hlt
   go_wp2_with fail
   go_ret;refine ⟨aA9 ?_,rfl⟩
   rw [HK.out,aKn T (by omega)]
   rfl
theorem aQq {c:UInt8} (h:aEu c=true):48<=(c.toNat:Int)/\(c.toNat:Int)<=57:=by
 unfold aEu at h;simp at h;omega
theorem bFf (D:ByteArray) (r:Nat) (w:World) (h0:0<D.size) (hT:D.size<=1000000) (hd:∀ c∈aA4 D,aEu c=true) (h:aRd (aA4 D)=some r) :
  Calls prog 101 #[.string D] w fun e w'=>e = .returned (.tuple #[.int .i64 (r:Int),.bool true])/\w=w':=by
 have HS:=aA0 (aCe D h0)
 have HN:Hid (((((D[0].toNat:Int)==48)&&decide (1<(D.size:Int)))=false)/\aMw (aA4 D) 0=some r):=by
  show _/\_
  have e:aA4 D=D[0] :: (aA4 D).drop 1:=by have:=HS.out;simpa using this
  rw [e,show ∀ c l,aRd (c :: l)=if c==48&&0<l.length then none else aMw (c :: l) 0 from fun _ _=>rfl] at h
  split at h
  .cases h
  .rename_i hn
   refine ⟨?_,by rw [e];exact h⟩
   rw [bK7 D[0] 48 48 rfl] at hn;have hl:((aA4 D).drop 1).length=D.size-1:=by rw [List.length_drop,aAx]
   rw [hl] at hn;rw [Bool.and_eq_true] at hn;rw [Bool.eq_false_iff,ne_eq,Bool.and_eq_true];intro hx
   refine hn ⟨hx.1,?_⟩
   have:=hx.2;simp at this ⊢
   omega
 have HD:=aA0 hd;clear h hd;have hc:=HN.out.1;have hI:decide (1<(D.size:Int))=decide (1<D.size):=by rw [Bool.eq_iff_iff];simp;omega
 rw [hI] at hc;cases hz:((D[0].toNat:Int)==48) with
 | true =>
  rw [hz] at hc;have h1:decide (1<D.size)=false:=hc;go_enter func101,ntmps101;go_wp2
  go_loopg [4,5,16] D.size (fun m y _x z wr=>∃ (j v:Nat),j<=D.size/\m=D.size-j/\v<=1073741824/\Hid (aMw ((aA4 D).drop j) v=some r)/\y = .int .i64 v/\z = .int .i64 j/\w=wr)
  case atStart=>exact ⟨0,0,by omega,rfl,by omega,HN.out.2,rfl,rfl,rfl⟩
  case round =>
   obtain ⟨j,v,hj,rfl,hv,HK,rfl,rfl,rfl⟩:=hrel
   by_cases hlt:j<D.size
   .have hd0:decide (j<D.size)=true:=by simpa using hlt
    obtain ⟨d1,d2⟩:=aQq (HD.out D[j] (by
     have:=aCe D hlt
     exact List.mem_of_mem_drop (i:=j) (by rw [this];exact List.mem_cons_self)))
    have HG:Hid (10*v+(D[j].toNat-48)<=1073741824/\aMw ((aA4 D).drop (j+1)) (10*v+(D[j].toNat-48))=some r):=by
     show _/\_
     have h:=HK.out;rw [aCe D hlt,show ∀ c l v,aMw (c :: l) v=if 10*v+(c.toNat-48)<=1073741824 then aMw l (10*v+(c.toNat-48)) else none from fun _ _ _=>rfl] at h
     split at h
     .rename_i hle;exact ⟨hle,h⟩
     .cases h
    obtain ⟨n,hn⟩:∃ n,10*v+(D[j].toNat-48)=n:=⟨_,rfl⟩;rw [hn] at HG;have HV:=HG.out.1;have e1:IntKind.i64.wrap (10*(v:Int))=10*(v:Int):=IntWalk.i64_in _ (by omega)
    have e2:IntKind.u8.wrap ((D[j].toNat:Int)-48)=(D[j].toNat:Int)-48:=IntWalk.u8_in _ (by omega)
    have e3:IntKind.i64.wrap ((D[j].toNat:Int)-48)=(D[j].toNat:Int)-48:=IntWalk.i64_in _ (by omega)
    have e4:IntKind.i64.wrap (10*(v:Int)+((D[j].toNat:Int)-48))=(n:Int):=by rw [IntWalk.i64_in _ (by omega)];omega
    clear hn;have d4:decide ((1073741824:Int)<(n:Int))=false:=by simp;omega
    go_wp2
    go_roundg (D.size-(j+1))
    case rel=>exact ⟨j+1,n,by omega,rfl,HV,HG.out.2,rfl,by go_num,rfl⟩
    case measure=>omega
   .have hd0:decide (j<D.size)=false:=by simpa using hlt
    go_wp2
    go_ret2
    have h:=HK.out;rw [aKn D (by omega)] at h
    have:v=r:=by simpa [aMw] using h
    subst this;exact ⟨rfl,rfl⟩
 | false =>
  go_enter func101,ntmps101;go_wp2
  go_loopg [4,5,16] D.size (fun m y _x z wr=>∃ (j v:Nat),j<=D.size/\m=D.size-j/\v<=1073741824/\Hid (aMw ((aA4 D).drop j) v=some r)/\y = .int .i64 v/\z = .int .i64 j/\w=wr)
  case atStart=>exact ⟨0,0,by omega,rfl,by omega,HN.out.2,rfl,rfl,rfl⟩
  case round =>
   obtain ⟨j,v,hj,rfl,hv,HK,rfl,rfl,rfl⟩:=hrel
   by_cases hlt:j<D.size
   .have hd0:decide (j<D.size)=true:=by simpa using hlt
    obtain ⟨d1,d2⟩:=aQq (HD.out D[j] (by
     have:=aCe D hlt
     exact List.mem_of_mem_drop (i:=j) (by rw [this];exact List.mem_cons_self)))
    have HG:Hid (10*v+(D[j].toNat-48)<=1073741824/\aMw ((aA4 D).drop (j+1)) (10*v+(D[j].toNat-48))=some r):=by
     show _/\_
     have h:=HK.out;rw [aCe D hlt,show ∀ c l v,aMw (c :: l) v=if 10*v+(c.toNat-48)<=1073741824 then aMw l (10*v+(c.toNat-48)) else none from fun _ _ _=>rfl] at h
     split at h
     .rename_i hle;exact ⟨hle,h⟩
     .cases h
    obtain ⟨n,hn⟩:∃ n,10*v+(D[j].toNat-48)=n:=⟨_,rfl⟩;rw [hn] at HG;have HV:=HG.out.1;have e1:IntKind.i64.wrap (10*(v:Int))=10*(v:Int):=IntWalk.i64_in _ (by omega)
    have e2:IntKind.u8.wrap ((D[j].toNat:Int)-48)=(D[j].toNat:Int)-48:=IntWalk.u8_in _ (by omega)
    have e3:IntKind.i64.wrap ((D[j].toNat:Int)-48)=(D[j].toNat:Int)-48:=IntWalk.i64_in _ (by omega)
    have e4:IntKind.i64.wrap (10*(v:Int)+((D[j].toNat:Int)-48))=(n:Int):=by rw [IntWalk.i64_in _ (by omega)];omega
    clear hn;have d4:decide ((1073741824:Int)<(n:Int))=false:=by simp;omega
    go_wp2
    go_roundg (D.size-(j+1))
    case rel=>exact ⟨j+1,n,by omega,rfl,HV,HG.out.2,rfl,by go_num,rfl⟩
    case measure=>omega
   .have hd0:decide (j<D.size)=false:=by simpa using hlt
    go_wp2
    go_ret2
    have h:=HK.out;rw [aKn D (by omega)] at h
    have:v=r:=by simpa [aMw] using h
    subst this;exact ⟨rfl,rfl⟩
theorem bCq (c:UInt8):∀ l:List UInt8,decide (0<=Lib.indexByte l c)=l.contains c
 | []=>rfl
 | b :: l=>by
  have ih:=bCq c l;have hge:=Lib.indexByte_ge l c;rw [List.contains_cons,<- ih];show decide (0<=(if b==c then 0 else if Lib.indexByte l c == -1 then -1 else Lib.indexByte l c+1))=_
  rw [show (c==b)=(b==c) from Bool.eq_iff_iff.2 (by simp;exact eq_comm)]
  cases hb:b==c with
  | true=>simp
  | false =>
   simp only [Bool.false_eq_true,if_false,Bool.false_or]
   rw [Bool.eq_iff_iff];simp
   split <;> omega
theorem aSf (s p:ByteArray) (w:World) :
  Calls prog 161 #[.string s,.string p] w fun e w'=>e = .returned (.bool (Lib.hasPrefix s.data.toList p.data.toList))/\w=w':=by
 rw [<- Lib.hasPrefix_of_take,<- Lib.size_eq,<- Lib.size_eq];go_enter func161,ntmps161;go_wp2
 .rename_i h
  go_ret;refine ⟨?_,rfl⟩
  show Ending.returned (Value.bool ((s.extract 0 p.size).toList==p.toList))=_
  rw [Lib.extract_toList,Lib.toList_data];simp [h]
 .rename_i h
  go_ret;refine ⟨?_,rfl⟩
  show Ending.returned (Value.bool false)=_
  simp [h]
theorem aMf (s p:ByteArray) (w:World) :
  Calls prog 137 #[.string s,.string p] w fun e w'=>e = .returned (.bool (Lib.hasPrefix s.data.toList p.data.toList))/\w=w':=by
 go_enter func137,ntmps137
 go_wp2_with (go_at_call 161;refine (aSf _ _ _).mono ?_;rintro e w' ⟨rfl,rfl⟩)
 go_ret;exact ⟨rfl,rfl⟩
theorem aUr (s:ByteArray) (c:Int) (w:World) :
  Calls prog 162 #[.string s,.int .u8 c] w fun e w'=>e = .returned (.int .i64 (Lib.indexByte s.data.toList c.toNat.toUInt8))/\w=w':=by
 go_enter func162,ntmps162;go_wp2;rw [run_callFunc_extern func180 (by kernel_rfl) (by kernel_rfl) (by kernel_rfl) (e:=Extern.BytealgIndexByte.indexByte) (by kernel_rfl),Lib.run_indexByteString]
 simp only [Result.andThen]
 rw [Oper.upon_value];go_wp2;go_ret;exact ⟨rfl,rfl⟩
theorem aUo (s:ByteArray) (c:Int) (w:World) :
  Calls prog 138 #[.string s,.int .u8 c] w fun e w'=>e = .returned (.int .i64 (Lib.indexByte s.data.toList c.toNat.toUInt8))/\w=w':=by
 go_enter func138,ntmps138
 go_wp2_with (go_at_call 162;refine (aUr _ _ _).mono ?_;rintro e w' ⟨rfl,rfl⟩)
 go_ret;exact ⟨rfl,rfl⟩
theorem aT1 (c:UInt8) (b:Bool) (hb:signs1.contains c=b) (w:World) :
  Calls prog 138 #[.string { data:=#[59,58,44,40,41,46,63,60,62,43,45,42,47,37,33] },.int .u8 (c.toNat:Int)] w fun e w'=>(∃ i:Int,e = .returned (.int .i64 i)/\decide (0<=i)=b)/\w=w':=by
 refine (aUo _ _ _).mono ?_
 rintro e w' ⟨rfl,rfl⟩;refine ⟨⟨_,rfl,?_⟩,rfl⟩
 have h:=bCq c signs1;rw [hb] at h;rw [<- h];have e:(Int.toNat (c.toNat:Int)).toUInt8=c:=by simp
 rw [e];rfl
def sgs:List (List UInt8):=[[46,46],[45,62],[58,61],[38,38],[124,124],[61,61],[33,61],[60,61],[62,61]]
def aRr (k:Nat):ByteArray:=ba (sgs.getD k [])
def bG4:Obj := .cells #[.string (aRr 0),.string (aRr 1),.string (aRr 2),.string (aRr 3),.string (aRr 4),.string (aRr 5),.string (aRr 6),.string (aRr 7),.string (aRr 8)] 9 (0,0)
theorem bOq (w:World) (k:Nat) (h:k<9):(w.alloc bG4).cell? ⟨w.heap.size,k,none⟩=some (.string (aRr k)):=by
 have hb:Blk (w.alloc bG4) w.heap.size #[.string (aRr 0),.string (aRr 1),.string (aRr 2),.string (aRr 3),.string (aRr 4),.string (aRr 5),.string (aRr 6),.string (aRr 7),.string (aRr 8)] 9:=heap_alloc_new w _;refine hb.cell k ?_
 match k,h with
 | 0,_=>rfl
 | 1,_=>rfl
 | 2,_=>rfl
 | 3,_=>rfl
 | 4,_=>rfl
 | 5,_=>rfl
 | 6,_=>rfl
 | 7,_=>rfl
 | 8,_=>rfl
 | k+9,h=>omega
theorem aMg (c d a b:UInt8) (r:List UInt8):Lib.hasPrefix (c :: d :: r) [a,b]=(c==a&&d==b):=by
 rw [<- Lib.hasPrefix_of_take];simp
theorem aUm (c a b:UInt8):Lib.hasPrefix [c] [a,b]=false:=by
 rw [<- Lib.hasPrefix_of_take];simp
theorem bOr (k:Nat) (h:k<9):∃ a b,sgs.getD k []=[a,b]/\(a,b)∈signs2:=by
 match k,h with
 | 0,_=>exact ⟨_,_,rfl,by decide⟩
 | 1,_=>exact ⟨_,_,rfl,by decide⟩
 | 2,_=>exact ⟨_,_,rfl,by decide⟩
 | 3,_=>exact ⟨_,_,rfl,by decide⟩
 | 4,_=>exact ⟨_,_,rfl,by decide⟩
 | 5,_=>exact ⟨_,_,rfl,by decide⟩
 | 6,_=>exact ⟨_,_,rfl,by decide⟩
 | 7,_=>exact ⟨_,_,rfl,by decide⟩
 | 8,_=>exact ⟨_,_,rfl,by decide⟩
 | k+9,h=>omega
theorem bJu:∀ x∈signs2,∃ k,k<9/\sgs.getD k []=[x.1,x.2]:=by decide
theorem bJt {l:List UInt8} {k:Nat} (hk:k<9) (h:Lib.hasPrefix l (sgs.getD k [])=true):aOn l=2:=by
 obtain ⟨a,b,e,hm⟩:=bOr k hk;rw [e] at h
 match l,h with
 | [],h=>rw [<- Lib.hasPrefix_of_take] at h;simp at h
 | [c],h=>rw [aUm] at h;cases h
 | c :: d :: r,h =>
  rw [aMg] at h;simp at h
  obtain ⟨rfl,rfl⟩:=h;show (if signs2.contains (c,d) then 2 else _)=2
  rw [if_pos (List.contains_iff_mem.2 hm)]
theorem bG5 {c:UInt8} {r:List UInt8} (h:∀ k,k<9->Lib.hasPrefix (c :: r) (sgs.getD k [])=false):aOn (c :: r)=if signs1.contains c then 1 else 0:=by
 match r,h with
 | [],_=>rfl
 | d :: r,h =>
  show (if signs2.contains (c,d) then 2 else if signs1.contains c then 1 else 0)=_
  rw [if_neg];intro hx
  obtain ⟨k,hk,e⟩:=bJu _ (List.contains_iff_mem.1 hx);have:=h k hk;rw [e,aMg] at this;simp at this
theorem bMv (s:ByteArray) (w:World) (h0:0<s.size) (hs:s.size<=1000000) :
  Calls prog 102 #[.string s] w fun e w'=>e = .returned (.int .i64 (aOn (aA4 s):Nat))/\Bel w w':=by
 go_enter func102,ntmps102;have H0:=aA0 (aCe s h0);go_wp2;have HW:Hid (Bel w (w.alloc bG4)):=(Bel.refl w).alloc _;have HC:=aA0 (fun k h=>bOq w k h);have HSZ:Hid (w.heap.size<(w.alloc bG4).heap.size):=by show _<_;simp
 show Code.wp _ _ _ _ (w.alloc bG4)
 generalize w.alloc bG4=w1 at *;generalize w.heap.size=B at *;have hb:=HSZ.out
 go_loopg [4,7] 9 (fun m _x z wr=>∃ j:Nat,j<=9/\m=9-j/\Hid (∀ k,k<j->Lib.hasPrefix (aA4 s) (sgs.getD k [])=false)/\z = .int .i64 j/\w1=wr)
 case atStart=>exact ⟨0,by omega,rfl,fun k h=>by omega,rfl,rfl⟩
 case round =>
  obtain ⟨j,hj,rfl,HK,rfl,rfl⟩:=hrel
  by_cases hlt:j<9
  .have hd0:decide (j<9)=true:=by simpa using hlt
   have hc:=HC.out j hlt;cases hp:Lib.hasPrefix (aA4 s) (sgs.getD j []) with
   | true =>
    have HG:=aA0 (bJt hlt hp)
    go_wp2_with (go_at_call 137;refine (aMf s (aRr j) _).mono ?_;rintro e w' ⟨rfl,rfl⟩;rw [show Lib.hasPrefix s.data.toList (aRr j).data.toList=true from hp])
    go_ret;exact ⟨aA9 (by rw [HG.out];rfl),HW.out⟩
   | false =>
    have HG:Hid (∀ k,k<j+1->Lib.hasPrefix (aA4 s) (sgs.getD k [])=false):=by
     intro k hk
     by_cases hkj:k=j
     .subst hkj;exact hp
     .exact HK.out k (by omega)
    go_wp2_with (go_at_call 137;refine (aMf s (aRr j) _).mono ?_;rintro e w' ⟨rfl,rfl⟩;rw [show Lib.hasPrefix s.data.toList (aRr j).data.toList=false from hp])
    go_roundg (9-(j+1))
    case rel=>exact ⟨j+1,by omega,rfl,HG,by go_num,rfl⟩
    case measure=>omega
  .have hd0:decide (j<9)=false:=by simpa using hlt
   have HM:Hid (aOn (aA4 s)=if signs1.contains s[0] then 1 else 0):=by
    have e:aA4 s=s[0] :: (aA4 s).drop 1:=by have:=H0.out;simpa using this
    have h:=HK.out;show _=_
    rw [e] at h ⊢;exact bG5 (fun k hk=>h k (by omega))
   cases hx:signs1.contains s[0] with
   | true =>
    rw [hx] at HM
    go_wp2_with (go_at_call 138;refine (aT1 s[0] true hx _).mono ?_;rintro e w' ⟨⟨i,rfl,hi⟩,rfl⟩)
    go_ret;exact ⟨aA9 (by rw [HM.out];rfl),HW.out⟩
   | false =>
    rw [hx] at HM
    go_wp2_with (go_at_call 138;refine (aT1 s[0] false hx _).mono ?_;rintro e w' ⟨⟨i,rfl,hi⟩,rfl⟩)
    go_ret;exact ⟨aA9 (by rw [HM.out];rfl),HW.out⟩
def bOv (t:Tok):Value := .agg #[.int .i64 (t.kind:Int),.int .i64 (t.at_:Int),.int .i64 (t.en:Int),.int .i64 (t.num:Int)]
theorem bAh (c:UInt8) (w:World):Calls prog 99 #[.int .u8 (c.toNat:Int)] w fun e w'=>e = .returned (.bool (aEe c))/\w=w':=by
 rw [aT0];exact aO0 c w
theorem aNn (c:UInt8) (w:World):Calls prog 100 #[.int .u8 (c.toNat:Int)] w fun e w'=>e = .returned (.bool (aEu c))/\w=w':=by
 rw [aX7];exact aX8 c w
theorem aLp (c:UInt8) (w:World):Calls prog 98 #[.int .u8 (c.toNat:Int)] w fun e w'=>e = .returned (.bool (aJs c))/\w=w':=by
 rw [aO1];exact aKs c w
theorem bD0 {T:ByteArray} {k:Nat} (h:k<T.size):aV5 (aA4 T) k =
  if aJs T[k] then (if aD6 aEe ((aA4 T).drop k) k-k<=24 then some ⟨1,k,aD6 aEe ((aA4 T).drop k) k,0⟩ else none)
  else if aEu T[k] then (match aRd (((aA4 T).drop k).take (aD6 aEu ((aA4 T).drop k) k-k)) with | some v=>some ⟨2,k,aD6 aEu ((aA4 T).drop k) k,v⟩ | none=>none)
  else if aOn ((aA4 T).drop k)=0 then none else some ⟨3,k,k+aOn ((aA4 T).drop k),0⟩:=by
 unfold aV5;rw [aCe T h]
 (try rfl)
theorem aI1 (w:World) (x y:Value) (a b:TypeId) (o:Obj):(((w.alloc (.cells #[x] a)).alloc (.cells #[y] b)).alloc o).cell? ⟨w.heap.size+1,0,none⟩=some y/\(((w.alloc (.cells #[x] a)).alloc (.cells #[y] b)).alloc o).cell? ⟨w.heap.size,0,none⟩=some x:=by
 have h1:Blk (w.alloc (.cells #[x] a)) w.heap.size #[x] a:=Blk.new w _ _
 have h2:Blk ((w.alloc (.cells #[x] a)).alloc (.cells #[y] b)) (w.heap.size+1) #[y] b:=by
  have:=Blk.new (w.alloc (.cells #[x] a)) #[y] b
  rwa [World.size_alloc] at this
 exact ⟨(h2.alloc o).cell 0 rfl,((h1.alloc _).alloc o).cell 0 rfl⟩
theorem aKd {w:World} {B:Nat} {a b c d:Value} {t:TypeId} (h:Blk w B #[a,b,c,d] t):w.cell? ⟨B,0,none⟩=some a/\w.cell? ⟨B,1,none⟩=some b/\w.cell? ⟨B,2,none⟩=some c/\w.cell? ⟨B,3,none⟩=some d:=⟨h.cell 0 rfl,h.cell 1 rfl,h.cell 2 rfl,h.cell 3 rfl⟩
theorem bBq (w:World) (x y:Value) (a b t:TypeId) (cs:Array Value):Blk (((w.alloc (.cells #[x] a)).alloc (.cells #[y] b)).alloc (.cells cs t)) (w.heap.size+1+1) cs t:=by
 have:=Blk.new ((w.alloc (.cells #[x] a)).alloc (.cells #[y] b)) cs t
 rwa [World.size_alloc,World.size_alloc] at this
theorem aZe (p:UInt8->Bool):∀ (l:List UInt8) (k:Nat),∀ c∈l.take (aD6 p l k-k),p c=true
 | [],k,c,h=>by simp at h
 | x :: l,k,c,h=>by
  unfold aD6 at h;split at h
  .rename_i hx
   have hge:=(aH7 p l (k+1)).1;rw [show aD6 p l (k+1)-k=(aD6 p l (k+1)-(k+1))+1 by omega,List.take_succ_cons] at h
   rcases List.mem_cons.1 h with rfl | h
   .exact hx
   .exact aZe p l (k+1) c h
  .simp at h
theorem aNf {p:UInt8->Bool} {c:UInt8} {l:List UInt8} {k:Nat} (h:p c=true):k+1<=aD6 p (c :: l) k:=by
 unfold aD6;rw [if_pos h];exact (aH7 p l (k+1)).1
theorem bM4 (T:ByteArray) (k:Nat) (t:Tok) (w:World) (hk:k<T.size) (hT:T.size<=1000000) (h:aV5 (aA4 T) k=some t) :
  Calls prog 53 #[.string T,.int .i64 (k:Int)] w fun e w'=>e = .returned (.tuple #[bOv t,.int .i64 0])/\Bel w w':=by
 rw [bD0 hk] at h;have hk2:k<=T.size:=by omega
 have hd0:decide (k<T.size)=true:=by simpa using hk
 cases h1:aJs T[k] with
 | true =>
  rw [h1,if_pos rfl] at h;have hw:=aH7 aEe ((aA4 T).drop k) k;have hw2:=aNf (k:=k) (l:=(aA4 T).drop (k+1)) (p:=aEe) (c:=T[k]) (by unfold aEe;rw [h1];rfl)
  rw [<- aCe T hk] at hw2;rw [List.length_drop,aAx] at hw;obtain ⟨e,he⟩:∃ e,aD6 aEe ((aA4 T).drop k) k=e:=⟨_,rfl⟩;rw [he] at h hw hw2;have HE:=aA0 he;clear he;split at h
  .rename_i hle
   injection h with h
   subst h;have e1:IntKind.i64.wrap ((e:Int)-(k:Int))=(e:Int)-(k:Int):=IntWalk.i64_in _ (by omega)
   have d1:decide ((24:Int)<(e:Int)-(k:Int))=false:=by simp;omega
   go_enter func53,ntmps53
   go_wp2_with (first
    | (go_at_call 98;refine (aLp T[k] _).mono ?_;rintro e w' ⟨rfl,rfl⟩;rw [h1])
    | (refine (aZf 99 aEe bAh (fun _ _=>by kernel_rfl) T k _ _ _ hk2 hT (aI1 w _ _ _ _ _).1 (aI1 w _ _ _ _ _).2).mono ?_;rintro e w' ⟨rfl,rfl⟩;rw [HE.out]))
   obtain ⟨y0,y1,y2,y3⟩:=aKd (bBq w (.string T) (.int .i64 k) 9 3 119 #[.int .i64 1,.int .i64 k,.int .i64 e,.int .i64 0]);refine bodyPost_ret (v := .tuple #[bOv ⟨1,k,e,0⟩,.int .i64 0]) (by simp [results,Tryz.results53,go_sem,y0,y1,y2,y3,bOv];try go_simp) rfl ⟨rfl,(((Bel.refl w).alloc _).alloc _).alloc _⟩
  .cases h
 | false =>
  rw [h1,if_neg (by simp)] at h
  cases h2:aEu T[k] with
  | true =>
   rw [h2,if_pos rfl] at h;have hw:=aH7 aEu ((aA4 T).drop k) k;have hw2:=aNf (k:=k) (l:=(aA4 T).drop (k+1)) (p:=aEu) (c:=T[k]) h2;rw [<- aCe T hk] at hw2;rw [List.length_drop,aAx] at hw;have hall:=aZe aEu ((aA4 T).drop k) k;obtain ⟨e,he⟩:∃ e,aD6 aEu ((aA4 T).drop k) k=e:=⟨_,rfl⟩;rw [he] at h hw hw2 hall;have HE:=aA0 he;clear he;obtain ⟨hw0,hw1⟩:=hw;have hke:k<=e:=hw0;have heT:e<=T.size:=by omega
   have hD:aA4 (T.extract k e)=((aA4 T).drop k).take (e-k):=Lib.extract_data T k e;have hDs:(T.extract k e).size=e-k:=by rw [<- aAx,hD,List.length_take,List.length_drop,aAx];omega
   rw [<- hD] at h hall;cases hv:aRd (aA4 (T.extract k e)) with
   | none=>rw [hv] at h;cases h
   | some v =>
    rw [hv] at h;injection h with h
    subst h;have HN:=aA0 (fun w=>bFf (T.extract k e) v w (by omega) (by omega) hall hv)
    clear hv hall hD hDs hw2 hw1;have d1:decide (k<=e)=true:=by simpa using hke
    have d2:decide (e<=T.size)=true:=by simpa using heT
    go_enter func53,ntmps53
    go_wp2_with (first
     | (go_at_call 98;refine (aLp T[k] _).mono ?_;rintro e w' ⟨rfl,rfl⟩;rw [h1])
     | (go_at_call 100;refine (aNn T[k] _).mono ?_;rintro e w' ⟨rfl,rfl⟩;rw [h2])
     | (go_at_call 101;refine (HN.out _).mono ?_;rintro e w' ⟨rfl,rfl⟩)
     | (refine (aZf 100 aEu aNn (fun _ _=>by kernel_rfl) T k _ _ _ hk2 hT (aI1 w _ _ _ _ _).1 (aI1 w _ _ _ _ _).2).mono ?_;rintro e w' ⟨rfl,rfl⟩;rw [HE.out]))
    obtain ⟨y0,y1,y2,y3⟩:=aKd (bBq w (.string T) (.int .i64 k) 9 3 119 #[.int .i64 2,.int .i64 k,.int .i64 e,.int .i64 v]);refine bodyPost_ret (v := .tuple #[bOv ⟨2,k,e,v⟩,.int .i64 0]) (by simp [results,Tryz.results53,go_sem,y0,y1,y2,y3,bOv];try go_simp) rfl ⟨rfl,(((Bel.refl w).alloc _).alloc _).alloc _⟩
  | false =>
   rw [h2,if_neg (by simp)] at h
   have hD:aA4 (T.extract k T.size)=(aA4 T).drop k:=by
    rw [show aA4 (T.extract k T.size)=((aA4 T).drop k).take (T.size-k) from Lib.extract_data T k T.size,List.take_of_length_le]
    rw [List.length_drop,aAx];omega
   have hDs:(T.extract k T.size).size=T.size-k:=by rw [<- aAx,hD,List.length_drop,aAx]
   obtain ⟨n,hn⟩:∃ n,aOn ((aA4 T).drop k)=n:=⟨_,rfl⟩
   have hn2:n<=2:=by
    rw [<- hn,aCe T hk];cases (aA4 T).drop (k+1) <;> (unfold aOn;repeat' split) <;> omega
   rw [hn] at h
   by_cases hn0:n=0
   .rw [if_pos hn0] at h;cases h
   .rw [if_neg hn0] at h
    injection h with h
    subst h;have HSG:=aA0 (fun w=>bMv (T.extract k T.size) w (by omega) (by omega))
    rw [hD,hn] at HSG;have d1:((n:Int)==0)=false:=by simp;omega
    have d2:IntKind.i64.wrap ((k:Int)+(n:Int))=((k+n:Nat):Int):=by rw [IntWalk.i64_in _ (by omega)];omega
    clear hn hD hDs;have HB0:=(((Bel.refl w).alloc (.cells #[.string T] 9)).alloc (.cells #[.int .i64 k] 3)).alloc (.cells #[.int .i64 0,.int .i64 0,.int .i64 0,.int .i64 0] 119);have HZ:=bBq w (.string T) (.int .i64 k) 9 3 119 #[.int .i64 0,.int .i64 0,.int .i64 0,.int .i64 0];have HC:=aA0 (aI1 w (.string T) (.int .i64 k) 9 3 (.cells #[.int .i64 0,.int .i64 0,.int .i64 0,.int .i64 0] 119));go_enter func53,ntmps53
    go_wp2_with (first
     | (go_at_call 98;refine (aLp T[k] _).mono ?_;rintro e w' ⟨rfl,rfl⟩;rw [h1])
     | (go_at_call 100;refine (aNn T[k] _).mono ?_;rintro e w' ⟨rfl,rfl⟩;rw [h2])
     | (go_at_call 102;refine (HSG.out _).mono ?_;rintro e w' ⟨rfl,hb⟩;have c1:=(hb.cell (b:=w.heap.size+1) (o:=0) (by simp <;> omega)).trans HC.out.1;have c2:=(hb.cell (b:=w.heap.size) (o:=0) (by simp <;> omega)).trans HC.out.2;have HZ':=HZ.keep hb;have f0:=HZ'.frozen 0;have f1:=HZ'.frozen 1;have f2:=HZ'.frozen 2;have f3:=HZ'.frozen 3;obtain ⟨q0,q1,q2,q3⟩:=aKd HZ';have hlt:=HZ'.lt;have HB1:=HB0.trans hb;have HZ2:=aA0 HZ';clear hb HZ'))
    have hZ:=(((HZ2.out.set 0 (.int .i64 3)).set 1 (.int .i64 k)).set 2 (.int .i64 ((k+n:Nat):Int))).set 3 (.int .i64 0);obtain ⟨y0,y1,y2,y3⟩:=aKd (show Blk _ _ #[.int .i64 3,.int .i64 k,.int .i64 ((k+n:Nat):Int),.int .i64 0] _ from hZ)
    refine bodyPost_ret (v := .tuple #[bOv ⟨3,k,k+n,0⟩,.int .i64 0]) (by simp [results,Tryz.results53,go_sem,y0,y1,y2,y3,bOv];try go_simp) rfl ⟨rfl,(((HB1.setCell (by simp <;> omega) _).setCell (by simp <;> omega) _).setCell (by simp <;> omega) _).setCell (by simp <;> omega) _⟩
def toK (x:Nat × Int):Nat:=x.2.toNat
def aA8 (s:List (List (Nat × Int))) (k:Nat):List (Nat × Int):=s.getD k []
def aPf (L:List Nat) (l:List (Nat × Int)):Nat:=l.countP fun x=>decide (toK x∈L)
def aF9 (s:List (List (Nat × Int))) (n t:Nat):List Nat:=(List.range n).flatMap fun k=>((aA8 s k).filter fun x=>toK x==t).map fun _=>k
theorem aKw (s:List (List (Nat × Int))) (t k:Nat):∀ n,(aF9 s n t).count k=if k<n then (aA8 s k).countP (fun x=>toK x==t) else 0
 | 0=>by simp [aF9]
 | n+1=>by
  have ih:=aKw s t k n;unfold aF9 at *;rw [List.range_succ,List.flatMap_append,List.count_append,ih];simp only [List.flatMap_cons,List.flatMap_nil,List.append_nil]
  rw [show (List.map (fun _=>n) ((aA8 s n).filter fun x=>toK x==t))=List.replicate ((aA8 s n).countP (fun x=>toK x==t)) n by rw [List.map_const',List.countP_eq_length_filter],List.count_replicate]
  by_cases h:k=n
  .subst h;simp
  .have:(n==k)=false:=by simp;omega
   rw [this]
   by_cases h2:k<n
   .simp [h2,show k<n+1 by omega]
   .simp [h2,show ¬ k<n+1 by omega]
theorem bJy {s:List (List (Nat × Int))} {n t k:Nat} (h:k∈aF9 s n t):k<n:=by
 unfold aF9 at h;rw [List.mem_flatMap] at h;obtain ⟨j,hj,hk⟩:=h;rw [List.mem_range] at hj;obtain ⟨_,_,rfl⟩:=List.mem_map.1 hk;exact hj
theorem aPp (L:List Nat) (l:List (Nat × Int)):aPf L l<=l.length:=List.countP_le_length
theorem bHh (l:List (Nat × Int)):aPf [] l=0:=by unfold aPf;simp
theorem aSu {L:List Nat} {x:Nat} (hx:x ∉ L) (l:List (Nat × Int)):aPf (L++[x]) l=aPf L l+l.countP (fun a=>toK a==x):=by
 unfold aPf
 induction l with
 | nil=>rfl
 | cons a l ih =>
  rw [List.countP_cons,List.countP_cons,List.countP_cons,ih]
  have e1:decide (toK a∈L++[x])=(decide (toK a∈L)||(toK a==x)):=by
   rw [Bool.eq_iff_iff];simp
  rw [e1]
  by_cases h:toK a=x
  .rw [h];simp [hx];omega
  .simp [h];omega
theorem bEa {L:List Nat} {l:List (Nat × Int)} (h:l.length<=aPf L l):∀ a∈l,toK a∈L:=by
 have:=List.countP_eq_length.1 (Nat.le_antisymm (aPp L l) h);intro a ha
 simpa using this a ha
theorem aS0:∀ {l1 l2:List Nat},l1.Nodup->(∀ x∈l1,x∈l2)->l1.length<=l2.length
 | [],_,_,_=>by simp
 | x :: l1,l2,hn,h=>by
  rw [List.nodup_cons] at hn;have hx:x∈l2:=h x (by simp)
  have h1:=aS0 (l2:=l2.erase x) hn.2 (fun y hy=>by
   have hne:y≠x:=fun e=>hn.1 (e ▸ hy)
   exact (List.mem_erase_of_ne hne).2 (h y (by simp [hy])))
  rw [List.length_erase_of_mem hx] at h1;have:=List.length_pos_of_mem hx;simp;omega
theorem aRb {n:Nat} {l:List Nat} (hn:l.Nodup) (h:∀ x∈l,x<n):l.length<=n:=by
 have:=aS0 (l2:=List.range n) hn (fun x hx=>by simpa using h x hx)
 simpa using this
structure OrdJ (s:List (List (Nat × Int))) (set:List Bool) (n i m:Nat) (o e:List Nat):Prop where
 le:i<=o.length
 nd:o.Nodup
 lt:∀ k∈o,k<n
 el:e.length=n
 m0:m=0∨i<o.length
 ml:m<=(aF9 s n (o.getD i 0)).length
 ec:∀ k,k<n->e.getD k 0=aPf (o.take i) (aA8 s k)+((aF9 s n (o.getD i 0)).take m).count k
 hs:∀ k,k<n->set.getD k false=true->k∈o
 hn:∀ k,k<n->set.getD k false=false->(k∈o↔0<(aA8 s k).length/\e.getD k 0=(aA8 s k).length)
 tp:∀ j (hj:j<o.length),set.getD o[j] false=false->∀ a∈aA8 s o[j],toK a∈o.take j
structure OrdP (s:List (List (Nat × Int))) (set:List Bool) (n:Nat) (o:List Nat):Prop where
 nd:o.Nodup
 lt:∀ k∈o,k<n
 hs:∀ k,k<n->set.getD k false=true->k∈o
 tp:∀ j (hj:j<o.length),set.getD o[j] false=false->∀ a∈aA8 s o[j],toK a∈o.take j
 mx:∀ k,k<n->k ∉ o->set.getD k false=false/\((aA8 s k).length=0∨∃ a∈aA8 s k,toK a ∉ o)
theorem OrdJ.len {s:List (List (Nat × Int))} {set:List Bool} {n i m:Nat} {o e:List Nat} (h:OrdJ s set n i m o e):o.length<=n:=aRb h.nd h.lt
theorem OrdP.len {s:List (List (Nat × Int))} {set:List Bool} {n:Nat} {o:List Nat} (h:OrdP s set n o):o.length<=n:=aRb h.nd h.lt
theorem OrdJ.step {s:List (List (Nat × Int))} {set:List Bool} {n i m:Nat} {o e:List Nat} (h:OrdJ s set n i m o e) (hi:i<o.length) (hm:m<(aF9 s n (o.getD i 0)).length)
  {k:Nat} (hk:(aF9 s n (o.getD i 0))[m]=k) {o':List Nat} (ho:o'=if set.getD k false=false/\e.getD k 0+1=(aA8 s k).length then o++[k] else o) :
  OrdJ s set n i (m+1) o' (e.set k (e.getD k 0+1)):=by
 have hkn:k<n:=by rw [<- hk];exact bJy (List.getElem_mem hm)
 have hx:o.getD i 0=o[i]:=by simp [List.getD_eq_getElem?_getD,hi]
 have hxn:o[i] ∉ o.take i:=by
  intro hmem
  obtain ⟨j,hj,hje⟩:=List.mem_take_iff_getElem.1 hmem;have:=(List.pairwise_iff_getElem.1 (List.nodup_iff_pairwise_ne.1 h.nd)) j i (by omega) hi (by omega)
  exact this hje
 have htk:o.take (i+1)=o.take i++[o[i]]:=List.take_succ_eq_append_getElem hi
 have hcnt:∀ q,((aF9 s n (o.getD i 0)).take (m+1)).count q=((aF9 s n (o.getD i 0)).take m).count q+(if k=q then 1 else 0):=by
  intro q
  rw [List.take_succ_eq_append_getElem hm,List.count_append,hk];simp [List.count_cons]
 have hle:∀ q,q<n->((aF9 s n (o.getD i 0)).take (m+1)).count q<=(aA8 s q).countP (fun a=>toK a==o[i]):=by
  intro q hq
  have h1:((aF9 s n (o.getD i 0)).take (m+1)).count q<=(aF9 s n (o.getD i 0)).count q:=List.Sublist.count_le _ (List.take_sublist _ _);rw [aKw,if_pos hq,hx] at h1;rw [hx] at *;exact h1
 have hek:e.getD k 0+1<=aPf (o.take (i+1)) (aA8 s k):=by
  rw [htk,aSu hxn];have h1:=h.ec k hkn;have h2:=hle k hkn;have h3:=hcnt k;rw [if_pos rfl] at h3;omega
 have hek2:e.getD k 0+1<=(aA8 s k).length:=Nat.le_trans hek (aPp _ _)
 have hset:∀ q,q<n->(e.set k (e.getD k 0+1)).getD q 0=if q=k then e.getD k 0+1 else e.getD q 0:=by
  intro q hq
  have he:=h.el;simp only [List.getD_eq_getElem?_getD,List.getElem?_set]
  by_cases h1:k=q
  .subst h1;simp [he,hkn]
  .rw [if_neg h1,if_neg (by omega)]
 have hnot:set.getD k false=false->k ∉ o:=by
  intro hs hmem
  have:=(h.hn k hkn hs).1 hmem;omega
 have hsub:o'.take i=o.take i/\o'.getD i 0=o.getD i 0/\o.length<=o'.length:=by
  rw [ho];split
  .refine ⟨List.take_append_of_le_length (by omega),?_,by simp⟩
   simp [List.getD_eq_getElem?_getD,List.getElem?_append_left hi]
  .exact ⟨rfl,rfl,Nat.le_refl _⟩
 obtain ⟨hs1,hs2,hs3⟩:=hsub;refine ⟨by have:=h.le;omega,?_,?_,by simp [h.el],.inr (by omega),by rw [hs2];exact hm,?_,?_,?_,?_⟩
 .rw [ho];split
  .rename_i hc
   rw [List.nodup_append];refine ⟨h.nd,by simp,?_⟩
   intro a ha b hb
   simp at hb;subst hb
   rintro rfl;exact hnot hc.1 ha
  .exact h.nd
 .intro q hq
  rw [ho] at hq;split at hq
  .rcases List.mem_append.1 hq with hq | hq
   .exact h.lt q hq
   .simp at hq;subst hq;exact hkn
  .exact h.lt q hq
 .intro q hq
  rw [hs1,hs2,hset q hq,hcnt q];have:=h.ec q hq
  by_cases h1:q=k
  .subst h1;rw [if_pos rfl,if_pos rfl];omega
  .rw [if_neg h1,if_neg (fun e=>h1 e.symm)];omega
 .intro q hq hs
  have:=h.hs q hq hs;rw [ho];split
  .exact List.mem_append_left _ this
  .exact this
 .intro q hq hs
  rw [hset q hq]
  by_cases h1:q=k
  .subst h1
   rw [if_pos rfl,ho]
   by_cases hc:e.getD q 0+1=(aA8 s q).length
   .rw [if_pos ⟨hs,hc⟩]
    exact ⟨fun _=>⟨by omega,hc⟩,fun _=>by simp⟩
   .rw [if_neg (fun hh=>hc hh.2)]
    constructor
    .intro hm;exact absurd hm (hnot hs)
    .intro hh;exact absurd hh.2 hc
  .rw [if_neg h1,<- h.hn q hq hs,ho]
   split
   .simp [h1]
   .exact Iff.rfl
 .intro j hj hs a ha
  by_cases hjo:j<o.length
  .have e1:o'[j]=o[j]:=by
    simp only [ho];split
    .exact List.getElem_append_left hjo
    .rfl
   have e2:o'.take j=o.take j:=by
    rw [ho];split
    .exact List.take_append_of_le_length (by omega)
    .rfl
   rw [e1] at hs ha;rw [e2];exact h.tp j hjo hs a ha
  .by_cases hc:set.getD k false=false/\e.getD k 0+1=(aA8 s k).length
   .rw [if_pos hc] at ho
    subst ho;have hj':j=o.length:=by simp at hj;omega
    subst hj';simp at ha hs
    rw [List.take_append_of_le_length (Nat.le_refl _),List.take_length];have:=bEa (L:=o.take (i+1)) (l:=aA8 s k) (by omega) a ha
    exact List.mem_of_mem_take this
   .rw [if_neg hc] at ho
    subst ho;exact absurd hj hjo
theorem OrdJ.next {s:List (List (Nat × Int))} {set:List Bool} {n i m:Nat} {o e:List Nat} (h:OrdJ s set n i m o e) (hi:i<o.length) (hm:m=(aF9 s n (o.getD i 0)).length):OrdJ s set n (i+1) 0 o e:=by
 have hx:o.getD i 0=o[i]:=by simp [List.getD_eq_getElem?_getD,hi]
 have hxn:o[i] ∉ o.take i:=by
  intro hmem
  obtain ⟨j,hj,hje⟩:=List.mem_take_iff_getElem.1 hmem;have:=(List.pairwise_iff_getElem.1 (List.nodup_iff_pairwise_ne.1 h.nd)) j i (by omega) hi (by omega)
  exact this hje
 refine ⟨hi,h.nd,h.lt,h.el,.inl rfl,Nat.zero_le _,?_,h.hs,h.hn,h.tp⟩
 intro k hk
 rw [List.take_succ_eq_append_getElem hi,aSu hxn,h.ec k hk,hm,List.take_length,aKw,if_pos hk,hx];simp
theorem OrdJ.fin {s:List (List (Nat × Int))} {set:List Bool} {n i m:Nat} {o e:List Nat} (h:OrdJ s set n i m o e) (hi:i=o.length):OrdP s set n o:=by
 subst hi;refine ⟨h.nd,h.lt,h.hs,h.tp,fun k hk hko=>?_⟩
 have hs:set.getD k false=false:=by
  cases hc:set.getD k false with
  | false=>rfl
  | true=>exact absurd (h.hs k hk hc) hko
 refine ⟨hs,?_⟩
 by_cases h0:(aA8 s k).length=0
 .exact .inl h0
 .right
  have he:=h.ec k hk;have hm0:m=0:=by rcases h.m0 with h1 | h1 <;> omega
  subst hm0;rw [List.take_zero,List.take_length] at he;simp at he
  have hlt:aPf o (aA8 s k)<(aA8 s k).length:=by
   have h1:=aPp o (aA8 s k);have h2:¬ (0<(aA8 s k).length/\e.getD k 0=(aA8 s k).length):=fun hh=>hko ((h.hn k hk hs).2 hh);have:e.getD k 0=aPf o (aA8 s k):=by simpa [List.getD_eq_getElem?_getD] using he
   omega
  by_cases hall:∀ a∈aA8 s k,toK a∈o
  .have:aPf o (aA8 s k)=(aA8 s k).length:=List.countP_eq_length.2 (fun a ha=>by simpa using hall a ha)
   omega
  .simpa using hall
theorem OrdJ.start (s:List (List (Nat × Int))) (set:List Bool) (n:Nat):OrdJ s set n 0 0 ((List.range n).filter fun k=>set.getD k false) (List.replicate n 0):=by
 refine ⟨Nat.zero_le _,List.nodup_range.filter _,?_,by simp,.inl rfl,Nat.zero_le _,?_,?_,?_,?_⟩
 .intro k hk
  have:=(List.mem_filter.1 hk).1;simpa using this
 .intro k hk
  simp [bHh,List.getD_eq_getElem?_getD,hk]
 .intro k hk hs
  rw [List.mem_filter];exact ⟨by simpa using hk,hs⟩
 .intro k hk hs
  constructor
  .intro hm
   have:=(List.mem_filter.1 hm).2;rw [hs] at this;cases this
  .rintro ⟨h1,h2⟩
   have:(List.replicate n 0).getD k 0=0:=by simp [List.getD_eq_getElem?_getD,hk]
   omega
 .intro j hj hs
  have:=(List.mem_filter.1 (List.getElem_mem hj)).2;rw [hs] at this;cases this
theorem OrdP.all {s:List (List (Nat × Int))} {set:List Bool} {n:Nat} {o:List Nat} (h:OrdP s set n o) (f:Nat->Int) (h0:∀ k,k<n->0<=f k) (hp:∀ k,k<n->set.getD k false=false->0<(aA8 s k).length)
  (hd:∀ k,k<n->set.getD k false=false->∀ a∈aA8 s k,toK a<n/\f (toK a)<f k):∀ k,k<n->k∈o:=by
 have key:∀ (m:Nat) (k:Nat),k<n->f k<m->k∈o:=by
  intro m
  induction m with
  | zero=>intro k hk hf;have:=h0 k hk;omega
  | succ m ih =>
   intro k hk hf
   by_cases hko:k∈o
   .exact hko
   .obtain ⟨hs,hc⟩:=h.mx k hk hko
    rcases hc with hc | ⟨a,ha,hn⟩
    .have:=hp k hk hs;omega
    .obtain ⟨h1,h2⟩:=hd k hk hs a ha
     exact absurd (ih (toK a) h1 (by omega)) hn
 intro k hk
 have:=h0 k hk;exact key ((f k).toNat+1) k hk (by omega)
theorem bLl {n:Nat} {o:List Nat} (h:∀ k,k<n->k∈o):n<=o.length:=by
 have:=aS0 (l1:=List.range n) List.nodup_range (fun x hx=>h x (by simpa using hx))
 simpa using this
theorem OrdP.none {s:List (List (Nat × Int))} {set:List Bool} {n:Nat} {o:List Nat} (h:OrdP s set n o) (X:Nat->Prop) (hX:∀ k,X k->set.getD k false=false/\∃ a∈aA8 s k,X (toK a)):∀ k,X k->k ∉ o:=by
 have key:∀ j (hj:j<o.length),¬ X o[j]:=by
  intro j
  induction j using Nat.strongRecOn with
  | _ j ih =>
   intro hj hx
   obtain ⟨hs,a,ha,hxa⟩:=hX _ hx;obtain ⟨i,hi,he⟩:=List.mem_take_iff_getElem.1 (h.tp j hj hs a ha);exact ih i (by omega) (by omega) (by rw [he];exact hxa)
 intro k hx hko
 obtain ⟨j,hj,rfl⟩:=List.getElem_of_mem hko;exact key j hj hx
abbrev Pr:=Nat × Nat
structure QuP (set:List Bool) (n:Nat) (G:Nat->Nat->Prop) (Q:List Pr):Prop where
 nd:Q.Nodup
 lt:∀ x∈Q,x.1<n/\x.2<16/\set.getD x.1 false=false/\G x.1 x.2
theorem QuP.nil (set:List Bool) (n:Nat) (G:Nat->Nat->Prop):QuP set n G []:=⟨List.nodup_nil,fun x h=>by cases h⟩
theorem QuP.len {set:List Bool} {n:Nat} {G:Nat->Nat->Prop} {Q:List Pr} (h:QuP set n G Q):Q.length<=16*n:=by
 have h1:(Q.map fun x=>16*x.1+x.2).Nodup:=by
  rw [List.nodup_iff_pairwise_ne,List.pairwise_map];refine List.Pairwise.imp_of_mem ?_ (List.nodup_iff_pairwise_ne.1 h.nd)
  intro a b ha hb hne he
  obtain ⟨_,a2,_⟩:=h.lt a ha;obtain ⟨_,b2,_⟩:=h.lt b hb;refine hne (Prod.ext ?_ ?_) <;> omega
 have:=aRb (n:=16*n) h1 (fun x hx=>by
  obtain ⟨a,ha,rfl⟩:=List.mem_map.1 hx;obtain ⟨a1,a2,_⟩:=h.lt a ha
  omega)
 simpa using this
theorem QuP.push {set:List Bool} {n:Nat} {G:Nat->Nat->Prop} {Q:List Pr} (h:QuP set n G Q) {x:Pr} (hx:x ∉ Q) (h1:x.1<n) (h2:x.2<16) (h3:set.getD x.1 false=false) (h4:G x.1 x.2):QuP set n G (Q++[x]):=by
 refine ⟨?_,fun y hy=>?_⟩
 .rw [List.nodup_append]
  refine ⟨h.nd,by simp,?_⟩
  intro a ha b hb
  simp at hb;subst hb
  rintro rfl;exact hx ha
 .rcases List.mem_append.1 hy with hy | hy
  .exact h.lt y hy
  .simp at hy;subst hy;exact ⟨h1,h2,h3,h4⟩
def aJa (Q:List Pr) (i k:Nat):List Nat:=((Q.take i).filter fun x=>x.1==k).map (·.2)
theorem bFo (Q:List Pr) (k:Nat):aJa Q 0 k=[]:=by simp [aJa]
theorem aT9 {Q:List Pr} {i:Nat} (hi:i<Q.length) (k:Nat):aJa Q (i+1) k=if Q[i].1=k then aJa Q i k++[Q[i].2] else aJa Q i k:=by
 unfold aJa;rw [List.take_succ_eq_append_getElem hi,List.filter_append,List.map_append]
 by_cases h:Q[i].1=k
 .rw [if_pos h];simp [h]
 .rw [if_neg h];simp [h]
theorem aYu (Q:List Pr) (i k:Nat):(aJa Q i k).length<=i:=by
 unfold aJa;rw [List.length_map];exact Nat.le_trans (List.length_filter_le _ _) (by rw [List.length_take];omega)
theorem QuP.pend {set:List Bool} {n:Nat} {G:Nat->Nat->Prop} {Q:List Pr} (h:QuP set n G Q) {i k S:Nat} (hS:S∈aJa Q i k):k<n/\S<16/\set.getD k false=false/\G k S:=by
 unfold aJa at hS;obtain ⟨x,hx,rfl⟩:=List.mem_map.1 hS;obtain ⟨h1,h2⟩:=List.mem_filter.1 hx;have h3:=h.lt x (List.mem_of_mem_take h1);have:x.1=k:=by simpa using h2
 subst this;exact h3
def aEs (S T E:Nat):Nat:=if aBq S T&&&E=0 then E else aBq S T&&&E
def aSc (S T E:Nat):Bool:=decide (aBq S T&&&E=0)
theorem aWh {S T E:Nat} (hE:E<16):aEs S T E<16:=by
 unfold aEs;split
 .exact hE
 .exact Nat.lt_of_le_of_lt Nat.and_le_right hE
structure RndP (A:List (List (Nat × Int))) (E:List Nat) (set:List Bool) (n:Nat) (G:Nat->Nat->Prop) (f:Nat->Nat->Int):Prop where
 start:∀ k,k<n->set.getD k false=false->G k (E.getD k 0)
 go:∀ k S,k<n->S<16->set.getD k false=false->G k S->∀ a∈aA8 A k,set.getD (toK a) false=false->G (toK a) (aEs S a.1 (E.getD (toK a) 0)) /\
  (if aSc S a.1 (E.getD (toK a) 0) then 1+f (toK a) (aEs S a.1 (E.getD (toK a) 0))<=f k S else f (toK a) (aEs S a.1 (E.getD (toK a) 0))<=f k S)
 pos:∀ k S,k<n->S<16->set.getD k false=false->G k S->1<=f k S/\f k S<=1000
structure CostP (A:List (List (Nat × Int))) (set:List Bool) (n:Nat) (cost:Nat × Int->Int) (f:Nat->Int):Prop where
 go:∀ k,k<n->set.getD k false=false->∀ a∈aA8 A k,0<=cost a/\cost a+f (toK a)<=f k
 pos:∀ k,k<n->0<=f k/\f k<=1000
section
variable {P:Program} {ops:Array Oper} {Q:Exit->Act->World->Prop} {md:Region.Mode} {S:World->Prop} {Ls:List Nat}
def aFc (P:Program) (md:Region.Mode) (ops:Array Oper) (Q:Exit->Act->World->Prop) (S:World->Prop) (Ls:List Nat):Nat->Array Bool->Act->World->Prop
 | 0,listed,a,w=>Region.ready md ops listed=[]/\Q .normal a w
 | fuel+1,listed,a,w=>(Region.ready md ops listed=[]->Q .normal a w) /\
   ∀ i∈Region.ready md ops listed,wpOp P ops Q i (fun a' w'=>(i ∉ Ls->S w')/\aFc P md ops Q S Ls fuel (listed.setIfInBounds i true) a' w') a w
theorem aFc.any:∀ (fuel:Nat) (listed:Array Bool) (a:Act) (w:World),aFc P md ops Q S Ls fuel listed a w->wpAny P md ops Q fuel listed a w
 | 0,_,_,_,h=>h
 | fuel+1,_,_,_,h=>⟨h.1,fun i hi=>wpOp_mono (fun a' w' k=>aFc.any fuel _ a' w' k.2) (h.2 i hi)⟩
theorem aFc.first {i:Nat} {oi:Oper} {v:Value} (cs:List Nat) (hi:ops[i]?=some oi) (hsel:∀ (j:Nat) (o:Oper) cs b,ops[j]?=some o->o.op ≠ .select cs b)
  (hL:∀ l∈Ls,l∈cs) (hw:aS5 md ops i cs=true)
  (hQ:∀ c a w,Q (.panic c) (a.put oi.dst v) w->Q (.panic c) a w) (fuel:Nat):∀ (listed:Array Bool) (a:Act) (w:World),
   (∀ j oj,ops[j]?=some oj->j≠i->listed.getD j true=false->(∀ e∈oj.after,Region.binds md e=true->e.on≠i)->oi.apart ops oj=true) ->
   i∈Region.ready md ops listed->aFx listed cs=true->YieldsIf P ops S oi v a->S w ->
   aFc P md ops Q S Ls fuel (listed.setIfInBounds i true) (a.put oi.dst v) w->aFc P md ops Q S Ls (fuel+1) listed a w:=by
 induction fuel with
 | zero =>
  intro listed a w _ hr _ hy hS H
  refine And.intro (fun h=>?_) (fun j hj=>?_)
  .rw [h] at hr;exact absurd hr (by simp)
  by_cases hji:j=i
  .subst hji;exact hy.wpOp hi hS ⟨fun _=>hS,H⟩
  .have:=ready_mono hj hji
   rw [H.1] at this;exact absurd this (by simp)
 | succ fuel ih =>
  intro listed a w hfree hr hun hy hS H
  refine And.intro (fun h=>?_) (fun j hj=>?_)
  .rw [h] at hr;exact absurd hr (by simp)
  by_cases hji:j=i
  .subst hji;exact hy.wpOp hi hS ⟨fun _=>hS,H⟩
  have hi0:=(mem_ready.1 hr).1;have hjc:=aYl hj cs i hi0 hw hun;have hjL:j ∉ Ls:=fun e=>hjc (hL j e);obtain ⟨hjun,oj,hoj,hall⟩:=mem_ready.1 hj
  have hnot:∀ e∈oj.after,Region.binds md e=true->e.on≠i:=fun e he hb heq=>by
   have h1:=hall e he hb;rw [heq] at h1
   rcases Nat.lt_or_ge i listed.size with h' | h'
   .simp [h'] at hi0 h1;rw [hi0] at h1;cases h1
   .simp [Array.getElem?_eq_none h'] at h1
  have h2:=wpOp_putIf hoj (hfree j oj hoj hji hjun hnot) (fun cs b=>hsel i oi cs b hi) (fun cs b=>hsel j oj cs b hoj) hQ hy (H.2 j (ready_mono hj hji));refine wpOp_mono (fun a' w' h3=>?_) h2
  obtain ⟨hy',hS',hrest⟩:=h3;have hs':=hS' hjL;refine ⟨fun _=>hs',ih _ a' w' ?_ (ready_mono hr (Ne.symm hji)) ?_ hy' hs' (by rw [Array.setIfInBounds_comm _ _ hji];exact hrest)⟩
  .intro k ok hk hki hunk hno
   refine hfree k ok hk hki ?_ hno
   by_cases hjk:j=k
   .subst hjk;exact hjun
   .rw [getD_set_ne true hjk] at hunk;exact hunk
  .unfold aFx at hun ⊢
   rw [List.all_eq_true] at hun ⊢;intro c hc
   rw [getD_set_ne true (show j≠c from fun e=>hjc (by rw [e];exact hc))]
   exact hun c hc
theorem aFc.t {L:Nat} {oi:Oper} {v:Value} {fuel:Nat} {listed:Array Bool} {a:Act} {w:World} (i d:Nat) (hi:ops[i]?=some oi) (hd:oi.dst=some d)
  (hc:(Region.noSelect ops&&Region.free md ops listed i&&(Region.ready md ops listed).contains i&&((L :: Ls).all (aJ1 md ops L 60 i).contains&&aS5 md ops i (aJ1 md ops L 60 i)&&aFx listed (aJ1 md ops L 60 i)))=true)
  (hQ:∀ c a w,Q (.panic c) (a.put (some d) v) w->Q (.panic c) a w) (hS:S w) (hy:YieldsIf P ops S oi v a)
  (h:aFc P md ops Q S (L :: Ls) fuel (listed.setIfInBounds i true) (a.put (some d) v) w):aFc P md ops Q S (L :: Ls) (fuel+1) listed a w:=by
 rw [Bool.and_eq_true,Bool.and_eq_true,Bool.and_eq_true,Bool.and_eq_true,Bool.and_eq_true] at hc;exact aFc.first (aJ1 md ops L 60 i) hi (Region.noSelect_spec hc.1.1.1) (fun l hl=>by have:=List.all_eq_true.1 hc.2.1.1 l hl;simpa using this) hc.2.1.2 (by rw [hd];exact hQ) fuel listed a w (Region.free_spec hi hc.1.1.2) (by simpa using hc.1.2) hc.2.2 hy hS (by rw [hd];exact h)
theorem aFc.one {i:Nat} {o:Oper} {fuel:Nat} {listed:Array Bool} {a:Act} {w:World} (hr:Region.ready md ops listed=[i]) (ho:ops[i]?=some o)
  (h:∀ K':Act->World->Prop,Shut (∀ a w,(i ∉ Ls->S w)->aFc P md ops Q S Ls fuel (listed.setIfInBounds i true) a w->K' a w)->if Region.wanted o (yielded ops a.tmps)=true then Oper.wp P o a w K' Q else K' (a.put o.dst undef) w) :
  aFc P md ops Q S Ls (fuel+1) listed a w:=by
 refine And.intro (fun h=>by rw [h] at hr;exact absurd hr (by simp)) (fun j hj=>?_)
 rw [hr] at hj;obtain rfl:j=i:=by simpa using hj
 exact wpOp_step ho (fun K' hK=>h K' (fun a w hS hW=>hK a w ⟨hS,hW⟩))
theorem aFc.two {i j:Nat} {o o2:Oper} {fuel:Nat} {listed:Array Bool} {a:Act} {w:World} (hr:Region.ready md ops listed=[i,j]) (ho:ops[i]?=some o) (ho2:ops[j]?=some o2)
  (h:∀ K':Act->World->Prop,Shut (∀ a w,(i ∉ Ls->S w)->aFc P md ops Q S Ls fuel (listed.setIfInBounds i true) a w->K' a w)->if Region.wanted o (yielded ops a.tmps)=true then Oper.wp P o a w K' Q else K' (a.put o.dst undef) w)
  (h2:∀ K':Act->World->Prop,Shut (∀ a w,(j ∉ Ls->S w)->aFc P md ops Q S Ls fuel (listed.setIfInBounds j true) a w->K' a w)->if Region.wanted o2 (yielded ops a.tmps)=true then Oper.wp P o2 a w K' Q else K' (a.put o2.dst undef) w) :
  aFc P md ops Q S Ls (fuel+1) listed a w:=by
 refine And.intro (fun h=>by rw [h] at hr;exact absurd hr (by simp)) (fun k hk=>?_)
 rw [hr] at hk;have hk':k=i∨k=j:=by simpa using hk
 rcases hk' with rfl | rfl
 .exact wpOp_step ho (fun K' hK=>h K' (fun a w hS hW=>hK a w ⟨hS,hW⟩))
 .exact wpOp_step ho2 (fun K' hK=>h2 K' (fun a w hS hW=>hK a w ⟨hS,hW⟩))
theorem aFc.done {listed:Array Bool} {a:Act} {w:World} (hr:Region.ready md ops listed=[]) (h:Q .normal a w):∀ fuel,aFc P md ops Q S Ls fuel listed a w
 | 0=>⟨hr,h⟩
 | _+1=>⟨fun _=>h,by rw [hr];simp⟩
theorem aFc.start (S:World->Prop) (Ls:List Nat) {id:Nat} {a:Act} {w:World} (hm:P.follows .mixedOrders=true)
  (h:aFc P .any ops Q S Ls ops.size (Array.replicate ops.size false) a w.drew):(Code.region id ops true).wp P Q a w :=
 wp_region_any hm (aFc.any _ _ _ _ h)
end
section
variable (A:Nat->List Nat) (t:Nat->Int)
def aBm (v:Nat):Bool:=decide (0<=t v)&&decide (t (t v).toNat=(v:Int))
def aH8 (v u:Nat):Nat:=if u∈A v/\aBm t v=false/\aBm t u=false/\¬ (t v=(u:Int)/\t u = -1)/\¬ (t u=(v:Int)/\t v = -1) then 1 else 0
def aGe (v:Nat):Nat:=if 0<=t v/\aBm t v=false then 1 else 0
def bFs (n:Nat):Nat:=aDn n (fun v=>aDn n (fun u=>aH8 A t v u))+aDn n (aGe t)
end
theorem aH0 {t:Nat->Int} {v:Nat}:aBm t v=true↔0<=t v/\t (t v).toNat=(v:Int):=by unfold aBm;simp
theorem aEy {t:Nat->Int} {v u:Nat} (h:t v=(u:Int)):aBm t v=true↔t u=(v:Int):=by
 rw [aH0,h];simp
inductive MoveP (A:Nat->List Nat) (t:Nat->Int) (v:Nat):Int->Prop where
 | accept (u:Nat):t v = -1->u∈A v->t u=(v:Int)->MoveP A t v u
 | propose (u:Nat):t v = -1->(∀ x∈A v,t x≠(v:Int))->u∈A v->t u = -1->MoveP A t v u
 | withdraw (u:Nat):t v=(u:Int)->t u ≠ -1->t u≠(v:Int)->MoveP A t v (-1)
def aFv (t:Nat->Int) (v:Nat) (x:Int) (u:Nat):Int:=if u=v then x else t u
structure GraphP (A:Nat->List Nat) (n:Nat):Prop where
 sym:∀ v u,u∈A v->v∈A u
 lt:∀ v u,u∈A v->u<n
 irr:∀ v,v ∉ A v
theorem bMg {A:Nat->List Nat} {t:Nat->Int} {n v:Nat} {x:Int} (hg:GraphP A n) (hv:v<n) (hm:MoveP A t v x):bFs A (aFv t v x) n+1<=bFs A t n:=by
 -- a pair stays a pair
 have hpair:∀ q,aBm t q=true->t v = -1∨aBm t v=false->aBm (aFv t v x) q=true:=by
  intro q hq hv2
  have hq':=aH0.1 hq
  have hqv:q≠v:=by
   rintro rfl
   rcases hv2 with h | h
   .omega
   .rw [h] at hq;cases hq
  have htv:(t q).toNat≠v:=by
   intro e
   have h1:t q=(v:Int):=by omega
   rcases hv2 with h | h
   .have:=hq'.2;rw [e,h] at this;omega
   .have h2:=(aEy h1).1 hq
    rw [(aEy h2).2 h1] at h;cases h
  rw [aH0];unfold aFv;rw [if_neg hqv,if_neg htv];exact hq'
 have hv2:t v = -1∨aBm t v=false:=by
  cases hm with
  | accept u h=>exact .inl h
  | propose u h=>exact .inl h
  | withdraw u h h1 h2 =>
   right
   cases hx:aBm t v with
   | false=>rfl
   | true=>exact absurd ((aEy h).1 hx) h2
 have hpn:∀ q,aBm (aFv t v x) q=false->aBm t q=false:=fun q h=>by
  cases hx:aBm t q with
  | false=>rfl
  | true=>rw [hpair q hx hv2] at h;cases h
 -- an edge that is closed stays so
 have hopen:∀ q w,aH8 A (aFv t v x) q w<=aH8 A t q w:=by
  intro q w
  unfold aH8
  by_cases h:w∈A q/\aBm (aFv t v x) q=false/\aBm (aFv t v x) w=false/\¬ (aFv t v x q=(w:Int)/\aFv t v x w = -1)/\¬ (aFv t v x w=(q:Int)/\aFv t v x q = -1)
  .obtain ⟨h1,h2,h3,h4,h5⟩:=h
   rw [if_pos ⟨h1,h2,h3,h4,h5⟩,if_pos]
   .exact Nat.le_refl _
   have key:∀ a b:Nat,a≠b->aBm (aFv t v x) b=false->¬ (aFv t v x a=(b:Int)/\aFv t v x b = -1)->b∈A a->¬ (t a=(b:Int)/\t b = -1):=by
    intro a b hab hpb hno hba ⟨e1,e2⟩
    by_cases hav:a=v
    .subst hav
     cases hm with
     | accept u h=>omega
     | propose u h=>omega
     | withdraw u h g1 g2 =>
      have:u=b:=by omega
      subst this;exact g1 e2
    .by_cases hbv:b=v
     .subst hbv
      cases hm with
      | accept u g1 g2 g3 =>
       -- b accepts u: b is paired
       have hub:u≠b:=fun e=>by rw [e] at g2;exact hg.irr _ g2
       have:aBm (aFv t b (u:Int)) b=true:=by
        have e0:aFv t b (u:Int) b=(u:Int):=by simp [aFv]
        rw [aEy e0];unfold aFv;rw [if_neg hub];exact g3
       rw [this] at hpb;cases hpb
      | propose u g1 g2 g3 g4=>exact g2 a (hg.sym a b hba) e1
      | withdraw u g1 g2 g3=>omega
     .refine hno ⟨?_,?_⟩
      .unfold aFv;rw [if_neg hav];exact e1
      .unfold aFv;rw [if_neg hbv];exact e2
   have hqw:q≠w:=fun e=>by rw [e] at h1;exact hg.irr _ h1
   exact ⟨h1,hpn q h2,hpn w h3,key q w hqw h3 h4 h1,key w q (fun e=>hqw e.symm) h2 h5 (hg.sym q w h1)⟩
  .rw [if_neg h];exact Nat.zero_le _
 have hcons:∀ q,q≠v->aGe (aFv t v x) q<=aGe t q:=by
  intro q hq
  unfold aGe
  by_cases h:0<=aFv t v x q/\aBm (aFv t v x) q=false
  .rw [if_pos h,if_pos ⟨by have:=h.1;unfold aFv at this;rwa [if_neg hq] at this,hpn q h.2⟩]
   exact Nat.le_refl _
  .rw [if_neg h];exact Nat.zero_le _
 have hsumO:aDn n (fun a=>aDn n (fun b=>aH8 A (aFv t v x) a b))<=aDn n (fun a=>aDn n (fun b=>aH8 A t a b)):=aH5 fun a _=>aH5 fun b _=>hopen a b;unfold bFs;cases hm with
 | accept u g1 g2 g3 =>
  have hun:=hg.lt v u g2;have huv:u≠v:=fun e=>by rw [e] at g2;exact hg.irr _ g2
  have hcv:aGe (aFv t v (u:Int)) v<=aGe t v:=by
   have e0:aFv t v (u:Int) v=(u:Int):=by simp [aFv]
   have:aBm (aFv t v (u:Int)) v=true:=by
    rw [aEy e0];unfold aFv;rw [if_neg huv];exact g3
   unfold aGe;rw [this,if_neg (by simp)];exact Nat.zero_le _
  have hcu:aGe (aFv t v (u:Int)) u+1<=aGe t u:=by
   have e1:aFv t v (u:Int) u=(v:Int):=by unfold aFv;rw [if_neg huv];exact g3
   have p1:aBm (aFv t v (u:Int)) u=true:=by rw [aEy e1];simp [aFv]
   have p0:aBm t u=false:=by
    cases hx:aBm t u with
    | false=>rfl
    | true=>have:=(aEy g3).1 hx;omega
   unfold aGe;rw [p1,p0,if_neg (by simp),if_pos ⟨by omega,rfl⟩];omega
  have:=aKa (n:=n) (j:=u) (d:=1) (f:=aGe (aFv t v (u:Int))) (g:=aGe t) hun (fun i _=>by
   by_cases hi:i=v
   .subst hi;exact hcv
   .exact hcons i hi) hcu
  omega
 | withdraw u g1 g2 g3 =>
  have hcv:aGe (aFv t v (-1)) v+1<=aGe t v:=by
   have p0:aBm t v=false:=by
    cases hx:aBm t v with
    | false=>rfl
    | true=>exact absurd ((aEy g1).1 hx) g3
   unfold aGe;rw [if_neg (by simp [aFv]),if_pos ⟨by omega,p0⟩];omega
  have:=aKa (n:=n) (j:=v) (d:=1) (f:=aGe (aFv t v (-1))) (g:=aGe t) hv (fun i _=>by
   by_cases hi:i=v
   .subst hi;omega
   .exact hcons i hi) hcv
  omega
 | propose u g1 g2 g3 g4 =>
  have hun:=hg.lt v u g3;have huv:u≠v:=fun e=>by rw [e] at g3;exact hg.irr _ g3
  have hcv:aGe (aFv t v (u:Int)) v<=aGe t v+1:=by unfold aGe;split <;> omega
  have hC:=bJz (n:=n) (j:=v) (d:=1) (f:=aGe (aFv t v (u:Int))) (g:=aGe t) (fun i _ hi=>hcons i hi) hcv;have e1:aFv t v (u:Int) v=(u:Int):=by simp [aFv]
  have e2:aFv t v (u:Int) u = -1:=by unfold aFv;rw [if_neg huv];exact g4
  have pv:aBm t v=false:=by
   cases hx:aBm t v with
   | false=>rfl
   | true=>have:=(aH0.1 hx).1;omega
  have pu:aBm t u=false:=by
   cases hx:aBm t u with
   | false=>rfl
   | true=>have:=(aH0.1 hx).1;omega
  have o1:aH8 A (aFv t v (u:Int)) v u+1<=aH8 A t v u:=by
   unfold aH8;rw [if_neg (fun h=>h.2.2.2.1 ⟨e1,e2⟩),if_pos ⟨g3,pv,pu,fun h=>by omega,fun h=>by omega⟩];omega
  have o2:aH8 A (aFv t v (u:Int)) u v+1<=aH8 A t u v:=by
   unfold aH8;rw [if_neg (fun h=>h.2.2.2.2 ⟨e1,e2⟩),if_pos ⟨hg.sym v u g3,pu,pv,fun h=>by omega,fun h=>by omega⟩];omega
  have r1:=aKa (n:=n) (j:=u) (d:=1) hun (fun b _=>hopen v b) o1;have r2:=aKa (n:=n) (j:=v) (d:=1) hv (fun b _=>hopen u b) o2
  -- two rows are less
  have hO:aDn n (fun a=>aDn n (fun b=>aH8 A (aFv t v (u:Int)) a b))+2<=aDn n (fun a=>aDn n (fun b=>aH8 A t a b)):=by
   have step1:=aKa (n:=n) (j:=v) (d:=1)
    (f:=fun a=>aDn n (fun b=>aH8 A (aFv t v (u:Int)) a b)) (g:=fun a=>if a=v then aDn n (fun b=>aH8 A t a b) else aDn n (fun b=>aH8 A (aFv t v (u:Int)) a b)) hv
    (fun i _ => by split; · exact aH5 fun b _ => hopen i b
                   .exact Nat.le_refl _) (by rw [if_pos rfl];exact r1)
   have step2:=aKa (n:=n) (j:=u) (d:=1)
    (f:=fun a=>if a=v then aDn n (fun b=>aH8 A t a b) else aDn n (fun b=>aH8 A (aFv t v (u:Int)) a b)) (g:=fun a=>aDn n (fun b=>aH8 A t a b)) hun
    (fun i _ => by split; · exact Nat.le_refl _
                   .exact aH5 fun b _=>hopen i b) (by rw [if_neg huv];exact r2)
   omega
  omega
theorem bPs (A:Nat->List Nat) (t:Nat->Int) (n:Nat):bFs A t n<=aDn n (fun v=>aDn n (fun u=>if u∈A v then 1 else 0))+n:=by
 unfold bFs
 have h1:aDn n (fun v=>aDn n (fun u=>aH8 A t v u))<=aDn n (fun v=>aDn n (fun u=>if u∈A v then 1 else 0)):=aH5 fun v _=>aH5 fun u _=>by
  unfold aH8
  by_cases h:u∈A v
  .rw [if_pos h];split <;> omega
  .rw [if_neg h,if_neg (fun e=>h e.1)];exact Nat.le_refl _
 have h2:aDn n (aGe t)<=aDn n (fun _=>1):=aH5 fun v _=>by unfold aGe;split <;> omega
 rw [aGt] at h2;omega
theorem aTd {a:Nat->Nat->Nat} (hs:∀ v u,a v u=a u v) (h0:∀ v,a v v=0):∀ n,∃ m,aDn n (fun v=>aDn n (fun u=>a v u))=2*m
 | 0=>⟨0,rfl⟩
 | n+1=>by
  obtain ⟨m,hm⟩:=aTd hs h0 n
  have e:aDn (n+1) (fun v=>aDn (n+1) (fun u=>a v u))=aDn n (fun v=>aDn n (fun u=>a v u))+2*aDn n (fun v=>a v n):=by
   have e1:aDn (n+1) (fun v=>aDn (n+1) (fun u=>a v u))=aDn n (fun v=>aDn n (fun u=>a v u)+a v n)+(aDn n (fun u=>a n u)+a n n):=rfl;rw [e1,bDq,h0,aOr (f:=fun u=>a n u) (g:=fun v=>a v n) (fun i _=>hs n i)];omega
  exact ⟨m+aDn n (fun v=>a v n),by rw [e,hm];omega⟩
end Go.Proofs.YtmoebklkkjbigaaGreatDoor

