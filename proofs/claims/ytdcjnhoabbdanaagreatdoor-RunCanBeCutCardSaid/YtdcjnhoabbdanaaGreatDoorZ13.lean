/- Merged. -/
import Derived.RangeFuncLeaves
import Derived.RangeFuncBox
import Derived.Lib.BitFns
import Derived.Deep.RegionHeld3
import Derived.OrdersIn
import Derived.Test.YtdcjnhoabbdanaaGreatDoorZ12
import Derived.Lib.LaidTab
import Derived.LaidMore
import Derived.OpenShut
import Derived.Stop.Joined
set_option linter.unusedSimpArgs false
set_option linter.unnecessarySimpa false
set_option linter.unusedVariables false
set_option maxRecDepth 100000
set_option maxHeartbeats 2000000
open Go.Proofs.Tryz

namespace Go.Proofs.YtdcjnhoabbdanaaGreatDoor
open Go.RowKit
theorem aIg {P:Program} {f:FuncId} {fn:Func} {c:Code} {args:Array Value} {w:World} {R:Ending->World->Prop}
  (hf:P.funcs[f]?=some fn) (hb:fn.body=some c)
  (h:c.wp P (bodyPostM Fence.wide 5 P fn R) { tmps:=args++Array.replicate (fn.ntmps-args.size) undef,defers:=[] } w):Calls P f args w R :=
 callsIn_wide.1 (callsIn_of_wp_marks hf hb trivial (wpIn_wide.2 h) rfl)
def aEr (B:Nat) (W:World):List Deferred->Prop
 | []=>True
 | d :: ds=>(∃ D,d={ target := .collected D,args:=#[] }/\B<=D/\W.heap[D]?=some (.deferred (some []))/\∀ d'∈ds,∀ D',d'.target = .collected D'->D' < D)/\aEr B W ds
theorem aEr.nil (B:Nat) (W:World):aEr B W []:=trivial
def aZy (B:Nat) (W:World) (k:Nat):Prop:=B<=k/\∃ x,W.heap[k]?=some (.deferred x)
theorem aEr.keep {B:Nat} {W W':World}:∀ {ds:List Deferred},aEr B W ds->(∀ D,B<=D->W.heap[D]?=some (.deferred (some []))->W'.heap[D]?=some (.deferred (some [])))->aEr B W' ds
 | [],_,_=>trivial
 | _ :: _,h,hk=>by
  obtain ⟨⟨D,e,h1,h2,h3⟩,h4⟩:=h;exact ⟨⟨D,e,h1,hk D h1 h2,h3⟩,h4.keep hk⟩
theorem aEr.below {B:Nat} {W:World}:∀ {ds:List Deferred},aEr B W ds->∀ d∈ds,∀ D,d.target = .collected D->B<=D/\D<W.heap.size
 | [],_,_,hd,_,_=>by cases hd
 | d0 :: ds,h,d,hd,D,e=>by
  obtain ⟨⟨D0,e0,h1,h2,h3⟩,h4⟩:=h
  rcases List.mem_cons.1 hd with rfl | hd
  .subst e0
   injection e with e
   subst e;exact ⟨h1,(Array.getElem?_eq_some_iff.1 h2).1⟩
  .exact h4.below d hd D e
theorem aEr.push {B:Nat} {W:World} {ds:List Deferred} {D:Nat} (h:aEr B W ds) (hB:B<=D) (hD:W.heap[D]?=some (.deferred (some []))) (hlt:∀ d'∈ds,∀ D',d'.target = .collected D'->D' < D):aEr B W ({ target := .collected D,args:=#[] } :: ds) :=
 ⟨⟨D,rfl,hB,hD,hlt⟩,h⟩
theorem aEr.shut {B D:Nat} {W:World}:∀ {ds:List Deferred},aEr B W ds->(∀ d'∈ds,∀ D',d'.target = .collected D'->D' < D)->aEr B (W.putObj D (.deferred none)) ds
 | [],_,_=>trivial
 | d :: ds,h,hl=>by
  obtain ⟨⟨D0,e,h1,h2,h3⟩,h4⟩:=h;have:=hl d (List.mem_cons_self ..) D0 (by rw [e])
  exact ⟨⟨D0,e,h1,(World.putObj_heap_other (by omega)).trans h2,h3⟩,h4.shut (fun d' hd=>hl d' (List.mem_cons_of_mem _ hd))⟩
theorem aEx {P:Program} {fn:Func} {tmps:Array Value} {R:Ending->World->Prop} {F:Fence} {n B:Nat}:∀ {ds:List Deferred} {W:World},aEr B W ds ->
  (∀ W',Agr (aZy B W) W W'->W'.heap.size=W.heap.size->∃ v,(results fn tmps).run P W' = .ok v W'/\R (.returned v) W')->LeavesInM F n P fn tmps R ds .returning W
 | [],W,_,hR=>hR W (Agr.refl _ W) rfl
 | d :: ds,W,h,hR=>by
  obtain ⟨⟨D,rfl,h1,h2,h3⟩,h4⟩:=h;refine ⟨by simp,.inl ⟨D,_,rfl,run_takeDeferred h2,?_⟩⟩
  have hlt:=(Array.getElem?_eq_some_iff.1 h2).1;refine aEx (B:=B) (h4.shut h3) ?_
  intro W' hA hs
  have hE:∀ k,aZy B (W.putObj D (.deferred none)) k->aZy B W k:=by
   rintro k ⟨hk,x,hx⟩
   by_cases hkD:k=D
   .subst hkD;exact ⟨hk,_,h2⟩
   .rw [World.putObj_heap_other hkD] at hx;exact ⟨hk,x,hx⟩
  have hsz:(W.putObj D (.deferred none)).heap.size=W.heap.size:=by simp
  exact hR W' ((Agr.putObj W D _ ⟨h1,_,h2⟩).trans (hA.mono hE)) (by omega)
theorem Agr.cell {E:Nat->Prop} {A B:World} (h:Agr E A B) {k o:Nat} (hk:k<A.heap.size) (hE:¬ E k):B.cell? ⟨k,o,none⟩=A.cell? ⟨k,o,none⟩ :=
 World.cell?_of_block (h.block k hk hE)
theorem Agr.cellD {B0:Nat} {A B:World} (h:Agr (aZy B0 A) A B) {k o:Nat} {v:Value} (hc:A.cell? ⟨k,o,none⟩=some v):B.cell? ⟨k,o,none⟩=some v:=by
 have hne:¬ aZy B0 A k:=by
  rintro ⟨_,x,hx⟩;simp [World.cell?,hx] at hc
 have hk:k<A.heap.size:=by
  rcases Nat.lt_or_ge k A.heap.size with h | h
  .exact h
  .simp [World.cell?,Array.getElem?_eq_none h] at hc
 rw [h.cell hk hne];exact hc
theorem Agr.bel {w A C:World} (hb:Bel w A) (h:Agr (aZy w.heap.size A) A C):Bel w C :=
 ⟨h.os.trans hb.os,h.tape.trans hb.tape,h.output.trans hb.output,Nat.le_trans hb.size h.size,fun k hk=>(h.block k (Nat.lt_of_lt_of_le hk hb.size) (fun e=>by have:=e.1;omega)).trans (hb.block k hk)⟩
theorem Agr.belE {E:Nat->Prop} {w A C:World} (hb:Bel w A) (h:Agr E A C) (hE:∀ k,E k->w.heap.size<=k):Bel w C :=
 ⟨h.os.trans hb.os,h.tape.trans hb.tape,h.output.trans hb.output,Nat.le_trans hb.size h.size,fun k hk=>(h.block k (Nat.lt_of_lt_of_le hk hb.size) (fun e=>by have:=hE k e;omega)).trans (hb.block k hk)⟩
theorem Agr.boxed {E:Nat->Prop} {A B:World} (h:Agr E A B) {k:Nat} {t:TypeId} {v:Value} (hx:Boxed A k t v) (hk:¬ E k):Boxed B k t v:=(h.block k hx.lt hk).trans hx
theorem Agr.blk {E:Nat->Prop} {A B:World} (h:Agr E A B) {k:Nat} {t:TypeId} {cs:Array Value} (hx:A.heap[k]?=some (.cells cs t (0,0))) (hk:¬ E k):B.heap[k]?=some (.cells cs t (0,0)):=(h.block k (Array.getElem?_eq_some_iff.1 hx).1 hk).trans hx
theorem aC1.refl (E:Nat->Prop) (A:World):aC1 E A A:=⟨Nat.le_refl _,fun _ _ _=>rfl⟩
theorem aC1.trans {E:Nat->Prop} {A B C:World} (h:aC1 E A B) (k:aC1 E B C):aC1 E A C :=
 ⟨Nat.le_trans h.1 k.1,fun i hi hE=>(k.2 i (Nat.lt_of_lt_of_le hi h.1) hE).trans (h.2 i hi hE)⟩
theorem aC1.setCell {E:Nat->Prop} (A:World) (p:Addr) (v:Value) (hp:¬ E p.block):aC1 E A (A.setCell p v) :=
 ⟨by simp,fun k _ hE=>Below.heap_setCell A p v k (fun e=>hp (e ▸ hE))⟩
theorem aC1.of_bel {E:Nat->Prop} {A B:World} (h:Bel A B):aC1 E A B:=⟨h.size,fun k hk _=>h.block k hk⟩
theorem aAw {W:World} {B:Nat} {t:TypeId} {v:Value} (h:Boxed W B t v):W.cell? ⟨B,0,none⟩=some v/\W.frozen? ⟨B,0,none⟩=false/\B<W.heap.size:=⟨h.cell,h.frozen,h.lt⟩
theorem aW7 (f:FuncId) (caps:Array Value) (hp:Nat->Bool) (n:Nat) (w:World)
  (hf:∀ v w',v<n->Bel w w'->Calls prog f (#[.int .i64 (v:Int)]++caps) w' fun e w2=>e = .returned (.bool (hp v))/\Bel w' w2)
  (hcall:∀ a w',(callFunc f (#[a]++caps)).run prog w' = .ok (.enter f (#[a]++caps)) w') (hn:n<=24) :
  Calls prog 106 #[.int .i64 (n:Int),.func (.func f) #[] caps] w fun e w'=>e = .returned (.int .u32 (aD8 n hp:Nat))/\Bel w w':=by
 have HF:=aA0 hf;clear hf;go_enter func106,ntmps106
 go_wp2_with fail
 have HB:=Bel.refl w
 go_loopg [5,6,8] n (fun m s _x z wr=>∃ v:Nat,v<=n/\m=n-v/\z = .int .i64 v/\s = .int .u32 (aD8 v hp:Nat)/\Bel w wr)
 case atStart=>exact ⟨0,by omega,rfl,rfl,rfl,HB⟩
 case round =>
  clear HB;obtain ⟨v,hv,rfl,rfl,rfl,HB⟩:=hrel
  by_cases hlt:v<n
  .have hd0:decide (v<n)=true:=by simpa using hlt
   have hsl:=aHe hp (show v<=32 by omega)
   cases hb:hp v with
   | true =>
    go_wp2_with (((with_reducible refine (HF.out _ _ hlt HB).mono ?_);rintro e w' ⟨rfl,hbb⟩;rw [hb];replace HB:=HB.trans hbb;clear hbb))
    go_roundg (n-(v+1))
    case rel=>exact ⟨v+1,by omega,rfl,by go_num,by rw [aHf,hb,if_pos rfl,aHm hsl (by omega)],HB⟩
    case measure=>omega
   | false =>
    go_wp2_with (((with_reducible refine (HF.out _ _ hlt HB).mono ?_);rintro e w' ⟨rfl,hbb⟩;rw [hb];replace HB:=HB.trans hbb;clear hbb))
    go_roundg (n-(v+1))
    case rel=>exact ⟨v+1,by omega,rfl,by go_num,by rw [aHf,hb];rfl,HB⟩
    case measure=>omega
  .have hd0:decide (v<n)=false:=by simpa using hlt
   obtain rfl:v=n:=by omega
   go_wp2_with fail
   go_ret;exact ⟨rfl,HB⟩
theorem aOj (S:Nat) (x:Int) (w:World) (hS:S<4294967296) :
  Calls prog 55 #[.int .u32 (S:Int),.int .i64 x] w fun e w'=>e = .returned (.bool (aPu S x))/\w=w':=by
 have HF:Hid (aPu S x=(decide (0<=x)&&decide (x<32)&&S.testBit x.toNat)):=rfl
 by_cases h0:0<=x
 .have d0:decide (0<=x)=true:=by simpa using h0
  rw [d0] at HF;obtain ⟨v,rfl⟩:=Int.eq_ofNat_of_zero_le h0
  by_cases h1:v<32
  .have d1:decide ((v:Int)<32)=true:=by simp;omega
   have d2:decide (v<32)=true:=by simpa using h1
   rw [d1,Int.toNat_natCast] at HF;clear h0;have hq:=aRb (v:=v) hS;go_enter func55,ntmps55
   go_wp2_with fail
   go_ret;exact ⟨aA2 (by rw [HF.out];simp [aWy]),rfl⟩
  .have d1:decide ((v:Int)<32)=false:=by simp;omega
   have d2:decide (v<32)=false:=by simpa using h1
   rw [d1] at HF;clear h0;go_enter func55,ntmps55
   go_wp2_with fail
   go_ret;exact ⟨aA2 (by rw [HF.out];simp),rfl⟩
 .have d0:decide (0<=x)=false:=by simpa using h0
  rw [d0] at HF;go_enter func55,ntmps55
  go_wp2_with fail
  go_ret;exact ⟨aA2 (by rw [HF.out];simp),rfl⟩
def aC3 (w:World):Prop:=0<w.heap.size/\∀ i,i<32->w.cell? ⟨0,i,none⟩=some (.int .u8 ((bruijn.getD i 0:Nat):Int))
theorem aC3.keep {w w':World} (h:aC3 w) (k:Bel w w'):aC3 w':=⟨Nat.lt_of_lt_of_le h.1 k.size,fun i hi=>(k.cell h.1).trans (h.2 i hi)⟩
theorem aZn {S:Nat} (h0:S≠0) (hS:S<4294967296) : -(S:Int) % 4294967296=((4294967296-S:Nat):Int):=by omega
theorem aSn {S:Nat} (hS:S<4294967296) (h0:S≠0):bits .and .u32 (S:Int) (-(S:Int) % 4294967296)=((lsb S:Nat):Int):=by
 rw [aZn h0 hS,aCi hS (by omega)];rfl
theorem aPb {k:Nat} (hk:k<32):∃ J:Nat,J<32/\((2 ^ k:Nat):Int)*125613361 % 4294967296 / 134217728=(J:Int)/\bruijn.getD J 0=k:=by
 have h:=aVe k hk;refine ⟨2 ^ k*125613361 % 4294967296 / 134217728,?_,by omega,?_⟩
 .omega
 .rw [List.getD_eq_getElem?_getD,h];rfl
theorem bAh (S:Nat) (k m:Nat) (w:World) (hT:aC3 w) (hS:S<4294967296) (e:S=2 ^ k*(2*m+1)) :
  Calls prog 120 #[.int .u32 (S:Int)] w fun e w'=>e = .returned (.int .i64 (k:Int))/\w=w':=by
 have h0:S≠0:=by rw [e];exact Nat.ne_of_gt (Nat.mul_pos (Nat.two_pow_pos k) (by omega))
 have hb:((S:Int)==0)=false:=by simp;omega
 have hlt:=hT.1;obtain ⟨k',m',e',hk,hl,_⟩:=aEc hS h0
 obtain rfl:k=k':=by
  have h1:=aG3 (k:=k) (m:=m) (by rw [<- e];exact hS)
  have h2:=aG3 (k:=k') (m:=m') (by rw [<- e'];exact hS)
  rw [<- e] at h1;rw [<- e',h1] at h2;injection h2
 have q1:=aSn hS h0;rw [hl] at q1;obtain ⟨J,hJ,q2,hv⟩:=aPb hk;have hc:=hT.2 J hJ;rw [hv] at hc;generalize 2 ^ k=P at q1 q2;have dJ:decide (J<32)=true:=by simpa using hJ
 clear e e' hl hv hT h0 hS hJ;go_enter func120,ntmps120
 go_wp2_with fail
 go_ret;exact ⟨rfl,rfl⟩
def aXm (b:Nat):Nat:=((List.range 8).filter (b.testBit ·)).length
theorem aYi:∀ n:Fin 256,Lib.onesCount n.val=aXm n.val:=by decide +kernel
theorem aOy {b:Nat} (h:b<256):Lib.pop8 (b:Int)=(aXm b:Int):=by
 have h1:=Lib.pop8_eq ⟨b,h⟩;have h2:=aYi ⟨b,h⟩;simp only at h1 h2
 rw [h1,h2]
theorem aO7 (b:Nat):aXm b<=8:=Nat.le_trans (List.length_filter_le _ _) (by simp)
theorem aLa (S s:Nat):(List.filter (S.testBit ·) ((List.range 8).map (s+·))).length=aXm (S / 2 ^ s % 256):=by
 unfold aXm;rw [List.filter_map,List.length_map]
 congr 1
 refine List.filter_congr fun i hi=>?_
 have hi:=List.mem_range.1 hi;show S.testBit (s+i)=(S / 2 ^ s % 2 ^ 8).testBit i
 rw [Nat.testBit_mod_two_pow,decide_eq_true hi,Bool.true_and,Nat.testBit_div_two_pow,Nat.add_comm]
theorem aRk {S:Nat} (hS:S<4294967296):(aAe S).length=aXm (S / 16777216)+aXm (S / 65536 % 256)+aXm (S / 256 % 256)+aXm (S % 256):=by
 have e:List.range 32=(List.range 8).map (0+·)++((List.range 8).map (8+·)++((List.range 8).map (16+·)++(List.range 8).map (24+·))):=by decide
 unfold aAe;rw [e,List.filter_append,List.filter_append,List.filter_append,List.length_append,List.length_append,List.length_append,aLa,aLa,aLa,aLa];have e3:S / 2 ^ 24 % 256=S / 16777216:=by omega
 have e0:S / 2 ^ 0 % 256=S % 256:=by simp
 rw [e3,e0,show (2 ^ 16:Nat)=65536 by decide,show (2 ^ 8:Nat)=256 by decide]
 omega
theorem aO6 {x:Nat} (h:x<4294967296):bits .and .u32 (x:Int) 255=((x % 256:Nat):Int):=by
 rw [show (255:Int)=((255:Nat):Int) from rfl,aCi h (by decide),Nat.and_two_pow_sub_one_eq_mod x 8]
theorem aYd (S:Nat) (w:World) (hS:S<4294967296) :
  Calls prog 113 #[.int .u32 (S:Int)] w fun e w'=>e = .returned (.int .i64 ((aAe S).length:Int))/\Bel w w':=by
 obtain ⟨b0,hb0⟩:∃ b:Nat,b=S % 256:=⟨_,rfl⟩;obtain ⟨b1,hb1⟩:∃ b:Nat,b=S / 256 % 256:=⟨_,rfl⟩;obtain ⟨b2,hb2⟩:∃ b:Nat,b=S / 65536 % 256:=⟨_,rfl⟩;obtain ⟨b3,hb3⟩:∃ b:Nat,b=S / 16777216:=⟨_,rfl⟩;have q0:bits .and .u32 (S:Int) 255=(b0:Int):=by rw [aO6 hS,hb0]
 have q1:bits .and .u32 ((S:Int) / 256) 255=(b1:Int):=by
  rw [show (S:Int) / 256=((S / 256:Nat):Int) by omega,aO6 (by omega),hb1]
 have q2:bits .and .u32 ((S:Int) / 65536) 255=(b2:Int):=by
  rw [show (S:Int) / 65536=((S / 65536:Nat):Int) by omega,aO6 (by omega),hb2]
 have q3:(S:Int) / 16777216=(b3:Int):=by omega
 have l0:(b0:Int)<=255:=by omega
 have l1:(b1:Int)<=255:=by omega
 have l2:(b2:Int)<=255:=by omega
 have l3:(b3:Int)<=255:=by omega
 have i0:b0<=255:=by omega
 have i1:b1<=255:=by omega
 have i2:b2<=255:=by omega
 have i3:b3<=255:=by omega
 have HB:=aA0 (And.intro hb0 (And.intro hb1 (And.intro hb2 hb3)));clear hb0 hb1 hb2 hb3;go_enter func113,ntmps113;simp only [List.append_eq,List.cons_append,List.nil_append,Lib.fold_pop8tab]
 go_wp2
 go_region
 go_wp2;go_ret;refine ⟨aA4 ?_,(Bel.refl w).drew⟩
 obtain ⟨e0,e1,e2,e3⟩:=HB.out;rw [aOy (by omega),aOy (by omega),aOy (by omega),aOy (by omega),aRk hS,e0,e1,e2,e3]
 have h0:=aO7 (S % 256);have h1:=aO7 (S / 256 % 256);have h2:=aO7 (S / 65536 % 256);have h3:=aO7 (S / 16777216);omega
def bAe (md:Region.Mode) (ops:Array Oper) (i:Nat):Option Nat :=
 (List.range ops.size).find? fun j=>match ops[j]? with | some o=>o.after.any (fun e=>Region.binds md e&&e.on==i) | none=>false
def aGj (md:Region.Mode) (ops:Array Oper) (L:Nat):Nat->Nat->List Nat
 | 0,_=>[]
 | n+1,i=>match bAe md ops i with | none=>[] | some j=>j :: (if j==L then [] else aGj md ops L n j)
theorem aA6.takeC {P:Program} {ops:Array Oper} {Q:Exit->Act->World->Prop} {md:Region.Mode} {S:World->Prop} {L:Nat} {i:Nat} {oi:Oper} {v:Value} {fuel:Nat} {listed:Array Bool} {a:Act} {w:World} (d:Option Tmp) (hi:ops[i]?=some oi) (hd:oi.dst=d)
  (hs:Region.noSelect ops=true) (hf:Region.free md ops listed i=true) (hr:(Region.ready md ops listed).contains i=true)
  (hc:((aGj md ops L 60 i).contains L&&aL7 md ops i (aGj md ops L 60 i)&&aE6 listed (aGj md ops L 60 i))=true)
  (hQ:∀ c a w,Q (.panic c) (a.put d v) w->Q (.panic c) a w) (hS:S w) (hy:YieldsIf P ops S oi v a)
  (h:aA6 P md ops Q S L fuel (listed.setIfInBounds i true) (a.put d v) w):aA6 P md ops Q S L (fuel+1) listed a w:=by
 rw [Bool.and_eq_true,Bool.and_eq_true] at hc;exact aA6.take (aGj md ops L 60 i) d hi hd hs hf hr hc.1.1 hc.1.2 hc.2 hQ hS hy h
theorem aA6.t {P:Program} {ops:Array Oper} {Q:Exit->Act->World->Prop} {md:Region.Mode} {S:World->Prop} {L:Nat} {oi:Oper} {v:Value} {fuel:Nat} {listed:Array Bool} {a:Act} {w:World} (i d:Nat) (hi:ops[i]?=some oi) (hd:oi.dst=some d)
  (hc:(Region.noSelect ops&&Region.free md ops listed i&&(Region.ready md ops listed).contains i&&((aGj md ops L 60 i).contains L&&aL7 md ops i (aGj md ops L 60 i)&&aE6 listed (aGj md ops L 60 i)))=true)
  (hQ:∀ c a w,Q (.panic c) (a.put (some d) v) w->Q (.panic c) a w) (hS:S w) (hy:YieldsIf P ops S oi v a)
  (h:aA6 P md ops Q S L fuel (listed.setIfInBounds i true) (a.put (some d) v) w):aA6 P md ops Q S L (fuel+1) listed a w:=by
 rw [Bool.and_eq_true,Bool.and_eq_true,Bool.and_eq_true] at hc;exact aA6.takeC (some d) hi hd hc.1.1.1 hc.1.1.2 hc.1.2 hc.2 hQ hS hy h
def aOs:Op->Bool
 | .defer _=>false
 | _=>true
def aLe (ops:Array Oper):Bool:=ops.all fun o=>aOs o.op
section
variable {P:Program} {ops:Array Oper} {Q:Exit->Act->World->Prop} {md:Region.Mode} {l n:Nat}
theorem aZo {o:Oper} (ho:aOs o.op=true) {a:Act} {w:World} {K K':Act->World->Prop} (hK:∀ a w,K a w->K' a w) (h:o.wp P a w K Q):o.wpIn (Fence.wide.inRound l) n P a w K' Q:=by
 refine ⟨fun _ _=>trivial,?_⟩
 rw [Oper.semAt_eq _ _ _ (fun c h=>by rw [h] at ho;cases ho)]
 unfold Oper.wp at h;generalize (execOp a.eval o).run P w=r at *;cases r with
 | ok x w' =>
  cases x with
  | value v=>exact hK _ _ h
  | skip=>exact hK _ _ h
  | defer d=>exact hK _ _ h
  | enter f args=>exact ⟨(fun hd=>by cases hd),(CallsIn.inRound l ((callsIn_wide (n:=n-1)).2 h)).mono (fun e w'' he=>by cases e <;> first | exact hK _ _ he | exact he)⟩
  | row r args=>exact ⟨(fun hd=>by cases hd),fun c cs _=>let ⟨v,w'',hr,hs⟩:=h c cs;⟨v,w'',hK _ _ hr,stepsIn_wide.2 hs⟩⟩
  | round lr f tmps assign body=>exact h.elim
  | _=>first | exact h | exact h.elim
 | halt x w'=>cases x <;> first | exact h | exact h.elim
theorem op_in {i:Nat} (hd:aLe ops=true) (hq:¬ LetsOut Q) {a:Act} {w:World} {K K':Act->World->Prop} (hK:∀ a w,K a w->K' a w) (h:wpOp P ops Q i K a w):wpOpIn (Fence.wide.inRound l) n P ops Q i K' a w:=by
 unfold wpOp at h;unfold wpOpIn;cases ho:ops[i]? with
 | none=>simp only [ho] at h;exact hK _ _ h
 | some o =>
  simp only [ho] at h ⊢
  have hn:aOs o.op=true:=by
   unfold aLe at hd;rw [Array.all_eq_true] at hd;obtain ⟨hi,e⟩:=Array.getElem?_eq_some_iff.1 ho;have:=hd i hi
   rwa [e] at this
  by_cases hw:Region.wanted o (yielded ops a.tmps)=true
  .rw [if_pos hw] at h ⊢;exact aZo hn hK (h.resolve_right (fun e=>hq e.2))
  .rw [if_neg hw] at h ⊢;exact ⟨fun _ _=>trivial,hK _ _ h⟩
theorem aYs (hd:aLe ops=true) (hq:¬ LetsOut Q):∀ (fuel:Nat) (listed:Array Bool) (a:Act) (w:World),wpAny P md ops Q fuel listed a w->wpAnyIn (Fence.wide.inRound l) n P md ops Q fuel listed a w
 | 0,_,_,_,h=>h
 | fuel+1,_,_,_,h=>⟨h.1,fun i hi=>op_in hd hq (fun a w k=>aYs hd hq fuel _ a w k) (h.2 i hi)⟩
theorem aA6.startIn (S:World->Prop) (L:Nat) {id:Nat} {a:Act} {w:World} (hm:P.follows .mixedOrders=true) (hd:aLe ops=true) (hq:¬ LetsOut Q)
  (h:aA6 P .any ops Q S L ops.size (Array.replicate ops.size false) a w.drew):(Code.region id ops true).wpIn (Fence.wide.inRound l) n P Q a w :=
 wpIn_region_any hm (aYs hd hq _ _ _ _ (aA6.any _ _ _ _ h))
end
theorem aYa {t:List (Int × Int)} (h:okL t) (x:Nat):okL (t.drop x):=fun b hb=>h b (List.mem_of_mem_drop hb)
theorem aYb {T:List (List (Int × Int))} (h:okN T) (x:Nat):okN (T.drop x):=fun b hb=>h b (List.mem_of_mem_drop hb)
theorem aNi:∀ {bs:List (Int × Int)} {cs:List Int},inL bs cs->cs.length=bs.length
 | [],[],_=>rfl
 | [],_ :: _,h=>h.elim
 | _ :: _,[],h=>h.elim
 | _ :: _,_ :: _,h=>by simpa using aNi h.2.2
section
variable {P:Program} {ops:Array Oper} {Q:Exit->Act->World->Prop} {md:Region.Mode} {S:World->Prop} {Ls:List Nat}
def aDu (P:Program) (md:Region.Mode) (ops:Array Oper) (Q:Exit->Act->World->Prop) (S:World->Prop) (Ls:List Nat):Nat->Array Bool->Act->World->Prop
 | 0,listed,a,w=>Region.ready md ops listed=[]/\Q .normal a w
 | fuel+1,listed,a,w=>(Region.ready md ops listed=[]->Q .normal a w) /\
   ∀ i∈Region.ready md ops listed,wpOp P ops Q i (fun a' w'=>(i ∉ Ls->S w')/\aDu P md ops Q S Ls fuel (listed.setIfInBounds i true) a' w') a w
theorem aDu.any:∀ (fuel:Nat) (listed:Array Bool) (a:Act) (w:World),aDu P md ops Q S Ls fuel listed a w->wpAny P md ops Q fuel listed a w
 | 0,_,_,_,h=>h
 | fuel+1,_,_,_,h=>⟨h.1,fun i hi=>wpOp_mono (fun a' w' k=>aDu.any fuel _ a' w' k.2) (h.2 i hi)⟩
theorem aDu.first {i:Nat} {oi:Oper} {v:Value} (cs:List Nat) (hi:ops[i]?=some oi) (hsel:∀ (j:Nat) (o:Oper) cs b,ops[j]?=some o->o.op ≠ .select cs b)
  (hL:∀ l∈Ls,l∈cs) (hw:aL7 md ops i cs=true)
  (hQ:∀ c a w,Q (.panic c) (a.put oi.dst v) w->Q (.panic c) a w) (fuel:Nat):∀ (listed:Array Bool) (a:Act) (w:World),
   (∀ j oj,ops[j]?=some oj->j≠i->listed.getD j true=false->(∀ e∈oj.after,Region.binds md e=true->e.on≠i)->oi.apart ops oj=true) ->
   i∈Region.ready md ops listed->aE6 listed cs=true->YieldsIf P ops S oi v a->S w ->
   aDu P md ops Q S Ls fuel (listed.setIfInBounds i true) (a.put oi.dst v) w->aDu P md ops Q S Ls (fuel+1) listed a w:=by
 induction fuel with
 | zero =>
  intro listed a w _ hr _ hy hS H
  refine And.intro (fun h=>?_) (fun j hj=>?_)
  .rw [h] at hr;exact absurd hr (by simp)
  by_cases hji:j=i
  .subst hji;exact hy.wpOp hi hS ⟨fun _=>hS,H⟩
  .have:=ready_mono hj hji
   rw [H.1] at this;exact absurd this (by simp)
 | succ fuel ih =>
  intro listed a w hfree hr hun hy hS H
  refine And.intro (fun h=>?_) (fun j hj=>?_)
  .rw [h] at hr;exact absurd hr (by simp)
  by_cases hji:j=i
  .subst hji;exact hy.wpOp hi hS ⟨fun _=>hS,H⟩
  have hi0:=(mem_ready.1 hr).1;have hjc:=aQ6 hj cs i hi0 hw hun;have hjL:j ∉ Ls:=fun e=>hjc (hL j e);obtain ⟨hjun,oj,hoj,hall⟩:=mem_ready.1 hj
  have hnot:∀ e∈oj.after,Region.binds md e=true->e.on≠i:=fun e he hb heq=>by
   have h1:=hall e he hb;rw [heq] at h1
   rcases Nat.lt_or_ge i listed.size with h' | h'
   .simp [h'] at hi0 h1;rw [hi0] at h1;cases h1
   .simp [Array.getElem?_eq_none h'] at h1
  have h2:=wpOp_putIf hoj (hfree j oj hoj hji hjun hnot) (fun cs b=>hsel i oi cs b hi) (fun cs b=>hsel j oj cs b hoj) hQ hy (H.2 j (ready_mono hj hji));refine wpOp_mono (fun a' w' h3=>?_) h2
  obtain ⟨hy',hS',hrest⟩:=h3;have hs':=hS' hjL;refine ⟨fun _=>hs',ih _ a' w' ?_ (ready_mono hr (Ne.symm hji)) ?_ hy' hs' (by rw [Array.setIfInBounds_comm _ _ hji];exact hrest)⟩
  .intro k ok hk hki hunk hno
   refine hfree k ok hk hki ?_ hno
   by_cases hjk:j=k
   .subst hjk;exact hjun
   .rw [getD_set_ne true hjk] at hunk;exact hunk
  .unfold aE6 at hun ⊢
   rw [List.all_eq_true] at hun ⊢;intro c hc
   rw [getD_set_ne true (show j≠c from fun e=>hjc (by rw [e];exact hc))]
   exact hun c hc
theorem aDu.t {L:Nat} {oi:Oper} {v:Value} {fuel:Nat} {listed:Array Bool} {a:Act} {w:World} (i d:Nat) (hi:ops[i]?=some oi) (hd:oi.dst=some d)
  (hc:(Region.noSelect ops&&Region.free md ops listed i&&(Region.ready md ops listed).contains i&&((L :: Ls).all (aGj md ops L 60 i).contains&&aL7 md ops i (aGj md ops L 60 i)&&aE6 listed (aGj md ops L 60 i)))=true)
  (hQ:∀ c a w,Q (.panic c) (a.put (some d) v) w->Q (.panic c) a w) (hS:S w) (hy:YieldsIf P ops S oi v a)
  (h:aDu P md ops Q S (L :: Ls) fuel (listed.setIfInBounds i true) (a.put (some d) v) w):aDu P md ops Q S (L :: Ls) (fuel+1) listed a w:=by
 rw [Bool.and_eq_true,Bool.and_eq_true,Bool.and_eq_true,Bool.and_eq_true,Bool.and_eq_true] at hc;exact aDu.first (aGj md ops L 60 i) hi (Region.noSelect_spec hc.1.1.1) (fun l hl=>by have:=List.all_eq_true.1 hc.2.1.1 l hl;simpa using this) hc.2.1.2 (by rw [hd];exact hQ) fuel listed a w (Region.free_spec hi hc.1.1.2) (by simpa using hc.1.2) hc.2.2 hy hS (by rw [hd];exact h)
theorem aDu.one {i:Nat} {o:Oper} {fuel:Nat} {listed:Array Bool} {a:Act} {w:World} (hr:Region.ready md ops listed=[i]) (ho:ops[i]?=some o)
  (h:∀ K':Act->World->Prop,Shut (∀ a w,(i ∉ Ls->S w)->aDu P md ops Q S Ls fuel (listed.setIfInBounds i true) a w->K' a w)->if Region.wanted o (yielded ops a.tmps)=true then Oper.wp P o a w K' Q else K' (a.put o.dst undef) w) :
  aDu P md ops Q S Ls (fuel+1) listed a w:=by
 refine And.intro (fun h=>by rw [h] at hr;exact absurd hr (by simp)) (fun j hj=>?_)
 rw [hr] at hj;obtain rfl:j=i:=by simpa using hj
 exact wpOp_step ho (fun K' hK=>h K' (fun a w hS hW=>hK a w ⟨hS,hW⟩))
theorem aDu.two {i j:Nat} {o o2:Oper} {fuel:Nat} {listed:Array Bool} {a:Act} {w:World} (hr:Region.ready md ops listed=[i,j]) (ho:ops[i]?=some o) (ho2:ops[j]?=some o2)
  (h:∀ K':Act->World->Prop,Shut (∀ a w,(i ∉ Ls->S w)->aDu P md ops Q S Ls fuel (listed.setIfInBounds i true) a w->K' a w)->if Region.wanted o (yielded ops a.tmps)=true then Oper.wp P o a w K' Q else K' (a.put o.dst undef) w)
  (h2:∀ K':Act->World->Prop,Shut (∀ a w,(j ∉ Ls->S w)->aDu P md ops Q S Ls fuel (listed.setIfInBounds j true) a w->K' a w)->if Region.wanted o2 (yielded ops a.tmps)=true then Oper.wp P o2 a w K' Q else K' (a.put o2.dst undef) w) :
  aDu P md ops Q S Ls (fuel+1) listed a w:=by
 refine And.intro (fun h=>by rw [h] at hr;exact absurd hr (by simp)) (fun k hk=>?_)
 rw [hr] at hk;have hk':k=i∨k=j:=by simpa using hk
 rcases hk' with rfl | rfl
 .exact wpOp_step ho (fun K' hK=>h K' (fun a w hS hW=>hK a w ⟨hS,hW⟩))
 .exact wpOp_step ho2 (fun K' hK=>h2 K' (fun a w hS hW=>hK a w ⟨hS,hW⟩))
theorem aDu.done {listed:Array Bool} {a:Act} {w:World} (hr:Region.ready md ops listed=[]) (h:Q .normal a w):∀ fuel,aDu P md ops Q S Ls fuel listed a w
 | 0=>⟨hr,h⟩
 | _+1=>⟨fun _=>h,by rw [hr];simp⟩
theorem aDu.start (S:World->Prop) (Ls:List Nat) {id:Nat} {a:Act} {w:World} (hm:P.follows .mixedOrders=true)
  (h:aDu P .any ops Q S Ls ops.size (Array.replicate ops.size false) a w.drew):(Code.region id ops true).wp P Q a w :=
 wp_region_any hm (aDu.any _ _ _ _ h)
end
open Go.ChangeShapes Go.WideShapes Go.ChangeAt Go.RowKit Go.Deep
theorem Tryz.cells_term:prog.cellsOf 98=2:=by kernel_rfl
def GoodT (t:Term):Prop:=aUy t.op/\aUy t.arg
theorem aCy {H:Type} {enc:TypeId × Value->H} {P:Program} {w:World} {base:Nat} {spare:Nat->Bool} {held:Bool} {m i n:Nat} {f:TypeId} {cs us:List Value} {xs:List (DataW H × List MemPlace)}
  (h:DataW.trod enc P w base spare held m f cs=xs[i]?) (hl:xs.length=n) (hi:i<n) (hcs:cs=us):∃ y,DataW.trod enc P w base spare held m f us=some y:=by
 subst hcs;rw [List.getElem?_eq_getElem (by omega)] at h
 exact ⟨_,h⟩
theorem aQb {H:Type} {enc:TypeId × Value->H} {w:World} {base:Nat} {spare:Nat->Bool} {held:Bool}:∀ n cs y b o,(∀ j,j<2->w.cell? ⟨b,o+j,none⟩=cs[j]?)->cs.length=2->DataW.trod enc prog w base spare held n 98 cs=some y->∃ x,aI2 w b o x/\GoodT x:=by
 intro n cs y b o hat hl h
 obtain ⟨xs,m,_,_,_,hxl,hf⟩:=DataW.trod_struct underlying98 h
 match cs,hl with
 | [u,v],_ =>
  obtain ⟨y0,h0⟩:=aCy (us:=[u]) (hf 0 _ rfl) hxl (by decide) (by simp [Tryz.cells_int])
  obtain ⟨y1,h1⟩:=aCy (us:=[v]) (hf 1 _ rfl) hxl (by decide) (by simp [Tryz.cells_int])
  obtain ⟨x0,hx0,_,wf0⟩:=DataW.trod_int underlying3 h0;obtain ⟨x1,hx1,_,wf1⟩:=DataW.trod_int underlying3 h1;simp at hx0 hx1
  subst hx0;subst hx1;exact ⟨⟨x0,x1⟩,⟨by simpa using hat 0 (by omega),by simpa using hat 1 (by omega)⟩,aIj wf0,aIj wf1⟩
open Go.ChangeShapes Go.WideShapes Go.ChangeAt Go.WideMaps Go.WideElems Go.RowKit
theorem gTab : prog.globalNamed "math/bits.deBruijn32tab" = some 0 := by kernel_rfl
theorem tTab:(prog.globals[0]?).map (·.type)=some 177:=by kernel_rfl
theorem cTab1:prog.cellsOf 5=1:=by kernel_rfl
theorem bA7:prog.cellsOf 177=32:=by kernel_rfl
def aO5:List Int:=bruijn.map fun (n:Nat)=>(n:Int)
abbrev aGr : List (String × DataW Unit) := [("math/bits.deBruijn32tab", Rows.laid_math_bits_deBruijn32tab)]
theorem aLi {W:World} (h:laidMetH prog aGr W):aC3 W:=by
 rw [MakeChecks.laidMetH_plain _ _ _ (by kernel_rfl)] at h
 have ht : Lib.TabIs prog W "math/bits.deBruijn32tab" .u8 aO5 :=
  Lib.tabIs_of_head gTab tTab underlying177 underlying5 cTab1 bA7 (show laidMet prog [("math/bits.deBruijn32tab", Lib.tabData .u8 aO5)] W from h)
 have hc:∀ i,i<32->W.cell? ⟨0,i,none⟩=some (.int .u8 ((bruijn.getD i 0:Nat):Int)):=fun i hi=>by
  have h1:=ht.cell gTab i (by simpa [aO5,bruijn] using hi)
  rw [h1];have hb:i<bruijn.length:=by simpa [bruijn] using hi
  simp [aO5,List.getD_eq_getElem?_getD,hb]
 refine ⟨?_,hc⟩
 have h0:=hc 0 (by decide)
 rcases Nat.lt_or_ge 0 W.heap.size with h | h
 .exact h
 .simp [World.cell?,Array.getElem?_eq_none h] at h0
theorem aLb (os:Os) (args:Array Value):laidMetH prog aGr ((World.doorLaid prog 400 os).forCall (fun _ _=>0) ⟨#[],args,[]⟩).memory :=
 laidMetH_of_parts3 (fuel:=8) (laidMet_of_run' 8 (by kernel_rfl) (by kernel_rfl)) (by kernel_rfl) (by kernel_rfl)
end Go.Proofs.YtdcjnhoabbdanaaGreatDoor

