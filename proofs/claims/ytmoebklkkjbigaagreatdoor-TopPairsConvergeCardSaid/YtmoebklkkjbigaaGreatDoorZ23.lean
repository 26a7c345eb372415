/- Merged. -/
import Derived.Test.YtmoebklkkjbigaaGreatDoorZ21
import Derived.Test.YtmoebklkkjbigaaGreatDoorZ19
import Derived.BigQuiet
import Derived.DeepKeys4
import Derived.Maps.RangeWalk
set_option linter.unusedSimpArgs false
set_option linter.unnecessarySimpa false
set_option linter.unusedVariables false
set_option maxRecDepth 100000
set_option maxHeartbeats 4000000
open Go.Proofs.Tryz

namespace Go.Proofs.YtmoebklkkjbigaaGreatDoor
open Go.RowKit
attribute [local go_sem] Oper.semAt_some
def bLf (p:Value):Nat:=match p with | .int _ x=>(x+1).toNat | _=>0
theorem aTe (m:Nat):(List.range (m+1)).reverse=m :: (List.range m).reverse:=by rw [List.range_succ,List.reverse_append];rfl
theorem aBg.cell {E:Nat->Prop} {A B:World} (h:aBg E A B) {k o:Nat} {v:Value} (hc:A.cell? ⟨k,o,none⟩=some v) (hE:E k):B.cell? ⟨k,o,none⟩=some v:=by
 have hk:k<A.heap.size:=by
  rcases Nat.lt_or_ge k A.heap.size with h | h
  .exact h
  .simp [World.cell?,Array.getElem?_eq_none h] at hc
 rw [World.cell?_of_block (h.2 k hk hE)];exact hc
theorem aWv (A:Option Addr) (n c:Nat) (w:World) :
  Calls prog 86 #[.slice A n c] w fun e w'=>e = .returned (.func (.func 127) #[] #[.pointer (some ⟨w.heap.size,0,none⟩)])/\w'=w.alloc (.cells #[.slice A n c] 99):=by
 go_enter func86,ntmps86;go_wp2;go_ret;exact ⟨rfl,rfl⟩
theorem bL7 (n:Nat) (B b o len cp:Nat) (R:Nat->Option Addr) (l cc:Nat->Nat) (w:World) (hn:1<=n) (hB:Boxed w B 99 (.slice (some ⟨b,o,none⟩) len cp)) (hb:b<w.heap.size) (hv:∀ v,v<len->w.cell? ⟨b,o+v,none⟩=some (.slice (R v) (l v) (cc v))) (hl:len<=100) :
  bKp Fence.wide n prog 127 #[.pointer (some ⟨B,0,none⟩)] (fun v:Nat=>#[.int .i64 (v:Int),.slice (R v) (l v) (cc v)]) (fun _=>False) (fun k=>k=B∨k=b) (List.range len).reverse w:=by
 intro lp J Jx W hW hJ hJx hY h0
 have HBW:Hid (Boxed W B 99 (.slice (some ⟨b,o,none⟩) len cp)):=(hW.block B hB.lt).trans hB;have HVW:Hid (∀ v,v<len->W.cell? ⟨b,o+v,none⟩=some (.slice (R v) (l v) (cc v))):=fun v h=>(hW.cell hb).trans (hv v h);have hbW:=Nat.lt_of_lt_of_le hb hW.size;clear hB hv hb;refine callsIn_of_wp func127 rfl trivial ?_ rfl
 simp only [ntmps127,List.size_toArray,List.length_cons,List.length_nil,Nat.reduceAdd,Nat.reduceSub,Array.replicate_succ,Array.replicate_zero,List.push_toArray,List.append_toArray,List.nil_append,List.cons_append]
 have c0:=HBW.out.cell;have f0:=HBW.out.frozen;have l0:=HBW.out.lt
 gi_wp2
 clear c0 f0 l0
 gi_loopw [3] (fun p wr=>∃ (pre:List Nat) (m:Nat) (z:Int),p = .int .i64 z/\z=(m:Int)-1/\m<=len/\Hid (pre++(List.range m).reverse=(List.range len).reverse)/\Hid (Boxed wr B 99 (.slice (some ⟨b,o,none⟩) len cp))/\Hid (∀ v,v<len->wr.cell? ⟨b,o+v,none⟩=some (.slice (R v) (l v) (cc v)))/\b<wr.heap.size/\Hid (J pre wr)) (fun p _=>bLf p)
 case atStart=>exact ⟨[],len,_,rfl,rfl,Nat.le_refl _,by show _=_;rfl,HBW,HVW,hbW,h0⟩
 case round =>
  clear h0 HBW HVW hbW;obtain ⟨pre,m,z,rfl,hz,hm,HP,HX,HV,hb,HJ⟩:=hrel;cases m with
  | zero =>
   have d0:decide (0<=z)=false:=by simp;omega
   gi_wp2
   go_end0
   have h:=HP.out;rw [List.range_zero,List.reverse_nil,List.append_nil] at h;exact ⟨⟨_,rfl⟩,.inl (by rw [<- h];exact HJ.out)⟩
  | succ v =>
   obtain rfl:z=(v:Int):=by omega
   clear hz;have d0:decide ((0:Int)<=(v:Int))=true:=by simp
   have hvl:(v:Int)<(len:Int):=by omega
   have hvl':decide (v<len)=true:=by simp;omega
   have hc:=HX.out.cell;have hf:=HX.out.frozen;have hl':=HX.out.lt;have hcv:=HV.out v (by omega)
   have HQ:Hid (pre++[v]++(List.range v).reverse=(List.range len).reverse):=by
    have:=HP.out;rw [aTe] at this;show _=_
    rw [List.append_assoc];exact this
   have hpre:pre++[v] <+: (List.range len).reverse:=⟨_,HQ.out⟩;obtain ⟨fn,tmps,assign,body,hy,hR⟩:=hY pre v wr hpre HJ.out;clear hpre
   gi_wp2
   refine hR.mono ?_
   rintro e w' (⟨rfl,hJ',hs⟩ | ⟨rfl,hJx'⟩)
   .have HX':Hid (Boxed w' B 99 (.slice (some ⟨b,o,none⟩) len cp)):=(hs.2 B HX.out.lt (.inr (.inl rfl))).trans HX.out
    have HV':Hid (∀ v,v<len->w'.cell? ⟨b,o+v,none⟩=some (.slice (R v) (l v) (cc v))):=fun u hu=>hs.cell (HV.out u hu) (.inr (.inr rfl));have hb':=Nat.lt_of_lt_of_le hb hs.1;have HJ':=aA0 hJ';clear hJ' hs hc hf hl' hcv
    gi_wp2
    go_roundw
    case rel=>exact ⟨pre++[v],v,_,rfl,rfl,by omega,HQ,HX',HV',hb',HJ'⟩
    case measure=>simp [bLf]
   .gi_wp2
    refine bodyPost_ret (results_none rfl _ _ _) rfl ?_
    exact ⟨⟨_,rfl⟩,.inr ⟨pre++[v],⟨_,HQ.out⟩,hJx'⟩⟩
theorem aWu (A:Option Addr) (n c:Nat) (w:World) :
  Calls prog 87 #[.slice A n c] w fun e w'=>e = .returned (.func (.func 128) #[] #[.pointer (some ⟨w.heap.size,0,none⟩)])/\w'=w.alloc (.cells #[.slice A n c] 158):=by
 go_enter func87,ntmps87;go_wp2;go_ret;exact ⟨rfl,rfl⟩
theorem bL6 (n:Nat) (B b o len cp:Nat) (f:Nat->Int × Int) (w:World) (hn:1<=n) (hB:Boxed w B 158 (.slice (some ⟨b,o,none⟩) len cp)) (hb:b<w.heap.size) (hv:∀ v,v<len->w.cell? ⟨b,o+v*2,none⟩=some (.int .i64 (f v).1)/\w.cell? ⟨b,o+v*2+1,none⟩=some (.int .i64 (f v).2)) (hl:len<=100) :
  bKp Fence.wide n prog 128 #[.pointer (some ⟨B,0,none⟩)] (fun v:Nat=>#[.int .i64 (v:Int),.agg #[.int .i64 (f v).1,.int .i64 (f v).2]]) (fun _=>False) (fun k=>k=B∨k=b) (List.range len).reverse w:=by
 intro lp J Jx W hW hJ hJx hY h0
 have HBW:Hid (Boxed W B 158 (.slice (some ⟨b,o,none⟩) len cp)):=(hW.block B hB.lt).trans hB;have HVW:Hid (∀ v,v<len->W.cell? ⟨b,o+v*2,none⟩=some (.int .i64 (f v).1)/\W.cell? ⟨b,o+v*2+1,none⟩=some (.int .i64 (f v).2)):=fun v h=>⟨(hW.cell hb).trans (hv v h).1,(hW.cell hb).trans (hv v h).2⟩;have hbW:=Nat.lt_of_lt_of_le hb hW.size;clear hB hv hb;refine callsIn_of_wp func128 rfl trivial ?_ rfl
 simp only [ntmps128,List.size_toArray,List.length_cons,List.length_nil,Nat.reduceAdd,Nat.reduceSub,Array.replicate_succ,Array.replicate_zero,List.push_toArray,List.append_toArray,List.nil_append,List.cons_append]
 have c0:=HBW.out.cell;have f0:=HBW.out.frozen;have l0:=HBW.out.lt
 gi_wp2
 clear c0 f0 l0
 gi_loopw [3] (fun p wr=>∃ (pre:List Nat) (m:Nat) (z:Int),p = .int .i64 z/\z=(m:Int)-1/\m<=len/\Hid (pre++(List.range m).reverse=(List.range len).reverse)/\Hid (Boxed wr B 158 (.slice (some ⟨b,o,none⟩) len cp))/\Hid (∀ v,v<len->wr.cell? ⟨b,o+v*2,none⟩=some (.int .i64 (f v).1)/\wr.cell? ⟨b,o+v*2+1,none⟩=some (.int .i64 (f v).2))/\b<wr.heap.size/\Hid (J pre wr)) (fun p _=>bLf p)
 case atStart=>exact ⟨[],len,_,rfl,rfl,Nat.le_refl _,by show _=_;rfl,HBW,HVW,hbW,h0⟩
 case round =>
  clear h0 HBW HVW hbW;obtain ⟨pre,m,z,rfl,hz,hm,HP,HX,HV,hb,HJ⟩:=hrel;cases m with
  | zero =>
   have d0:decide (0<=z)=false:=by simp;omega
   gi_wp2
   go_end0
   have h:=HP.out;rw [List.range_zero,List.reverse_nil,List.append_nil] at h;exact ⟨⟨_,rfl⟩,.inl (by rw [<- h];exact HJ.out)⟩
  | succ v =>
   obtain rfl:z=(v:Int):=by omega
   clear hz;have d0:decide ((0:Int)<=(v:Int))=true:=by simp
   have hvl:(v:Int)<(len:Int):=by omega
   have hvl':decide (v<len)=true:=by simp;omega
   have hc:=HX.out.cell;have hf:=HX.out.frozen;have hl':=HX.out.lt;obtain ⟨hcv,hcv2⟩:=HV.out v (by omega)
   have HQ:Hid (pre++[v]++(List.range v).reverse=(List.range len).reverse):=by
    have:=HP.out;rw [aTe] at this;show _=_
    rw [List.append_assoc];exact this
   have hpre:pre++[v] <+: (List.range len).reverse:=⟨_,HQ.out⟩;obtain ⟨fn,tmps,assign,body,hy,hR⟩:=hY pre v wr hpre HJ.out;clear hpre
   gi_wp2
   refine hR.mono ?_
   rintro e w' (⟨rfl,hJ',hs⟩ | ⟨rfl,hJx'⟩)
   .have HX':Hid (Boxed w' B 158 (.slice (some ⟨b,o,none⟩) len cp)):=(hs.2 B HX.out.lt (.inr (.inl rfl))).trans HX.out
    have HV':Hid (∀ v,v<len->w'.cell? ⟨b,o+v*2,none⟩=some (.int .i64 (f v).1)/\w'.cell? ⟨b,o+v*2+1,none⟩=some (.int .i64 (f v).2)):=fun u hu=>⟨hs.cell (HV.out u hu).1 (.inr (.inr rfl)),hs.cell (HV.out u hu).2 (.inr (.inr rfl))⟩;have hb':=Nat.lt_of_lt_of_le hb hs.1;have HJ':=aA0 hJ';clear hJ' hs hc hf hl' hcv hcv2
    gi_wp2
    go_roundw
    case rel=>exact ⟨pre++[v],v,_,rfl,rfl,by omega,HQ,HX',HV',hb',HJ'⟩
    case measure=>simp [bLf]
   .gi_wp2
    refine bodyPost_ret (results_none rfl _ _ _) rfl ?_
    exact ⟨⟨_,rfl⟩,.inr ⟨pre++[v],⟨_,HQ.out⟩,hJx'⟩⟩
end Go.Proofs.YtmoebklkkjbigaaGreatDoor

namespace Go.Proofs.YtmoebklkkjbigaaGreatDoor
open Go.RowKit
theorem aOj (n:Nat) (w:World) (hn:n<=30) :
  Calls prog 41 #[.int .i64 (n:Int)] w fun e w'=>e = .returned (.int .u32 (aHn n (fun _=>true):Nat))/\w=w':=by
 go_enter func41,ntmps41
 go_wp2_with fail
 go_loopg [3,4] n (fun m s z wr=>∃ v:Nat,v<=n/\m=n-v/\s = .int .u32 (aHn v (fun _=>true):Nat)/\z = .int .i64 v/\w=wr)
 case atStart=>exact ⟨0,by omega,rfl,rfl,rfl,rfl⟩
 case round =>
  obtain ⟨v,hv,rfl,rfl,rfl,rfl⟩:=hrel;have hsl:=aN5 (fun _=>true) (show v<=32 by omega)
  by_cases hlt:v<n
  .have hd0:decide (v<n)=true:=by simpa using hlt
   have hd1:decide (v<32)=true:=by simp;omega
   go_wp2_with fail
   go_roundg (n-(v+1))
   case rel=>exact ⟨v+1,by omega,rfl,by rw [aIb,if_pos rfl,aKl hsl (by omega)],by go_num,rfl⟩
   case measure=>omega
  .have hd0:decide (v<n)=false:=by simpa using hlt
   obtain rfl:v=n:=by omega
   go_wp2_with fail
   go_ret;exact ⟨rfl,rfl⟩
open Go.RowKit Go.Maps
def pv (x:Nat × Nat):Value := .agg #[.int .i64 (x.1:Int),.int .u32 (x.2:Int)]
def sk (x:Nat × Nat):Lit := .string (keyBytes [.int .i64 (x.1:Int),.int .u32 (x.2:Int)])
def okP (x:Nat × Nat):Prop:=x.1<1000000/\x.2<4294967296
structure KeyP (P:Program) (k:TypeId):Prop where
 law:Keyed P k
 keyOf:∀ {x:Nat × Nat},okP x->Go.keyOf P k (pv x)=some (sk x)
theorem KeyP.inj {P:Program} {k:TypeId} (A:KeyP P k) {x y:Nat × Nat} (hx:okP x) (hy:okP y) (h:sk x=sk y):x=y:=by
 have h1:=A.keyOf hx;have h2:=A.keyOf hy;rw [h] at h1;have:=A.law.inj h1 h2;simp [pv] at this
 exact Prod.ext (by omega) (by omega)
def aNh (P:Program) (k e:TypeId) (w:World) (b n:Nat) (M:Nat × Nat->Int):Prop :=
 ∃ D:DataW Unit,w.ownsMap P k (plainElem P e) b n D/\IsMap D/\∀ x,okP x->D.atKey (sk x) (.lit (.int .i64 0)) = .lit (.int .i64 (M x))
theorem aNh.made (P:Program) (k e:TypeId) (w:World):aNh P k e (w.alloc (.map #[] 0)) w.heap.size 0 (fun _=>0) :=
 ⟨.map [],World.ownsMap_made w P k _,isMap_empty,fun x _=>by simp [DataW.atKey]⟩
theorem aNh.kept {P:Program} {k e:TypeId} {w w':World} {b n:Nat} {M:Nat × Nat->Int} {row:Option Nat} (h:aNh P k e w b n M) (hg:w.grownBy w' row) (hne:some b≠row):aNh P k e w' b n M:=by
 obtain ⟨D,h1,h2⟩:=h;exact ⟨D,h1.kept hg hne,h2⟩
theorem aNh.keep {P:Program} {k e:TypeId} {w w':World} {b n:Nat} {M:Nat × Nat->Int} (h:aNh P k e w b n M) (hb:Bel w w'):aNh P k e w' b n M:=h.kept (hb.grownBy none) (by simp)
theorem aNh.lt {P:Program} {k e:TypeId} {w:World} {b n:Nat} {M:Nat × Nat->Int} (h:aNh P k e w b n M):b<w.heap.size:=by
 obtain ⟨D,h1,_⟩:=h;exact h1.lt
theorem aNh.look {P:Program} {k e t:TypeId} (A:KeyP P k) (ht:P.underlying t=some (.map k e)) (he:P.underlying e=some (.int .i64)) {w:World} {b n:Nat} {M:Nat × Nat->Int} (h:aNh P k e w b n M) (hz:(zeroValue e).run P w = .ok (.int .i64 0) w) {x:Nat × Nat} (hx:okP x) :
  (Instr.lookup t (.map (some b)) (pv x) false).run P w = .ok (.int .i64 (M x)) w:=by
 obtain ⟨D,h1,_,h3⟩:=h;obtain ⟨c,hrun,hc,_⟩:=h1.lookup_int A.law ht he hz (A.keyOf hx);rw [h3 x hx] at hc;simp at hc
 rw [hrun,hc]
def bOk (M:Nat × Nat->Int) (x:Nat × Nat) (c:Int):Nat × Nat->Int:=fun y=>if y=x then c else M y
theorem aNh.put {P:Program} {k e:TypeId} (A:KeyP P k) {w':World} {b n:Nat} {D:DataW Unit} {M:Nat × Nat->Int} {x:Nat × Nat} {c:Int} (hx:okP x)
  (h2:IsMap D/\∀ x,okP x->D.atKey (sk x) (.lit (.int .i64 0)) = .lit (.int .i64 (M x)))
  (h:w'.ownsMap P k (plainElem P e) b n (D.put (sk x) (.lit (.int .i64 c)))):aNh P k e w' b n (bOk M x c):=by
 refine ⟨_,h,h2.1.put _ _,fun y hy=>?_⟩
 have hkl:WideAt.IsKeyLit (sk x):=trivial
 by_cases he:y=x
 .subst he
  rw [atKey_put_same h2.1 hkl];simp [bOk]
 .have hne:sk y≠sk x:=fun h=>he (A.inj hy hx h)
  rw [atKey_put_other hne];unfold bOk;rw [if_neg he];exact h2.2 y hy
theorem bMb:laidOutB prog=true:=by kernel_rfl
theorem bOh:(150:TypeId)<prog.types.size:=of_decide_eq_true (by kernel_rfl)
theorem bPo:prog.keyType 150=true:=by kernel_rfl
theorem bIz:prog.cellsOf 150=2:=by kernel_rfl
theorem bIy:prog.cellsOf 3=1:=by kernel_rfl
theorem bD9:prog.cellsOf 46=1:=by kernel_rfl
theorem bPp:∃ m,prog.types.size=m+1:=⟨_,rfl⟩
theorem aVe:Keyed prog 150:=Keyed.of_law (deep_law_laid bMb (m:=2) (by omega) bOh (by kernel_rfl) (by rw [underlying150]))
theorem wf_i {x:Nat} (h:x<1000000):(Lit.int .i64 (x:Int)).wf=true:=by
 simp [Lit.wf,IntKind.min,IntKind.max,IntKind.signed,IntKind.bits];omega
theorem wf_u {x:Nat} (h:x<4294967296):(Lit.int .u32 (x:Int)).wf=true:=by
 simp [Lit.wf,IntKind.min,IntKind.max,IntKind.signed,IntKind.bits];omega
theorem pairKey:KeyP prog 150:=by
 refine ⟨aVe,fun {x} hx=>?_⟩
 have h1:=wf_i hx.1;have h2:=wf_u hx.2;obtain ⟨m,hm⟩:=bPp;unfold Go.keyOf pv;rw [underlying150];simp only []
 rw [bPo];simp only [Value.formed,underlying150,bIz,Bool.true_and]
 rw [hm];simp only [Program.keyLits,underlying150,underlying3,underlying46,bIy,bD9,bIz,Value.cells]
 simp [h1,h2,sk,bIy,bD9]
theorem bJq (n:Nat):aHn n (fun _=>true)=2 ^ n-1:=by
 apply Nat.eq_of_testBit_eq
 intro v
 rw [aFw,Nat.testBit_two_pow_sub_one,Bool.and_true]
theorem aXp (v2:Value) (g:Graph) (w:World) (h2:aB7 w v2 g) (hg:GOK g) :
  Calls prog 93 #[v2] w fun e w'=>e = .returned (.int .u32 (aHn g.ports.length (fun _=>true):Nat))/\Bel w w':=by
 obtain ⟨A3,k3,A4,k4,rfl,_,_,_,_,_,_⟩:=h2;have hle:=hg.le;have hid:=hg.ids;have HB:Hid (Bel w (w.alloc (.cells #[.slice A3 g.ids.length k3,.slice A4 g.ports.length k4] 25))):=(Bel.refl w).alloc _;have d1:decide (g.ids.length<32)=true:=by simp;omega
 have HF:Hid (aHn g.ports.length (fun _=>true)=2 ^ g.ports.length-1):=bJq _;have HID:=aA0 hid;clear hid;go_enter func93,ntmps93
 go_wp2_with fail
 go_ret;refine ⟨aA9 ?_,HB.out⟩
 rw [HF.out,HID.out];have hp:2 ^ g.ports.length<4294967296:=aLj (by omega)
 have hp0:0<2 ^ g.ports.length:=Nat.two_pow_pos _;rw [Nat.min_eq_left (by omega)]
 have e1:(2:Int) ^ g.ports.length=((2 ^ g.ports.length:Nat):Int):=by rw [Int.natCast_pow];rfl
 rw [e1];omega
theorem aC4.unset {N k o:Nat} {v:Value} {w W:World} (h:aC4 N (w.setCell ⟨k,o,none⟩ v) W) (hk:k<N):aC4 N w W :=
 ⟨by have:=h.1;simpa using this,fun i hN hi=>(h.2 i hN (by simpa using hi)).trans (Below.heap_setCell _ _ _ _ (show i≠k by omega))⟩
def bGr (p:Prg) (g:Graph) (v1 v2:Value) (kind:Int) (fs:FuncId) (capsS:Array Value) (w:World) (e:Ending) (w':World):Prop :=
 ∃ B A cn,e = .returned (.agg #[.pointer (some ⟨B,0,none⟩),.slice A g.ports.length cn,.int .i64 kind,.int .u32 (aHn g.ports.length (fun _=>true):Nat),.func (.func fs) #[] capsS]) /\
  (∀ W,aC4 w.heap.size w' W->aKy W v1 p->aB7 W v2 g->aEq W B p g/\aOw W A g)/\Bel w w'
theorem aV3 (v1:Value) (p:Prg) (v2:Value) (g:Graph) (kind:Int) (fs:FuncId) (capsS:Array Value) (w:World) (h:aKy w v1 p) (h2:aB7 w v2 g) (hc:aBw p=0) (hg:GOK g) (hG:aC7 g=true) :
  Calls prog 49 #[v1,v2,.int .i64 kind,.func (.func fs) #[] capsS] w (bGr p g v1 v2 kind fs capsS w):=by
 have HPV:=aA0 (fun w' (k:Bel w w')=>h.keep k);have HGV:=aA0 (fun w' (k:Bel w w')=>h2.keep k);obtain ⟨A1,k1,A2,k2,rfl,_,_,_,_,_,_⟩:=h;obtain ⟨A3,k3,A4,k4,rfl,_,_,_,_,_,_⟩:=h2;have HW:=Bel.refl ((w.alloc (.cells #[.string p.name,.slice A1 p.vars.length k1,.slice A2 p.rules.length k2] 31)).alloc (.cells #[.slice A3 g.ids.length k3,.slice A4 g.ports.length k4] 25));have HC:=aA0 hc;have HG:=aA0 hg;have HGL:=aA0 hG;have HMV:Hid True:=trivial;have HNT:Hid True:=trivial;clear hc hg hG
 have HZ:Hid (Blk (((w.alloc (.cells #[.string p.name,.slice A1 p.vars.length k1,.slice A2 p.rules.length k2] 31)).alloc (.cells #[.slice A3 g.ids.length k3,.slice A4 g.ports.length k4] 25)).alloc (.cells #[.pointer none,.slice none 0 0,.int .i64 0,.int .u32 0,.nilFunc] 114)) (w.heap.size+1+1) #[.pointer none,.slice none 0 0,.int .i64 0,.int .u32 0,.nilFunc] 114):=by
  have:=Blk.new ((w.alloc (.cells #[.string p.name,.slice A1 p.vars.length k1,.slice A2 p.rules.length k2] 31)).alloc (.cells #[.slice A3 g.ids.length k3,.slice A4 g.ports.length k4] 25)) #[.pointer none,.slice none 0 0,.int .i64 0,.int .u32 0,.nilFunc] 114;rw [World.size_alloc,World.size_alloc] at this;exact this
 replace HW:=HW.alloc (.cells #[.pointer none,.slice none 0 0,.int .i64 0,.int .u32 0,.nilFunc] 114);have hcell:=aA0 (fun w' (kk:Bel ((w.alloc (.cells #[.string p.name,.slice A1 p.vars.length k1,.slice A2 p.rules.length k2] 31)).alloc (.cells #[.slice A3 g.ids.length k3,.slice A4 g.ports.length k4] 25)) w')=>aDk kk);go_enter func49,ntmps49
 go_wp2_with fail
 replace HW:=HW.drew;replace HZ:=aA0 HZ.out.drew
 go_region_held3 (fun w'=>w'.cell? ⟨w.heap.size,0,none⟩=some (.string p.name)/\w'.cell? ⟨w.heap.size,1,none⟩=some (.slice A1 p.vars.length k1)/\w'.cell? ⟨w.heap.size,2,none⟩=some (.slice A2 p.rules.length k2)/\w'.cell? ⟨w.heap.size+1,0,none⟩=some (.slice A3 g.ids.length k3)/\w'.cell? ⟨w.heap.size+1,1,none⟩=some (.slice A4 g.ports.length k4)/\w.heap.size+1<w'.heap.size) (first | exact hcell.out _ HW | exact hcell.out _ (((((HW.setCell (by simp) _).setCell (by simp) _).setCell (by simp) _).setCell (by simp) _).setCell (by simp) _)) (first
  | (go_simp;go_at_call 78;refine (aMv _ p _ g _ (HPV.out _ (aA3 HW)) (HGV.out _ (aA3 HW)) HC.out HG.out HGL.out).mono ?_;rintro e w' ⟨bm,rfl,hMV,hb⟩;have hz:=HZ.out.lt;replace HMV:=aA0 (fun W (hW:aC4 (w.heap.size+1+1+1) w' W) (q1:aKy W _ p) (q2:aB7 W _ g)=>hMV W (hW.up hz) q1 q2);replace HW:=HW.trans hb;replace HZ:=aA0 (HZ.out.keep hb);clear hb hMV hz)
  | (go_simp;go_at_call 79;refine (aRa _ g _ (HGV.out _ (aA3 HW)) HG.out).mono ?_;rintro e w' ⟨AN,kn,rfl,hNT,_,_,hb⟩;have hz:=HZ.out.lt;replace HNT:=aA0 (fun W (hW:aC4 (w.heap.size+1+1+1) w' W)=>hNT W (hW.up hz));replace HMV:=aA0 (fun W (hW:aC4 (w.heap.size+1+1+1) w' W)=>HMV.out W (hW.back hb));replace HW:=HW.trans hb;replace HZ:=aA0 (HZ.out.keep hb);clear hb hNT hz)
  | (go_simp;go_at_call 93;refine (aXp _ g _ (HGV.out _ (aA3 HW)) HG.out).mono ?_;rintro e w' ⟨rfl,hb⟩;replace HNT:=aA0 (fun W (hW:aC4 (w.heap.size+1+1+1) w' W)=>HNT.out W (hW.back hb));replace HMV:=aA0 (fun W (hW:aC4 (w.heap.size+1+1+1) w' W)=>HMV.out W (hW.back hb));replace HW:=HW.trans hb;replace HZ:=aA0 (HZ.out.keep hb);clear hb;have z0:=HZ.out.cell 0 (v := .pointer none) rfl;have f0:=HZ.out.frozen 0;have z1:=HZ.out.cell 1 (v := .slice none 0 0) rfl;have f1:=HZ.out.frozen 1;have z2:=HZ.out.cell 2 (v := .int .i64 0) rfl;have f2:=HZ.out.frozen 2;have z3:=HZ.out.cell 3 (v := .int .u32 0) rfl;have f3:=HZ.out.frozen 3;have z4:=HZ.out.cell 4 (v := .nilFunc) rfl;have f4:=HZ.out.frozen 4;have zl:=HZ.out.lt))
 go_wp2_with fail
 have HR9:Blk (((((w'.setCell ⟨w.heap.size+1+1,0,none⟩ (.pointer (some ⟨bm,0,none⟩))).setCell ⟨w.heap.size+1+1,1,none⟩ (.slice AN g.ports.length kn)).setCell ⟨w.heap.size+1+1,2,none⟩ (.int .i64 kind)).setCell ⟨w.heap.size+1+1,3,none⟩ (.int .u32 (aHn g.ports.length (fun _=>true):Nat))).setCell ⟨w.heap.size+1+1,4,none⟩ (.func (.func fs) #[] capsS)) (w.heap.size+1+1) #[.pointer (some ⟨bm,0,none⟩),.slice AN g.ports.length kn,.int .i64 kind,.int .u32 (aHn g.ports.length (fun _=>true):Nat),.func (.func fs) #[] capsS] 114:=(((((HZ.out.set 0 _).set 1 _).set 2 _).set 3 _).set 4 _);have y0:=HR9.cell 0 (v := .pointer (some ⟨bm,0,none⟩)) rfl;have y1:=HR9.cell 1 (v := .slice AN g.ports.length kn) rfl;have y2:=HR9.cell 2 (v := .int .i64 kind) rfl;have y3:=HR9.cell 3 (v := .int .u32 (aHn g.ports.length (fun _=>true):Nat)) rfl;have y4:=HR9.cell 4 (v := .func (.func fs) #[] capsS) rfl;refine bodyPost_ret (v := .agg #[.pointer (some ⟨bm,0,none⟩),.slice AN g.ports.length kn,.int .i64 kind,.int .u32 (aHn g.ports.length (fun _=>true):Nat),.func (.func fs) #[] capsS]) (by simp [results,Tryz.results49,go_sem,y0,y1,y2,y3,y4];try go_simp) rfl ?_
 have hbf:=aA3 HW;have hsz:=hbf.size;refine ⟨bm,AN,kn,rfl,fun W hW q1 q2=>?_,(((((hbf.setCell (by simp;omega) _).setCell (by simp;omega) _).setCell (by simp;omega) _).setCell (by simp;omega) _).setCell (by simp;omega) _)⟩
 have hW':aC4 (w.heap.size+1+1+1) w' W:=(((((hW.up (by omega:w.heap.size<=w.heap.size+1+1+1)).unset (by omega)).unset (by omega)).unset (by omega)).unset (by omega)).unset (by omega)
 exact ⟨HMV.out W hW' q1 q2,HNT.out W hW'⟩
end Go.Proofs.YtmoebklkkjbigaaGreatDoor

