/- Merged. -/
import Derived.Lib.BitFns
import Derived.Test.YtdcjnhoabbdanaaGreatDoorZ06
import Derived.Maps.Own
import Derived.Maps.OwnOps
import Derived.Maps.OwnSet
import Derived.Maps.Views
import Derived.WideKeyArr
import Derived.Maps.RangeWalk
import Derived.Deep.WholeRow
import Derived.Laws.OwnMore
import Derived.Laws.CopyOwn
set_option linter.unusedSimpArgs false
set_option linter.unnecessarySimpa false
set_option linter.unusedVariables false
set_option maxRecDepth 100000
set_option maxHeartbeats 2000000
open Go.Proofs.Tryz

namespace Go.Proofs.YtdcjnhoabbdanaaGreatDoor
def aFr (n:Nat) (h:Nat->Bool):Nat:=(List.range n).foldl (fun s v=>if h v then s|||2 ^ v else s) 0
theorem aY1 (h:Nat->Bool):aFr 0 h=0:=rfl
theorem aFs (n:Nat) (h:Nat->Bool):aFr (n+1) h=if h n then aFr n h|||2 ^ n else aFr n h:=by
 unfold aFr;rw [List.range_succ,List.foldl_append];rfl
theorem aIp (n:Nat) (h:Nat->Bool) (v:Nat):(aFr n h).testBit v=(decide (v<n)&&h v):=by
 induction n with
 | zero=>simp [aY1]
 | succ n ih =>
  rw [aFs]
  by_cases hv:v=n
  .subst hv
   cases hh:h v with
   | false=>simp [ih]
   | true=>simp [Nat.testBit_or,Nat.testBit_two_pow_self]
  .have e:decide (v<n+1)=decide (v<n):=by rw [decide_eq_decide];omega
   rw [e];cases hh:h n with
   | false=>simpa using ih
   | true =>
    simp only [if_true,Nat.testBit_or,ih,Nat.testBit_two_pow]
    have:decide (n=v)=false:=by simp;omega
    rw [this,Bool.or_false]
theorem aY0 (n:Nat) (h:Nat->Bool):aFr n h<2 ^ n:=by
 apply Nat.lt_pow_two_of_testBit
 intro i hi
 rw [aIp,decide_eq_false (by omega)];rfl
theorem aGq {n:Nat} (h:Nat->Bool) (hn:n<=32):aFr n h<4294967296 :=
 Nat.lt_of_lt_of_le (aY0 n h) (Nat.pow_le_pow_right (n:=2) (by decide) hn)
def aBn (S T:Nat):Bool:=(List.range 32).all fun i => !S.testBit i||T.testBit i
def aLw (S:Nat) (x:Int):Bool:=decide (0<=x)&&decide (x<32)&&S.testBit x.toNat
theorem aU3 {S T:Nat} (hS:S<4294967296) (hT:T<4294967296) (h:∀ v,v<32->S.testBit v=T.testBit v):S=T:=by
 refine Nat.eq_of_testBit_eq fun v=>?_
 rcases Nat.lt_or_ge v 32 with hv | hv
 .exact h v hv
 .have e:(4294967296:Nat)<=2 ^ v:=Nat.pow_le_pow_right (n:=2) (i:=32) (by decide) hv
  rw [Nat.testBit_lt_two_pow (Nat.lt_of_lt_of_le hS e),Nat.testBit_lt_two_pow (Nat.lt_of_lt_of_le hT e)]
theorem aBm {S T:Nat}:aBn S T=true↔∀ v,v<32->S.testBit v=true->T.testBit v=true:=by
 unfold aBn;simp only [List.all_eq_true,List.mem_range,Bool.or_eq_true,Bool.not_eq_true']
 constructor
 .intro h v hv hS
  rcases h v hv with h | h
  .rw [h] at hS;cases hS
  .exact h
 .intro h v hv
  cases hb:S.testBit v with
  | false=>exact .inl rfl
  | true=>exact .inr (h v hv hb)
theorem aJv {S v:Nat} (hS:S<4294967296) (h:S.testBit v=true):v<32:=by
 rcases Nat.lt_or_ge v 32 with hv | hv
 .exact hv
 .have e:(4294967296:Nat)<=2 ^ v:=Nat.pow_le_pow_right (n:=2) (i:=32) (by decide) hv
  rw [Nat.testBit_lt_two_pow (Nat.lt_of_lt_of_le hS e)] at h;cases h
theorem aFu (i v:Nat):(2 ^ i).testBit v=decide (i=v):=Nat.testBit_two_pow
theorem aQg {n:Nat} (h:n<4294967296):IntKind.u32.wrap (n:Int)=(n:Int):=by simp [IntKind.wrap,IntKind.bits,IntKind.signed];omega
theorem aIg {v:Nat} (h:v<32):2 ^ v<4294967296:=Nat.pow_lt_pow_right (a:=2) (by decide) h
theorem bv32 (S:Nat):BitVec.ofInt IntKind.u32.bits (S:Int)=BitVec.ofNat 32 S:=by
 simp [IntKind.bits]
theorem aWl {S T:Nat} (hS:S<4294967296) (hT:T<4294967296):bits .or .u32 (S:Int) (T:Int)=((S|||T:Nat):Int):=by
 have e:(BitVec.ofNat 32 S|||BitVec.ofNat 32 T).toNat=S|||T:=by
  simp only [BitVec.toNat_or,BitVec.toNat_ofNat]
  rw [Nat.mod_eq_of_lt (by omega),Nat.mod_eq_of_lt (by omega)]
 unfold bits;simp only [bv32]
 show IntKind.u32.wrap ((BitVec.ofNat 32 S|||BitVec.ofNat 32 T).toNat:Int)=_
 rw [e];exact aQg (Nat.or_lt_two_pow (n:=32) hS hT)
theorem aCs {S T:Nat} (hS:S<4294967296) (_hT:T<4294967296):bits .and .u32 (S:Int) (T:Int)=((S&&&T:Nat):Int):=by
 have e:(BitVec.ofNat 32 S&&&BitVec.ofNat 32 T).toNat=S&&&T:=by
  simp only [BitVec.toNat_and,BitVec.toNat_ofNat]
  rw [Nat.mod_eq_of_lt (by omega),Nat.mod_eq_of_lt (by omega)]
 unfold bits;simp only [bv32]
 show IntKind.u32.wrap ((BitVec.ofNat 32 S&&&BitVec.ofNat 32 T).toNat:Int)=_
 rw [e];exact aQg (Nat.and_lt_two_pow (n:=32) S _hT)
def aF0 (S T:Nat):Nat:=(BitVec.ofNat 32 S&&&~~~BitVec.ofNat 32 T).toNat
theorem aM3 (S T:Nat):aF0 S T<4294967296:=(BitVec.ofNat 32 S&&&~~~BitVec.ofNat 32 T).isLt
theorem aEc (S T:Nat):bits .andNot .u32 (S:Int) (T:Int)=((aF0 S T:Nat):Int):=by
 unfold bits;simp only [bv32]
 exact aQg (aM3 S T)
theorem aQr {S T:Nat} (hS:S<4294967296) (v:Nat):(aF0 S T).testBit v=(S.testBit v && !T.testBit v):=by
 rcases Nat.lt_or_ge v 32 with hv | hv
 .unfold aF0
  rw [BitVec.testBit_toNat,BitVec.getLsbD_and,BitVec.getLsbD_not,BitVec.getLsbD_ofNat,BitVec.getLsbD_ofNat];simp [hv]
 .have e:(4294967296:Nat)<=2 ^ v:=Nat.pow_le_pow_right (n:=2) (i:=32) (by decide) hv
  rw [Nat.testBit_lt_two_pow (Nat.lt_of_lt_of_le (aM3 S T) e),Nat.testBit_lt_two_pow (Nat.lt_of_lt_of_le hS e)];rfl
theorem aIj {S T:Nat} (hS:S<4294967296):(aF0 S T==0)=aBn S T:=by
 rw [Bool.eq_iff_iff,beq_iff_eq,aBm];constructor
 .intro h v _ hv
  have:=aQr (T:=T) hS v;rw [h,Nat.zero_testBit,hv] at this;simpa using this.symm
 .intro h
  refine Nat.eq_of_testBit_eq fun v=>?_
  rw [aQr hS,Nat.zero_testBit];cases hb:S.testBit v with
  | false=>rfl
  | true=>rw [h v (aJv hS hb) hb];rfl
theorem bAy (S v:Nat):(S >>> v)&&&1=(S.testBit v).toNat:=by
 rw [Nat.and_one_is_mod,Nat.shiftRight_eq_div_pow,Nat.testBit_eq_decide_div_mod_eq];have:=Nat.mod_lt (S / 2 ^ v) (show 0<2 by decide)
 by_cases h:S / 2 ^ v % 2=1
 .rw [h];simp
 .have:S / 2 ^ v % 2=0:=by omega
  rw [this];simp
theorem aSn {S v:Nat} (hS:S<4294967296):bits .and .u32 ((S:Int) / 2 ^ v) 1=((S.testBit v).toNat:Int):=by
 have h1:(S:Int) / 2 ^ v=((S >>> v:Nat):Int):=by rw [Nat.shiftRight_eq_div_pow];simp
 rw [h1,show (1:Int)=((1:Nat):Int) from rfl,aCs (by have:=Nat.shiftRight_le S v;omega) (by decide),bAy]
theorem aFz {S v:Nat} (hS:S<4294967296) (hv:v<32):bits .or .u32 (S:Int) (2 ^ v % 4294967296)=((S|||2 ^ v:Nat):Int):=by
 have h:=aIg hv
 have e:(2:Int) ^ v % 4294967296=((2 ^ v:Nat):Int):=by
  have e2:(2:Int) ^ v=((2 ^ v:Nat):Int):=by rw [Int.natCast_pow];rfl
  rw [e2];exact Int.emod_eq_of_lt (b:=4294967296) (Int.natCast_nonneg _) (Int.ofNat_lt.2 h)
 rw [e,aWl hS h]
theorem aYc {x:Int} (h:(Lit.int .u32 x).wf=true):∃ S:Nat,x=(S:Int)/\S<4294967296:=by
 have h1:0<=x/\x<=4294967295:=by
  simp [Lit.wf,IntKind.min,IntKind.max,IntKind.signed,IntKind.bits] at h
  omega
 obtain ⟨S,rfl⟩:=Int.eq_ofNat_of_zero_le h1.1;exact ⟨S,rfl,by omega⟩
theorem aY8 (b:Bool):((b.toNat:Int)==1)=b:=by cases b <;> rfl
open Go.RowKit
theorem aXi (f:FuncId) (caps:Array Value) (hp:Nat->Bool) (n:Nat) (w:World)
  (hf:∀ v w',v<n->Bel w w'->Calls prog f (#[.int .i64 (v:Int)]++caps) w' fun e w2=>e = .returned (.bool (hp v))/\Bel w' w2)
  (hcall:∀ a w',(callFunc f (#[a]++caps)).run prog w' = .ok (.enter f (#[a]++caps)) w') (hn:n<=24) :
  Calls prog 106 #[.int .i64 (n:Int),.func (.func f) #[] caps] w fun e w'=>e = .returned (.int .u32 (aFr n hp:Nat))/\Bel w w':=by
 have HF:=aA0 hf;clear hf;go_enter func106,ntmps106
 go_wp2_with fail
 have HB:=Bel.refl w
 go_loopg [5,6,8] n (fun m s _x z wr=>∃ v:Nat,v<=n/\m=n-v/\z = .int .i64 v/\s = .int .u32 (aFr v hp:Nat)/\Bel w wr)
 case atStart=>exact ⟨0,by omega,rfl,rfl,rfl,HB⟩
 case round =>
  clear HB;obtain ⟨v,hv,rfl,rfl,rfl,HB⟩:=hrel
  by_cases hlt:v<n
  .have hd0:decide (v<n)=true:=by simpa using hlt
   have hsl:=aGq hp (show v<=32 by omega)
   cases hb:hp v with
   | true =>
    go_wp2_with (((with_reducible refine (HF.out _ _ hlt HB).mono ?_);rintro e w' ⟨rfl,hbb⟩;rw [hb];replace HB:=HB.trans hbb;clear hbb))
    go_roundg (n-(v+1))
    case rel=>exact ⟨v+1,by omega,rfl,by go_num,by rw [aFs,hb,if_pos rfl,aFz hsl (by omega)],HB⟩
    case measure=>omega
   | false =>
    go_wp2_with (((with_reducible refine (HF.out _ _ hlt HB).mono ?_);rintro e w' ⟨rfl,hbb⟩;rw [hb];replace HB:=HB.trans hbb;clear hbb))
    go_roundg (n-(v+1))
    case rel=>exact ⟨v+1,by omega,rfl,by go_num,by rw [aFs,hb];rfl,HB⟩
    case measure=>omega
  .have hd0:decide (v<n)=false:=by simpa using hlt
   obtain rfl:v=n:=by omega
   go_wp2_with fail
   go_ret;exact ⟨rfl,HB⟩
theorem aEg (S:Nat) (x:Int) (w:World) (hS:S<4294967296) :
  Calls prog 55 #[.int .u32 (S:Int),.int .i64 x] w fun e w'=>e = .returned (.bool (aLw S x))/\w=w':=by
 have HF:Hid (aLw S x=(decide (0<=x)&&decide (x<32)&&S.testBit x.toNat)):=rfl
 by_cases h0:0<=x
 .have d0:decide (0<=x)=true:=by simpa using h0
  rw [d0] at HF;obtain ⟨v,rfl⟩:=Int.eq_ofNat_of_zero_le h0
  by_cases h1:v<32
  .have d1:decide ((v:Int)<32)=true:=by simp;omega
   have d2:decide (v<32)=true:=by simpa using h1
   rw [d1,Int.toNat_natCast] at HF;clear h0;have hq:=aSn (v:=v) hS;go_enter func55,ntmps55
   go_wp2_with fail
   go_ret;exact ⟨aA2 (by rw [HF.out];simp [aY8]),rfl⟩
  .have d1:decide ((v:Int)<32)=false:=by simp;omega
   have d2:decide (v<32)=false:=by simpa using h1
   rw [d1] at HF;clear h0;go_enter func55,ntmps55
   go_wp2_with fail
   go_ret;exact ⟨aA2 (by rw [HF.out];simp),rfl⟩
 .have d0:decide (0<=x)=false:=by simpa using h0
  rw [d0] at HF;go_enter func55,ntmps55
  go_wp2_with fail
  go_ret;exact ⟨aA2 (by rw [HF.out];simp),rfl⟩
theorem aMd (x y a b:Nat) (ha:a<2) (hb:b<2):(2*x+a)&&&(2*y+b)=2*(x&&&y)+a*b:=by
 have hab:a*b<2:=by
  have h1:a=0∨a=1:=by omega
  rcases h1 with rfl | rfl <;> omega
 refine Nat.eq_of_testBit_eq fun i=>?_
 rw [Nat.testBit_and];cases i with
 | zero =>
  have h1:a=0∨a=1:=by omega
  have h2:b=0∨b=1:=by omega
  rcases h1 with rfl | rfl <;> rcases h2 with rfl | rfl <;> simp [Nat.testBit_zero] <;> omega
 | succ i =>
  rw [Nat.testBit_succ,Nat.testBit_succ,Nat.testBit_succ,show (2*x+a) / 2=x by omega,show (2*y+b) / 2=y by omega,show (2*(x&&&y)+a*b) / 2=x&&&y by omega,Nat.testBit_and]
theorem bA9 (n:Nat):∃ x a,a<2/\n=2*x+a:=⟨n / 2,n % 2,Nat.mod_lt _ (by decide),by omega⟩
theorem aUd {s S:Nat} (h:s&&&S=s):s<=S:=by rw [<- h];exact Nat.and_le_right
theorem aXj:∀ n S:Nat,S<n->S≠0->∃ k m,S=2 ^ k*(2*m+1):=by
 intro n
 induction n with
 | zero=>intro S h;omega
 | succ n ih =>
  intro S h h0
  obtain ⟨x,a,ha,rfl⟩:=bA9 S
  by_cases h1:a=1
  .subst h1;exact ⟨0,x,by omega⟩
  .obtain rfl:a=0:=by omega
   obtain ⟨k,m,e⟩:=ih x (by omega) (by omega)
   exact ⟨k+1,m,by rw [Nat.pow_succ,e];rw [Nat.mul_right_comm,Nat.mul_comm];omega⟩
theorem aWf (w:Nat):∀ S,S<2 ^ w->S&&&(2 ^ w-1-S)=0:=by
 induction w with
 | zero => intro S h; have : S = 0 := by simpa using h
           subst this;rfl
 | succ w ih =>
  intro S h
  obtain ⟨x,a,ha,rfl⟩:=bA9 S;have hp:2 ^ (w+1)=2*2 ^ w:=by rw [Nat.pow_succ];omega
  rw [show 2 ^ (w+1)-1-(2*x+a)=2*(2 ^ w-1-x)+(1-a) by omega,aMd _ _ _ _ ha (by omega),ih x (by omega)]
  have h1:a=0∨a=1:=by omega
  rcases h1 with rfl | rfl <;> rfl
theorem aYn (x y:Nat):(2*x)&&&(2*y)=2*(x&&&y):=by
 have:=aMd x y 0 0 (by decide) (by decide)
 simpa using this
theorem aUu (k m:Nat):2 ^ k*(2*m+1)&&&(2 ^ k*(2*m+1)-1)=2 ^ k*(2*m):=by
 induction k with
 | zero =>
  have:=aMd m m 1 0 (by decide) (by decide)
  simpa using this
 | succ k ih =>
  have hpos:0<2 ^ k*(2*m+1):=Nat.mul_pos (Nat.two_pow_pos k) (by omega)
  rw [show 2 ^ (k+1)*(2*m+1)=2*(2 ^ k*(2*m+1)) by rw [Nat.pow_succ,Nat.mul_comm (2 ^ k) 2,Nat.mul_assoc],
   show 2 ^ (k+1)*(2*m)=2*(2 ^ k*(2*m)) by rw [Nat.pow_succ,Nat.mul_comm (2 ^ k) 2,Nat.mul_assoc]]
  generalize 2 ^ k*(2*m+1)=S at *;have h:=aMd S (S-1) 0 1 (by decide) (by decide)
  rw [show 2*(S-1)+1=2*S-1 by omega] at h
  rw [<- ih];simpa using h
theorem bAn (k:Nat):∀ w m,2 ^ k*(2*m+1)<2 ^ w->2 ^ k*(2*m+1)&&&(2 ^ w-2 ^ k*(2*m+1))=2 ^ k:=by
 induction k with
 | zero =>
  intro w m h
  cases w with
  | zero=>simp at h
  | succ w =>
   have hp:2 ^ (w+1)=2*2 ^ w:=by rw [Nat.pow_succ];omega
   simp only [Nat.pow_zero,Nat.one_mul] at h ⊢
   rw [show 2 ^ (w+1)-(2*m+1)=2*(2 ^ w-1-m)+1 by omega,aMd _ _ _ _ (by decide) (by decide),aWf w m (by omega)]
 | succ k ih =>
  intro w m h
  have e:2 ^ (k+1)*(2*m+1)=2*(2 ^ k*(2*m+1)):=by rw [Nat.pow_succ,Nat.mul_comm (2 ^ k) 2,Nat.mul_assoc]
  rw [e] at h ⊢;cases w with
  | zero =>
   have hpos:0<2 ^ k*(2*m+1):=Nat.mul_pos (Nat.two_pow_pos k) (by omega)
   omega
  | succ w =>
   have hp:2 ^ (w+1)=2*2 ^ w:=by rw [Nat.pow_succ];omega
   have h2:=ih w m (by omega)
   rw [show 2 ^ (w+1)-2*(2 ^ k*(2*m+1))=2*(2 ^ w-2 ^ k*(2*m+1)) by omega,aYn,h2,Nat.pow_succ]
   omega
def aAe (S:Nat):List Nat:=(List.range 32).filter (S.testBit ·)
theorem aGz:aAe 0=[]:=by unfold aAe;simp
theorem aCy {S v:Nat}:v∈aAe S↔v<32/\S.testBit v=true:=by unfold aAe;simp [List.mem_filter]
theorem bA3 {k m w:Nat} (h:2 ^ k*(2*m+1)<2 ^ w):k<w:=by
 rcases Nat.lt_or_ge k w with hk | hk
 .exact hk
 .have h1:2 ^ w<=2 ^ k:=Nat.pow_le_pow_right (by decide) hk
  have h2:2 ^ k*1<=2 ^ k*(2*m+1):=Nat.mul_le_mul_left _ (by omega)
  omega
theorem aSo (k m i:Nat):(2 ^ k*(2*m+1)).testBit i=(decide (i=k)||(2 ^ k*(2*m)).testBit i):=by
 rw [Nat.testBit_two_pow_mul,Nat.testBit_two_pow_mul]
 by_cases h:i=k
 .subst h;simp [Nat.testBit_zero]
 .by_cases hk:k<=i
  .obtain ⟨j,rfl⟩:∃ j,i=k+(j+1):=⟨i-k-1,by omega⟩
   rw [show k+(j+1)-k=j+1 by omega,Nat.testBit_succ,Nat.testBit_succ,show (2*m+1) / 2=2*m / 2 by omega]
   simp
  .simp [h,hk]
theorem aMe (k m i:Nat) (h:i<=k):(2 ^ k*(2*m)).testBit i=false:=by
 rw [Nat.testBit_two_pow_mul]
 by_cases hk:i=k
 .subst hk;simp [Nat.testBit_zero]
 .have:¬ i ≥ k:=by omega
  simp [this]
theorem aGy {k m:Nat} (h:2 ^ k*(2*m+1)<2 ^ 32):aAe (2 ^ k*(2*m+1))=k :: aAe (2 ^ k*(2*m)):=by
 have hk:k<32:=bA3 h;unfold aAe;obtain ⟨d,hd⟩:∃ d,32=k+(1+d):=⟨31-k,by omega⟩
 rw [hd,List.range_add,List.filter_append,List.filter_append,List.range_add,List.map_append,List.filter_append,List.filter_append]
 have h1:∀ S:Nat,(∀ i,i<k->S.testBit i=false)->(List.range k).filter (S.testBit ·)=[]:=by
  intro S hS;rw [List.filter_eq_nil_iff];intro a ha;rw [hS a (List.mem_range.1 ha)];decide
 rw [h1 _ (fun i hi=>by rw [aSo,aMe k m i (by omega)];simp;omega),h1 _ (fun i hi=>aMe k m i (by omega))]
 have h2:(List.map (k+·) (List.range 1))=[k]:=rfl;rw [h2,List.nil_append,List.nil_append];have e1:List.filter (fun x=>(2 ^ k*(2*m+1)).testBit x) [k]=[k]:=by simp [aSo]
 have e2:List.filter (fun x=>(2 ^ k*(2*m)).testBit x) [k]=[]:=by simp [aMe k m k (Nat.le_refl _)]
 rw [e1,e2,List.nil_append,List.singleton_append]
 congr 1
 refine List.filter_congr fun i hi=>?_
 simp only [List.mem_map,List.mem_range] at hi
 obtain ⟨a,⟨b,_,rfl⟩,rfl⟩:=hi;rw [aSo];have:¬ k+(1+b)=k:=by omega
 simp [this]
def aS1:List (Int × Int)->Int
 | []=>1
 | b :: bs=>(b.2-b.1+1)*aS1 bs
def okL (bs:List (Int × Int)):Prop:=∀ b∈bs,b.1<=b.2
def inL:List (Int × Int)->List Int->Prop
 | [],[]=>True
 | b :: bs,c :: cs=>b.1<=c/\c<=b.2/\inL bs cs
 | _,_=>False
theorem aU6 {b:Int × Int} {bs:List (Int × Int)} (h:okL (b :: bs)):b.1<=b.2/\okL bs :=
 ⟨h b (List.mem_cons_self ..),fun x hx=>h x (List.mem_cons_of_mem _ hx)⟩
theorem aNw:∀ {bs:List (Int × Int)},okL bs->0<aS1 bs
 | [],_=>by decide
 | b :: bs,h=>Int.mul_pos (by have:=(aU6 h).1;omega) (aNw (aU6 h).2)
def aOe:List (List (Int × Int))->Int
 | []=>1
 | t :: T=>aS1 t*aOe T
def okN (T:List (List (Int × Int))):Prop:=∀ t∈T,okL t
def inN:List (List (Int × Int))->List (List Int)->Prop
 | [],[]=>True
 | t :: T,c :: C=>inL t c/\inN T C
 | _,_=>False
theorem aU7 {t:List (Int × Int)} {T:List (List (Int × Int))} (h:okN (t :: T)):okL t/\okN T :=
 ⟨h t (List.mem_cons_self ..),fun x hx=>h x (List.mem_cons_of_mem _ hx)⟩
theorem aS2:∀ {T:List (List (Int × Int))},okN T->0<aOe T
 | [],_=>by decide
 | _ :: _,h=>Int.mul_pos (aNw (aU7 h).1) (aS2 (aU7 h).2)
theorem aSu {S n:Nat} (hn:n<=32) (hS:S<2 ^ n):aAe S=(List.range n).filter (S.testBit ·):=by
 unfold aAe;rw [show (32:Nat)=n+(32-n) by omega,List.range_add,List.filter_append]
 have e:List.filter (fun x=>S.testBit x) (List.map (n+·) (List.range (32-n)))=[]:=by
  rw [List.filter_eq_nil_iff];intro a ha
  simp only [List.mem_map,List.mem_range] at ha
  obtain ⟨b,_,rfl⟩:=ha;rw [Nat.testBit_lt_two_pow (Nat.lt_of_lt_of_le hS (Nat.pow_le_pow_right (by decide) (Nat.le_add_right n b)))]
  decide
 rw [e,List.append_nil]
def bruijn:List Nat:=[0,1,28,2,29,14,24,3,30,22,20,15,25,17,4,8,31,27,13,23,21,19,16,7,26,12,18,6,11,5,10,9]
theorem aWo:∀ k,k<32->bruijn[(2 ^ k*125613361 % 4294967296) / 134217728]?=some k:=by decide
def lsb (S:Nat):Nat:=S&&&(4294967296-S)
theorem aEw {S:Nat} (hS:S<4294967296) (h0:S≠0):∃ k m,S=2 ^ k*(2*m+1)/\k<32/\lsb S=2 ^ k/\S&&&(S-1)=2 ^ k*(2*m)/\aAe S=k :: aAe (2 ^ k*(2*m)):=by
 obtain ⟨k,m,e⟩:=aXj (S+1) S (Nat.lt_succ_self S) h0;have h32:2 ^ k*(2*m+1)<2 ^ 32:=by rw [<- e];exact hS
 refine ⟨k,m,e,bA3 h32,?_,?_,?_⟩
 .unfold lsb;rw [e];exact bAn k 32 m h32
 .rw [e];exact aUu k m
 .rw [e];exact aGy h32
theorem aU2:lsb 0=0:=by decide
theorem aU1 {S:Nat}:lsb S&&&S=lsb S:=by unfold lsb;rw [Nat.and_comm (S&&&_) S,<- Nat.and_assoc,Nat.and_self]
theorem aXb {S:Nat} (hS:S<4294967296) (h0:S≠0):lsb S≠0:=by
 obtain ⟨k,m,_,_,h,_⟩:=aEw hS h0;rw [h];exact Nat.ne_of_gt (Nat.two_pow_pos k)
theorem aU0 {S:Nat} (hS:S<4294967296):lsb S<4294967296:=Nat.lt_of_le_of_lt Nat.and_le_left hS
theorem aIx {S:Nat} (hS:S<4294967296):(aAe S).length=0↔S=0:=by
 constructor
 .intro h
  by_cases h0:S=0
  .exact h0
  .obtain ⟨k,m,_,_,_,_,e⟩:=aEw hS h0
   rw [e] at h;simp at h
 .rintro rfl;rw [aGz];rfl
theorem aVu {S:Nat} (hS:S<4294967296) (h0:S≠0):(S&&&(S-1)==0)=decide ((aAe S).length=1):=by
 obtain ⟨k,m,e,_,_,h2,h3⟩:=aEw hS h0
 have hlt:2 ^ k*(2*m)<4294967296:=by
  have:2 ^ k*(2*m)<=2 ^ k*(2*m+1):=Nat.mul_le_mul_left _ (by omega)
  omega
 rw [h2,h3,List.length_cons,Bool.eq_iff_iff,beq_iff_eq,decide_eq_true_eq];rw [show ((aAe (2 ^ k*(2*m))).length+1=1)↔(aAe (2 ^ k*(2*m))).length=0 by omega,aIx hlt]
theorem aR6 {S:Nat} (hS:S<4294967296):lsb S=0↔S=0:=by
 constructor
 .intro h
  by_cases h0:S=0
  .exact h0
  .exact absurd h (aXb hS h0)
 .rintro rfl;exact aU2
theorem aZ9 {S:Nat} (hS:S<4294967296):lsb S=match (aAe S).head? with | some v=>2 ^ v | none=>0:=by
 by_cases h0:S=0
 .subst h0;rw [aGz];exact aU2
 .obtain ⟨k,m,_,_,h1,_,h3⟩:=aEw hS h0
  rw [h3,h1];rfl
def aYt (b:Nat):Nat:=((List.range 8).filter (b.testBit ·)).length
theorem aZo:∀ n:Fin 256,Lib.onesCount n.val=aYt n.val:=by decide +kernel
theorem aQ4 {b:Nat} (h:b<256):Lib.pop8 (b:Int)=(aYt b:Int):=by
 have h1:=Lib.pop8_eq ⟨b,h⟩;have h2:=aZo ⟨b,h⟩;simp only at h1 h2
 rw [h1,h2]
theorem aPj (b:Nat):aYt b<=8:=Nat.le_trans (List.length_filter_le _ _) (by simp)
theorem aM2 (S s:Nat):(List.filter (S.testBit ·) ((List.range 8).map (s+·))).length=aYt (S / 2 ^ s % 256):=by
 unfold aYt;rw [List.filter_map,List.length_map]
 congr 1
 refine List.filter_congr fun i hi=>?_
 have hi:=List.mem_range.1 hi;show S.testBit (s+i)=(S / 2 ^ s % 2 ^ 8).testBit i
 rw [Nat.testBit_mod_two_pow,decide_eq_true hi,Bool.true_and,Nat.testBit_div_two_pow,Nat.add_comm]
theorem aSv {S:Nat} (hS:S<4294967296):(aAe S).length=aYt (S / 16777216)+aYt (S / 65536 % 256)+aYt (S / 256 % 256)+aYt (S % 256):=by
 have e:List.range 32=(List.range 8).map (0+·)++((List.range 8).map (8+·)++((List.range 8).map (16+·)++(List.range 8).map (24+·))):=by decide
 unfold aAe;rw [e,List.filter_append,List.filter_append,List.filter_append,List.length_append,List.length_append,List.length_append,aM2,aM2,aM2,aM2];have e3:S / 2 ^ 24 % 256=S / 16777216:=by omega
 have e0:S / 2 ^ 0 % 256=S % 256:=by simp
 rw [e3,e0,show (2 ^ 16:Nat)=65536 by decide,show (2 ^ 8:Nat)=256 by decide]
 omega
def wOf (ls:List Link) (b:Int):Int:=match ls.find? (fun l=>l.to==b) with | some l=>l.weight | none=>0
def mOf (ports:List (List Link)) (v j:Nat) (a b:Int):Int :=
 if 0<=a/\a<(v:Int) then wOf (ports.getD a.toNat []) b else if a=(v:Int) then wOf ((ports.getD v []).take j) b else 0
def aZu (ports:List (List Link)):Bool :=
 (List.range ports.length).all (fun v=>aCt ports.length v (ports.getD v []))&&(List.range ports.length).all (fun v=>(ports.getD v []).all (aFy ⟨[],ports⟩ v))
structure SymOK (ports:List (List Link)):Prop where
 links:∀ v,(h:v<ports.length)->aCt ports.length v ports[v]=true
 back:∀ v,(h:v<ports.length)->∀ l∈ports[v],aFy ⟨[],ports⟩ v l=true
theorem aUk (ports:List (List Link)):aZu ports=true↔SymOK ports:=by
 unfold aZu;simp only [Bool.and_eq_true,List.all_eq_true,List.mem_range]
 constructor
 .rintro ⟨h6,h7⟩
  exact ⟨fun v hv=>by have:=h6 v hv;rwa [aAa hv] at this,fun v hv l hl=>by have:=h7 v hv;rw [aAa hv] at this;exact this l hl⟩
 .rintro ⟨h6,h7⟩
  exact ⟨fun v hv=>by rw [aAa hv];exact h6 v hv,fun v hv=>by rw [aAa hv];exact h7 v hv⟩
theorem aL3 {ports:List (List Link)} (h:¬ SymOK ports):aZu ports=false:=by
 rw [Bool.eq_false_iff];intro hb;exact h ((aUk ports).1 hb)
theorem aV6 (g:Graph):aEa g=(decide (1<=g.ports.length/\g.ports.length<=24/\g.ids.length=g.ports.length)&&aO4 g.ids&&aZu g.ports):=by
 unfold aEa aZu;have:∀ v,aFy g v=aFy ⟨[],g.ports⟩ v:=fun v=>rfl;simp only [this,Bool.and_assoc]
theorem bB0 {ls:List Link} {b:Int} (hw:∀ l∈ls,1<=l.weight) (h:wOf ls b=0):∀ l∈ls,l.to≠b:=by
 unfold wOf at h;cases hf:ls.find? (fun l=>l.to==b) with
 | none =>
  rw [List.find?_eq_none] at hf;intro l hl;simpa using hf l hl
 | some l =>
  rw [hf] at h;simp only [] at h
  have:=hw l (List.mem_of_find?_eq_some hf);omega
theorem aM8 {ls:List Link} {b:Int} (h:wOf ls b≠0):∃ l∈ls,l.to=b/\wOf ls b=l.weight:=by
 unfold wOf at *;cases hf:ls.find? (fun l=>l.to==b) with
 | none=>rw [hf] at h;exact absurd rfl h
 | some l=>exact ⟨l,List.mem_of_find?_eq_some hf,by simpa using List.find?_some hf,rfl⟩
theorem aP7 {ls:List Link} (hn:(ls.map Link.to).Nodup) {l:Link} (hl:l∈ls):wOf ls l.to=l.weight:=by
 unfold wOf;cases hf:ls.find? (fun k=>k.to==l.to) with
 | none =>
  rw [List.find?_eq_none] at hf;have:=hf l hl;simp at this
 | some k =>
  have h1:k.to=l.to:=by simpa using List.find?_some hf
  have h2:=List.mem_of_find?_eq_some hf;obtain ⟨i,hi,rfl⟩:=List.getElem_of_mem hl;obtain ⟨j,hj,rfl⟩:=List.getElem_of_mem h2
  have:i=j:=by
   rcases Nat.lt_trichotomy i j with h | h | h
   .exact absurd hn (aEq h (by simpa using hj) (by simp [h1]))
   .exact h
   .exact absurd hn (aEq h (by simpa using hi) (by simp [h1]))
  subst this;rfl
theorem aZy {ls:List Link} {j:Nat} (h:j<ls.length) (hno:∀ l∈ls.take j,l.to≠ls[j].to) (b:Int):wOf (ls.take (j+1)) b=if b=ls[j].to then ls[j].weight else wOf (ls.take j) b:=by
 unfold wOf;rw [List.take_succ_eq_append_getElem h,List.find?_append]
 by_cases hb:b=ls[j].to
 .subst hb
  have:(ls.take j).find? (fun l=>l.to==ls[j].to)=none:=by
   rw [List.find?_eq_none];intro l hl;simpa using hno l hl
  rw [this,if_pos rfl];simp
 .rw [if_neg hb]
  cases hf:(ls.take j).find? (fun l=>l.to==b) with
  | some l=>simp
  | none =>
   have:(ls[j].to==b)=false:=by simp;exact fun h=>hb h.symm
   simp [this]
theorem aZb {ports:List (List Link)} {v j:Nat} (hv:v<ports.length) (hj:j<ports[v].length) (hno:∀ l∈ports[v].take j,l.to≠ports[v][j].to) (a b:Int) :
  mOf ports v (j+1) a b=if a=(v:Int)/\b=ports[v][j].to then ports[v][j].weight else mOf ports v j a b:=by
 unfold mOf;rw [aAa hv]
 by_cases ha:a=(v:Int)
 .subst ha
  have hn:¬ (0<=(v:Int)/\(v:Int)<(v:Int)):=by omega
  simp only [if_neg hn,if_pos,true_and]
  rw [aZy hj hno]
 .rw [if_neg (c:=a=(v:Int)/\_) (fun h=>ha h.1)]
  simp only [if_neg ha]
theorem bAo {ports:List (List Link)} {v j:Nat} (hv:v<ports.length) (hj:ports[v].length<=j) (a b:Int):mOf ports v j a b=mOf ports (v+1) 0 a b:=by
 unfold mOf;rw [aAa hv,List.take_of_length_le hj]
 by_cases ha:a=(v:Int)
 .subst ha
  rw [if_neg (by omega),if_pos rfl,if_pos (by omega),Int.toNat_natCast,aAa hv]
 .by_cases h1:0<=a/\a<(v:Int)
  .rw [if_pos h1,if_pos (by omega)]
  .rw [if_neg h1,if_neg ha,if_neg (by omega)]
   split
   .simp [wOf]
   .rfl
theorem aXd (ports:List (List Link)) (a b:Int):mOf ports 0 0 a b=0:=by
 unfold mOf;rw [if_neg (by omega)]
 split
 .simp [wOf]
 .rfl
theorem aR7 {ports:List (List Link)} {n v j:Nat} (h:v<ports.length) (hn:v<n) (b:Int):mOf ports n j (v:Int) b=wOf ports[v] b:=by
 unfold mOf;rw [if_pos (by omega),Int.toNat_natCast,aAa h]
theorem aXc {ports:List (List Link)} {n:Nat} {a b:Int} (h:mOf ports n 0 a b≠0):0<=a/\a<(n:Int):=by
 unfold mOf at h;split at h
 .assumption
 .split at h
  .simp [wOf] at h
  .exact absurd rfl h
theorem aVw {ports:List (List Link)} (hl:∀ v,(h:v<ports.length)->aCt ports.length v ports[v]=true):SymOK ports↔∀ a b,mOf ports ports.length 0 a b≠0->mOf ports ports.length 0 b a=mOf ports ports.length 0 a b:=by
 constructor
 .intro hs a b hne
  obtain ⟨h0,h1⟩:=aXc hne;obtain ⟨v,rfl⟩:=Int.eq_ofNat_of_zero_le h0;have hv:v<ports.length:=by omega
  rw [aR7 hv hv] at hne ⊢;obtain ⟨l,hlm,rfl,he⟩:=aM8 hne;rw [he];obtain ⟨k1,k2⟩:=aBj.1 (hl v hv);obtain ⟨t0,t1,_⟩:=aBt.1 (k1 l hlm);obtain ⟨t,ht⟩:=Int.eq_ofNat_of_zero_le t0;have htl:t<ports.length:=by omega
  have hb:=hs.back v hv l hlm;unfold aFy at hb;simp only [] at hb
  rw [ht,Int.toNat_natCast,aAa htl,List.any_eq_true] at hb;obtain ⟨k,hk,hkk⟩:=hb;simp at hkk
  rw [ht,aR7 htl htl];have hu:=aP7 (aBj.1 (hl t htl)).2 hk;rw [hkk.1] at hu;rw [hu,hkk.2]
 .intro h
  refine ⟨hl,fun v hv l hlm=>?_⟩
  obtain ⟨k1,k2⟩:=aBj.1 (hl v hv);obtain ⟨t0,t1,_,t3,_⟩:=aBt.1 (k1 l hlm);obtain ⟨t,ht⟩:=Int.eq_ofNat_of_zero_le t0;have htl:t<ports.length:=by omega
  have hw:=aP7 k2 hlm;have h1:mOf ports ports.length 0 (v:Int) l.to=l.weight:=by rw [aR7 hv hv,hw]
  have h2:=h (v:Int) l.to (by rw [h1];omega)
  rw [h1,ht,aR7 htl htl] at h2;obtain ⟨k,hk,hk1,hk2⟩:=aM8 (ls:=ports[t]) (b:=(v:Int)) (by omega)
  unfold aFy;simp only []
  rw [ht,Int.toNat_natCast,aAa htl,List.any_eq_true];exact ⟨k,hk,by simp [hk1];omega⟩
open Go.RowKit Go.Maps
def aOh (P:Program) (k e:TypeId) (w:World) (b n:Nat) (ks:List Lit):Prop :=
 ∃ D:DataW Unit,w.ownsMap P k (plainElem P e) b n D/\IsMap D/\∀ kl,∃ x,D.atKey kl (.lit (.bool false)) = .lit (.bool x)/\(x=true↔kl∈ks)
theorem aOh.made (P:Program) (k e:TypeId) (w:World):aOh P k e (w.alloc (.map #[] 0)) w.heap.size 0 [] :=
 ⟨.map [],World.ownsMap_made w P k _,isMap_empty,fun kl=>⟨false,by simp [DataW.atKey],by simp⟩⟩
theorem aOh.kept {P:Program} {k e:TypeId} {w w':World} {b n:Nat} {ks:List Lit} {row:Option Nat} (h:aOh P k e w b n ks) (hg:w.grownBy w' row) (hne:some b≠row):aOh P k e w' b n ks:=by
 obtain ⟨D,h1,h2,h3⟩:=h;exact ⟨D,h1.kept hg hne,h2,h3⟩
theorem aOh.keep {P:Program} {k e:TypeId} {w w':World} {b n:Nat} {ks:List Lit} (h:aOh P k e w b n ks) (hb:Bel w w'):aOh P k e w' b n ks:=h.kept (hb.grownBy none) (by simp)
theorem aOh.lt {P:Program} {k e:TypeId} {w:World} {b n:Nat} {ks:List Lit} (h:aOh P k e w b n ks):b<w.heap.size:=by
 obtain ⟨D,h1,_,_⟩:=h;exact h1.lt
theorem aKe {P:Program} {e:TypeId} (he:P.underlying e=some .bool) {v:Value} {x:Bool} {ps:List MemPlace} (h:plainElem (H:=Unit) P e v=some (.lit (.bool x),ps)):v = .bool x:=by
 unfold plainElem at h;rw [he] at h;cases v <;> simp at h
 .rename_i b
  obtain ⟨h1,_⟩:=h;simp [h1]
theorem aOh.look {P:Program} {k e t:TypeId} {w:World} {b n:Nat} {ks:List Lit} (h:aOh P k e w b n ks) (K:Keyed P k) (ht:P.underlying t=some (.map k e)) (he:P.underlying e=some .bool) (hz:(zeroValue e).run P w = .ok (.bool false) w)
  {key:Value} {kl:Lit} (hkey:keyOf P k key=some kl):∃ x,(Instr.lookup t (.map (some b)) key false).run P w = .ok (.bool x) w/\(x=true↔kl∈ks):=by
 obtain ⟨D,h1,_,h3⟩:=h;obtain ⟨v,ps,hrun,hv⟩:=h1.lookup K ht hz (plainElem_bool he false) hkey;obtain ⟨x,hx,hi⟩:=h3 kl;rw [hx] at hv;exact ⟨x,by rw [hrun,aKe he hv],hi⟩
theorem aHd {P:Program} (w:World) {ops:Array Oper} {rest:List Oper} {o:Oper} {a:Act} {Q:Exit->Act->World->Prop}
  (hg:o.guard=none) (m x v:Operand) (t:TypeId) (hop:o.op=Op.mapUpdate t m x v)
  (k e:TypeId) (K:Keyed P k) (ht:P.underlying t=some (.map k e)) (he:P.underlying e=some .bool) (b n:Nat) (ks:List Lit)
  (hm:a.eval m = .map (some b)) (hown:aOh P k e w b n ks) (hn:n<maxLen) (key:Value) (kl:Lit) (hx:a.eval x=key) (hv:a.eval v = .bool true) (hkey:keyOf P k key=some kl) (hkl:WideAt.IsKeyLit kl)
  (hK:∀ w',aOh P k e w' b (n+1) (kl :: ks)->w.grownBy w' (some b)->wpList P ops Q rest (a.put o.dst undef) w') :
  wpList P ops Q (o :: rest) a w:=by
 obtain ⟨D,h1,h2,h3⟩:=hown;refine wpList_mapUpdate_own w hg m x v t hop k e K ht _ b n D hm h1 hn key (.bool true) kl hx hv hkey _ [] (plainElem_bool he true) ?_
 intro w' h4 h5
 refine hK w' ⟨_,h4,h2.put _ _,fun kl'=>?_⟩ h5
 by_cases hh:kl'=kl
 .subst hh
  exact ⟨true,by rw [atKey_put_same h2 hkl],by simp⟩
 .obtain ⟨x,hx,hi⟩:=h3 kl'
  exact ⟨x,by rw [atKey_put_other hh,hx],by rw [hi];simp [hh]⟩
theorem Bel.map {w wr w':World} (h:Bel w wr) {b:Nat} (hb:w.heap.size<=b) (hg:wr.grownBy w' (some b)):Bel w w':=h.grown hg (fun k hk=>by injection hk with hk;omega)
structure PairK (P:Program) (k e:TypeId):Prop where
 hu:P.underlying k=some (.array 2 e)
 he:P.underlying e=some (.int .i64)
 one:P.cellsOf e=1
 two:P.cellsOf k=2
 kt:P.keyType k=true
 sz:∃ m,P.types.size=m+1
def pk (a b:Int):Lit := .string (keyBytes [.int .i64 a,.int .i64 b])
def aO8 (x:Int × Int):Value := .agg #[.int .i64 x.1,.int .i64 x.2]
theorem PairK.law {P:Program} {k e:TypeId} (A:PairK P k e):Keyed P k :=
 Keyed.of_law (WideMaps.ArrKey.law ⟨A.hu,by unfold Program.plainKey;rw [A.he],A.one,A.two⟩)
theorem PairK.keyOf {P:Program} {k e:TypeId} (A:PairK P k e) {a b:Int} (ha:(Lit.int .i64 a).wf=true) (hb:(Lit.int .i64 b).wf=true):Go.keyOf P k (aO8 (a,b))=some (pk a b):=by
 obtain ⟨m,hm⟩:=A.sz;unfold Go.keyOf aO8;rw [A.hu];simp only []
 rw [A.kt];simp only [Value.formed,A.hu,A.two,Bool.true_and]
 rw [hm];simp only [Program.keyLits,A.hu,A.he,A.one,A.two,Value.cells,List.range,List.range.loop]
 simp [ha,hb,pk]
theorem PairK.inv {P:Program} {k e:TypeId} (A:PairK P k e) {v:Value} {l:Lit} (h:Go.keyOf P k v=some l):∃ x:Int × Int,v=aO8 x/\(Lit.int .i64 x.1).wf=true/\(Lit.int .i64 x.2).wf=true/\l=pk x.1 x.2:=by
 obtain ⟨m,hm⟩:=A.sz;unfold Go.keyOf at h;rw [A.hu] at h;simp only [] at h
 rw [A.kt] at h;cases v with
 | agg cs =>
  simp only [Value.formed,A.hu,A.two,Bool.true_and] at h
  split at h
  .rename_i hs
   obtain ⟨l'⟩:=cs;simp at hs
   match l',hs with
   | [u,v],_ =>
    rw [hm] at h;cases u with
    | int q a =>
     cases v with
     | int q' b =>
      simp only [Program.keyLits,A.hu,A.he,A.one,A.two,Value.cells,List.range,List.range.loop] at h
      by_cases h1:q = .i64/\(Lit.int .i64 a).wf=true
      .by_cases h2:q' = .i64/\(Lit.int .i64 b).wf=true
       .obtain ⟨rfl,h1⟩:=h1
        obtain ⟨rfl,h2⟩:=h2;simp [h1,h2] at h
        exact ⟨(a,b),rfl,h1,h2,h.symm⟩
       .simp [h1,h2] at h
      .simp [h1] at h
     | _=>simp [Program.keyLits,A.hu,A.he,A.one,A.two,Value.cells,List.range,List.range.loop] at h
    | _=>simp [Program.keyLits,A.hu,A.he,A.one,A.two,Value.cells,List.range,List.range.loop] at h
  .cases h
 | _=>simp [Value.formed,A.hu] at h
theorem bA6 {P:Program} {k e:TypeId} (A:PairK P k e) {a b c d:Int} (ha:(Lit.int .i64 a).wf=true) (hb:(Lit.int .i64 b).wf=true) (hc:(Lit.int .i64 c).wf=true) (hd:(Lit.int .i64 d).wf=true) (h:pk a b=pk c d):a=c/\b=d:=by
 have h1:=A.keyOf ha hb;have h2:=A.keyOf hc hd;rw [h] at h1;have:=A.law.inj h1 h2;simp [aO8] at this
 exact this
def aGd (P:Program) (k e:TypeId) (w:World) (b n:Nat) (D:DataW Unit) (M:Int->Int->Int):Prop :=
 w.ownsMap P k (plainElem P e) b n D/\IsMap D/\(∀ x y,(Lit.int .i64 x).wf=true->(Lit.int .i64 y).wf=true->D.atKey (pk x y) (.lit (.int .i64 0)) = .lit (.int .i64 (M x y))/\(has D (pk x y)=true↔M x y≠0))
theorem aGd.made (P:Program) (k e:TypeId) (w:World):aGd P k e (w.alloc (.map #[] 0)) w.heap.size 0 (.map []) (fun _ _=>0) :=
 ⟨World.ownsMap_made w P k _,isMap_empty,fun x y _ _=>⟨by simp [DataW.atKey],by simp [has]⟩⟩
theorem aGd.kept {P:Program} {k e:TypeId} {w w':World} {b n:Nat} {D:DataW Unit} {M:Int->Int->Int} {row:Option Nat} (h:aGd P k e w b n D M) (hg:w.grownBy w' row) (hne:some b≠row):aGd P k e w' b n D M :=
 ⟨h.1.kept hg hne,h.2⟩
theorem aGd.keep {P:Program} {k e:TypeId} {w w':World} {b n:Nat} {D:DataW Unit} {M:Int->Int->Int} (h:aGd P k e w b n D M) (hb:Bel w w'):aGd P k e w' b n D M:=h.kept (hb.grownBy none) (by simp)
theorem aGd.lookOk {P:Program} {k e t:TypeId} (A:PairK P k e) (ht:P.underlying t=some (.map k e)) {w:World} {b n:Nat} {D:DataW Unit} {M:Int->Int->Int} (h:aGd P k e w b n D M) (hz:(zeroValue e).run P w = .ok (.int .i64 0) w) {x y:Int} (hx:(Lit.int .i64 x).wf=true) (hy:(Lit.int .i64 y).wf=true) :
  (Instr.lookup t (.map (some b)) (aO8 (x,y)) true).run P w = .ok (.tuple #[.int .i64 (M x y),.bool (decide (M x y≠0))]) w:=by
 obtain ⟨v,ps,hrun,hv⟩:=h.1.look_ok A.law ht hz (plainElem_int A.he (by decide)) (A.keyOf hx hy)
 obtain ⟨h1,h2⟩:=h.2.2 x y hx hy;rw [h1] at hv;obtain ⟨c,rfl,hc,_⟩:=plainElem_int_inv A.he hv;simp at hc
 rw [hrun,<- hc.1]
 congr 3
 rw [show has D (pk x y)=decide (M x y≠0) by rw [Bool.eq_iff_iff];simpa using h2]
theorem aGd.look {P:Program} {k e t:TypeId} (A:PairK P k e) (ht:P.underlying t=some (.map k e)) {w:World} {b n:Nat} {D:DataW Unit} {M:Int->Int->Int} (h:aGd P k e w b n D M) (hz:(zeroValue e).run P w = .ok (.int .i64 0) w) {x y:Int} (hx:(Lit.int .i64 x).wf=true) (hy:(Lit.int .i64 y).wf=true) :
  (Instr.lookup t (.map (some b)) (aO8 (x,y)) false).run P w = .ok (.int .i64 (M x y)) w:=by
 obtain ⟨c,hrun,hc,_⟩:=h.1.lookup_int A.law ht A.he hz (A.keyOf hx hy);rw [(h.2.2 x y hx hy).1] at hc;simp at hc
 rw [hrun,hc]
def bB4 (M:Int->Int->Int) (x y c:Int):Int->Int->Int:=fun a b=>if a=x/\b=y then c else M a b
theorem aGd.put {P:Program} {k e:TypeId} (A:PairK P k e) {w':World} {b n:Nat} {D:DataW Unit} {M:Int->Int->Int} {x y c:Int} (hx:(Lit.int .i64 x).wf=true) (hy:(Lit.int .i64 y).wf=true) (hc:c≠0)
  (h2:IsMap D/\(∀ x y,(Lit.int .i64 x).wf=true->(Lit.int .i64 y).wf=true->D.atKey (pk x y) (.lit (.int .i64 0)) = .lit (.int .i64 (M x y))/\(has D (pk x y)=true↔M x y≠0)))
  (h:w'.ownsMap P k (plainElem P e) b n (D.put (pk x y) (.lit (.int .i64 c)))):aGd P k e w' b n (D.put (pk x y) (.lit (.int .i64 c))) (bB4 M x y c):=by
 refine ⟨h,h2.1.put _ _,fun a b ha hb=>?_⟩
 have hkl:WideAt.IsKeyLit (pk x y):=trivial
 by_cases he:a=x/\b=y
 .obtain ⟨rfl,rfl⟩:=he
  refine ⟨?_,?_⟩
  .rw [atKey_put_same h2.1 hkl];simp [bB4]
  .simp only [bB4]
   simp [hc]
   exact has_true_of_atKey (y := .lit (.int .i64 c)) (fun z=>atKey_put_same h2.1 hkl _ z)
 .have hne:pk a b≠pk x y:=fun h=>he (bA6 A ha hb hx hy h)
  have hM:bB4 M x y c a b=M a b:=by unfold bB4;rw [if_neg he]
  obtain ⟨g1,g2⟩:=h2.2 a b ha hb;refine ⟨by rw [atKey_put_other hne,hM,g1],?_⟩
  rw [hM,<- g2];constructor
  .intro hh
   cases hD:has D (pk a b) with
   | true=>rfl
   | false =>
    have:has (D.put (pk x y) (.lit (.int .i64 c))) (pk a b)=false:=has_false_of_atKey (fun z=>by rw [atKey_put_other hne,atKey_of_not_has hD])
    rw [this] at hh;cases hh
  .intro hh
   cases hD:has (D.put (pk x y) (.lit (.int .i64 c))) (pk a b) with
   | true=>rfl
   | false =>
    have:has D (pk a b)=false:=has_false_of_atKey (fun z=>by rw [<- atKey_put_other hne (.lit (.int .i64 c)),atKey_of_not_has hD])
    rw [this] at hh;cases hh
section
variable {P:Program}
theorem Blk.row {w:World} {B:Nat} {cs:Array Value} {t:TypeId} (h:Blk w B cs t) (cs':Array Value):Blk (w.setRow B cs') B cs' t:=setRow_heap w B cs cs' t _ h
theorem bB1 {o:Oper} {a:Act} (w:World) {K:Act->World->Prop} {Q:Exit->Act->World->Prop} (t:TypeId) (x y:Operand) (ho:o.op = .makeSlice t x y)
  (base:Nat) (e:TypeId) (i:TypeInfo) (z:Value) (size:Nat) (ht:P.underlying t=some (.slice e)) (hi:P.info? e=some i) (hz:i.zero=some z) (hsize:i.size=size)
  (kl kc:IntKind) (n:Nat) (hx:a.eval x = .int kl (n:Int)) (hy:a.eval y = .int kc (n:Int)) (hbytes:i.bytes*n<=281474976710656) (h63:n<=maxLen) (hbase:base<=w.heap.size)
  (h:∀ g w',w'.ownsRow base e size (.slice (some ⟨g,0,none⟩) n n) n (madeCells z.cells (n*size)).toList->Bel w w'->K (a.put o.dst (.slice (some ⟨g,0,none⟩) n n)) w'):o.wp P a w K Q:=by
 obtain ⟨w',hr,h2,h3⟩:=run_make_full (P:=P) w base t e i z size ht hi hz hsize kl kc n hbytes h63 hbase;unfold Oper.wp execOp;simp only [ho,hx,hy,Sem.run_bind,hr,Result.andThen_ok,Sem.run_pure]
 exact h _ w' h2 ((Bel.refl w).grown h3 (fun k hk=>by cases hk))
theorem aFv {ops:Array Oper} {rest:List Oper} {o:Oper} {a:Act} (w:World) {Q:Exit->Act->World->Prop} (hgd:o.guard=none) (t:TypeId) (x y:Operand) (ho:o.op = .makeSlice t x y)
  (base:Nat) (e:TypeId) (i:TypeInfo) (z:Value) (size:Nat) (ht:P.underlying t=some (.slice e)) (hi:P.info? e=some i) (hz:i.zero=some z) (hsize:i.size=size)
  (kl kc:IntKind) (n:Nat) (hx:a.eval x = .int kl (n:Int)) (hy:a.eval y = .int kc (n:Int)) (hbytes:i.bytes*n<=281474976710656) (h63:n<=maxLen) (hbase:base<=w.heap.size)
  (h:∀ g w',w'.ownsRow base e size (.slice (some ⟨g,0,none⟩) n n) n (madeCells z.cells (n*size)).toList->Bel w w'->wpList P ops Q rest (a.put o.dst (.slice (some ⟨g,0,none⟩) n n)) w'):wpList P ops Q (o :: rest) a w :=
 wpList_plain hgd fun _ hK=>bB1 w t x y ho base e i z size ht hi hz hsize kl kc n hx hy hbytes h63 hbase fun g w' h1 h2=>hK _ _ (h g w' h1 h2)
end
theorem aK3 (z:Value) (hz:z.cells=#[z]) (n:Nat):(madeCells z.cells (n*1)).toList=List.replicate n z:=by
 rw [hz,Nat.mul_one];apply List.ext_getElem?
 intro k
 simp only [madeCells,Array.toList_map,List.getElem?_map]
 by_cases hk:k<n
 .simp [hk,Nat.mod_one]
 .simp [hk]
def aDz (c:UInt8):Bool:=decide ((97<=(c.toNat:Int)/\(c.toNat:Int)<=122)∨(65<=(c.toNat:Int)/\(c.toNat:Int)<=90))
def aJw (c:UInt8):Bool:=decide (48<=(c.toNat:Int)/\(c.toNat:Int)<=57)
def aBv (c:UInt8):Bool:=aDz c||aJw c||decide ((c.toNat:Int)=95)
theorem aKv (c:UInt8) (w:World):Calls prog 172 #[.int .u8 (c.toNat:Int)] w fun e w'=>e = .returned (.bool (aDz c))/\w=w':=by
 go_enter func172,ntmps172;go_wp2
 all_goals (go_ret;refine ⟨aA2 ?_,rfl⟩;unfold aDz;rw [Bool.eq_iff_iff];simp) <;> omega
theorem aH9 (c:UInt8) (w:World):Calls prog 186 #[.int .u8 (c.toNat:Int)] w fun e w'=>e = .returned (.bool (aDz c))/\w=w':=by
 go_enter func186,ntmps186;go_wp2
 all_goals (go_ret;refine ⟨aA2 ?_,rfl⟩;unfold aDz;rw [Bool.eq_iff_iff];simp) <;> omega
theorem aWs (c:UInt8) (w:World):Calls prog 196 #[.int .u8 (c.toNat:Int)] w fun e w'=>e = .returned (.bool (aJw c))/\w=w':=by
 go_enter func196,ntmps196;go_wp2
 all_goals (go_ret;refine ⟨aA2 ?_,rfl⟩;unfold aJw;rw [Bool.eq_iff_iff];simp) <;> omega
theorem aRq (c:UInt8) (w:World):Calls prog 210 #[.int .u8 (c.toNat:Int)] w fun e w'=>e = .returned (.bool (aJw c))/\w=w':=by
 go_enter func210,ntmps210;go_wp2
 all_goals (go_ret;refine ⟨aA2 ?_,rfl⟩;unfold aJw;rw [Bool.eq_iff_iff];simp) <;> omega
theorem aOm (c:UInt8) (w:World):Calls prog 173 #[.int .u8 (c.toNat:Int)] w fun e w'=>e = .returned (.bool (aBv c))/\w=w':=by
 cases h1:aDz c <;> cases h2:aJw c
 all_goals
  have HF:=aA0 (show aBv c=(aDz c||aJw c||decide ((c.toNat:Int)=95)) from rfl)
  rw [h1,h2] at HF;go_enter func173,ntmps173
  go_wp2_with (first
   | (go_at_call 172;refine (aKv _ _).mono ?_;rintro e w' ⟨rfl,rfl⟩)
   | (go_at_call 196;refine (aWs _ _).mono ?_;rintro e w' ⟨rfl,rfl⟩))
  all_goals (go_ret;refine ⟨aA2 ?_,rfl⟩;rw [HF.out];simp;try (rw [Bool.eq_iff_iff];simp))
theorem aLk (c:UInt8) (w:World):Calls prog 187 #[.int .u8 (c.toNat:Int)] w fun e w'=>e = .returned (.bool (aBv c))/\w=w':=by
 cases h1:aDz c <;> cases h2:aJw c
 all_goals
  have HF:=aA0 (show aBv c=(aDz c||aJw c||decide ((c.toNat:Int)=95)) from rfl)
  rw [h1,h2] at HF;go_enter func187,ntmps187
  go_wp2_with (first
   | (go_at_call 186;refine (aH9 _ _).mono ?_;rintro e w' ⟨rfl,rfl⟩)
   | (go_at_call 210;refine (aRq _ _).mono ?_;rintro e w' ⟨rfl,rfl⟩))
  all_goals (go_ret;refine ⟨aA2 ?_,rfl⟩;rw [HF.out];simp;try (rw [Bool.eq_iff_iff];simp))
def wordsL:List (List UInt8):=[[112,114,111,103,114,97,109],[118,97,114],[114,117,108,101],[98,111,111,108],[112,111,114,116],[116,114,117,101],[102,97,108,115,101],[110,111,110,101],[110],[105,100,115],[105,100],[100,101,103],[114,111,111,116],[113],[119,101,105,103,104,116],[98,97,99,107],[97,108,108],[115,111,109,101],[99,111,117,110,116],[102,105,114,115,116],[109,105,110],[109,97,120],[115,117,109],[109,101,120],[115,101,99,111,110,100],[104,101,97,100]]
def aD7 (s:ByteArray):Bool:=wordsL.any fun l=>s.toList==l
theorem aRz (s:ByteArray) (w:World):Calls prog 174 #[.string s] w fun e w'=>e = .returned (.bool (aD7 s))/\w=w':=by
 have HR:Hid (aD7 s=((s.toList==[112,114,111,103,114,97,109])||((s.toList==[118,97,114])||((s.toList==[114,117,108,101])||((s.toList==[98,111,111,108])||((s.toList==[112,111,114,116])||((s.toList==[116,114,117,101])||((s.toList==[102,97,108,115,101])||((s.toList==[110,111,110,101])||((s.toList==[110])||((s.toList==[105,100,115])||((s.toList==[105,100])||((s.toList==[100,101,103])||((s.toList==[114,111,111,116])||((s.toList==[113])||((s.toList==[119,101,105,103,104,116])||((s.toList==[98,97,99,107])||((s.toList==[97,108,108])||((s.toList==[115,111,109,101])||((s.toList==[99,111,117,110,116])||((s.toList==[102,105,114,115,116])||((s.toList==[109,105,110])||((s.toList==[109,97,120])||((s.toList==[115,117,109])||((s.toList==[109,101,120])||((s.toList==[115,101,99,111,110,100])||((s.toList==[104,101,97,100])))))))))))))))))))))))))))):=by
  show aD7 s=_
  simp only [aD7,wordsL,List.any_cons,List.any_nil,Bool.or_false]
 obtain ⟨b0,h0⟩:∃ b,(s.toList==[112,114,111,103,114,97,109])=b:=⟨_,rfl⟩;obtain ⟨b1,h1⟩:∃ b,(s.toList==[118,97,114])=b:=⟨_,rfl⟩;obtain ⟨b2,h2⟩:∃ b,(s.toList==[114,117,108,101])=b:=⟨_,rfl⟩;obtain ⟨b3,h3⟩:∃ b,(s.toList==[98,111,111,108])=b:=⟨_,rfl⟩;obtain ⟨b4,h4⟩:∃ b,(s.toList==[112,111,114,116])=b:=⟨_,rfl⟩;obtain ⟨b5,h5⟩:∃ b,(s.toList==[116,114,117,101])=b:=⟨_,rfl⟩;obtain ⟨b6,h6⟩:∃ b,(s.toList==[102,97,108,115,101])=b:=⟨_,rfl⟩;obtain ⟨b7,h7⟩:∃ b,(s.toList==[110,111,110,101])=b:=⟨_,rfl⟩;obtain ⟨b8,h8⟩:∃ b,(s.toList==[110])=b:=⟨_,rfl⟩;obtain ⟨b9,h9⟩:∃ b,(s.toList==[105,100,115])=b:=⟨_,rfl⟩;obtain ⟨b10,h10⟩:∃ b,(s.toList==[105,100])=b:=⟨_,rfl⟩;obtain ⟨b11,h11⟩:∃ b,(s.toList==[100,101,103])=b:=⟨_,rfl⟩;obtain ⟨b12,h12⟩:∃ b,(s.toList==[114,111,111,116])=b:=⟨_,rfl⟩;obtain ⟨b13,h13⟩:∃ b,(s.toList==[113])=b:=⟨_,rfl⟩;obtain ⟨b14,h14⟩:∃ b,(s.toList==[119,101,105,103,104,116])=b:=⟨_,rfl⟩;obtain ⟨b15,h15⟩:∃ b,(s.toList==[98,97,99,107])=b:=⟨_,rfl⟩;obtain ⟨b16,h16⟩:∃ b,(s.toList==[97,108,108])=b:=⟨_,rfl⟩;obtain ⟨b17,h17⟩:∃ b,(s.toList==[115,111,109,101])=b:=⟨_,rfl⟩;obtain ⟨b18,h18⟩:∃ b,(s.toList==[99,111,117,110,116])=b:=⟨_,rfl⟩;obtain ⟨b19,h19⟩:∃ b,(s.toList==[102,105,114,115,116])=b:=⟨_,rfl⟩;obtain ⟨b20,h20⟩:∃ b,(s.toList==[109,105,110])=b:=⟨_,rfl⟩;obtain ⟨b21,h21⟩:∃ b,(s.toList==[109,97,120])=b:=⟨_,rfl⟩;obtain ⟨b22,h22⟩:∃ b,(s.toList==[115,117,109])=b:=⟨_,rfl⟩;obtain ⟨b23,h23⟩:∃ b,(s.toList==[109,101,120])=b:=⟨_,rfl⟩;obtain ⟨b24,h24⟩:∃ b,(s.toList==[115,101,99,111,110,100])=b:=⟨_,rfl⟩;obtain ⟨b25,h25⟩:∃ b,(s.toList==[104,101,97,100])=b:=⟨_,rfl⟩;rw [h0,h1,h2,h3,h4,h5,h6,h7,h8,h9,h10,h11,h12,h13,h14,h15,h16,h17,h18,h19,h20,h21,h22,h23,h24,h25] at HR;go_enter func174,ntmps174;cases b0 with
 | true =>
  go_wp2;go_ret;exact ⟨aA2 (by rw [HR.out];simp),rfl⟩
 | false =>
 cases b1 with
 | true =>
  go_wp2;go_ret;exact ⟨aA2 (by rw [HR.out];simp),rfl⟩
 | false =>
 cases b2 with
 | true =>
  go_wp2;go_ret;exact ⟨aA2 (by rw [HR.out];simp),rfl⟩
 | false =>
 cases b3 with
 | true =>
  go_wp2;go_ret;exact ⟨aA2 (by rw [HR.out];simp),rfl⟩
 | false =>
 cases b4 with
 | true =>
  go_wp2;go_ret;exact ⟨aA2 (by rw [HR.out];simp),rfl⟩
 | false =>
 cases b5 with
 | true =>
  go_wp2;go_ret;exact ⟨aA2 (by rw [HR.out];simp),rfl⟩
 | false =>
 cases b6 with
 | true =>
  go_wp2;go_ret;exact ⟨aA2 (by rw [HR.out];simp),rfl⟩
 | false =>
 cases b7 with
 | true =>
  go_wp2;go_ret;exact ⟨aA2 (by rw [HR.out];simp),rfl⟩
 | false =>
 cases b8 with
 | true =>
  go_wp2;go_ret;exact ⟨aA2 (by rw [HR.out];simp),rfl⟩
 | false =>
 cases b9 with
 | true =>
  go_wp2;go_ret;exact ⟨aA2 (by rw [HR.out];simp),rfl⟩
 | false =>
 cases b10 with
 | true =>
  go_wp2;go_ret;exact ⟨aA2 (by rw [HR.out];simp),rfl⟩
 | false =>
 cases b11 with
 | true =>
  go_wp2;go_ret;exact ⟨aA2 (by rw [HR.out];simp),rfl⟩
 | false =>
 cases b12 with
 | true =>
  go_wp2;go_ret;exact ⟨aA2 (by rw [HR.out];simp),rfl⟩
 | false =>
 cases b13 with
 | true =>
  go_wp2;go_ret;exact ⟨aA2 (by rw [HR.out];simp),rfl⟩
 | false =>
 cases b14 with
 | true =>
  go_wp2;go_ret;exact ⟨aA2 (by rw [HR.out];simp),rfl⟩
 | false =>
 cases b15 with
 | true =>
  go_wp2;go_ret;exact ⟨aA2 (by rw [HR.out];simp),rfl⟩
 | false =>
 cases b16 with
 | true =>
  go_wp2;go_ret;exact ⟨aA2 (by rw [HR.out];simp),rfl⟩
 | false =>
 cases b17 with
 | true =>
  go_wp2;go_ret;exact ⟨aA2 (by rw [HR.out];simp),rfl⟩
 | false =>
 cases b18 with
 | true =>
  go_wp2;go_ret;exact ⟨aA2 (by rw [HR.out];simp),rfl⟩
 | false =>
 cases b19 with
 | true =>
  go_wp2;go_ret;exact ⟨aA2 (by rw [HR.out];simp),rfl⟩
 | false =>
 cases b20 with
 | true =>
  go_wp2;go_ret;exact ⟨aA2 (by rw [HR.out];simp),rfl⟩
 | false =>
 cases b21 with
 | true =>
  go_wp2;go_ret;exact ⟨aA2 (by rw [HR.out];simp),rfl⟩
 | false =>
 cases b22 with
 | true =>
  go_wp2;go_ret;exact ⟨aA2 (by rw [HR.out];simp),rfl⟩
 | false =>
 cases b23 with
 | true =>
  go_wp2;go_ret;exact ⟨aA2 (by rw [HR.out];simp),rfl⟩
 | false =>
 cases b24 with
 | true =>
  go_wp2;go_ret;exact ⟨aA2 (by rw [HR.out];simp),rfl⟩
 | false =>
 cases b25 with
 | true =>
  go_wp2;go_ret;exact ⟨aA2 (by rw [HR.out];simp),rfl⟩
 | false =>
 go_wp2;go_ret;exact ⟨aA2 (by rw [HR.out];rfl),rfl⟩
theorem aNn (s:ByteArray) (w:World):Calls prog 188 #[.string s] w fun e w'=>e = .returned (.bool (aD7 s))/\w=w':=by
 have HR:Hid (aD7 s=((s.toList==[112,114,111,103,114,97,109])||((s.toList==[118,97,114])||((s.toList==[114,117,108,101])||((s.toList==[98,111,111,108])||((s.toList==[112,111,114,116])||((s.toList==[116,114,117,101])||((s.toList==[102,97,108,115,101])||((s.toList==[110,111,110,101])||((s.toList==[110])||((s.toList==[105,100,115])||((s.toList==[105,100])||((s.toList==[100,101,103])||((s.toList==[114,111,111,116])||((s.toList==[113])||((s.toList==[119,101,105,103,104,116])||((s.toList==[98,97,99,107])||((s.toList==[97,108,108])||((s.toList==[115,111,109,101])||((s.toList==[99,111,117,110,116])||((s.toList==[102,105,114,115,116])||((s.toList==[109,105,110])||((s.toList==[109,97,120])||((s.toList==[115,117,109])||((s.toList==[109,101,120])||((s.toList==[115,101,99,111,110,100])||((s.toList==[104,101,97,100])))))))))))))))))))))))))))):=by
  show aD7 s=_
  simp only [aD7,wordsL,List.any_cons,List.any_nil,Bool.or_false]
 obtain ⟨b0,h0⟩:∃ b,(s.toList==[112,114,111,103,114,97,109])=b:=⟨_,rfl⟩;obtain ⟨b1,h1⟩:∃ b,(s.toList==[118,97,114])=b:=⟨_,rfl⟩;obtain ⟨b2,h2⟩:∃ b,(s.toList==[114,117,108,101])=b:=⟨_,rfl⟩;obtain ⟨b3,h3⟩:∃ b,(s.toList==[98,111,111,108])=b:=⟨_,rfl⟩;obtain ⟨b4,h4⟩:∃ b,(s.toList==[112,111,114,116])=b:=⟨_,rfl⟩;obtain ⟨b5,h5⟩:∃ b,(s.toList==[116,114,117,101])=b:=⟨_,rfl⟩;obtain ⟨b6,h6⟩:∃ b,(s.toList==[102,97,108,115,101])=b:=⟨_,rfl⟩;obtain ⟨b7,h7⟩:∃ b,(s.toList==[110,111,110,101])=b:=⟨_,rfl⟩;obtain ⟨b8,h8⟩:∃ b,(s.toList==[110])=b:=⟨_,rfl⟩;obtain ⟨b9,h9⟩:∃ b,(s.toList==[105,100,115])=b:=⟨_,rfl⟩;obtain ⟨b10,h10⟩:∃ b,(s.toList==[105,100])=b:=⟨_,rfl⟩;obtain ⟨b11,h11⟩:∃ b,(s.toList==[100,101,103])=b:=⟨_,rfl⟩;obtain ⟨b12,h12⟩:∃ b,(s.toList==[114,111,111,116])=b:=⟨_,rfl⟩;obtain ⟨b13,h13⟩:∃ b,(s.toList==[113])=b:=⟨_,rfl⟩;obtain ⟨b14,h14⟩:∃ b,(s.toList==[119,101,105,103,104,116])=b:=⟨_,rfl⟩;obtain ⟨b15,h15⟩:∃ b,(s.toList==[98,97,99,107])=b:=⟨_,rfl⟩;obtain ⟨b16,h16⟩:∃ b,(s.toList==[97,108,108])=b:=⟨_,rfl⟩;obtain ⟨b17,h17⟩:∃ b,(s.toList==[115,111,109,101])=b:=⟨_,rfl⟩;obtain ⟨b18,h18⟩:∃ b,(s.toList==[99,111,117,110,116])=b:=⟨_,rfl⟩;obtain ⟨b19,h19⟩:∃ b,(s.toList==[102,105,114,115,116])=b:=⟨_,rfl⟩;obtain ⟨b20,h20⟩:∃ b,(s.toList==[109,105,110])=b:=⟨_,rfl⟩;obtain ⟨b21,h21⟩:∃ b,(s.toList==[109,97,120])=b:=⟨_,rfl⟩;obtain ⟨b22,h22⟩:∃ b,(s.toList==[115,117,109])=b:=⟨_,rfl⟩;obtain ⟨b23,h23⟩:∃ b,(s.toList==[109,101,120])=b:=⟨_,rfl⟩;obtain ⟨b24,h24⟩:∃ b,(s.toList==[115,101,99,111,110,100])=b:=⟨_,rfl⟩;obtain ⟨b25,h25⟩:∃ b,(s.toList==[104,101,97,100])=b:=⟨_,rfl⟩;rw [h0,h1,h2,h3,h4,h5,h6,h7,h8,h9,h10,h11,h12,h13,h14,h15,h16,h17,h18,h19,h20,h21,h22,h23,h24,h25] at HR;go_enter func188,ntmps188;cases b0 with
 | true =>
  go_wp2;go_ret;exact ⟨aA2 (by rw [HR.out];simp),rfl⟩
 | false =>
 cases b1 with
 | true =>
  go_wp2;go_ret;exact ⟨aA2 (by rw [HR.out];simp),rfl⟩
 | false =>
 cases b2 with
 | true =>
  go_wp2;go_ret;exact ⟨aA2 (by rw [HR.out];simp),rfl⟩
 | false =>
 cases b3 with
 | true =>
  go_wp2;go_ret;exact ⟨aA2 (by rw [HR.out];simp),rfl⟩
 | false =>
 cases b4 with
 | true =>
  go_wp2;go_ret;exact ⟨aA2 (by rw [HR.out];simp),rfl⟩
 | false =>
 cases b5 with
 | true =>
  go_wp2;go_ret;exact ⟨aA2 (by rw [HR.out];simp),rfl⟩
 | false =>
 cases b6 with
 | true =>
  go_wp2;go_ret;exact ⟨aA2 (by rw [HR.out];simp),rfl⟩
 | false =>
 cases b7 with
 | true =>
  go_wp2;go_ret;exact ⟨aA2 (by rw [HR.out];simp),rfl⟩
 | false =>
 cases b8 with
 | true =>
  go_wp2;go_ret;exact ⟨aA2 (by rw [HR.out];simp),rfl⟩
 | false =>
 cases b9 with
 | true =>
  go_wp2;go_ret;exact ⟨aA2 (by rw [HR.out];simp),rfl⟩
 | false =>
 cases b10 with
 | true =>
  go_wp2;go_ret;exact ⟨aA2 (by rw [HR.out];simp),rfl⟩
 | false =>
 cases b11 with
 | true =>
  go_wp2;go_ret;exact ⟨aA2 (by rw [HR.out];simp),rfl⟩
 | false =>
 cases b12 with
 | true =>
  go_wp2;go_ret;exact ⟨aA2 (by rw [HR.out];simp),rfl⟩
 | false =>
 cases b13 with
 | true =>
  go_wp2;go_ret;exact ⟨aA2 (by rw [HR.out];simp),rfl⟩
 | false =>
 cases b14 with
 | true =>
  go_wp2;go_ret;exact ⟨aA2 (by rw [HR.out];simp),rfl⟩
 | false =>
 cases b15 with
 | true =>
  go_wp2;go_ret;exact ⟨aA2 (by rw [HR.out];simp),rfl⟩
 | false =>
 cases b16 with
 | true =>
  go_wp2;go_ret;exact ⟨aA2 (by rw [HR.out];simp),rfl⟩
 | false =>
 cases b17 with
 | true =>
  go_wp2;go_ret;exact ⟨aA2 (by rw [HR.out];simp),rfl⟩
 | false =>
 cases b18 with
 | true =>
  go_wp2;go_ret;exact ⟨aA2 (by rw [HR.out];simp),rfl⟩
 | false =>
 cases b19 with
 | true =>
  go_wp2;go_ret;exact ⟨aA2 (by rw [HR.out];simp),rfl⟩
 | false =>
 cases b20 with
 | true =>
  go_wp2;go_ret;exact ⟨aA2 (by rw [HR.out];simp),rfl⟩
 | false =>
 cases b21 with
 | true =>
  go_wp2;go_ret;exact ⟨aA2 (by rw [HR.out];simp),rfl⟩
 | false =>
 cases b22 with
 | true =>
  go_wp2;go_ret;exact ⟨aA2 (by rw [HR.out];simp),rfl⟩
 | false =>
 cases b23 with
 | true =>
  go_wp2;go_ret;exact ⟨aA2 (by rw [HR.out];simp),rfl⟩
 | false =>
 cases b24 with
 | true =>
  go_wp2;go_ret;exact ⟨aA2 (by rw [HR.out];simp),rfl⟩
 | false =>
 cases b25 with
 | true =>
  go_wp2;go_ret;exact ⟨aA2 (by rw [HR.out];simp),rfl⟩
 | false =>
 go_wp2;go_ret;exact ⟨aA2 (by rw [HR.out];rfl),rfl⟩
def aEi (s:ByteArray):Bool:=decide (1<=s.size/\s.size<=24)&&aDz (s.data.toList.headD 0)&&s.data.toList.all aBv && !aD7 s
theorem aX2 (s:ByteArray) (h:0<s.size):s.data.toList.headD 0=s[0]:=by
 have h':0<s.data.toList.length:=by simpa using h
 show s.data.toList.headD 0=s.data.toList[0]
 match hl:s.data.toList,h' with
 | x :: l,_=>rfl
theorem aG4 (s:ByteArray) (w:World) (hs:s.size<=1000000):Calls prog 158 #[.string s] w fun e w'=>e = .returned (.bool (aEi s))/\w=w':=by
 by_cases hn:1<=s.size/\s.size<=24
 .obtain ⟨hn1,hn2⟩:=hn
  have h0:0<s.size:=by omega
  have HF:Hid (aEi s=(aDz s[0]&&s.data.toList.all aBv && !aD7 s)):=by
   show aEi s=_
   unfold aEi;rw [aX2 s h0,show decide (1<=s.size/\s.size<=24)=true by simp;omega];simp
  cases hl:aDz s[0] with
  | false =>
   rw [hl] at HF;go_enter func158,ntmps158
   go_wp2_with (go_at_call 172;refine (aKv s[0] _).mono ?_;rintro e w' ⟨rfl,rfl⟩)
   go_ret;exact ⟨aA2 (by rw [HF.out];rfl),rfl⟩
  | true =>
   rw [hl] at HF;go_enter func158,ntmps158
   go_wp2_with (go_at_call 172;refine (aKv s[0] _).mono ?_;rintro e w' ⟨rfl,rfl⟩)
   go_loopg [3,20] s.size (fun m _x z wr=>∃ j:Nat,j<=s.size/\m=s.size-j/\Hid ((s.data.toList.take j).all aBv=true)/\z = .int .i64 j/\w=wr)
   case atStart=>exact ⟨0,by omega,rfl,rfl,rfl,rfl⟩
   case round =>
    obtain ⟨j,hj,rfl,HK,rfl,rfl⟩:=hrel
    by_cases hlt:j<s.size
    .have hd0:decide (j<s.size)=true:=by simpa using hlt
     cases hw:aBv s[j] with
     | false =>
      have HG:=aA0 (aAo (f:=aBv) (l:=s.data.toList) (by simpa using hlt) (show aBv (s.data.toList[j]'(by simpa using hlt))=false from hw))
      go_wp2_with (go_at_call 173;refine (aOm s[j] _).mono ?_;rintro e w' ⟨rfl,rfl⟩)
      go_ret;exact ⟨aA2 (by rw [HF.out,HG.out];rfl),rfl⟩
     | true =>
      have HG:=aA0 (aAb (f:=aBv) (l:=s.data.toList) (by simpa using hlt) HK.out (show aBv (s.data.toList[j]'(by simpa using hlt))=true from hw))
      go_wp2_with (go_at_call 173;refine (aOm s[j] _).mono ?_;rintro e w' ⟨rfl,rfl⟩)
      go_roundg (s.size-(j+1))
      case rel=>exact ⟨j+1,by omega,rfl,HG,by go_num,rfl⟩
      case measure=>omega
    .have hd0:decide (j<s.size)=false:=by simpa using hlt
     have HG:=aA0 (aAq (f:=aBv) (l:=s.data.toList) (by simp;omega) HK.out)
     rw [HG.out] at HF
     go_wp2_with (go_at_call 174;refine (aRz s _).mono ?_;rintro e w' ⟨rfl,rfl⟩)
     all_goals (go_ret;exact ⟨aA2 (by rw [HF.out];simp),rfl⟩)
 .have HF:Hid (aEi s=false):=by
   show aEi s=false
   unfold aEi;rw [show decide (1<=s.size/\s.size<=24)=false by simpa using hn];rfl
  rcases (show s.size=0∨24<s.size by omega) with h | h
  .have h':s.size<1:=by omega
   clear hn h;go_enter func158,ntmps158;go_wp2;go_ret;exact ⟨aA2 HF.out.symm,rfl⟩
  .have h':1<=s.size:=by omega
   clear hn;go_enter func158,ntmps158;go_wp2;go_ret;exact ⟨aA2 HF.out.symm,rfl⟩
theorem aEk (s:ByteArray) (w:World) (hs:s.size<=1000000):Calls prog 167 #[.string s] w fun e w'=>e = .returned (.bool (aEi s))/\w=w':=by
 by_cases hn:1<=s.size/\s.size<=24
 .obtain ⟨hn1,hn2⟩:=hn
  have h0:0<s.size:=by omega
  have HF:Hid (aEi s=(aDz s[0]&&s.data.toList.all aBv && !aD7 s)):=by
   show aEi s=_
   unfold aEi;rw [aX2 s h0,show decide (1<=s.size/\s.size<=24)=true by simp;omega];simp
  cases hl:aDz s[0] with
  | false =>
   rw [hl] at HF;go_enter func167,ntmps167
   go_wp2_with (go_at_call 186;refine (aH9 s[0] _).mono ?_;rintro e w' ⟨rfl,rfl⟩)
   go_ret;exact ⟨aA2 (by rw [HF.out];rfl),rfl⟩
  | true =>
   rw [hl] at HF
   have HS:Hid ((s.data.toList.take 1).all aBv=true):=by
    have:=aAb (f:=aBv) (l:=s.data.toList) (k:=0) (by simpa using h0) rfl (by show aBv s[0]=true;unfold aBv;rw [hl];rfl)
    exact this
   go_enter func167,ntmps167
   go_wp2_with (go_at_call 186;refine (aH9 s[0] _).mono ?_;rintro e w' ⟨rfl,rfl⟩)
   go_loopg [3] (s.size-1) (fun m z wr=>∃ j:Nat,j<=s.size/\m=s.size-j/\Hid ((s.data.toList.take j).all aBv=true)/\z = .int .i64 j/\w=wr)
   case atStart=>exact ⟨1,by omega,rfl,HS,rfl,rfl⟩
   case round =>
    obtain ⟨j,hj,rfl,HK,rfl,rfl⟩:=hrel
    by_cases hlt:j<s.size
    .have hd0:decide (j<s.size)=true:=by simpa using hlt
     cases hw:aBv s[j] with
     | false =>
      have HG:=aA0 (aAo (f:=aBv) (l:=s.data.toList) (by simpa using hlt) (show aBv (s.data.toList[j]'(by simpa using hlt))=false from hw))
      go_wp2_with (go_at_call 187;refine (aLk s[j] _).mono ?_;rintro e w' ⟨rfl,rfl⟩)
      go_ret;exact ⟨aA2 (by rw [HF.out,HG.out];rfl),rfl⟩
     | true =>
      have HG:=aA0 (aAb (f:=aBv) (l:=s.data.toList) (by simpa using hlt) HK.out (show aBv (s.data.toList[j]'(by simpa using hlt))=true from hw))
      go_wp2_with (go_at_call 187;refine (aLk s[j] _).mono ?_;rintro e w' ⟨rfl,rfl⟩)
      go_roundg (s.size-(j+1))
      case rel=>exact ⟨j+1,by omega,rfl,HG,by go_num,rfl⟩
      case measure=>omega
    .have hd0:decide (j<s.size)=false:=by simpa using hlt
     have HG:=aA0 (aAq (f:=aBv) (l:=s.data.toList) (by simp;omega) HK.out)
     rw [HG.out] at HF
     go_wp2_with (go_at_call 188;refine (aNn s _).mono ?_;rintro e w' ⟨rfl,rfl⟩)
     all_goals (go_ret;exact ⟨aA2 (by rw [HF.out];simp),rfl⟩)
 .have HF:Hid (aEi s=false):=by
   show aEi s=false
   unfold aEi;rw [show decide (1<=s.size/\s.size<=24)=false by simpa using hn];rfl
  rcases (show s.size=0∨24<s.size by omega) with h | h
  .have h':s.size<1:=by omega
   clear hn h;go_enter func167,ntmps167;go_wp2;go_ret;exact ⟨aA2 HF.out.symm,rfl⟩
  .have h':1<=s.size:=by omega
   clear hn;go_enter func167,ntmps167;go_wp2;go_ret;exact ⟨aA2 HF.out.symm,rfl⟩
theorem aRx (op a:Int) (w:World):Calls prog 136 #[.int .i64 op,.int .i64 a] w fun e w'=>e = .returned (.tuple #[.int .i64 (aGc op a).1,.int .i64 (aGc op a).2])/\w=w':=by
 by_cases hop:op≠18/\op≠19
 .have HF:Hid (aGc op a=(0,2)):=by show aGc op a=_;unfold aGc;rw [if_pos (.inl hop)]
  have h1:(op != 18)=true:=by simpa using hop.1
  have h2:(op != 19)=true:=by simpa using hop.2
  clear hop;go_enter func136,ntmps136
  go_wp2_with fail
  go_ret2
  exact ⟨aF9 HF.out,rfl⟩
 .cases hn:aW3 a with
  | false =>
   have HF:Hid (aGc op a=(0,2)):=by show aGc op a=_;unfold aGc;rw [if_pos (.inr hn)]
   have hop':op=18∨op=19:=by omega
   clear hop
   rcases hop' with h | h
   all_goals
    subst h;go_enter func136,ntmps136
    go_wp2_with (go_at_call 155;refine (aE6 _ _).mono ?_;rintro e w' ⟨rfl,rfl⟩;rw [hn])
    go_ret2
    exact ⟨aF9 HF.out,rfl⟩
  | true =>
   have HF:Hid (aGc op a=(aHm op a,0)):=by show aGc op a=_;unfold aGc;rw [if_neg (by rw [hn];simp;omega)]
   have hop':op=18∨op=19:=by omega
   clear hop;have HN:=aJi hn;unfold Num at HN;obtain ⟨hn1,hn2⟩:=HN
   rcases hop' with h | h
   all_goals
    subst h;go_enter func136,ntmps136
    go_wp2_with (first
     | (go_at_call 155;refine (aE6 _ _).mono ?_;rintro e w' ⟨rfl,rfl⟩;rw [hn])
     | (go_at_call 152;refine (aCd _ _).mono ?_;rintro e w' ⟨rfl,rfl⟩))
    go_ret2
    exact ⟨aF9 HF.out,rfl⟩
theorem aWg (op a b:Int) (w:World) (h1:30<=op) (h2:op<=42) (ha:Num a) (hb:Num b):Calls prog 156 #[.int .i64 op,.int .i64 a,.int .i64 b] w fun e w'=>e = .returned (.int .i64 (aHg op a b))/\w=w':=by
 have hq:=aNj a b ha;have hm:=aK7 a b ha (by unfold Num at hb;omega)
 have hm2:=aK7 b (aE4 a b) hb (by omega)
 obtain ⟨hq1,hq2⟩:=hq;obtain ⟨hm1,hm3⟩:=hm;obtain ⟨hm4,hm5⟩:=hm2;have HA:=aA0 ha;have HB:=aA0 hb;unfold Num at ha hb;obtain ⟨ha1,ha2⟩:=ha;obtain ⟨hb1,hb2⟩:=hb
 by_cases h32:op=32
 .subst h32
  by_cases h0:b=0
  .subst h0
   go_enter func156,ntmps156;go_wp2;go_ret;exact ⟨rfl,rfl⟩
  .have hz:(b==0)=false:=by simpa using h0
   have HF:Hid (aHg 32 a b=(a-b*aE4 a b)):=by
    show aHg 32 a b=_
    unfold aHg;simp [h0]
   clear h0;go_enter func156,ntmps156
   go_wp2_with (go_at_call 171;refine (aI9 _ _ _ HA.out HB.out).mono ?_;rintro e w' ⟨rfl,rfl⟩)
   go_ret;exact ⟨aA5 HF.out.symm,rfl⟩
 .by_cases h4:41<=op
  .have h4':op=41∨op=42:=by omega
   clear h32 h1 h2 h4
   by_cases h0:a=0
   .have hz:(a != 0)=false:=by simpa using h0
    rcases h4' with h | h
    .subst h
     have HF:Hid (aHg 41 a b=aBg false):=by show aBg (a != 0&&b != 0)=_;rw [hz];rfl
     clear h0;go_enter func156,ntmps156
     go_wp2_with (go_at_call 152;refine (aCd _ _).mono ?_;rintro e w' ⟨rfl,rfl⟩)
     go_ret;exact ⟨aA5 HF.out.symm,rfl⟩
    .subst h
     have HF:Hid (aHg 42 a b=aBg (b != 0)):=by show aBg (a != 0||b != 0)=_;rw [hz];rfl
     clear h0;go_enter func156,ntmps156
     go_wp2_with (go_at_call 152;refine (aCd _ _).mono ?_;rintro e w' ⟨rfl,rfl⟩)
     go_ret;exact ⟨aA5 HF.out.symm,rfl⟩
   .have hz:(a != 0)=true:=by simpa using h0
    rcases h4' with h | h
    .subst h
     have HF:Hid (aHg 41 a b=aBg (b != 0)):=by show aBg (a != 0&&b != 0)=_;rw [hz];rfl
     clear h0;go_enter func156,ntmps156
     go_wp2_with (go_at_call 152;refine (aCd _ _).mono ?_;rintro e w' ⟨rfl,rfl⟩)
     go_ret;exact ⟨aA5 HF.out.symm,rfl⟩
    .subst h
     have HF:Hid (aHg 42 a b=aBg true):=by show aBg (a != 0||b != 0)=_;rw [hz];rfl
     clear h0;go_enter func156,ntmps156
     go_wp2_with (go_at_call 152;refine (aCd _ _).mono ?_;rintro e w' ⟨rfl,rfl⟩)
     go_ret;exact ⟨aA5 HF.out.symm,rfl⟩
  .have hcase:op=30∨op=31∨op=33∨op=34∨op=35∨op=36∨op=37∨op=38∨op=39∨op=40:=by omega
   clear h1 h2 h32 h4
   rcases hcase with h | h | h | h | h | h | h | h | h | h
   all_goals
    subst h;go_enter func156,ntmps156
    go_wp2_with (first
     | (go_at_call 171;refine (aI9 _ _ _ HA.out HB.out).mono ?_;rintro e w' ⟨rfl,rfl⟩)
     | (go_at_call 152;refine (aCd _ _).mono ?_;rintro e w' ⟨rfl,rfl⟩))
    go_ret;exact ⟨rfl,rfl⟩
theorem aQ5 (op a b:Int) (w:World):Calls prog 137 #[.int .i64 op,.int .i64 a,.int .i64 b] w fun e w'=>e = .returned (.tuple #[.int .i64 (aCl op a b).1,.int .i64 (aCl op a b).2])/\w=w':=by
 by_cases h30:op<30
 .have HF:Hid (aCl op a b=(0,2)):=by show aCl op a b=_;unfold aCl;rw [if_pos (.inl h30)]
  have hd:decide (op<30)=true:=by simpa using h30
  clear h30;go_enter func137,ntmps137
  go_wp2_with fail
  go_ret2
  exact ⟨aF9 HF.out,rfl⟩
 have hd1:decide (op<30)=false:=by simpa using h30
 by_cases h42:42<op
 .have HF:Hid (aCl op a b=(0,2)):=by show aCl op a b=_;unfold aCl;rw [if_pos (.inr (.inl h42))]
  have hd:decide (42<op)=true:=by simpa using h42
  clear h42;go_enter func137,ntmps137
  go_wp2_with fail
  go_ret2
  exact ⟨aF9 HF.out,rfl⟩
 have hd2:decide (42<op)=false:=by simpa using h42
 cases hna:aW3 a with
 | false =>
  have HF:Hid (aCl op a b=(0,2)):=by show aCl op a b=_;unfold aCl;rw [if_pos (.inr (.inr (.inl hna)))]
  clear h30 h42;go_enter func137,ntmps137
  go_wp2_with (go_at_call_of 155 a;refine (aE6 _ _).mono ?_;rintro e w' ⟨rfl,rfl⟩;rw [hna])
  go_ret2
  exact ⟨aF9 HF.out,rfl⟩
 | true =>
  cases hnb:aW3 b with
  | false =>
   have HF:Hid (aCl op a b=(0,2)):=by show aCl op a b=_;unfold aCl;rw [if_pos (.inr (.inr (.inr hnb)))]
   clear h30 h42;go_enter func137,ntmps137
   go_wp2_with (go_at_call 155;refine (aE6 _ _).mono ?_;rintro e w' ⟨rfl,rfl⟩;first | rw [hna] | rw [hnb])
   go_ret2
   exact ⟨aF9 HF.out,rfl⟩
  | true =>
   have HF:Hid (aCl op a b=(aTn (aHg op a b),0)):=by
    show aCl op a b=_
    unfold aCl;rw [if_neg (by rw [hna,hnb];simp;omega)];rfl
   have HA:=aA0 (aJi hna);have HB:=aA0 (aJi hnb);have HO:Hid (30<=op/\op<=42):=⟨by omega,by omega⟩
   clear h30 h42;go_enter func137,ntmps137
   go_wp2_with (first
    | (go_at_call 155;refine (aE6 _ _).mono ?_;rintro e w' ⟨rfl,rfl⟩;first | rw [hna] | rw [hnb])
    | (go_at_call 156;refine (aWg _ _ _ _ HO.out.1 HO.out.2 HA.out HB.out).mono ?_;rintro e w' ⟨rfl,rfl⟩)
    | (go_at_call 153;refine (aIb _ _).mono ?_;rintro e w' ⟨rfl,rfl⟩))
   go_ret2
   exact ⟨aF9 HF.out,rfl⟩
theorem bA4 {r s:Int} (hr:1<=r) (hs:1<=s):r<=r*s:=by
 have:=Int.mul_le_mul_of_nonneg_left hs (show 0<=r by omega)
 rwa [Int.mul_one] at this
theorem aZj {t:List (Int × Int)} (h:okL t) (x:Nat):okL (t.drop x):=fun b hb=>h b (List.mem_of_mem_drop hb)
theorem aZk {T:List (List (Int × Int))} (h:okN T) (x:Nat):okN (T.drop x):=fun b hb=>h b (List.mem_of_mem_drop hb)
theorem aOl:∀ {bs:List (Int × Int)} {cs:List Int},inL bs cs->cs.length=bs.length
 | [],[],_=>rfl
 | [],_ :: _,h=>h.elim
 | _ :: _,[],h=>h.elim
 | _ :: _,_ :: _,h=>by simpa using aOl h.2.2
end Go.Proofs.YtdcjnhoabbdanaaGreatDoor

