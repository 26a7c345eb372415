/- Merged. -/
import Derived.Lib.BitFns
import Derived.OneCell
import Derived.Test.YtdcjnhoabbdanaaGreatDoorZ03
import Derived.Deep.WholeRow
import Derived.Laws.OwnMore
import Derived.Laws.CopyOwn
set_option linter.unusedSimpArgs false
set_option linter.unnecessarySimpa false
set_option linter.unusedVariables false
set_option maxRecDepth 100000
set_option maxHeartbeats 1000000
open Go.Proofs.Tryz

namespace Go.Proofs.YtdcjnhoabbdanaaGreatDoor
def aBw (n:Nat) (h:Nat->Bool):Nat:=(List.range n).foldl (fun s v=>if h v then s|||2 ^ v else s) 0
theorem aYt (h:Nat->Bool):aBw 0 h=0:=rfl
theorem aF4 (n:Nat) (h:Nat->Bool):aBw (n+1) h=if h n then aBw n h|||2 ^ n else aBw n h:=by
 unfold aBw;rw [List.range_succ,List.foldl_append];rfl
theorem aEv (n:Nat) (h:Nat->Bool) (v:Nat):(aBw n h).testBit v=(decide (v<n)&&h v):=by
 induction n with
 | zero=>simp [aYt]
 | succ n ih =>
  rw [aF4]
  by_cases hv:v=n
  .subst hv
   cases hh:h v with
   | false=>simp [ih]
   | true=>simp [Nat.testBit_or,Nat.testBit_two_pow_self]
  .have e:decide (v<n+1)=decide (v<n):=by rw [decide_eq_decide];omega
   rw [e];cases hh:h n with
   | false=>simpa using ih
   | true =>
    simp only [if_true,Nat.testBit_or,ih,Nat.testBit_two_pow]
    have:decide (n=v)=false:=by simp;omega
    rw [this,Bool.or_false]
theorem aYs (n:Nat) (h:Nat->Bool):aBw n h<2 ^ n:=by
 apply Nat.lt_pow_two_of_testBit
 intro i hi
 rw [aEv,decide_eq_false (by omega)];rfl
theorem aEf {n:Nat} (h:Nat->Bool) (hn:n<=32):aBw n h<4294967296 :=
 Nat.lt_of_lt_of_le (aYs n h) (Nat.pow_le_pow_right (n:=2) (by decide) hn)
def aBe (S T:Nat):Bool:=(List.range 32).all fun i => !S.testBit i||T.testBit i
def aOo (S:Nat) (x:Int):Bool:=decide (0<=x)&&decide (x<32)&&S.testBit x.toNat
theorem bA7 {S T:Nat} (hS:S<4294967296) (hT:T<4294967296) (h:∀ v,v<32->S.testBit v=T.testBit v):S=T:=by
 refine Nat.eq_of_testBit_eq fun v=>?_
 rcases Nat.lt_or_ge v 32 with hv | hv
 .exact h v hv
 .have e:(4294967296:Nat)<=2 ^ v:=Nat.pow_le_pow_right (n:=2) (i:=32) (by decide) hv
  rw [Nat.testBit_lt_two_pow (Nat.lt_of_lt_of_le hS e),Nat.testBit_lt_two_pow (Nat.lt_of_lt_of_le hT e)]
theorem aC0 {S T:Nat}:aBe S T=true↔∀ v,v<32->S.testBit v=true->T.testBit v=true:=by
 unfold aBe;simp only [List.all_eq_true,List.mem_range,Bool.or_eq_true,Bool.not_eq_true']
 constructor
 .intro h v hv hS
  rcases h v hv with h | h
  .rw [h] at hS;cases hS
  .exact h
 .intro h v hv
  cases hb:S.testBit v with
  | false=>exact .inl rfl
  | true=>exact .inr (h v hv hb)
theorem aK4 {S v:Nat} (hS:S<4294967296) (h:S.testBit v=true):v<32:=by
 rcases Nat.lt_or_ge v 32 with hv | hv
 .exact hv
 .have e:(4294967296:Nat)<=2 ^ v:=Nat.pow_le_pow_right (n:=2) (i:=32) (by decide) hv
  rw [Nat.testBit_lt_two_pow (Nat.lt_of_lt_of_le hS e)] at h;cases h
theorem bBx (i v:Nat):(2 ^ i).testBit v=decide (i=v):=Nat.testBit_two_pow
theorem aMo {n:Nat} (h:n<4294967296):IntKind.u32.wrap (n:Int)=(n:Int):=by simp [IntKind.wrap,IntKind.bits,IntKind.signed];omega
theorem aVf {v:Nat} (h:v<32):2 ^ v<4294967296:=Nat.pow_lt_pow_right (a:=2) (by decide) h
theorem bv32 (S:Nat):BitVec.ofInt IntKind.u32.bits (S:Int)=BitVec.ofNat 32 S:=by
 simp [IntKind.bits]
theorem aKz {S T:Nat} (hS:S<4294967296) (hT:T<4294967296):bits .or .u32 (S:Int) (T:Int)=((S|||T:Nat):Int):=by
 have e:(BitVec.ofNat 32 S|||BitVec.ofNat 32 T).toNat=S|||T:=by
  simp only [BitVec.toNat_or,BitVec.toNat_ofNat]
  rw [Nat.mod_eq_of_lt (by omega),Nat.mod_eq_of_lt (by omega)]
 unfold bits;simp only [bv32]
 show IntKind.u32.wrap ((BitVec.ofNat 32 S|||BitVec.ofNat 32 T).toNat:Int)=_
 rw [e];exact aMo (Nat.or_lt_two_pow (n:=32) hS hT)
theorem aCv {S T:Nat} (hS:S<4294967296) (_hT:T<4294967296):bits .and .u32 (S:Int) (T:Int)=((S&&&T:Nat):Int):=by
 have e:(BitVec.ofNat 32 S&&&BitVec.ofNat 32 T).toNat=S&&&T:=by
  simp only [BitVec.toNat_and,BitVec.toNat_ofNat]
  rw [Nat.mod_eq_of_lt (by omega),Nat.mod_eq_of_lt (by omega)]
 unfold bits;simp only [bv32]
 show IntKind.u32.wrap ((BitVec.ofNat 32 S&&&BitVec.ofNat 32 T).toNat:Int)=_
 rw [e];exact aMo (Nat.and_lt_two_pow (n:=32) S _hT)
def aD4 (S T:Nat):Nat:=(BitVec.ofNat 32 S&&&~~~BitVec.ofNat 32 T).toNat
theorem aMg (S T:Nat):aD4 S T<4294967296:=(BitVec.ofNat 32 S&&&~~~BitVec.ofNat 32 T).isLt
theorem aCw (S T:Nat):bits .andNot .u32 (S:Int) (T:Int)=((aD4 S T:Nat):Int):=by
 unfold bits;simp only [bv32]
 exact aMo (aMg S T)
theorem aRi {S T:Nat} (hS:S<4294967296) (v:Nat):(aD4 S T).testBit v=(S.testBit v && !T.testBit v):=by
 rcases Nat.lt_or_ge v 32 with hv | hv
 .unfold aD4
  rw [BitVec.testBit_toNat,BitVec.getLsbD_and,BitVec.getLsbD_not,BitVec.getLsbD_ofNat,BitVec.getLsbD_ofNat];simp [hv]
 .have e:(4294967296:Nat)<=2 ^ v:=Nat.pow_le_pow_right (n:=2) (i:=32) (by decide) hv
  rw [Nat.testBit_lt_two_pow (Nat.lt_of_lt_of_le (aMg S T) e),Nat.testBit_lt_two_pow (Nat.lt_of_lt_of_le hS e)];rfl
theorem aEl {S T:Nat} (hS:S<4294967296):(aD4 S T==0)=aBe S T:=by
 rw [Bool.eq_iff_iff,beq_iff_eq,aC0];constructor
 .intro h v _ hv
  have:=aRi (T:=T) hS v;rw [h,Nat.zero_testBit,hv] at this;simpa using this.symm
 .intro h
  refine Nat.eq_of_testBit_eq fun v=>?_
  rw [aRi hS,Nat.zero_testBit];cases hb:S.testBit v with
  | false=>rfl
  | true=>rw [h v (aK4 hS hb) hb];rfl
theorem bBv (S v:Nat):(S >>> v)&&&1=(S.testBit v).toNat:=by
 rw [Nat.and_one_is_mod,Nat.shiftRight_eq_div_pow,Nat.testBit_eq_decide_div_mod_eq];have:=Nat.mod_lt (S / 2 ^ v) (show 0<2 by decide)
 by_cases h:S / 2 ^ v % 2=1
 .rw [h];simp
 .have:S / 2 ^ v % 2=0:=by omega
  rw [this];simp
theorem aTe {S v:Nat} (hS:S<4294967296):bits .and .u32 ((S:Int) / 2 ^ v) 1=((S.testBit v).toNat:Int):=by
 have h1:(S:Int) / 2 ^ v=((S >>> v:Nat):Int):=by rw [Nat.shiftRight_eq_div_pow];simp
 rw [h1,show (1:Int)=((1:Nat):Int) from rfl,aCv (by have:=Nat.shiftRight_le S v;omega) (by decide),bBv]
theorem aG6 {S v:Nat} (hS:S<4294967296) (hv:v<32):bits .or .u32 (S:Int) (2 ^ v % 4294967296)=((S|||2 ^ v:Nat):Int):=by
 have h:=aVf hv
 have e:(2:Int) ^ v % 4294967296=((2 ^ v:Nat):Int):=by
  have e2:(2:Int) ^ v=((2 ^ v:Nat):Int):=by rw [Int.natCast_pow];rfl
  rw [e2];exact Int.emod_eq_of_lt (b:=4294967296) (Int.natCast_nonneg _) (Int.ofNat_lt.2 h)
 rw [e,aKz hS h]
theorem aZ6 {x:Int} (h:(Lit.int .u32 x).wf=true):∃ S:Nat,x=(S:Int)/\S<4294967296:=by
 have h1:0<=x/\x<=4294967295:=by
  simp [Lit.wf,IntKind.min,IntKind.max,IntKind.signed,IntKind.bits] at h
  omega
 obtain ⟨S,rfl⟩:=Int.eq_ofNat_of_zero_le h1.1;exact ⟨S,rfl,by omega⟩
theorem aZ2 (b:Bool):((b.toNat:Int)==1)=b:=by cases b <;> rfl
theorem aMt (x y a b:Nat) (ha:a<2) (hb:b<2):(2*x+a)&&&(2*y+b)=2*(x&&&y)+a*b:=by
 have hab:a*b<2:=by
  have h1:a=0∨a=1:=by omega
  rcases h1 with rfl | rfl <;> omega
 refine Nat.eq_of_testBit_eq fun i=>?_
 rw [Nat.testBit_and];cases i with
 | zero =>
  have h1:a=0∨a=1:=by omega
  have h2:b=0∨b=1:=by omega
  rcases h1 with rfl | rfl <;> rcases h2 with rfl | rfl <;> simp [Nat.testBit_zero] <;> omega
 | succ i =>
  rw [Nat.testBit_succ,Nat.testBit_succ,Nat.testBit_succ,show (2*x+a) / 2=x by omega,show (2*y+b) / 2=y by omega,show (2*(x&&&y)+a*b) / 2=x&&&y by omega,Nat.testBit_and]
theorem bB5 (n:Nat):∃ x a,a<2/\n=2*x+a:=⟨n / 2,n % 2,Nat.mod_lt _ (by decide),by omega⟩
theorem bAg {s S:Nat} (h:s&&&S=s):s<=S:=by rw [<- h];exact Nat.and_le_right
theorem aY9:∀ n S:Nat,S<n->S≠0->∃ k m,S=2 ^ k*(2*m+1):=by
 intro n
 induction n with
 | zero=>intro S h;omega
 | succ n ih =>
  intro S h h0
  obtain ⟨x,a,ha,rfl⟩:=bB5 S
  by_cases h1:a=1
  .subst h1;exact ⟨0,x,by omega⟩
  .obtain rfl:a=0:=by omega
   obtain ⟨k,m,e⟩:=ih x (by omega) (by omega)
   exact ⟨k+1,m,by rw [Nat.pow_succ,e];rw [Nat.mul_right_comm,Nat.mul_comm];omega⟩
theorem aX8 (w:Nat):∀ S,S<2 ^ w->S&&&(2 ^ w-1-S)=0:=by
 induction w with
 | zero => intro S h; have : S = 0 := by simpa using h
           subst this;rfl
 | succ w ih =>
  intro S h
  obtain ⟨x,a,ha,rfl⟩:=bB5 S;have hp:2 ^ (w+1)=2*2 ^ w:=by rw [Nat.pow_succ];omega
  rw [show 2 ^ (w+1)-1-(2*x+a)=2*(2 ^ w-1-x)+(1-a) by omega,aMt _ _ _ _ ha (by omega),ih x (by omega)]
  have h1:a=0∨a=1:=by omega
  rcases h1 with rfl | rfl <;> rfl
theorem aZi (x y:Nat):(2*x)&&&(2*y)=2*(x&&&y):=by
 have:=aMt x y 0 0 (by decide) (by decide)
 simpa using this
theorem aVq (k m:Nat):2 ^ k*(2*m+1)&&&(2 ^ k*(2*m+1)-1)=2 ^ k*(2*m):=by
 induction k with
 | zero =>
  have:=aMt m m 1 0 (by decide) (by decide)
  simpa using this
 | succ k ih =>
  have hpos:0<2 ^ k*(2*m+1):=Nat.mul_pos (Nat.two_pow_pos k) (by omega)
  rw [show 2 ^ (k+1)*(2*m+1)=2*(2 ^ k*(2*m+1)) by rw [Nat.pow_succ,Nat.mul_comm (2 ^ k) 2,Nat.mul_assoc],
   show 2 ^ (k+1)*(2*m)=2*(2 ^ k*(2*m)) by rw [Nat.pow_succ,Nat.mul_comm (2 ^ k) 2,Nat.mul_assoc]]
  generalize 2 ^ k*(2*m+1)=S at *;have h:=aMt S (S-1) 0 1 (by decide) (by decide)
  rw [show 2*(S-1)+1=2*S-1 by omega] at h
  rw [<- ih];simpa using h
theorem bBj (k:Nat):∀ w m,2 ^ k*(2*m+1)<2 ^ w->2 ^ k*(2*m+1)&&&(2 ^ w-2 ^ k*(2*m+1))=2 ^ k:=by
 induction k with
 | zero =>
  intro w m h
  cases w with
  | zero=>simp at h
  | succ w =>
   have hp:2 ^ (w+1)=2*2 ^ w:=by rw [Nat.pow_succ];omega
   simp only [Nat.pow_zero,Nat.one_mul] at h ⊢
   rw [show 2 ^ (w+1)-(2*m+1)=2*(2 ^ w-1-m)+1 by omega,aMt _ _ _ _ (by decide) (by decide),aX8 w m (by omega)]
 | succ k ih =>
  intro w m h
  have e:2 ^ (k+1)*(2*m+1)=2*(2 ^ k*(2*m+1)):=by rw [Nat.pow_succ,Nat.mul_comm (2 ^ k) 2,Nat.mul_assoc]
  rw [e] at h ⊢;cases w with
  | zero =>
   have hpos:0<2 ^ k*(2*m+1):=Nat.mul_pos (Nat.two_pow_pos k) (by omega)
   omega
  | succ w =>
   have hp:2 ^ (w+1)=2*2 ^ w:=by rw [Nat.pow_succ];omega
   have h2:=ih w m (by omega)
   rw [show 2 ^ (w+1)-2*(2 ^ k*(2*m+1))=2*(2 ^ w-2 ^ k*(2*m+1)) by omega,aZi,h2,Nat.pow_succ]
   omega
def aAl (S:Nat):List Nat:=(List.range 32).filter (S.testBit ·)
theorem aN4:aAl 0=[]:=by unfold aAl;simp
theorem aE4 {S v:Nat}:v∈aAl S↔v<32/\S.testBit v=true:=by unfold aAl;simp [List.mem_filter]
theorem bB1 {k m w:Nat} (h:2 ^ k*(2*m+1)<2 ^ w):k<w:=by
 rcases Nat.lt_or_ge k w with hk | hk
 .exact hk
 .have h1:2 ^ w<=2 ^ k:=Nat.pow_le_pow_right (by decide) hk
  have h2:2 ^ k*1<=2 ^ k*(2*m+1):=Nat.mul_le_mul_left _ (by omega)
  omega
theorem aTf (k m i:Nat):(2 ^ k*(2*m+1)).testBit i=(decide (i=k)||(2 ^ k*(2*m)).testBit i):=by
 rw [Nat.testBit_two_pow_mul,Nat.testBit_two_pow_mul]
 by_cases h:i=k
 .subst h;simp [Nat.testBit_zero]
 .by_cases hk:k<=i
  .obtain ⟨j,rfl⟩:∃ j,i=k+(j+1):=⟨i-k-1,by omega⟩
   rw [show k+(j+1)-k=j+1 by omega,Nat.testBit_succ,Nat.testBit_succ,show (2*m+1) / 2=2*m / 2 by omega]
   simp
  .simp [h,hk]
theorem aMu (k m i:Nat) (h:i<=k):(2 ^ k*(2*m)).testBit i=false:=by
 rw [Nat.testBit_two_pow_mul]
 by_cases hk:i=k
 .subst hk;simp [Nat.testBit_zero]
 .have:¬ i ≥ k:=by omega
  simp [this]
theorem aJk {k m:Nat} (h:2 ^ k*(2*m+1)<2 ^ 32):aAl (2 ^ k*(2*m+1))=k :: aAl (2 ^ k*(2*m)):=by
 have hk:k<32:=bB1 h;unfold aAl;obtain ⟨d,hd⟩:∃ d,32=k+(1+d):=⟨31-k,by omega⟩
 rw [hd,List.range_add,List.filter_append,List.filter_append,List.range_add,List.map_append,List.filter_append,List.filter_append]
 have h1:∀ S:Nat,(∀ i,i<k->S.testBit i=false)->(List.range k).filter (S.testBit ·)=[]:=by
  intro S hS;rw [List.filter_eq_nil_iff];intro a ha;rw [hS a (List.mem_range.1 ha)];decide
 rw [h1 _ (fun i hi=>by rw [aTf,aMu k m i (by omega)];simp;omega),h1 _ (fun i hi=>aMu k m i (by omega))]
 have h2:(List.map (k+·) (List.range 1))=[k]:=rfl;rw [h2,List.nil_append,List.nil_append];have e1:List.filter (fun x=>(2 ^ k*(2*m+1)).testBit x) [k]=[k]:=by simp [aTf]
 have e2:List.filter (fun x=>(2 ^ k*(2*m)).testBit x) [k]=[]:=by simp [aMu k m k (Nat.le_refl _)]
 rw [e1,e2,List.nil_append,List.singleton_append]
 congr 1
 refine List.filter_congr fun i hi=>?_
 simp only [List.mem_map,List.mem_range] at hi
 obtain ⟨a,⟨b,_,rfl⟩,rfl⟩:=hi;rw [aTf];have:¬ k+(1+b)=k:=by omega
 simp [this]
def aSp:List (Int × Int)->Int
 | []=>1
 | b :: bs=>(b.2-b.1+1)*aSp bs
def okL (bs:List (Int × Int)):Prop:=∀ b∈bs,b.1<=b.2
def inL:List (Int × Int)->List Int->Prop
 | [],[]=>True
 | b :: bs,c :: cs=>b.1<=c/\c<=b.2/\inL bs cs
 | _,_=>False
theorem aV1 {b:Int × Int} {bs:List (Int × Int)} (h:okL (b :: bs)):b.1<=b.2/\okL bs :=
 ⟨h b (List.mem_cons_self ..),fun x hx=>h x (List.mem_cons_of_mem _ hx)⟩
theorem aOh:∀ {bs:List (Int × Int)},okL bs->0<aSp bs
 | [],_=>by decide
 | b :: bs,h=>Int.mul_pos (by have:=(aV1 h).1;omega) (aOh (aV1 h).2)
def aOz:List (List (Int × Int))->Int
 | []=>1
 | t :: T=>aSp t*aOz T
def okN (T:List (List (Int × Int))):Prop:=∀ t∈T,okL t
def inN:List (List (Int × Int))->List (List Int)->Prop
 | [],[]=>True
 | t :: T,c :: C=>inL t c/\inN T C
 | _,_=>False
theorem aV2 {t:List (Int × Int)} {T:List (List (Int × Int))} (h:okN (t :: T)):okL t/\okN T :=
 ⟨h t (List.mem_cons_self ..),fun x hx=>h x (List.mem_cons_of_mem _ hx)⟩
theorem aSq:∀ {T:List (List (Int × Int))},okN T->0<aOz T
 | [],_=>by decide
 | _ :: _,h=>Int.mul_pos (aOh (aV2 h).1) (aSq (aV2 h).2)
theorem aTl {S n:Nat} (hn:n<=32) (hS:S<2 ^ n):aAl S=(List.range n).filter (S.testBit ·):=by
 unfold aAl;rw [show (32:Nat)=n+(32-n) by omega,List.range_add,List.filter_append]
 have e:List.filter (fun x=>S.testBit x) (List.map (n+·) (List.range (32-n)))=[]:=by
  rw [List.filter_eq_nil_iff];intro a ha
  simp only [List.mem_map,List.mem_range] at ha
  obtain ⟨b,_,rfl⟩:=ha;rw [Nat.testBit_lt_two_pow (Nat.lt_of_lt_of_le hS (Nat.pow_le_pow_right (by decide) (Nat.le_add_right n b)))]
  decide
 rw [e,List.append_nil]
def bruijn:List Nat:=[0,1,28,2,29,14,24,3,30,22,20,15,25,17,4,8,31,27,13,23,21,19,16,7,26,12,18,6,11,5,10,9]
theorem aXg:∀ k,k<32->bruijn[(2 ^ k*125613361 % 4294967296) / 134217728]?=some k:=by decide
def lsb (S:Nat):Nat:=S&&&(4294967296-S)
theorem aKu {S:Nat} (hS:S<4294967296) (h0:S≠0):∃ k m,S=2 ^ k*(2*m+1)/\k<32/\lsb S=2 ^ k/\S&&&(S-1)=2 ^ k*(2*m)/\aAl S=k :: aAl (2 ^ k*(2*m)):=by
 obtain ⟨k,m,e⟩:=aY9 (S+1) S (Nat.lt_succ_self S) h0;have h32:2 ^ k*(2*m+1)<2 ^ 32:=by rw [<- e];exact hS
 refine ⟨k,m,e,bB1 h32,?_,?_,?_⟩
 .unfold lsb;rw [e];exact bBj k 32 m h32
 .rw [e];exact aVq k m
 .rw [e];exact aJk h32
theorem aXz {S:Nat} (hS:S<4294967296):lsb S<4294967296:=Nat.lt_of_le_of_lt Nat.and_le_left hS
theorem aJ5 {S:Nat} (hS:S<4294967296):(aAl S).length=0↔S=0:=by
 constructor
 .intro h
  by_cases h0:S=0
  .exact h0
  .obtain ⟨k,m,_,_,_,_,e⟩:=aKu hS h0
   rw [e] at h;simp at h
 .rintro rfl;rw [aN4];rfl
theorem aWp {S:Nat} (hS:S<4294967296) (h0:S≠0):(S&&&(S-1)==0)=decide ((aAl S).length=1):=by
 obtain ⟨k,m,e,_,_,h2,h3⟩:=aKu hS h0
 have hlt:2 ^ k*(2*m)<4294967296:=by
  have:2 ^ k*(2*m)<=2 ^ k*(2*m+1):=Nat.mul_le_mul_left _ (by omega)
  omega
 rw [h2,h3,List.length_cons,Bool.eq_iff_iff,beq_iff_eq,decide_eq_true_eq];rw [show ((aAl (2 ^ k*(2*m))).length+1=1)↔(aAl (2 ^ k*(2*m))).length=0 by omega,aJ5 hlt]
def aZo (b:Nat):Nat:=((List.range 8).filter (b.testBit ·)).length
theorem bAi:∀ n:Fin 256,Lib.onesCount n.val=aZo n.val:=by decide +kernel
theorem aQs {b:Nat} (h:b<256):Lib.pop8 (b:Int)=(aZo b:Int):=by
 have h1:=Lib.pop8_eq ⟨b,h⟩;have h2:=bAi ⟨b,h⟩;simp only at h1 h2
 rw [h1,h2]
theorem aQ5 (b:Nat):aZo b<=8:=Nat.le_trans (List.length_filter_le _ _) (by simp)
theorem aMf (S s:Nat):(List.filter (S.testBit ·) ((List.range 8).map (s+·))).length=aZo (S / 2 ^ s % 256):=by
 unfold aZo;rw [List.filter_map,List.length_map]
 congr 1
 refine List.filter_congr fun i hi=>?_
 have hi:=List.mem_range.1 hi;show S.testBit (s+i)=(S / 2 ^ s % 2 ^ 8).testBit i
 rw [Nat.testBit_mod_two_pow,decide_eq_true hi,Bool.true_and,Nat.testBit_div_two_pow,Nat.add_comm]
theorem aTm {S:Nat} (hS:S<4294967296):(aAl S).length=aZo (S / 16777216)+aZo (S / 65536 % 256)+aZo (S / 256 % 256)+aZo (S % 256):=by
 have e:List.range 32=(List.range 8).map (0+·)++((List.range 8).map (8+·)++((List.range 8).map (16+·)++(List.range 8).map (24+·))):=by decide
 unfold aAl;rw [e,List.filter_append,List.filter_append,List.filter_append,List.length_append,List.length_append,List.length_append,aMf,aMf,aMf,aMf];have e3:S / 2 ^ 24 % 256=S / 16777216:=by omega
 have e0:S / 2 ^ 0 % 256=S % 256:=by simp
 rw [e3,e0,show (2 ^ 16:Nat)=65536 by decide,show (2 ^ 8:Nat)=256 by decide]
 omega
theorem aQc (l:List Int) (a b:Int):l.foldl max (max a b)=max a (l.foldl max b):=by
 induction l generalizing b with
 | nil=>rfl
 | cons x l ih=>simp only [List.foldl_cons];rw [Int.max_assoc];exact ih _
theorem aRo (x:Int) (l:List Int):aDp (l++[x])=max (aDp l) x:=by
 unfold aDp;rw [List.foldl_append];rfl
theorem aW1 (x:Int) (l:List Int):aDp (x :: l)=max x (aDp l):=by
 have h:=aQc l x 0;unfold aDp;rw [List.foldl_cons,Int.max_comm 0 x];exact h
theorem aRn (l:List Int):aDp l.reverse=aDp l:=by
 induction l with
 | nil=>rfl
 | cons x l ih=>rw [List.reverse_cons,aRo,ih,aW1,Int.max_comm]
def rl (num:Int->Int->Int):List Term->List Int
 | []=>[]
 | t :: ts=>num t.op (aDp ((rl num ts).take (aAj t.op).toNat)) :: (rl num ts).drop (aAj t.op).toNat
theorem aNn (num:Int->Int->Int) (l:List Term):∀ m,aG4 l m->lev num l=(rl num l).reverse:=by
 induction l with
 | nil=>intro m _;rfl
 | cons t ts ih =>
  intro m h
  obtain ⟨h1,h2,h3⟩:=h.cons;have hlen:=h3.lev_length num;have e:=ih _ h3;rw [e,List.length_reverse] at hlen;simp only [lev,rl]
  rw [e,List.length_reverse,List.reverse_cons,List.take_reverse,List.drop_reverse,aRn];have hsub:(rl num ts).length-((rl num ts).length-(aAj t.op).toNat)=(aAj t.op).toNat:=by omega
  rw [hsub]
theorem aGw (num:Int->Int->Int) (l:List Term) (m:Int) (h:aG4 l m):((rl num l).length:Int)=m:=by
 have:=h.lev_length num;rw [aNn num l m h,List.length_reverse] at this;exact this
def wt (om:Bool->Int) (s:List (Int × Bool)):Int:=(s.map fun x=>om x.2).sum
def aD7 (om:Bool->Int):List (Int × Bool)->List Int
 | []=>[]
 | (c,b) :: r=>List.replicate (c-1).toNat (wt om ((c,b) :: r))++aD7 om r
def aT5 (om:Bool->Int) (s:List (Int × Bool)) (more:Bool):List Int:=if more then wt om s :: aD7 om s else []
def fin (d:Int) (pl ds:List Int):Int:=(List.zipWith (·+·) pl ds).foldl max d
theorem aOj (om:Bool->Int) (c:Int) (b:Bool) (s:List (Int × Bool)):wt om ((c,b) :: s)=om b+wt om s:=by simp [wt]
theorem aU7 (s:List (Int × Bool)) (h:aVj s):∃ more,∀ om,aD7 om s=aT5 om (aYh s) more:=by
 induction s with
 | nil=>exact ⟨false,fun om=>rfl⟩
 | cons x r ih =>
  obtain ⟨c,b⟩:=x;have hc:=h (c,b) (by simp)
  simp only at hc
  by_cases h1:c-1=0
  .obtain ⟨more,hm⟩:=ih h.tail
   refine ⟨more,fun om=>?_⟩
   simp only [aD7,aYh,if_pos h1]
   rw [h1];exact hm om
  .refine ⟨true,fun om=>?_⟩
   simp only [aD7,aYh,if_neg h1,aT5,if_true]
   have e:(c-1).toNat=(c-1-1).toNat+1:=by omega
   rw [e,List.replicate_succ,List.cons_append,aOj,aOj]
theorem aIu (om:Bool->Int) (a:Int) (b:Bool) (s:List (Int × Bool)) (ha:1<=a):aT5 om ((a,b) :: s) true=List.replicate a.toNat (wt om ((a,b) :: s))++aD7 om s:=by
 simp only [aT5,if_true,aD7]
 have e:a.toNat=(a-1).toNat+1:=by omega
 rw [e,List.replicate_succ,List.cons_append]
theorem aQb (l:List Int) (d c x:Int):(l.map (c+·)).foldl max (max d (c+x))=max d (c+l.foldl max x):=by
 induction l generalizing x with
 | nil=>rfl
 | cons y l ih =>
  simp only [List.map_cons,List.foldl_cons]
  rw [Int.max_assoc,show max (c+x) (c+y)=c+max x y by omega]
  exact ih _
theorem aZy (d p de:Int) (pl R:List Int) (a:Nat) (h:a<=R.length) :
  fin d (p :: pl) ((aDp (R.take a)+de) :: R.drop a)=fin (max d (p+de)) (List.replicate a (p+de)++pl) R:=by
 unfold fin
 have hz:List.zipWith (·+·) (List.replicate a (p+de)++pl) R=(R.take a).map ((p+de)+·)++List.zipWith (·+·) pl (R.drop a):=by
  have hR:=(List.take_append_drop a R).symm;have hl:(List.replicate a (p+de)).length=(R.take a).length:=by rw [List.length_replicate,List.length_take];omega
  have e:List.zipWith (·+·) (List.replicate a (p+de)++pl) R=List.zipWith (·+·) (List.replicate a (p+de)++pl) (R.take a++R.drop a):=by rw [List.take_append_drop]
  rw [e,List.zipWith_append hl]
  congr 1
  generalize hQ:R.take a=Q at *;have:Q.length=a:=by rw [<- hl,List.length_replicate]
  clear hQ hR e hl h;subst this
  induction Q with
  | nil=>rfl
  | cons y Q ih=>simp only [List.length_cons,List.replicate_succ,List.zipWith_cons_cons,List.map_cons,ih]
 rw [hz,List.foldl_append];simp only [List.zipWith_cons_cons,List.foldl_cons]
 have:=aQb (R.take a) d (p+de) 0;rw [Int.add_zero] at this;rw [this]
 congr 1
 unfold aDp;omega
def omD (_:Bool):Int:=1
def omN (b:Bool):Int:=if b then 1 else 0
theorem bCk (s:List (Int × Bool)):wt omD s=s.length:=by
 induction s with
 | nil=>rfl
 | cons x s ih=>obtain ⟨c,b⟩:=x;rw [aOj,ih];simp [omD];omega
theorem bCl (s:List (Int × Bool)):wt omN s=aFv s:=by
 induction s with
 | nil=>rfl
 | cons x s ih =>
  obtain ⟨c,b⟩:=x;rw [aOj,ih];unfold aFv omN;cases b
  .simp
  .simp;omega
theorem aTk (op g:Int):aCn op g=g+omD (aAc op):=rfl
theorem aW9 (op g:Int):aD5 op g=g+omN (aAc op):=by unfold aD5 omN;split <;> simp
theorem aVc (num:Int->Int->Int) (om:Bool->Int) (hnum:∀ op g,num op g=g+om (aAc op)) (d:Int) (t:Term) (ts:List Term) (s:List (Int × Bool)) (hl:(aAj t.op).toNat<=(rl num ts).length) :
  fin d (aT5 om s true) (rl num (t :: ts))=fin (max d (wt om ((aAj t.op,aAc t.op) :: s))) (List.replicate (aAj t.op).toNat (wt om ((aAj t.op,aAc t.op) :: s))++aD7 om s) (rl num ts):=by
 simp only [rl,aT5,if_true]
 rw [hnum,aZy _ _ _ _ _ _ hl,aOj,Int.add_comm (om _) (wt om s)]
theorem aWj (ts:List Term):∀ (s:List (Int × Bool)) (d n:Int) (more:Bool),aVj s->aG4 ts (aT5 omD s more).length->aG4 ts (aT5 omN s more).length ->
  aM8 ts s d n=(fin d (aT5 omD s more) (rl aCn ts),fin n (aT5 omN s more) (rl aD5 ts)):=by
 induction ts with
 | nil =>
  intro s d n more _ h _
  cases more with
  | false=>rfl
  | true =>
   rcases h with ⟨_,h⟩ | ⟨_,h⟩
   .simp [aT5] at h;omega
   .simp [aJf] at h
 | cons t ts ih =>
  intro s d n more hw hD hN
  cases more with
  | false=>have:=hD.cons.1;simp [aT5] at this
  | true =>
   obtain ⟨_,h0,hD2⟩:=hD.cons;obtain ⟨_,_,hN2⟩:=hN.cons;have lD:=aGw aCn ts _ hD2;have lN:=aGw aD5 ts _ hN2;have eD:((aT5 omD s true).length:Int)=1+(aD7 omD s).length:=by simp [aT5];omega
   have eN:((aT5 omN s true).length:Int)=1+(aD7 omN s).length:=by simp [aT5];omega
   rw [aVc aCn omD aTk d t ts s (by omega),aVc aD5 omN aW9 n t ts s (by omega)]
   simp only [aM8]
   rw [<- bCl,<- bCk]
   rcases Int.lt_or_eq_of_le h0 with ha | ha
   .have hne:aF9 ((aAj t.op,aAc t.op) :: s)=(aAj t.op,aAc t.op) :: s:=aRz _ _ _ (by omega)
    rw [hne,<- aIu omD _ _ _ (by omega),<- aIu omN _ _ _ (by omega)]
    refine ih _ _ _ _ ?_ ?_ ?_
    .have:=aPe (b:=aAc t.op) hw h0 (aH4 t.op).2
     rw [hne] at this;exact this.1
    .rw [aIu _ _ _ _ (by omega),List.length_append,List.length_replicate]
     rw [eD] at hD2;have:(((aAj t.op).toNat+(aD7 omD s).length:Nat):Int)=1+(aD7 omD s).length+(aAj t.op-1):=by omega
     rw [this];exact hD2
    .rw [aIu _ _ _ _ (by omega),List.length_append,List.length_replicate]
     rw [eN] at hN2;have:(((aAj t.op).toNat+(aD7 omN s).length:Nat):Int)=1+(aD7 omN s).length+(aAj t.op-1):=by omega
     rw [this];exact hN2
   .have hne:aF9 ((aAj t.op,aAc t.op) :: s)=aYh s:=by simp [aF9,<- ha]
    obtain ⟨more,hm⟩:=aU7 s hw;rw [hne,<- ha];simp only [Int.toNat_zero,List.replicate_zero,List.nil_append]
    rw [hm omD,hm omN];refine ih _ _ _ _ (aO6 hw).1 ?_ ?_
    .rw [<- hm omD];rw [eD,<- ha] at hD2
     have:(1+((aD7 omD s).length:Int)+(0-1))=(aD7 omD s).length:=by omega
     rw [this] at hD2;exact hD2
    .rw [<- hm omN];rw [eN,<- ha] at hN2
     have:(1+((aD7 omN s).length:Int)+(0-1))=(aD7 omN s).length:=by omega
     rw [this] at hN2;exact hN2
theorem aNo (num:Int->Int->Int) (hn:∀ op g,0<=g->0<=num op g/\num op g<=g+1) (es:List Term) (h:endF es 0=es.length):fin 0 [0] (rl num es)=aE0 num es:=by
 have hF:=aFt h;have hl:=aGw num es 1 hF;obtain ⟨x,hx⟩:∃ x,rl num es=[x]:=List.length_eq_one_iff.1 (by omega)
 have hlev:=aNn num es 1 hF;unfold aE0;rw [if_pos h,hlev,hx];have hb:=(aRr num hn es).2 x (by rw [hlev,hx];simp)
 simp [fin];omega
theorem aV7 (es:List Term) (h:endF es 0=es.length):aM8 es [] 0 0=(aDq es,aHt es):=by
 have hF:=aFt h;rw [aWj es [] 0 0 true (fun _ h=>by simp at h) hF hF]
 show (fin 0 [0] (rl aCn es),fin 0 [0] (rl aD5 es))=_
 rw [aNo aCn aN2 es h,aNo aD5 aPd es h];rfl
theorem aLe (es:List Term):aWx es=(endF es 0==es.length):=by
 unfold aWx;rw [Bool.eq_iff_iff];simp
 intro h
 have:=aTn es 0;omega
theorem aLm (es:List Term) (h:endF es 0=es.length):∀ t∈es,0<=aAj t.op:=by
 intro t ht
 obtain ⟨i,hi,rfl⟩:=List.getElem_of_mem ht;exact (bB0 aCn (aFt h) hi).1
theorem bAl (l:List Term):∀ (m1 m2:Int),1<=m1->1<=m2->aJf l (m1+m2)=(match aJf l m1 with | none=>none | some n=>(aJf (l.drop n) m2).map (n+·)):=by
 induction l with
 | nil=>intro m1 m2 _ _;rfl
 | cons t ts ih =>
  intro m1 m2 h1 h2
  simp only [aJf]
  by_cases ha:aAj t.op<0
  .simp only [if_pos ha]
  .simp only [if_neg ha]
   rw [if_neg (by omega)]
   by_cases h0:m1+(aAj t.op-1)=0
   .rw [if_pos h0]
    simp only [List.drop_succ_cons,List.drop_zero]
    rw [show m1+m2+(aAj t.op-1)=m2 by omega]
    congr 1;funext x;omega
   .rw [if_neg h0,show m1+m2+(aAj t.op-1)=(m1+(aAj t.op-1))+m2 by omega,ih _ _ (by omega) h2]
    cases aJf ts (m1+(aAj t.op-1)) with
    | none=>rfl
    | some n =>
     simp only [Option.map_some,List.drop_succ_cons,Option.map_map]
     congr 1;funext x;simp;omega
theorem aZq (es:List Term) (k:Nat) (h:k<es.length):endF es (k:Int)=aDa es k 1:=by
 unfold endF;rw [if_neg (by omega),Int.toNat_natCast]
theorem aOg (l r:List Term):∀ (m:Int) (n:Nat),aJf l m=some n->aJf (l++r) m=some n:=by
 induction l with
 | nil=>intro m n h;simp [aJf] at h
 | cons t ts ih =>
  intro m n h
  simp only [aJf] at h
  split at h
  .cases h
  .rename_i ha
   split at h
   .rename_i h0
    simp only [List.cons_append,aJf,if_neg ha,if_pos h0];exact h
   .rename_i h0
    cases hs:aJf ts (m+(aAj t.op-1)) with
    | none=>rw [hs] at h;cases h
    | some q =>
     rw [hs] at h;simp only [List.cons_append,aJf,if_neg ha,if_neg h0,ih _ _ hs];exact h
theorem aUt {p:List Term} (h:aG4 p 1):endF p 0=p.length:=by
 rcases h with ⟨_,h⟩ | ⟨_,h⟩
 .omega
 .have:=aUg _ _ _ h
  unfold endF aDa;rw [if_neg (by omega)]
  simp only [Int.toNat_zero,List.drop_zero,h]
  simp
theorem aG4.pos {p:List Term} (h:aG4 p 1):0<p.length:=by
 rcases h with ⟨_,h⟩ | ⟨_,h⟩
 .omega
 .exact (aUg _ _ _ h).1
theorem aG4.add {p q:List Term} {m1 m2:Int} (hp:aG4 p m1) (hq:aG4 q m2) (h1:1<=m1) (h2:1<=m2):aG4 (p++q) (m1+m2):=by
 rcases hp with ⟨_,h⟩ | ⟨_,hp⟩
 .omega
 .rcases hq with ⟨_,h⟩ | ⟨_,hq⟩
  .omega
  .right
   refine ⟨by omega,?_⟩
   rw [bAl _ _ _ h1 h2,aOg p q _ _ hp];simp only [List.drop_left,hq,Option.map_some,List.length_append]
theorem aG4.mk {t:Term} {ts:List Term} (h:aG4 ts (aAj t.op)) (h1:1<=aAj t.op):aG4 (t :: ts) 1:=by
 rcases h with ⟨_,h⟩ | ⟨_,h⟩
 .omega
 .right
  refine ⟨by omega,?_⟩
  simp only [aJf]
  rw [if_neg (by omega),if_neg (by omega),show 1+(aAj t.op-1)=aAj t.op by omega,h]
  rfl
theorem aGv (num:Int->Int->Int) (p r:List Term):∀ m,aG4 p m->rl num (p++r)=rl num p++rl num r:=by
 induction p with
 | nil=>intro m _;rfl
 | cons t ts ih =>
  intro m h
  obtain ⟨h1,h2,h3⟩:=h.cons;have hl:=aGw num ts _ h3;simp only [List.cons_append,rl]
  rw [ih _ h3,List.take_append_of_le_length (by omega),List.drop_append_of_le_length (by omega)]
theorem aCh (num:Int->Int->Int) {p:List Term} (h:aG4 p 1):rl num p=[aE0 num p]:=by
 have hl:=aGw num p 1 h;obtain ⟨x,hx⟩:∃ x,rl num p=[x]:=List.length_eq_one_iff.1 (by omega)
 have hlev:=aNn num p 1 h;unfold aE0;rw [if_pos (aUt h),hlev,hx];rfl
theorem aT0 (es:List Term) (vars:Int):aB6 es vars=true↔es.length<=200/\aG4 es 1/\(∀ t∈es,aG5 t vars=true)/\aDq es<=24/\aHt es<=2:=by
 unfold aB6;simp only [Bool.and_eq_true,decide_eq_true_eq,beq_iff_eq,List.all_eq_true]
 constructor
 .rintro ⟨⟨⟨⟨a,b⟩,c⟩,d⟩,e⟩
  exact ⟨a,aFt b,c,d,e⟩
 .rintro ⟨a,b,c,d,e⟩
  exact ⟨⟨⟨⟨a,aUt b⟩,c⟩,d⟩,e⟩
theorem aEn (num:Int->Int->Int) {t:Term} {ts:List Term} (h:aG4 ts (aAj t.op)) (h1:1<=aAj t.op):aE0 num (t :: ts)=num t.op (aDp (rl num ts)):=by
 have hs:=aCh num (aG4.mk h h1);have hl:=aGw num ts _ h;simp only [rl] at hs
 injection hs with h2 _
 rw [<- h2,List.take_of_length_le (by omega)]
inductive Ex where
 | leaf (t:Term)
 | un (t:Term) (a:Ex)
 | bin (t:Term) (a b:Ex)
 | tri (t:Term) (a b c:Ex)
def Ex.terms:Ex->List Term
 | .leaf t=>[t]
 | .un t a=>t :: a.terms
 | .bin t a b=>t :: (a.terms++b.terms)
 | .tri t a b c=>t :: (a.terms++(b.terms++c.terms))
def Ex.len (x:Ex):Nat:=x.terms.length
def Ex.ok:Ex->Prop
 | .leaf t=>aAj t.op=0
 | .un t a=>aAj t.op=1/\a.ok
 | .bin t a b=>aAj t.op=2/\a.ok/\b.ok
 | .tri t a b c=>aAj t.op=3/\a.ok/\b.ok/\c.ok
theorem Ex.pos (x:Ex):0<x.len:=by cases x <;> simp [Ex.len,Ex.terms]
theorem Ex.full {x:Ex} (h:x.ok):aG4 x.terms 1:=by
 induction x with
 | leaf t =>
  simp only [Ex.ok] at h
  right
  refine ⟨by omega,?_⟩
  simp [Ex.terms,aJf,h]
 | un t a ih =>
  obtain ⟨h1,h2⟩:=h;exact aG4.mk (by rw [h1];exact ih h2) (by omega)
 | bin t a b iha ihb =>
  obtain ⟨h1,h2,h3⟩:=h;exact aG4.mk (by rw [h1];exact aG4.add (m1:=1) (m2:=1) (iha h2) (ihb h3) (by omega) (by omega)) (by omega)
 | tri t a b c iha ihb ihc =>
  obtain ⟨h1,h2,h3,h4⟩:=h;exact aG4.mk (by rw [h1];exact aG4.add (m1:=1) (m2:=2) (iha h2) (aG4.add (m1:=1) (m2:=1) (ihb h3) (ihc h4) (by omega) (by omega)) (by omega) (by omega)) (by omega)
theorem parse (l:List Term):∀ m,aG4 l m->∃ xs:List Ex,(∀ x∈xs,x.ok)/\xs.flatMap Ex.terms=l/\(xs.length:Int)=m:=by
 induction l with
 | nil =>
  intro m h
  rcases h with ⟨_,h⟩ | ⟨_,h⟩
  .exact ⟨[],fun _ h=>by simp at h,rfl,by simp [h]⟩
  .simp [aJf] at h
 | cons t ts ih =>
  intro m h
  obtain ⟨h1,h2,h3⟩:=h.cons;obtain ⟨xs,hok,hfl,hlen⟩:=ih _ h3;have h4:=(aH4 t.op).2
  rcases (show aAj t.op=0∨aAj t.op=1∨aAj t.op=2∨aAj t.op=3 by omega) with ha | ha | ha | ha
  .refine ⟨.leaf t :: xs,?_,by simp [Ex.terms,hfl],by simp;omega⟩
   intro x hx
   rcases List.mem_cons.1 hx with e | e
   .subst e;exact ha
   .exact hok x e
  .match xs,hok,hfl,hlen with
   | [],_,_,hlen=>simp at hlen;omega
   | a :: xs,hok,hfl,hlen =>
    refine ⟨.un t a :: xs,?_,by simp [Ex.terms,<- hfl],by simp at hlen ⊢;omega⟩
    intro x hx
    rcases List.mem_cons.1 hx with e | e
    .subst e;exact ⟨ha,hok a (by simp)⟩
    .exact hok x (by simp [e])
  .match xs,hok,hfl,hlen with
   | [],_,_,hlen=>simp at hlen;omega
   | [a],_,_,hlen=>simp at hlen;omega
   | a :: b :: xs,hok,hfl,hlen =>
    refine ⟨.bin t a b :: xs,?_,by simp [Ex.terms,<- hfl],by simp at hlen ⊢;omega⟩
    intro x hx
    rcases List.mem_cons.1 hx with e | e
    .subst e;exact ⟨ha,hok a (by simp),hok b (by simp)⟩
    .exact hok x (by simp [e])
  .match xs,hok,hfl,hlen with
   | [],_,_,hlen=>simp at hlen;omega
   | [a],_,_,hlen=>simp at hlen;omega
   | [a,b],_,_,hlen=>simp at hlen;omega
   | a :: b :: c :: xs,hok,hfl,hlen =>
    refine ⟨.tri t a b c :: xs,?_,by simp [Ex.terms,<- hfl],by simp at hlen ⊢;omega⟩
    intro x hx
    rcases List.mem_cons.1 hx with e | e
    .subst e;exact ⟨ha,hok a (by simp),hok b (by simp),hok c (by simp)⟩
    .exact hok x (by simp [e])
theorem bCg {l:List Term} (h:aG4 l 1):∃ x:Ex,x.ok/\x.terms=l:=by
 obtain ⟨xs,h1,h2,h3⟩:=parse l 1 h;obtain ⟨x,rfl⟩:∃ x,xs=[x]:=List.length_eq_one_iff.1 (by omega)
 exact ⟨x,h1 x (by simp),by simpa using h2⟩
def Ex.At (es:List Term) (k:Nat) (x:Ex):Prop:=x.ok/\∃ r,es.drop k=x.terms++r
theorem At.whole {es:List Term} {x:Ex} (h:x.ok) (he:x.terms=es):x.At es 0:=⟨h,[],by simp [he]⟩
theorem aG7 {es r:List Term} {k n:Nat} {p:List Term} (h:es.drop k=p++r) (hn:p.length=n):es.drop (k+n)=r:=by
 rw [<- List.drop_drop,h,<- hn,List.drop_left]
theorem At.bound {es:List Term} {k:Nat} {x:Ex} (h:x.At es k):k+x.len<=es.length:=by
 obtain ⟨_,r,hr⟩:=h;have:=congrArg List.length hr;have hp:=x.pos;simp only [List.length_drop,List.length_append] at this
 unfold Ex.len at *;omega
theorem At.lt {es:List Term} {k:Nat} {x:Ex} (h:x.At es k):k<es.length:=by
 have:=At.bound h;have:=x.pos;omega
theorem aK6 {es r:List Term} {k:Nat} {t:Term} (h:es.drop k=t :: r):es[k]?=some t/\es.drop (k+1)=r:=by
 refine ⟨?_,?_⟩
 .have:=congrArg (·[0]?) h
  simpa using this
 .exact aG7 (p:=[t]) h rfl
theorem At.leaf {es:List Term} {k:Nat} {t:Term} (h:(Ex.leaf t).At es k):es[k]?=some t/\aAj t.op=0:=by
 obtain ⟨h1,r,hr⟩:=h;exact ⟨(aK6 hr).1,h1⟩
theorem At.un {es:List Term} {k:Nat} {t:Term} {a:Ex} (h:(Ex.un t a).At es k):es[k]?=some t/\aAj t.op=1/\a.At es (k+1):=by
 obtain ⟨⟨h1,h2⟩,r,hr⟩:=h;obtain ⟨g1,g2⟩:=aK6 hr;exact ⟨g1,h1,h2,r,g2⟩
theorem At.bin {es:List Term} {k:Nat} {t:Term} {a b:Ex} (h:(Ex.bin t a b).At es k):es[k]?=some t/\aAj t.op=2/\a.At es (k+1)/\b.At es (k+1+a.len):=by
 obtain ⟨⟨h1,h2,h3⟩,r,hr⟩:=h;obtain ⟨g1,g2⟩:=aK6 (r:=_++r) hr;rw [List.append_assoc] at g2;exact ⟨g1,h1,⟨h2,_,g2⟩,h3,r,aG7 g2 rfl⟩
theorem At.tri {es:List Term} {k:Nat} {t:Term} {a b c:Ex} (h:(Ex.tri t a b c).At es k):es[k]?=some t/\aAj t.op=3/\a.At es (k+1)/\b.At es (k+1+a.len)/\c.At es (k+1+a.len+b.len):=by
 obtain ⟨⟨h1,h2,h3,h4⟩,r,hr⟩:=h;obtain ⟨g1,g2⟩:=aK6 (r:=_++r) hr;rw [List.append_assoc] at g2;have g3:=aG7 g2 rfl;rw [List.append_assoc] at g3;exact ⟨g1,h1,⟨h2,_,g2⟩,⟨h3,_,g3⟩,h4,r,aG7 g3 rfl⟩
theorem At.endF {es:List Term} {k:Nat} {x:Ex} (h:x.At es k):endF es (k:Int)=((k+x.len:Nat):Int):=by
 have hlt:=At.lt h;obtain ⟨hok,r,hr⟩:=h;rw [aZq es k hlt];unfold aDa
 rcases Ex.full hok with ⟨_,h⟩ | ⟨_,h⟩
 .omega
 .rw [hr,aOg _ r _ _ h];simp [Ex.len]
theorem aS1 {es:List Term} {k:Nat} {t:Term} (h:es[k]?=some t):opAt es (k:Int)=t.op:=by
 obtain ⟨h1,h2⟩:=List.getElem?_eq_some_iff.1 h;rw [aV3 h1,h2]
theorem At.operand1 {es:List Term} {k:Nat} {x a:Ex} {t:Term} (h:x.At es k) (ht:es[k]?=some t) (har:2<=aAj t.op) (ha:a.At es (k+1)):aDm es (k:Int) 1=((k+1+a.len:Nat):Int):=by
 unfold aDm;rw [At.endF h,aS1 ht,if_neg (by omega)]
 show Go.Proofs.YtdcjnhoabbdanaaGreatDoor.endF es ((k:Int)+1)=_
 rw [show (k:Int)+1=((k+1:Nat):Int) by omega,At.endF ha]
theorem At.operand2 {es:List Term} {k:Nat} {x a b:Ex} {t:Term} (h:x.At es k) (ht:es[k]?=some t) (har:3<=aAj t.op) (ha:a.At es (k+1)) (hb:b.At es (k+1+a.len)):aDm es (k:Int) 2=((k+1+a.len+b.len:Nat):Int):=by
 unfold aDm;rw [At.endF h,aS1 ht,if_neg (by omega)]
 show Go.Proofs.YtdcjnhoabbdanaaGreatDoor.endF es (Go.Proofs.YtdcjnhoabbdanaaGreatDoor.endF es ((k:Int)+1))=_
 rw [show (k:Int)+1=((k+1:Nat):Int) by omega,At.endF ha,At.endF hb]
def Ex.depth:Ex->Int
 | .leaf _=>1
 | .un _ a=>a.depth+1
 | .bin _ a b=>max a.depth b.depth+1
 | .tri _ a b c=>max a.depth (max b.depth c.depth)+1
def Ex.nest:Ex->Int
 | .leaf _=>0
 | .un t a=>if aAc t.op then a.nest+1 else a.nest
 | .bin _ a b=>max a.nest b.nest
 | .tri _ a b c=>max a.nest (max b.nest c.nest)
theorem Ex.depth_pos (x:Ex):1<=x.depth:=by
 induction x <;> simp only [Ex.depth] <;> omega
theorem Ex.nest_pos (x:Ex):0<=x.nest:=by
 induction x with
 | leaf t=>simp [Ex.nest]
 | un t a ih=>simp only [Ex.nest];split <;> omega
 | bin t a b iha ihb=>simp only [Ex.nest];omega
 | tri t a b c iha ihb ihc=>simp only [Ex.nest];omega
theorem aX7 {op:Int} (h:aAc op=true):aAj op=1:=by
 unfold aAc at h;have:20<=op/\op<=29:=by simpa using h
 unfold aAj;rw [if_neg (by omega),if_neg (by omega),if_pos (by omega)]
theorem aHx {op:Int} (h:aAj op≠1):aAc op=false:=by
 cases hb:aAc op with
 | false=>rfl
 | true=>exact absurd (aX7 hb) h
theorem aNp (num:Int->Int->Int) {t:Term} (h:aAj t.op=0):aE0 num [t]=num t.op 0:=by
 have hF:aG4 [t] 1:=Ex.full (x := .leaf t) h;have:=aCh num hF;simp only [rl] at this
 injection this with h1 _
 rw [<- h1,h];rfl
theorem Ex.levels_depth {x:Ex} (h:x.ok):aDq x.terms=x.depth:=by
 unfold aDq
 induction x with
 | leaf t=>simp only [Ex.terms];rw [aNp _ h];rfl
 | un t a ih =>
  obtain ⟨h1,h2⟩:=h;have hp:=a.depth_pos;simp only [Ex.terms]
  rw [aEn _ (by rw [h1];exact Ex.full h2) (by omega),aCh _ (Ex.full h2),ih h2]
  simp [aDp,aCn,Ex.depth];omega
 | bin t a b iha ihb =>
  obtain ⟨h1,h2,h3⟩:=h;have hp:=a.depth_pos;have hq:=b.depth_pos;simp only [Ex.terms]
  rw [aEn _ (by rw [h1];exact aG4.add (m1:=1) (m2:=1) (Ex.full h2) (Ex.full h3) (by omega) (by omega)) (by omega),aGv _ _ _ 1 (Ex.full h2),aCh _ (Ex.full h2),aCh _ (Ex.full h3),iha h2,ihb h3]
  simp [aDp,aCn,Ex.depth];omega
 | tri t a b c iha ihb ihc =>
  obtain ⟨h1,h2,h3,h4⟩:=h;have hp:=a.depth_pos;have hq:=b.depth_pos;have hr:=c.depth_pos;simp only [Ex.terms]
  rw [aEn _ (by rw [h1];exact aG4.add (m1:=1) (m2:=2) (Ex.full h2) (aG4.add (m1:=1) (m2:=1) (Ex.full h3) (Ex.full h4) (by omega) (by omega)) (by omega) (by omega)) (by omega),aGv _ _ _ 1 (Ex.full h2),aGv _ _ _ 1 (Ex.full h3),aCh _ (Ex.full h2),aCh _ (Ex.full h3),aCh _ (Ex.full h4),iha h2,ihb h3,ihc h4]
  simp [aDp,aCn,Ex.depth];omega
theorem Ex.levels_nest {x:Ex} (h:x.ok):aHt x.terms=x.nest:=by
 unfold aHt
 induction x with
 | leaf t =>
  simp only [Ex.terms];rw [aNp _ h]
  have:=aHx (op:=t.op) (by rw [h];omega)
  simp [aD5,this,Ex.nest]
 | un t a ih =>
  obtain ⟨h1,h2⟩:=h;have hp:=a.nest_pos;simp only [Ex.terms]
  rw [aEn _ (by rw [h1];exact Ex.full h2) (by omega),aCh _ (Ex.full h2),ih h2]
  have:aDp [a.nest]=a.nest:=by simp [aDp];omega
  rw [this];simp [aD5,Ex.nest]
 | bin t a b iha ihb =>
  obtain ⟨h1,h2,h3⟩:=h;have hp:=a.nest_pos;have hq:=b.nest_pos;have hag:=aHx (op:=t.op) (by rw [h1];omega)
  simp only [Ex.terms]
  rw [aEn _ (by rw [h1];exact aG4.add (m1:=1) (m2:=1) (Ex.full h2) (Ex.full h3) (by omega) (by omega)) (by omega),aGv _ _ _ 1 (Ex.full h2),aCh _ (Ex.full h2),aCh _ (Ex.full h3),iha h2,ihb h3]
  simp [aDp,aD5,hag,Ex.nest];omega
 | tri t a b c iha ihb ihc =>
  obtain ⟨h1,h2,h3,h4⟩:=h;have hp:=a.nest_pos;have hq:=b.nest_pos;have hr:=c.nest_pos;have hag:=aHx (op:=t.op) (by rw [h1];omega)
  simp only [Ex.terms]
  rw [aEn _ (by rw [h1];exact aG4.add (m1:=1) (m2:=2) (Ex.full h2) (aG4.add (m1:=1) (m2:=1) (Ex.full h3) (Ex.full h4) (by omega) (by omega)) (by omega) (by omega)) (by omega),aGv _ _ _ 1 (Ex.full h2),aGv _ _ _ 1 (Ex.full h3),aCh _ (Ex.full h2),aCh _ (Ex.full h3),aCh _ (Ex.full h4),iha h2,ihb h3,ihc h4]
  simp [aDp,aD5,hag,Ex.nest];omega
theorem aWu {es:List Term} {vars:Int} (h:aB6 es vars=true):∃ x:Ex,x.ok/\x.terms=es/\es.length<=200/\(∀ t∈es,aG5 t vars=true)/\x.depth<=24/\x.nest<=2:=by
 obtain ⟨h1,h2,h3,h4,h5⟩:=(aT0 es vars).1 h;obtain ⟨x,hx,rfl⟩:=bCg h2;exact ⟨x,hx,rfl,h1,h3,by rw [<- Ex.levels_depth hx];exact h4,by rw [<- Ex.levels_nest hx];exact h5⟩
structure Link where
 «to»:Int
 weight:Int
instance:Inhabited Link:=⟨⟨0,0⟩⟩
structure Graph where
 ids:List Int
 ports:List (List Link)
structure Var where
 name:ByteArray
 kind:Int
 lo:Int
 hi:Int
 perNode:Int
 perID:Int
instance:Inhabited Var:=⟨⟨ByteArray.empty,0,0,0,0,0⟩⟩
structure SetT where
 var:Int
 value:List Term
instance:Inhabited SetT:=⟨⟨0,[]⟩⟩
structure Rule where
 name:ByteArray
 guard:List Term
 sets:List SetT
instance:Inhabited Rule:=⟨⟨ByteArray.empty,[],[]⟩⟩
structure Prg where
 name:ByteArray
 vars:List Var
 rules:List Rule
abbrev aA6:=List (List Int)
def aIm:List Term->List Ex
 | []=>[]
 | t :: ts =>
  let s:=aIm ts
  if aAj t.op=0 then .leaf t :: s
  else if aAj t.op=1 then (match s with | a :: s => .un t a :: s | []=>[])
  else if aAj t.op=2 then (match s with | a :: b :: s => .bin t a b :: s | _=>[])
  else (match s with | a :: b :: c :: s => .tri t a b c :: s | _=>[])
def aAv (es:List Term):Ex:=(aIm es).headD (.leaf default)
theorem aR5 {x:Ex} (h:x.ok) (r:List Term):aIm (x.terms++r)=x :: aIm r:=by
 induction x generalizing r with
 | leaf t=>simp only [Ex.ok] at h;simp [Ex.terms,aIm,h]
 | un t a ih=>obtain ⟨h1,h2⟩:=h;simp [Ex.terms,aIm,h1,ih h2]
 | bin t a b iha ihb=>obtain ⟨h1,h2,h3⟩:=h;simp [Ex.terms,aIm,h1,iha h2,ihb h3]
 | tri t a b c iha ihb ihc=>obtain ⟨h1,h2,h3,h4⟩:=h;simp [Ex.terms,aIm,h1,iha h2,ihb h3,ihc h4]
theorem aSx {x:Ex} (h:x.ok):aAv x.terms=x:=by
 have:=aR5 h [];rw [List.append_nil] at this;simp [aAv,this]
theorem aZ3 {es:List Term} {x:Ex} (h:x.ok) (he:x.terms=es):aAv es=x:=by rw [<- he];exact aSx h
theorem aF7 {es:List Term} {vars:Int} (h:aB6 es vars=true):(aAv es).ok/\(aAv es).terms=es/\es.length<=200/\(∀ t∈es,aG5 t vars=true)/\(aAv es).depth<=24/\(aAv es).nest<=2:=by
 obtain ⟨x,h1,h2,h3,h4,h5,h6⟩:=aWu h;rw [aZ3 h1 h2];exact ⟨h1,h2,h3,h4,h5,h6⟩
def aE7 (k:Int):Bool:=k==1||k==2||k==3
def aCz (op:Int):Bool:=decide (11<=op/\op<=17)
def aOr (kinds:List Int) (t:Term):Int :=
 if t.op=2∨t.op=3∨t.op=10∨t.op=15 then 2
 else if t.op=4∨t.op=11∨t.op=17 then 3
 else if t.op=5∨t.op=12 then kinds.getD t.arg.toNat 0
 else 1
def ifK (b:Bool) (k:Int):Int:=if b then k else 0
def aGn (op a:Int):Int :=
 if op=19∨op=20∨op=21 then ifK (a==2) 2
 else if op=22 then ifK (a==2) 1
 else if op=23 then ifK (a==2) 3
 else ifK (a==1) 1
def aI2 (op a b:Int):Int :=
 if op=35∨op=36 then ifK (a==b&&a != 0) 2
 else if op=41∨op=42 then ifK (a==2&&b==2) 2
 else if 37<=op/\op<=40 then ifK (a==1&&b==1) 2
 else ifK (a==1&&b==1) 1
def aB7 (kinds:List Int):Bool->Ex->Int
 | bound,.leaf t=>if aCz t.op && !bound then 0 else aOr kinds t
 | bound,.un t a=>aGn t.op (aB7 kinds (bound||aAc t.op) a)
 | bound,.bin t a b=>aI2 t.op (aB7 kinds bound a) (aB7 kinds bound b)
 | bound,.tri _ a b c=>ifK (aB7 kinds bound a==2&&aB7 kinds bound b==aB7 kinds bound c) (aB7 kinds bound b)
def ofF (es:List Term) (kinds:List Int) (bound:Bool):Int × Int :=
 if 6<kinds.length then (0,7)
 else if kinds.all aE7=false then (0,7)
 else if aB6 es kinds.length=false then (0,7)
 else if aB7 kinds bound (aAv es)=0 then (0,6)
 else (aB7 kinds bound (aAv es),0)
def aBo (p:Prg):List Int:=p.vars.map Var.kind
def aDu (ls:List Link) (u:Int):Int:=match ls.findIdx? (fun l=>l.to==u) with | some i=>(i:Int) | none => -1
theorem aO7 {ls:List Link} {u:Int} {j:Nat} (h:j<ls.length) (ha:(ls.take j).all (fun l => !(l.to==u))=true) (hj:(ls[j].to==u)=true):aDu ls u=(j:Int):=by
 unfold aDu
 have:ls.findIdx? (fun l=>l.to==u)=some j:=by
  rw [List.findIdx?_eq_some_iff_getElem];refine ⟨h,hj,fun k hk=>?_⟩
  have:=List.all_eq_true.1 ha ls[k] (by rw [List.mem_take_iff_getElem];exact ⟨k,by omega,rfl⟩)
  simpa using this
 rw [this]
theorem aPm {ls:List Link} {u:Int} (ha:ls.all (fun l => !(l.to==u))=true):aDu ls u = -1:=by
 unfold aDu
 have:ls.findIdx? (fun l=>l.to==u)=none:=by
  rw [List.findIdx?_eq_none_iff];intro x hx
  have:=List.all_eq_true.1 ha x hx;simpa using this
 rw [this]
theorem aV0:∀ (n:Nat) (l:List Int),l.Nodup->(∀ x∈l,0<=x/\x<(n:Int))->l.length<=n
 | 0,l,_,h=>by
  cases l with
  | nil=>simp
  | cons x l=>have:=h x (by simp);omega
 | n+1,l,hn,h=>by
  have h1:=aV0 n (l.erase (n:Int)) (hn.erase _) (fun x hx=>by
   have h2:=h x (List.mem_of_mem_erase hx)
   have h3:x≠(n:Int):=by
    rintro rfl;exact (List.Nodup.not_mem_erase hn) hx
   omega)
  have h4:l.length<=(l.erase (n:Int)).length+1:=by
   rw [List.length_erase];split <;> omega
  omega
def aKc (n v:Nat) (l:Link):Bool:=decide (0<=l.to/\l.to<(n:Int)/\l.to≠(v:Int)/\1<=l.weight/\l.weight<=15)
def aCx (n v:Nat) (ls:List Link):Bool:=ls.all (aKc n v)&&decide ((ls.map Link.to).Nodup)
def aGq (g:Graph) (v:Nat) (l:Link):Bool:=(g.ports.getD l.to.toNat []).any fun k=>k.to==(v:Int)&&k.weight==l.weight
def aOp (ids:List Int):Bool:=ids.all (fun i=>decide (0<=i/\i<=255))&&decide ids.Nodup
def aDr (g:Graph):Bool :=
 decide (1<=g.ports.length/\g.ports.length<=24/\g.ids.length=g.ports.length)&&aOp g.ids
  && (List.range g.ports.length).all (fun v=>aCx g.ports.length v (g.ports.getD v []))
  && (List.range g.ports.length).all (fun v=>(g.ports.getD v []).all (aGq g v))
structure GOK (g:Graph):Prop where
 pos:1<=g.ports.length
 le:g.ports.length<=24
 ids:g.ids.length=g.ports.length
 idr:∀ i∈g.ids,0<=i/\i<=255
 idn:g.ids.Nodup
 links:∀ v,(h:v<g.ports.length)->aCx g.ports.length v g.ports[v]=true
 back:∀ v,(h:v<g.ports.length)->∀ l∈g.ports[v],aGq g v l=true
theorem aA8 {α:Type} {l:List α} {k:Nat} {d:α} (h:k<l.length):l.getD k d=l[k]:=by simp [List.getD_eq_getElem?_getD,h]
theorem aDj (g:Graph):aDr g=true↔GOK g:=by
 unfold aDr aOp;simp only [Bool.and_eq_true,decide_eq_true_eq,List.all_eq_true,List.mem_range]
 constructor
 .rintro ⟨⟨⟨⟨h1,h2,h3⟩,h4,h5⟩,h6⟩,h7⟩
  exact ⟨h1,h2,h3,h4,h5,fun v hv=>by have:=h6 v hv;rwa [aA8 hv] at this,fun v hv l hl=>by have:=h7 v hv;rw [aA8 hv] at this;exact this l hl⟩
 .rintro ⟨h1,h2,h3,h4,h5,h6,h7⟩
  exact ⟨⟨⟨⟨h1,h2,h3⟩,h4,h5⟩,fun v hv=>by rw [aA8 hv];exact h6 v hv⟩,fun v hv=>by rw [aA8 hv];exact h7 v hv⟩
theorem aBq {n v:Nat} {ls:List Link}:aCx n v ls=true↔(∀ l∈ls,aKc n v l=true)/\(ls.map Link.to).Nodup:=by
 unfold aCx;simp only [Bool.and_eq_true,decide_eq_true_eq,List.all_eq_true]
theorem aC1 {n v:Nat} {l:Link}:aKc n v l=true↔0<=l.to/\l.to<(n:Int)/\l.to≠(v:Int)/\1<=l.weight/\l.weight<=15:=by
 unfold aKc;simp only [decide_eq_true_eq]
theorem aCl {n v:Nat} {ls:List Link} (hv:v<n) (h:aCx n v ls=true):ls.length<n:=by
 obtain ⟨h1,h2⟩:=aBq.1 h
 have:=aV0 n ((v:Int) :: ls.map Link.to) (by
  rw [List.nodup_cons];refine ⟨?_,h2⟩
  intro hm
  obtain ⟨l,hl,he⟩:=List.mem_map.1 hm;exact (aC1.1 (h1 l hl)).2.2.1 he) (by
  intro x hx
  rcases List.mem_cons.1 hx with rfl | hx
  .omega
  .obtain ⟨l,hl,rfl⟩:=List.mem_map.1 hx
   have:=aC1.1 (h1 l hl)
   omega)
 simp at this
 omega
theorem aE9 {l:List Int} {k:Nat} (h:k<l.length) (hn:(l.take k).Nodup) (hne:∀ j (hj:j<k),l[j]≠l[k]):(l.take (k+1)).Nodup:=by
 rw [List.take_succ_eq_append_getElem h,List.nodup_append];refine ⟨hn,by simp,?_⟩
 intro a ha b hb
 simp at hb
 subst hb;rw [List.mem_take_iff_getElem] at ha;obtain ⟨j,hj,rfl⟩:=ha;exact hne j (by omega)
theorem aEy {l:List Int} {j k:Nat} (hj:j<k) (hk:k<l.length) (he:l[j]=l[k]):¬ l.Nodup:=by
 intro hn
 have:=(List.nodup_iff_pairwise_ne.1 hn);rw [List.pairwise_iff_getElem] at this;exact this j k (by omega) hk hj he
theorem aWg {ls:List Link} {u:Int} (h:0<=aDu ls u):∃ k:Nat,∃ hk:k<ls.length,aDu ls u=(k:Int)/\ls[k].to=u:=by
 unfold aDu at *;cases hf:ls.findIdx? (fun l=>l.to==u) with
 | none=>rw [hf] at h;simp at h
 | some k =>
  rw [List.findIdx?_eq_some_iff_getElem] at hf;obtain ⟨hk,h1,_⟩:=hf;exact ⟨k,hk,rfl,by simpa using h1⟩
theorem aYi {ls:List Link} {u:Int} (h:aDu ls u<0):∀ l∈ls,l.to≠u:=by
 unfold aDu at *;cases hf:ls.findIdx? (fun l=>l.to==u) with
 | none =>
  rw [List.findIdx?_eq_none_iff] at hf;intro l hl
  simpa using hf l hl
 | some k=>rw [hf] at h;simp at h;omega
theorem aO8 (ls:List Link) (u:Int) : -1<=aDu ls u/\aDu ls u<ls.length:=by
 unfold aDu;cases hf:ls.findIdx? (fun l=>l.to==u) with
 | none=>simp;omega
 | some k =>
  rw [List.findIdx?_eq_some_iff_getElem] at hf;obtain ⟨hk,_⟩:=hf;simp;omega
theorem aTc {ls:List Link} {v:Nat} {x:Int} (hn:(ls.map Link.to).Nodup) (k:Nat) (hk:k<ls.length) (ht:ls[k].to=(v:Int)):(ls.any fun k=>k.to==(v:Int)&&k.weight==x)=(ls[k].weight==x):=by
 rw [Bool.eq_iff_iff,List.any_eq_true];constructor
 .rintro ⟨l,hl,hh⟩
  simp at hh
  obtain ⟨h1,h2⟩:=hh;obtain ⟨j,hj,rfl⟩:=List.getElem_of_mem hl
  have:j=k:=by
   rcases Nat.lt_trichotomy j k with h | h | h
   .exact absurd hn (aEy (k:=k) h (by simpa using hk) (by simp [h1,ht]))
   .exact h
   .exact absurd hn (aEy (k:=j) h (by simpa using hj) (by simp [h1,ht]))
  subst this;simpa using h2
 .intro h
  exact ⟨ls[k],List.getElem_mem hk,by simp [ht];simpa using h⟩
theorem aXc {ls:List Link} {v:Nat} {x:Int} (h:aDu ls v<0):(ls.any fun k=>k.to==(v:Int)&&k.weight==x)=false:=by
 rw [List.any_eq_false];intro l hl
 have:=aYi h l hl;simp [this]
open Go.RowKit
def Blk (w:World) (B:Nat) (cs:Array Value) (t:TypeId):Prop:=w.heap[B]?=some (.cells cs t (0,0))
theorem Blk.cell {w:World} {B:Nat} {cs:Array Value} {t:TypeId} (h:Blk w B cs t) (i:Nat) {v:Value} (hv:cs[i]?=some v):w.cell? ⟨B,i,none⟩=some v:=by
 unfold Blk at h;simp [World.cell?,h,hv]
theorem Blk.frozen {w:World} {B:Nat} {cs:Array Value} {t:TypeId} (h:Blk w B cs t) (i:Nat):w.frozen? ⟨B,i,none⟩=false:=by
 unfold Blk at h;simp [World.frozen?,h]
theorem Blk.lt {w:World} {B:Nat} {cs:Array Value} {t:TypeId} (h:Blk w B cs t):B<w.heap.size:=lt_of_block h
theorem Blk.alloc {w:World} {B:Nat} {cs:Array Value} {t:TypeId} (h:Blk w B cs t) (o:Obj):Blk (w.alloc o) B cs t:=by
 unfold Blk at *;rw [Below.heap_alloc _ _ _ (lt_of_block h)];exact h
theorem Blk.new (w:World) (cs:Array Value) (t:TypeId):Blk (w.alloc (.cells cs t (0,0))) w.heap.size cs t:=heap_alloc_new w _
theorem Blk.drew {w:World} {B:Nat} {cs:Array Value} {t:TypeId} (h:Blk w B cs t):Blk w.drew B cs t:=h
theorem Blk.drewN {w:World} {B:Nat} {cs:Array Value} {t:TypeId} (h:Blk w B cs t) (k:Nat):Blk (w.drewN k) B cs t:=h
theorem Blk.set {w:World} {B:Nat} {cs:Array Value} {t:TypeId} (h:Blk w B cs t) (i:Nat) (v:Value):Blk (w.setCell ⟨B,i,none⟩ v) B (cs.setIfInBounds i v) t:=by
 unfold Blk at *;have hlt:=lt_of_block h;have h':w.heap[B] = .cells cs t (0,0):=by simpa [Array.getElem?_eq_getElem hlt] using h
 show (w.heap.modify B _)[B]?=_
 rw [Array.getElem?_eq_getElem (by simpa using hlt),Array.getElem_modify_self,h']
 rfl
theorem Blk.other {w:World} {B:Nat} {cs:Array Value} {t:TypeId} (h:Blk w B cs t) {a:Addr} (ha:B≠a.block) (v:Value):Blk (w.setCell a v) B cs t:=by
 unfold Blk at *;rw [Below.heap_setCell _ _ _ _ ha];exact h
theorem Blk.keep {w w':World} {B:Nat} {cs:Array Value} {t:TypeId} (h:Blk w B cs t) (k:Bel w w'):Blk w' B cs t:=by
 unfold Blk at *;rw [k.block B (lt_of_block h)];exact h
theorem Blk.grown {w w':World} {B:Nat} {cs:Array Value} {t:TypeId} (h:Blk w B cs t) {row:Option Nat} (hg:w.grownBy w' row) (hr:some B≠row):Blk w' B cs t:=by
 unfold Blk at *;rw [hg.block B (lt_of_block h) hr];exact h
theorem Blk.apart {w:World} {B:Nat} {cs:Array Value} {t e:TypeId} {base size n:Nat} {v:Value} {xs:List Value} (h:Blk w B cs t) (ho:w.ownsRow base e size v n xs) (hne:t≠e):some B≠v.ownBlock:=by
 rcases ho.2 with ⟨rfl,_⟩ | ⟨g,cap,cur,rfl,_,hg,_⟩
 .simp [Value.ownBlock]
 .simp only [Value.ownBlock]
  intro he
  injection he with he
  subst he;unfold Blk at h;rw [h] at hg;injection hg with hg
  injection hg with _ ht
  exact hne ht
theorem aS7 {w:World} {base base':Nat} {e:TypeId} {size:Nat} {v:Value} {n:Nat} {xs:List Value} (h:w.ownsRow base e size v n xs) (hb:base'<=base):w.ownsRow base' e size v n xs:=by
 refine ⟨h.1,?_⟩
 rcases h.2 with hn | ⟨g,cap,cur,hv,hg,rest⟩
 .exact .inl hn
 .exact .inr ⟨g,cap,cur,hv,Nat.le_trans hb hg,rest⟩
def aJ1 {α:Type} (size:Nat) (E:World->Nat->Nat->α->Prop) (w:World) (b o:Nat) (xs:List α):Prop :=
 ∃ A c,w.cell? ⟨b,o,none⟩=some (.slice A xs.length c)/\aAi size E w A xs.length xs/\xs.length<=c/\c<=maxLen
theorem aJ1.keeps {α:Type} {size:Nat} {E:World->Nat->Nat->α->Prop} (hE:aM7 E):aM7 (aJ1 size E):=by
 intro w w' b o x k hb ⟨A,c,h1,h2,h3,h4⟩
 exact ⟨A,c,(k.cell hb).trans h1,h2.keep hE k,h3,h4⟩
def aMr (w:World) (b o:Nat) (l:Link):Prop:=w.cell? ⟨b,o,none⟩=some (.int .i64 l.to)/\w.cell? ⟨b,o+1,none⟩=some (.int .i64 l.weight)
theorem aMr.keeps:aM7 aMr:=fun _ _ _ _ _ k hb h=>⟨(k.cell hb).trans h.1,(k.cell hb).trans h.2⟩
def aGo:=aAi 2 aMr
def aFa:=aAi 1 (aJ1 2 aMr)
def aPy:=aAi 1 (aJ1 1 aHr)
theorem aGo.keep {w w':World} {A:Option Addr} {n:Nat} {xs:List Link} (h:aGo w A n xs) (k:Bel w w'):aGo w' A n xs:=aAi.keep aMr.keeps h k
theorem aFa.keep {w w':World} {A:Option Addr} {n:Nat} {xs:List (List Link)} (h:aFa w A n xs) (k:Bel w w'):aFa w' A n xs:=aAi.keep (aJ1.keeps aMr.keeps) h k
theorem aPy.keep {w w':World} {A:Option Addr} {n:Nat} {xs:List (List Int)} (h:aPy w A n xs) (k:Bel w w'):aPy w' A n xs:=aAi.keep (aJ1.keeps aHr.keeps) h k
theorem aGo.at_ {w:World} {A:Option Addr} {n:Nat} {xs:List Link} (h:aGo w A n xs) (k:Nat) (hk:k<xs.length) :
  ∃ b o,A=some ⟨b,o,none⟩/\b<w.heap.size/\w.cell? ⟨b,o+k*2,none⟩=some (.int .i64 xs[k].to)/\w.cell? ⟨b,o+k*2+1,none⟩=some (.int .i64 xs[k].weight):=aAi.at_ h k hk
theorem RowsAt.at_ {α:Type} {size:Nat} {E:World->Nat->Nat->α->Prop} {w:World} {A:Option Addr} {n:Nat} {xs:List (List α)} (h:aAi 1 (aJ1 size E) w A n xs) (k:Nat) (hk:k<xs.length) :
  ∃ b o R c,A=some ⟨b,o,none⟩/\b<w.heap.size/\w.cell? ⟨b,o+k,none⟩=some (.slice R xs[k].length c)/\aAi size E w R xs[k].length xs[k]/\xs[k].length<=c/\c<=maxLen:=by
 obtain ⟨b,o,e,hb,R,c,h1,h2,h3,h4⟩:=aAi.at_ h k hk;exact ⟨b,o,R,c,e,hb,by rw [Nat.mul_one] at h1;exact h1,h2,h3,h4⟩
theorem aFa.at_ {w:World} {A:Option Addr} {n:Nat} {xs:List (List Link)} (h:aFa w A n xs) (k:Nat) (hk:k<xs.length) :
  ∃ b o R c,A=some ⟨b,o,none⟩/\b<w.heap.size/\w.cell? ⟨b,o+k,none⟩=some (.slice R xs[k].length c)/\aGo w R xs[k].length xs[k]/\xs[k].length<=c/\c<=maxLen:=RowsAt.at_ h k hk
theorem aPy.at_ {w:World} {A:Option Addr} {n:Nat} {xs:List (List Int)} (h:aPy w A n xs) (k:Nat) (hk:k<xs.length) :
  ∃ b o R c,A=some ⟨b,o,none⟩/\b<w.heap.size/\w.cell? ⟨b,o+k,none⟩=some (.slice R xs[k].length c)/\aBm w R xs[k].length xs[k]/\xs[k].length<=c/\c<=maxLen:=RowsAt.at_ h k hk
def aAn (w:World) (v:Value) (g:Graph):Prop :=
 ∃ A c A2 c2,v = .agg #[.slice A g.ids.length c,.slice A2 g.ports.length c2]/\aBm w A g.ids.length g.ids/\g.ids.length<=c/\c<=maxLen/\aFa w A2 g.ports.length g.ports/\g.ports.length<=c2/\c2<=maxLen
theorem aAn.keep {w w':World} {v:Value} {g:Graph} (h:aAn w v g) (k:Bel w w'):aAn w' v g:=by
 obtain ⟨A,c,A2,c2,e,h1,h2,h3,h4,h5,h6⟩:=h;exact ⟨A,c,A2,c2,e,h1.keep k,h2,h3,h4.keep k,h5,h6⟩
def aVi (w:World) (b o:Nat) (x:Var):Prop :=
 w.cell? ⟨b,o,none⟩=some (.string x.name)/\w.cell? ⟨b,o+1,none⟩=some (.int .i64 x.kind)/\w.cell? ⟨b,o+2,none⟩=some (.int .i64 x.lo)/\w.cell? ⟨b,o+3,none⟩=some (.int .i64 x.hi)/\w.cell? ⟨b,o+4,none⟩=some (.int .i64 x.perNode)/\w.cell? ⟨b,o+5,none⟩=some (.int .i64 x.perID)
theorem aVi.keeps:aM7 aVi:=fun _ _ _ _ _ k hb h=>⟨(k.cell hb).trans h.1,(k.cell hb).trans h.2.1,(k.cell hb).trans h.2.2.1,(k.cell hb).trans h.2.2.2.1,(k.cell hb).trans h.2.2.2.2.1,(k.cell hb).trans h.2.2.2.2.2⟩
def aHw:=aAi 6 aVi
theorem aHw.keep {w w':World} {A:Option Addr} {n:Nat} {xs:List Var} (h:aHw w A n xs) (k:Bel w w'):aHw w' A n xs:=aAi.keep aVi.keeps h k
theorem aHw.at_ {w:World} {A:Option Addr} {n:Nat} {xs:List Var} (h:aHw w A n xs) (k:Nat) (hk:k<xs.length) :
  ∃ b o,A=some ⟨b,o,none⟩/\b<w.heap.size/\aVi w b (o+k*6) xs[k]:=aAi.at_ h k hk
def aT8 (w:World) (b o:Nat) (x:SetT):Prop:=w.cell? ⟨b,o,none⟩=some (.int .i64 x.var)/\aJ1 2 aJ4 w b (o+1) x.value
theorem aT8.keeps:aM7 aT8:=fun _ _ _ _ _ k hb h=>⟨(k.cell hb).trans h.1,aJ1.keeps aJ4.keeps _ _ _ _ _ k hb h.2⟩
def aKy:=aAi 2 aT8
theorem aKy.keep {w w':World} {A:Option Addr} {n:Nat} {xs:List SetT} (h:aKy w A n xs) (k:Bel w w'):aKy w' A n xs:=aAi.keep aT8.keeps h k
theorem aKy.at_ {w:World} {A:Option Addr} {n:Nat} {xs:List SetT} (h:aKy w A n xs) (k:Nat) (hk:k<xs.length) :
  ∃ b o R c,A=some ⟨b,o,none⟩/\b<w.heap.size/\w.cell? ⟨b,o+k*2,none⟩=some (.int .i64 xs[k].var)/\w.cell? ⟨b,o+k*2+1,none⟩=some (.slice R xs[k].value.length c)/\aB2 w R xs[k].value.length xs[k].value/\xs[k].value.length<=c/\c<=maxLen:=by
 obtain ⟨b,o,e,hb,h1,R,c,h2,h3,h4,h5⟩:=aAi.at_ h k hk;exact ⟨b,o,R,c,e,hb,h1,h2,h3,h4,h5⟩
def aR8 (w:World) (b o:Nat) (x:Rule):Prop:=w.cell? ⟨b,o,none⟩=some (.string x.name)/\aJ1 2 aJ4 w b (o+1) x.guard/\aJ1 2 aT8 w b (o+2) x.sets
theorem aR8.keeps:aM7 aR8:=fun _ _ _ _ _ k hb h=>⟨(k.cell hb).trans h.1,aJ1.keeps aJ4.keeps _ _ _ _ _ k hb h.2.1,aJ1.keeps aT8.keeps _ _ _ _ _ k hb h.2.2⟩
def aFo:=aAi 3 aR8
theorem aFo.keep {w w':World} {A:Option Addr} {n:Nat} {xs:List Rule} (h:aFo w A n xs) (k:Bel w w'):aFo w' A n xs:=aAi.keep aR8.keeps h k
def aR9 (w:World) (v:Value) (r:Rule):Prop :=
 ∃ G c S c2,v = .agg #[.string r.name,.slice G r.guard.length c,.slice S r.sets.length c2]/\aB2 w G r.guard.length r.guard/\r.guard.length<=c/\c<=maxLen/\aKy w S r.sets.length r.sets/\r.sets.length<=c2/\c2<=maxLen
theorem aR9.keep {w w':World} {v:Value} {g:Rule} (h:aR9 w v g) (k:Bel w w'):aR9 w' v g:=by
 obtain ⟨A,c,A2,c2,e,h1,h2,h3,h4,h5,h6⟩:=h;exact ⟨A,c,A2,c2,e,h1.keep k,h2,h3,h4.keep k,h5,h6⟩
theorem aFo.at_ {w:World} {A:Option Addr} {n:Nat} {xs:List Rule} (h:aFo w A n xs) (k:Nat) (hk:k<xs.length) :
  ∃ b o G c S c2,A=some ⟨b,o,none⟩/\b<w.heap.size/\w.cell? ⟨b,o+k*3,none⟩=some (.string xs[k].name)/\w.cell? ⟨b,o+k*3+1,none⟩=some (.slice G xs[k].guard.length c)/\w.cell? ⟨b,o+k*3+2,none⟩=some (.slice S xs[k].sets.length c2)
   /\ aB2 w G xs[k].guard.length xs[k].guard/\xs[k].guard.length<=c/\c<=maxLen/\aKy w S xs[k].sets.length xs[k].sets/\xs[k].sets.length<=c2/\c2<=maxLen:=by
 obtain ⟨b,o,e,hb,h1,⟨G,c,h2,h3,h4,h5⟩,S,c2,h6,h7,h8,h9⟩:=aAi.at_ h k hk;exact ⟨b,o,G,c,S,c2,e,hb,h1,h2,h6,h3,h4,h5,h7,h8,h9⟩
def aEi (w:World) (v:Value) (p:Prg):Prop :=
 ∃ A c A2 c2,v = .agg #[.string p.name,.slice A p.vars.length c,.slice A2 p.rules.length c2]/\aHw w A p.vars.length p.vars/\p.vars.length<=c/\c<=maxLen/\aFo w A2 p.rules.length p.rules/\p.rules.length<=c2/\c2<=maxLen
theorem aEi.keep {w w':World} {v:Value} {p:Prg} (h:aEi w v p) (k:Bel w w'):aEi w' v p:=by
 obtain ⟨A,c,A2,c2,e,h1,h2,h3,h4,h5,h6⟩:=h;exact ⟨A,c,A2,c2,e,h1.keep k,h2,h3,h4.keep k,h5,h6⟩
def aAw (w:World) (v:Value) (c:aA6):Prop:=∃ A k,v = .slice A c.length k/\aPy w A c.length c/\c.length<=k/\k<=maxLen
theorem aAw.keep {w w':World} {v:Value} {c:aA6} (h:aAw w v c) (k:Bel w w'):aAw w' v c:=by
 obtain ⟨A,n,e,h1,h2,h3⟩:=h;exact ⟨A,n,e,h1.keep k,h2,h3⟩
theorem aAb {α:Type} {f:α->Bool} {l:List α} {k:Nat} (h:k<l.length) (ha:(l.take k).all f=true) (hk:f l[k]=true):(l.take (k+1)).all f=true:=by
 rw [List.take_succ_eq_append_getElem h,List.all_append,ha];simp [hk]
theorem aAq {α:Type} {f:α->Bool} {l:List α} {k:Nat} (h:k<l.length) (hk:f l[k]=false):l.all f=false:=by
 rw [List.all_eq_false];exact ⟨l[k],List.getElem_mem h,by simp [hk]⟩
theorem aAr {α:Type} {f:α->Bool} {l:List α} {k:Nat} (h:l.length<=k) (ha:(l.take k).all f=true):l.all f=true:=by rwa [List.take_of_length_le h] at ha
def aBs (c:aA6):Bool:=decide (c.length<=30)&&c.all fun r=>decide (r.length<=10)
theorem aFx (v:Value) (c:aA6) (w:World) (h:aAw w v c) :
  Calls prog 31 #[v] w fun e w'=>e = .returned (.bool (aBs c))/\w=w':=by
 obtain ⟨A,k,rfl,hr,_,_⟩:=h;have H:=aA0 hr;clear hr
 by_cases hl:c.length<=30
 .go_enter func31,ntmps31
  go_wp2
  go_loopg [3] c.length (fun g i wr=>∃ j:Nat,j<=c.length/\g=c.length-j/\Hid ((c.take j).all (fun r=>decide (r.length<=10))=true)/\i = .int .i64 j/\w=wr)
  case atStart=>exact ⟨0,by omega,rfl,rfl,rfl,rfl⟩
  case round =>
   obtain ⟨j,hj,rfl,HK,rfl,rfl⟩:=hrel
   by_cases hlt:j<c.length
   .obtain ⟨b,o,R,c1,rfl,hb,hc1,_,_,_⟩:=H.out.at_ j hlt
    go_wp2
    .go_ret
     exact ⟨aA2 (by unfold aBs;rw [aAq hlt (by simp;omega)];simp),rfl⟩
    .go_roundg (c.length-(j+1))
     case rel=>exact ⟨j+1,by omega,rfl,aAb hlt HK.out (by simp;omega),by go_num,rfl⟩
     case measure=>omega
   .go_wp2
    go_ret;exact ⟨aA2 (by unfold aBs;rw [aAr (by omega) HK.out];simp [hl]),rfl⟩
 .go_enter func31,ntmps31
  go_wp2;go_ret;exact ⟨aA2 (by unfold aBs;simp [hl]),rfl⟩
def aB3 (g:Graph):Bool:=decide (g.ids.length<=30)&&decide (g.ports.length<=30)&&g.ports.all fun r=>decide (r.length<=30)
theorem aJ9 (v:Value) (g:Graph) (w:World) (h:aAn w v g) :
  Calls prog 57 #[v] w fun e w'=>e = .returned (.bool (aB3 g))/\Bel w w':=by
 obtain ⟨A,k,A2,k2,rfl,_,_,_,hr,_,_⟩:=h;have H:=aA0 hr;clear hr
 by_cases hl:g.ids.length<=30/\g.ports.length<=30
 .obtain ⟨hl1,hl2⟩:=hl
  go_enter func57,ntmps57;go_wp2
  go_loopg [3] g.ports.length (fun m i wr=>∃ j:Nat,j<=g.ports.length/\m=g.ports.length-j/\Hid ((g.ports.take j).all (fun r=>decide (r.length<=30))=true)/\i = .int .i64 j/\w.alloc (.cells #[.slice A g.ids.length k,.slice A2 g.ports.length k2] 29)=wr)
  case atStart=>exact ⟨0,by omega,rfl,rfl,rfl,rfl⟩
  case round =>
   obtain ⟨j,hj,rfl,HK,rfl,rfl⟩:=hrel
   by_cases hlt:j<g.ports.length
   .obtain ⟨b,o,R,c1,rfl,hb,hc1,_,_,_⟩:=H.out.at_ j hlt
    go_wp2
    .go_ret
     exact ⟨aA2 (by unfold aB3;rw [aAq hlt (by simp;omega)];simp),(Bel.refl _).alloc _⟩
    .go_roundg (g.ports.length-(j+1))
     case rel=>exact ⟨j+1,by omega,rfl,aAb hlt HK.out (by simp;omega),by go_num,rfl⟩
     case measure=>omega
   .go_wp2
    go_ret;exact ⟨aA2 (by unfold aB3;rw [aAr (by omega) HK.out];simp [hl1,hl2]),(Bel.refl _).alloc _⟩
 .have hf:Hid (aB3 g=false):=by
   show aB3 g=false
   unfold aB3;rw [Bool.eq_false_iff];intro h;simp at h;omega
  by_cases h1:30<g.ids.length
  .go_enter func57,ntmps57
   go_wp2;go_ret;exact ⟨aA2 hf.out.symm,(Bel.refl _).alloc _⟩
  .have h2:30<g.ports.length:=by omega
   clear hl;go_enter func57,ntmps57;go_wp2;go_ret;exact ⟨aA2 hf.out.symm,(Bel.refl _).alloc _⟩
def aDw (g:Graph):Nat:=(g.ports.map List.length).foldl max 1
theorem aQf (l:List Nat) (a b:Nat) (ha:a<=b) (h:∀ x∈l,x<=b):l.foldl max a<=b:=by
 induction l generalizing a with
 | nil=>exact ha
 | cons x l ih=>exact ih _ (Nat.max_le.2 ⟨ha,h x (by simp)⟩) (fun y hy=>h y (by simp [hy]))
theorem aQe (l:List Nat) (a:Nat):a<=l.foldl max a:=by
 induction l generalizing a with
 | nil=>exact Nat.le_refl _
 | cons x l ih=>exact Nat.le_trans (Nat.le_max_left a x) (ih _)
theorem bA2 (a b:Nat):∃ m:Nat,(if a<b then (b:Int) else (a:Int))=(m:Int)/\m=max a b:=⟨max a b,by split <;> omega,rfl⟩
theorem aN1 (v:Value) (g:Graph) (w:World) (h:aAn w v g) :
  Calls prog 33 #[v] w fun e w'=>e = .returned (.int .i64 (aDw g:Nat))/\Bel w w':=by
 obtain ⟨A,k,A2,k2,rfl,_,_,_,hr,_,hm⟩:=h;have hmx:g.ports.length<=9223372036854775807:=by unfold maxLen at hm;omega
 have H:=aA0 hr;clear hr;go_enter func33,ntmps33;go_wp2
 go_loopg [3,4] g.ports.length (fun m d i wr=>∃ j:Nat,j<=g.ports.length/\m=g.ports.length-j/\d = .int .i64 ((((g.ports.take j).map List.length).foldl max 1:Nat):Int)/\i = .int .i64 j/\w.alloc (.cells #[.slice A g.ids.length k,.slice A2 g.ports.length k2] 29)=wr)
 case atStart=>exact ⟨0,by omega,rfl,rfl,rfl,rfl⟩
 case round =>
  obtain ⟨j,hj,rfl,rfl,rfl,rfl⟩:=hrel
  by_cases hlt:j<g.ports.length
  .obtain ⟨b,o,R,c1,rfl,hb,hc1,_,_,_⟩:=H.out.at_ j hlt
   have hs:((g.ports.take (j+1)).map List.length).foldl max 1=max (((g.ports.take j).map List.length).foldl max 1) g.ports[j].length:=by
    rw [List.take_succ_eq_append_getElem hlt,List.map_append,List.foldl_append];rfl
   have HS:=aA0 hs;clear hs;generalize ((g.ports.take j).map List.length).foldl max 1=D at *;obtain ⟨m,hm1,hm2⟩:=bA2 D g.ports[j].length;have HM:=aA0 hm2;clear hm2;go_wp2
   go_roundg (g.ports.length-(j+1))
   case rel=>exact ⟨j+1,by omega,rfl,by rw [HS.out,<- HM.out],by go_num,rfl⟩
   case measure=>omega
  .go_wp2
   go_ret;exact ⟨aA5 (by unfold aDw;rw [List.take_of_length_le (by omega)]),(Bel.refl _).alloc _⟩
theorem aA9 {w wr:World} {cs:Array Value} {t:TypeId} (h:Bel (w.alloc (.cells cs t)) wr) (i:Nat) {v:Value} (hv:cs[i]?=some v):wr.cell? ⟨w.heap.size,i,none⟩=some v :=
 (h.cell (by simp)).trans ((Blk.new w cs t).cell i hv)
theorem aAy {w wr:World} {cs:Array Value} {t:TypeId} (h:Bel (w.alloc (.cells cs t)) wr):w.heap.size<wr.heap.size:=by
 have:=h.size;simp at this;omega
theorem aA3 {w wr:World} {o:Obj} (h:Bel (w.alloc o) wr):Bel w wr:=((Bel.refl w).alloc o).trans h
theorem aZn {w wr:World} {cs ds:Array Value} {t u:TypeId} (h:Bel ((w.alloc (.cells cs t)).alloc (.cells ds u)) wr) :
  (∀ i v,cs[i]?=some v->wr.cell? ⟨w.heap.size,i,none⟩=some v)/\(∀ i v,ds[i]?=some v->wr.cell? ⟨w.heap.size+1,i,none⟩=some v)/\w.heap.size+1<wr.heap.size:=by
 refine ⟨fun i v hv=>?_,fun i v hv=>?_,?_⟩
 .exact (h.cell (by simp;omega)).trans (((Blk.new w cs t).alloc _).cell i hv)
 .have:=aA9 h i hv
  simpa using this
 .have:=aAy h
  simpa using this
theorem aAd {w wr:World} {a b c d e:Value} {t u:TypeId} (h:Bel ((w.alloc (.cells #[a,b,c] t)).alloc (.cells #[d,e] u)) wr) :
  wr.cell? ⟨w.heap.size,0,none⟩=some a/\wr.cell? ⟨w.heap.size,1,none⟩=some b/\wr.cell? ⟨w.heap.size,2,none⟩=some c/\wr.cell? ⟨w.heap.size+1,0,none⟩=some d/\wr.cell? ⟨w.heap.size+1,1,none⟩=some e/\w.heap.size+1<wr.heap.size:=by
 obtain ⟨h1,h2,h3⟩:=aZn h;exact ⟨h1 0 _ rfl,h1 1 _ rfl,h1 2 _ rfl,h2 0 _ rfl,h2 1 _ rfl,h3⟩
theorem aA1 {w wr:World} {o o2:Obj} (h:Bel ((w.alloc o).alloc o2) wr):Bel w wr:=aA3 (aA3 h)
def aFb (r:Rule):Bool:=decide (r.name.size<=40)&&decide (r.sets.length<=10)&&decide (r.guard.length<=250)&&r.sets.all fun s=>decide (s.value.length<=250)
def aAu (p:Prg):Bool:=decide (p.name.size<=40)&&decide (p.vars.length<=10)&&decide (p.rules.length<=16)&&p.vars.all (fun x=>decide (x.name.size<=40))&&p.rules.all aFb
theorem aF8 (v:Value) (p:Prg) (w:World) (h:aEi w v p) :
  Calls prog 56 #[v] w fun e w'=>e = .returned (.bool (aAu p))/\Bel w w':=by
 obtain ⟨A,k,A2,k2,rfl,hv,_,_,hr,_,_⟩:=h;have HV:=aA0 hv;clear hv;have HR:=aA0 (fun w' (k:Bel w w')=>hr.keep k);clear hr
 by_cases hl:p.name.size<=40/\p.vars.length<=10/\p.rules.length<=16
 .obtain ⟨hl1,hl2,hl3⟩:=hl
  go_enter func56,ntmps56;go_wp2
  go_loopg [3] p.vars.length (fun m i wr=>∃ j:Nat,j<=p.vars.length/\m=p.vars.length-j/\Hid ((p.vars.take j).all (fun x=>decide (x.name.size<=40))=true)/\i = .int .i64 j/\w.alloc (.cells #[.string p.name,.slice A p.vars.length k,.slice A2 p.rules.length k2] 25)=wr)
  case atStart=>exact ⟨0,by omega,rfl,rfl,rfl,rfl⟩
  case round =>
   obtain ⟨j,hj,rfl,HK,rfl,rfl⟩:=hrel
   by_cases hlt:j<p.vars.length
   .obtain ⟨b,o,rfl,hb,hc1,_⟩:=HV.out.at_ j hlt
    go_wp2
    .go_ret
     exact ⟨aA2 (by unfold aAu;rw [aAq hlt (by simp;omega)];simp),(Bel.refl _).alloc _⟩
    .go_roundg (p.vars.length-(j+1))
     case rel=>exact ⟨j+1,by omega,rfl,aAb hlt HK.out (by simp;omega),by go_num,rfl⟩
     case measure=>omega
   .have HVA:=aA0 (aAr (by omega) HK.out);clear HK HV
    go_wp2
    go_loopg [4] p.rules.length (fun m i wr=>∃ j:Nat,j<=p.rules.length/\m=p.rules.length-j/\Hid ((p.rules.take j).all aFb=true)/\i = .int .i64 j/\Bel (w.alloc (.cells #[.string p.name,.slice A p.vars.length k,.slice A2 p.rules.length k2] 25)) wr)
    case atStart=>exact ⟨0,by omega,rfl,rfl,rfl,Bel.refl _⟩
    case round =>
     obtain ⟨i,hi,rfl,HK,rfl,HB⟩:=hrel;have b1:=aA9 HB 2 rfl;have b0:=aAy HB
     by_cases hlt:i<p.rules.length
     .obtain ⟨b,o,G,c,S,c2,rfl,hb,hc1,hc2,hc3,_,_,_,hS,_,_⟩:=(HR.out _ (aA3 HB)).at_ i hlt
      have HS:=aA0 hS;clear hS;have HB2:=HB.alloc (.cells #[.string p.rules[i].name,.slice G p.rules[i].guard.length c,.slice S p.rules[i].sets.length c2] 93)
      by_cases hl:p.rules[i].name.size<=40/\p.rules[i].sets.length<=10/\p.rules[i].guard.length<=250
      .obtain ⟨hq1,hq2,hq3⟩:=hl
       have hd3:decide (p.rules[i].guard.length<=250)=true:=by simpa using hq3
       go_wp2_with (go_at_call 80;refine (aI8 _ _ _ _).mono ?_;rintro e w' ⟨rfl,rfl⟩)
       go_loopg [6] p.rules[i].sets.length (fun m x ws=>∃ j:Nat,j<=p.rules[i].sets.length/\m=p.rules[i].sets.length-j/\Hid ((p.rules[i].sets.take j).all (fun s=>decide (s.value.length<=250))=true)/\x = .int .i64 j/\wr.alloc (.cells #[.string p.rules[i].name,.slice G p.rules[i].guard.length c,.slice S p.rules[i].sets.length c2] 93)=ws)
       case atStart=>exact ⟨0,by omega,rfl,rfl,rfl,rfl⟩
       case round =>
        obtain ⟨q,hq,rfl,HQ,rfl,rfl⟩:=hrel
        by_cases hlt2:q<p.rules[i].sets.length
        .obtain ⟨b',o',R,c',rfl,hb',hs1,hs2,_,_,_⟩:=HS.out.at_ q hlt2
         by_cases hle:p.rules[i].sets[q].value.length<=250
         .have hd4:decide (p.rules[i].sets[q].value.length<=250)=true:=by simpa using hle
          go_wp2_with (go_at_call 80;refine (aI8 _ _ _ _).mono ?_;rintro e w' ⟨rfl,rfl⟩)
          go_roundg (p.rules[i].sets.length-(q+1))
          case rel=>exact ⟨q+1,by omega,rfl,aAb hlt2 HQ.out (by simp;omega),by go_num,rfl⟩
          case measure=>omega
         .have hd4:decide (p.rules[i].sets[q].value.length<=250)=false:=by simpa using hle
          go_wp2_with (go_at_call 80;refine (aI8 _ _ _ _).mono ?_;rintro e w' ⟨rfl,rfl⟩)
          go_ret;exact ⟨aA2 (by unfold aAu;rw [aAq hlt (by unfold aFb;rw [aAq hlt2 hd4];simp)];simp),aA3 HB2⟩
        .go_wp2
         go_roundg (p.rules.length-(i+1))
         case rel=>exact ⟨i+1,by omega,rfl,aAb hlt HK.out (by unfold aFb;rw [aAr (by omega) HQ.out];simp [hq1,hq2,hq3]),by go_num,HB2⟩
         case measure=>omega
      .have hf:Hid (aAu p=false):=by
        show aAu p=false
        unfold aAu;rw [aAq hlt (by unfold aFb;rw [Bool.eq_false_iff];intro h;simp at h;omega)];simp
       by_cases hq:250<p.rules[i].guard.length
       .have hd3:decide (p.rules[i].guard.length<=250)=false:=by simpa using hq
        go_wp2_with (go_at_call 80;refine (aI8 _ _ _ _).mono ?_;rintro e w' ⟨rfl,rfl⟩)
        all_goals (go_ret;exact ⟨aA2 hf.out.symm,aA3 HB2⟩)
       .have hd3:decide (p.rules[i].guard.length<=250)=true:=by simpa using hq
        go_wp2_with (go_at_call 80;refine (aI8 _ _ _ _).mono ?_;rintro e w' ⟨rfl,rfl⟩)
        all_goals first
         | (go_ret;exact ⟨aA2 hf.out.symm,aA3 HB2⟩)
         | omega
     .go_wp2
      go_ret;exact ⟨aA2 (by unfold aAu;rw [HVA.out,aAr (by omega) HK.out];simp [hl1,hl2,hl3]),aA3 HB⟩
 .have hf:Hid (aAu p=false):=by
   show aAu p=false
   unfold aAu;rw [Bool.eq_false_iff];intro h;simp at h;omega
  go_enter func56,ntmps56;go_wp2
  all_goals first
   | (go_ret;exact ⟨aA2 hf.out.symm,(Bel.refl _).alloc _⟩)
   | omega
def inB (v lo hi:Int):Bool:=decide (lo<=v/\v<=hi)
theorem aDx {v lo hi:Int} (h1:lo<=v) (h2:v<=hi):inB v lo hi=true:=by unfold inB;simp [h1,h2]
theorem aI6 {v lo hi:Int} (h:v<lo∨hi<v):inB v lo hi=false:=by unfold inB;simp;omega
theorem aL7 {v lo hi:Int}:inB v lo hi=true↔lo<=v/\v<=hi:=by unfold inB;simp
theorem aCo (v lo hi:Int) (w:World):Calls prog 92 #[.int .i64 v,.int .i64 lo,.int .i64 hi] w fun e w'=>e = .returned (.bool (inB v lo hi))/\w=w':=by
 go_enter func92,ntmps92;go_wp2
 all_goals (go_ret;refine ⟨aA2 ?_,rfl⟩;unfold inB;rw [Bool.eq_iff_iff];simp) <;> omega
theorem aE6 (v lo hi:Int) (w:World):Calls prog 145 #[.int .i64 v,.int .i64 lo,.int .i64 hi] w fun e w'=>e = .returned (.bool (inB v lo hi))/\w=w':=by
 go_enter func145,ntmps145;go_wp2
 all_goals (go_ret;refine ⟨aA2 ?_,rfl⟩;unfold inB;rw [Bool.eq_iff_iff];simp) <;> omega
theorem aGz (v lo hi:Int) (w:World):Calls prog 160 #[.int .i64 v,.int .i64 lo,.int .i64 hi] w fun e w'=>e = .returned (.bool (inB v lo hi))/\w=w':=by
 go_enter func160,ntmps160;go_wp2
 all_goals (go_ret;refine ⟨aA2 ?_,rfl⟩;unfold inB;rw [Bool.eq_iff_iff];simp) <;> omega
theorem aPl (v:Value) (g:Graph) (i:Nat) (u:Int) (w:World) (h:aAn w v g) (hi:i<g.ports.length) :
  Calls prog 98 #[v,.int .i64 i,.int .i64 u] w fun e w'=>e = .returned (.int .i64 (aDu g.ports[i] u))/\Bel w w':=by
 obtain ⟨A,k,A2,k2,rfl,_,_,_,hr,_,hm⟩:=h;obtain ⟨b,o,R,c1,rfl,hb,hc1,hL,hn,hm2⟩:=hr.at_ i hi;have H:=aA0 hL;clear hL hr;unfold maxLen at hm hm2;go_enter func98,ntmps98;go_wp2
 go_loopg [7] g.ports[i].length (fun m x wr=>∃ j:Nat,j<=g.ports[i].length/\m=g.ports[i].length-j/\Hid ((g.ports[i].take j).all (fun l => !(l.to==u))=true)/\x = .int .i64 j/\w.alloc (.cells #[.slice A g.ids.length k,.slice (some ⟨b,o,none⟩) g.ports.length k2] 29)=wr)
 case atStart=>exact ⟨0,by omega,rfl,rfl,rfl,rfl⟩
 case round =>
  obtain ⟨j,hj,rfl,HK,rfl,rfl⟩:=hrel
  by_cases hlt:j<g.ports[i].length
  .obtain ⟨b',o',rfl,hb',hl1,hl2⟩:=H.out.at_ j hlt
   by_cases he:(g.ports[i][j].to==u)=true
   .go_wp2
    go_ret;exact ⟨aA5 (aO7 hlt HK.out he).symm,(Bel.refl _).alloc _⟩
   .have he':(g.ports[i][j].to==u)=false:=by simpa using he
    clear he;go_wp2
    go_roundg (g.ports[i].length-(j+1))
    case rel=>exact ⟨j+1,by omega,rfl,aAb hlt HK.out (by simp [he']),by go_num,rfl⟩
    case measure=>omega
  .go_wp2
   go_ret;exact ⟨aA5 (aPm (aAr (by omega) HK.out)).symm,(Bel.refl _).alloc _⟩
theorem aWh (v:Value) (g:Graph) (i:Nat) (u:Int) (w:World) (h:aAn w v g) (hi:i<g.ports.length) :
  Calls prog 105 #[v,.int .i64 i,.int .i64 u] w fun e w'=>e = .returned (.int .i64 (aDu g.ports[i] u))/\Bel w w':=by
 obtain ⟨A,k,A2,k2,rfl,_,_,_,hr,_,hm⟩:=h;obtain ⟨b,o,R,c1,rfl,hb,hc1,hL,hn,hm2⟩:=hr.at_ i hi;have H:=aA0 (fun w' (k:Bel w w')=>aGo.keep hL k);clear hL hr;unfold maxLen at hm hm2;go_enter func105,ntmps105;go_wp2
 go_loopg [7,8,15] g.ports[i].length (fun m _x _y z wr=>∃ j:Nat,j<=g.ports[i].length/\m=g.ports[i].length-j/\Hid ((g.ports[i].take j).all (fun l => !(l.to==u))=true)/\z = .int .i64 j/\Bel w wr)
 case atStart=>exact ⟨0,by omega,rfl,rfl,rfl,(Bel.refl w).alloc _⟩
 case round =>
  obtain ⟨j,hj,rfl,HK,rfl,HB⟩:=hrel
  by_cases hlt:j<g.ports[i].length
  .obtain ⟨b',o',rfl,hb',hl1,hl2⟩:=(H.out _ HB).at_ j hlt
   have HB2:=HB.alloc (.cells #[.int .i64 g.ports[i][j].to,.int .i64 g.ports[i][j].weight] 102)
   by_cases he:(g.ports[i][j].to==u)=true
   .go_wp2
    go_ret;exact ⟨aA5 (aO7 hlt HK.out he).symm,HB2⟩
   .have he':(g.ports[i][j].to==u)=false:=by simpa using he
    clear he;go_wp2
    go_roundg (g.ports[i].length-(j+1))
    case rel=>exact ⟨j+1,by omega,rfl,aAb hlt HK.out (by simp [he']),by go_num,HB2⟩
    case measure=>omega
  .go_wp2
   go_ret;exact ⟨aA5 (aPm (aAr (by omega) HK.out)).symm,HB⟩
theorem aI9 {l m:List Int} {k:Nat} (h1:l.length<=k) (h2:m.length<=k) (h:l.take k=m.take k):l=m:=by rwa [List.take_of_length_le h1,List.take_of_length_le h2] at h
theorem aM3 (A:Option Addr) (c:Nat) (l:List Int) (A2:Option Addr) (c2:Nat) (m:List Int) (w:World) (h1:aBm w A l.length l) (h2:aBm w A2 m.length m) (hl:l.length<=1000000) :
  Calls prog 47 #[.slice A l.length c,.slice A2 m.length c2] w fun e w'=>e = .returned (.bool (decide (l=m)))/\Bel w w':=by
 have H1:=aA0 (fun w' (k:Bel w w')=>aBm.keep h1 k);clear h1;have H2:=aA0 (fun w' (k:Bel w w')=>aBm.keep h2 k);clear h2
 by_cases hn:l.length=m.length
 .have HN:=aA0 hn
  rw [<- hn];clear hn;have hb:(l.length != l.length)=false:=by simp
  go_enter func47,ntmps47;go_wp2
  go_loopg [5] l.length (fun q x wr=>∃ j:Nat,j<=l.length/\q=l.length-j/\Hid (l.take j=m.take j)/\x = .int .i64 j/\Bel w wr)
  case atStart=>exact ⟨0,by omega,rfl,rfl,rfl,Bel.refl w⟩
  case round =>
   obtain ⟨j,hj,rfl,HK,rfl,HB⟩:=hrel
   by_cases hlt:j<l.length
   .have hlt2:j<m.length:=by rw [<- HN.out];exact hlt
    obtain ⟨b',o',rfl,hb',hl1⟩:=(H1.out _ HB).at_ j hlt;obtain ⟨b2,o2,rfl,hb2,hl2⟩:=(H2.out _ HB).at_ j hlt2;go_wp2
    go_quiet (fail)
    go_wp2
    .have he:(l[j] != m[j]'(by rw [<- HN.out];exact hlt))=true:=by assumption
     go_ret;refine ⟨aA2 ?_,HB.drewN _⟩
     symm
     simp only [decide_eq_false_iff_not]
     rintro rfl;simp at he
    .have he:(l[j] != m[j]'(by rw [<- HN.out];exact hlt))=false:=by assumption
     go_roundg (l.length-(j+1))
     case rel =>
      refine ⟨j+1,by omega,rfl,?_,by go_num,HB.drewN _⟩
      show l.take (j+1)=m.take (j+1)
      rw [List.take_succ_eq_append_getElem hlt,List.take_succ_eq_append_getElem (by rw [<- HN.out];exact hlt),HK.out,show l[j]=m[j]'(by rw [<- HN.out];exact hlt) by simpa using he]
     case measure=>omega
   .go_wp2
    go_ret;exact ⟨aA2 (by symm;simp only [decide_eq_true_eq];exact aI9 (k:=j) (by omega) (by rw [<- HN.out];omega) HK.out),HB⟩
 .have hb:(l.length != m.length)=true:=by simpa using hn
  have hb2:((l.length:Int) != (m.length:Int))=true:=by simp;omega
  go_enter func47,ntmps47;go_wp2;go_ret;exact ⟨aA2 (by symm;simp only [decide_eq_false_iff_not];rintro rfl;exact hn rfl),Bel.refl w⟩
section
variable {P:Program}
theorem Blk.row {w:World} {B:Nat} {cs:Array Value} {t:TypeId} (h:Blk w B cs t) (cs':Array Value):Blk (w.setRow B cs') B cs' t:=setRow_heap w B cs cs' t _ h
theorem bBz {o:Oper} {a:Act} (w:World) {K:Act->World->Prop} {Q:Exit->Act->World->Prop} (t:TypeId) (x y:Operand) (ho:o.op = .makeSlice t x y)
  (base:Nat) (e:TypeId) (i:TypeInfo) (z:Value) (size:Nat) (ht:P.underlying t=some (.slice e)) (hi:P.info? e=some i) (hz:i.zero=some z) (hsize:i.size=size)
  (kl kc:IntKind) (n:Nat) (hx:a.eval x = .int kl (n:Int)) (hy:a.eval y = .int kc (n:Int)) (hbytes:i.bytes*n<=281474976710656) (h63:n<=maxLen) (hbase:base<=w.heap.size)
  (h:∀ g w',w'.ownsRow base e size (.slice (some ⟨g,0,none⟩) n n) n (madeCells z.cells (n*size)).toList->Bel w w'->K (a.put o.dst (.slice (some ⟨g,0,none⟩) n n)) w'):o.wp P a w K Q:=by
 obtain ⟨w',hr,h2,h3⟩:=run_make_full (P:=P) w base t e i z size ht hi hz hsize kl kc n hbytes h63 hbase;unfold Oper.wp execOp;simp only [ho,hx,hy,Sem.run_bind,hr,Result.andThen_ok,Sem.run_pure]
 exact h _ w' h2 ((Bel.refl w).grown h3 (fun k hk=>by cases hk))
theorem aG3 {ops:Array Oper} {rest:List Oper} {o:Oper} {a:Act} (w:World) {Q:Exit->Act->World->Prop} (hgd:o.guard=none) (t:TypeId) (x y:Operand) (ho:o.op = .makeSlice t x y)
  (base:Nat) (e:TypeId) (i:TypeInfo) (z:Value) (size:Nat) (ht:P.underlying t=some (.slice e)) (hi:P.info? e=some i) (hz:i.zero=some z) (hsize:i.size=size)
  (kl kc:IntKind) (n:Nat) (hx:a.eval x = .int kl (n:Int)) (hy:a.eval y = .int kc (n:Int)) (hbytes:i.bytes*n<=281474976710656) (h63:n<=maxLen) (hbase:base<=w.heap.size)
  (h:∀ g w',w'.ownsRow base e size (.slice (some ⟨g,0,none⟩) n n) n (madeCells z.cells (n*size)).toList->Bel w w'->wpList P ops Q rest (a.put o.dst (.slice (some ⟨g,0,none⟩) n n)) w'):wpList P ops Q (o :: rest) a w :=
 wpList_plain hgd fun _ hK=>bBz w t x y ho base e i z size ht hi hz hsize kl kc n hx hy hbytes h63 hbase fun g w' h1 h2=>hK _ _ (h g w' h1 h2)
end
theorem aKd (z:Value) (hz:z.cells=#[z]) (n:Nat):(madeCells z.cells (n*1)).toList=List.replicate n z:=by
 rw [hz,Nat.mul_one];apply List.ext_getElem?
 intro k
 simp only [madeCells,Array.toList_map,List.getElem?_map]
 by_cases hk:k<n
 .simp [hk,Nat.mod_one]
 .simp [hk]
def aUf (a:Int):Int:=max (-1073741824) (min a 1073741824)
def aWw (a:Int):Bool:=decide (-1073741824<=a/\a<=1073741824)
def Num (a:Int):Prop := -1073741824<=a/\a<=1073741824
def aBj (b:Bool):Int:=if b then 1 else 0
theorem aV9 (a:Int):Num (aUf a):=by unfold Num aUf;omega
theorem bBu {a:Int} (h:Num a):aUf a=a:=by unfold Num at h;unfold aUf;omega
theorem aNx {a:Int} (h:Num a):aWw a=true:=by unfold aWw;unfold Num at h;exact decide_eq_true h
theorem aJt {a:Int} (h:aWw a=true):Num a:=by unfold aWw at h;unfold Num;exact of_decide_eq_true h
theorem aZ4 (b:Bool):aBj b=0∨aBj b=1:=by cases b <;> simp [aBj]
theorem aEt (b:Bool):Num (aBj b):=by unfold Num;have:=aZ4 b;omega
theorem aJy (b:Bool):aUf (aBj b)=aBj b:=bBu (aEt b)
def aHq (op a:Int):Int:=if op=18 then -a else aBj (a==0)
def aGi (op a:Int):Int × Int:=if (op≠18/\op≠19)∨aWw a=false then (0,2) else (aHq op a,0)
def aEd (a b:Int):Int:=if b=0 then 0 else if a.tmod b≠0/\(decide (a<0) != decide (b<0))=true then a.tdiv b-1 else a.tdiv b
theorem aLj (a b:Int) (ha:Num a) : -1073741824<=a.tdiv b/\a.tdiv b<=1073741824:=by
 have h:=Int.natAbs_tdiv_le_natAbs a b;unfold Num at ha;omega
theorem aO9 (a b:Int) (ha:Num a) : -1073741825<=aEd a b/\aEd a b<=1073741824:=by
 unfold aEd;split
 .omega
 .have:=aLj a b ha
  split <;> omega
theorem aKh (a b:Int) (ha:Num a) (hb : -1073741825<=b/\b<=1073741825) : -1152921505680588800<=a*b/\a*b<=1152921505680588800:=by
 have h:(a*b).natAbs<=1073741824*1073741825:=by
  rw [Int.natAbs_mul];unfold Num at ha;exact Nat.mul_le_mul (by omega) (by omega)
 omega
def aHk (op a b:Int):Int :=
 if op=30 then a*b
 else if op=31 then aEd a b
 else if op=32 then (if b=0 then 0 else a-b*aEd a b)
 else if op=33 then a+b
 else if op=34 then a-b
 else if op=35 then aBj (a==b)
 else if op=36 then aBj (a != b)
 else if op=37 then aBj (decide (a<b))
 else if op=38 then aBj (decide (a<=b))
 else if op=39 then aBj (decide (b<a))
 else if op=40 then aBj (decide (b<=a))
 else if op=41 then aBj (a != 0&&b != 0)
 else aBj (a != 0||b != 0)
def aDz (op a b:Int):Int:=aUf (aHk op a b)
def aCp (op a b:Int):Int × Int:=if op<30∨42<op∨aWw a=false∨aWw b=false then (0,2) else (aDz op a b,0)
def aD8 (l:List Int):Int:=(l.filter (fun a=>a != 0)).length
def aE5:List Int->Int->Int
 | [],_ => -1
 | a :: l,i=>if a≠0 then i else aE5 l (i+1)
def minF (l:List Int):Int:=l.foldl min 1073741824
def aJz:List Int->Int->Int->Int × Int
 | [],g,s=>(g,s)
 | a :: l,g,s=>if g<a then aJz l a g else aJz l g (max s a)
def bAs (l:List Int):Int × Int:=aJz l (-1073741824) (-1073741824)
def sumF (l:List Int):Int:=l.foldl (·+·) 0
def aL0 (l:List Int) (k:Int):Nat:=(l.filter (fun x=>decide (k<=x))).length
def aIa (l:List Int):Nat->Int->Int
 | 0,k=>k
 | f+1,k=>if k∈l then aIa l f (k+1) else k
def bA5 (l:List Int):Int:=aIa l (aL0 l 0) 0
def aJ2 (op:Int) (l:List Int):Int :=
 if op=20 then aBj (aD8 l==l.length)
 else if op=21 then aBj (decide (0<aD8 l))
 else if op=22 then aD8 l
 else if op=23 then aE5 l 0
 else if op=24 then minF l
 else if op=25 then (bAs l).1
 else if op=26 then aUf (sumF l)
 else if op=27 then bA5 l
 else if op=28 then (bAs l).2
 else l.headD 0
theorem aMy (a:Int) (l:List Int):aD8 (a :: l)=(if a=0 then 0 else 1)+aD8 l:=by
 unfold aD8
 by_cases h:a=0
 .simp [h]
 .simp [h];omega
theorem aXi (l:List Int):0<=aD8 l/\aD8 l<=l.length:=by
 unfold aD8;have:=List.length_filter_le (fun a:Int=>a != 0) l;omega
theorem aMe {l:List Int} {k:Int} (h:k∈l):aL0 l (k+1)<aL0 l k:=by
 unfold aL0
 induction l with
 | nil=>cases h
 | cons x l ih =>
  have hmono:∀ l:List Int,(l.filter (fun x=>decide (k+1<=x))).length<=(l.filter (fun x=>decide (k<=x))).length:=by
   intro l
   induction l with
   | nil=>simp
   | cons y l ih =>
    simp only [List.filter_cons]
    by_cases h1:k+1<=y <;> by_cases h2:k<=y <;> simp [h1,h2] <;> omega
  rcases List.mem_cons.1 h with e | e
  .subst e
   have:=hmono l;simp only [List.filter_cons]
   rw [if_neg (by simp;omega),if_pos (by simp)]
   simp;omega
  .have:=ih e
   simp only [List.filter_cons]
   by_cases h1:k+1<=x <;> by_cases h2:k<=x <;> simp [h1,h2] <;> omega
theorem aQ6 (l:List Int) (k:Int):aL0 l k<=l.length:=List.length_filter_le _ _
theorem bA6 (l:List Int):∀ (f:Nat) (k:Int),aL0 l k<=f->k<=aIa l f k/\aIa l f k<=k+f/\aIa l f k ∉ l/\∀ j,k<=j->j<aIa l f k->j∈l:=by
 intro f
 induction f with
 | zero =>
  intro k h
  have hk:k ∉ l:=fun hm=>by have:=aMe hm;omega
  exact ⟨Int.le_refl _,by simp [aIa],hk,fun j h1 h2=>by simp [aIa] at h2;omega⟩
 | succ f ih =>
  intro k h
  simp only [aIa]
  by_cases hk:k∈l
  .rw [if_pos hk]
   have hc:=aMe hk;obtain ⟨i1,i2,i3,i4⟩:=ih (k+1) (by omega)
   refine ⟨by omega,by omega,i3,fun j h1 h2=>?_⟩
   by_cases e:j=k
   .subst e;exact hk
   .exact i4 j (by omega) h2
  .rw [if_neg hk]
   exact ⟨Int.le_refl _,by omega,hk,fun j h1 h2=>by omega⟩
end Go.Proofs.YtdcjnhoabbdanaaGreatDoor

