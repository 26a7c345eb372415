/- Merged. -/
import Derived.Test.YtmifhmdghfbalaaGreatDoorZ02
import Derived.Lib.BitFns
import Derived.Test.YtmifhmdghfbalaaGreatDoorZ01
import Derived.Maps.Own
import Derived.Maps.OwnOps
import Derived.Maps.OwnSet
import Derived.Maps.Views
import Derived.OneCell
import Derived.Deep.WholeRow
import Derived.Laws.OwnMore
import Derived.Laws.CopyOwn
import Derived.Deep.RegionHeld
set_option linter.unusedSimpArgs false
set_option linter.unnecessarySimpa false
set_option linter.unusedVariables false
set_option maxRecDepth 100000

namespace Go.Proofs.YtmifhmdghfbalaaGreatDoor
def aPp (n:Nat) (h:Nat->Bool):Nat:=(List.range n).foldl (fun s v=>if h v then s|||2 ^ v else s) 0
theorem bH6 (h:Nat->Bool):aPp 0 h=0:=rfl
theorem aHw (n:Nat) (h:Nat->Bool):aPp (n+1) h=if h n then aPp n h|||2 ^ n else aPp n h:=by
 unfold aPp;rw [List.range_succ,List.foldl_append];rfl
theorem aJv (n:Nat) (h:Nat->Bool) (v:Nat):(aPp n h).testBit v=(decide (v<n)&&h v):=by
 induction n with
 | zero=>simp [bH6]
 | succ n ih =>
  rw [aHw]
  by_cases hv:v=n
  .subst hv
   cases hh:h v with
   | false=>simp [ih]
   | true=>simp [Nat.testBit_or,Nat.testBit_two_pow_self]
  .have e:decide (v<n+1)=decide (v<n):=by rw [decide_eq_decide];omega
   rw [e];cases hh:h n with
   | false=>simpa using ih
   | true =>
    simp only [if_true,Nat.testBit_or,ih,Nat.testBit_two_pow]
    have:decide (n=v)=false:=by simp;omega
    rw [this,Bool.or_false]
theorem aVx (n:Nat) (h:Nat->Bool):aPp n h<2 ^ n:=by
 apply Nat.lt_pow_two_of_testBit
 intro i hi
 rw [aJv,decide_eq_false (by omega)];rfl
theorem aJ4 {n:Nat} (h:Nat->Bool) (hn:n<=32):aPp n h<4294967296 :=
 Nat.lt_of_lt_of_le (aVx n h) (Nat.pow_le_pow_right (n:=2) (by decide) hn)
def aBh (S T:Nat):Bool:=(List.range 32).all fun i => !S.testBit i||T.testBit i
def aR0 (S:Nat) (x:Int):Bool:=decide (0<=x)&&decide (x<32)&&S.testBit x.toNat
theorem aVi {S T:Nat} (hS:S<4294967296) (hT:T<4294967296) (h:∀ v,v<32->S.testBit v=T.testBit v):S=T:=by
 refine Nat.eq_of_testBit_eq fun v=>?_
 rcases Nat.lt_or_ge v 32 with hv | hv
 .exact h v hv
 .have e:(4294967296:Nat)<=2 ^ v:=Nat.pow_le_pow_right (n:=2) (i:=32) (by decide) hv
  rw [Nat.testBit_lt_two_pow (Nat.lt_of_lt_of_le hS e),Nat.testBit_lt_two_pow (Nat.lt_of_lt_of_le hT e)]
theorem aB5 {S T:Nat}:aBh S T=true↔∀ v,v<32->S.testBit v=true->T.testBit v=true:=by
 unfold aBh;simp only [List.all_eq_true,List.mem_range,Bool.or_eq_true,Bool.not_eq_true']
 constructor
 .intro h v hv hS
  rcases h v hv with h | h
  .rw [h] at hS;cases hS
  .exact h
 .intro h v hv
  cases hb:S.testBit v with
  | false=>exact .inl rfl
  | true=>exact .inr (h v hv hb)
theorem aP0 {S v:Nat} (hS:S<4294967296) (h:S.testBit v=true):v<32:=by
 rcases Nat.lt_or_ge v 32 with hv | hv
 .exact hv
 .have e:(4294967296:Nat)<=2 ^ v:=Nat.pow_le_pow_right (n:=2) (i:=32) (by decide) hv
  rw [Nat.testBit_lt_two_pow (Nat.lt_of_lt_of_le hS e)] at h;cases h
theorem aMy (i v:Nat):(2 ^ i).testBit v=decide (i=v):=Nat.testBit_two_pow
theorem aW5 {n:Nat} (h:n<4294967296):IntKind.u32.wrap (n:Int)=(n:Int):=by simp [IntKind.wrap,IntKind.bits,IntKind.signed];omega
theorem aL8 {v:Nat} (h:v<32):2 ^ v<4294967296:=Nat.pow_lt_pow_right (a:=2) (by decide) h
theorem bv32 (S:Nat):BitVec.ofInt IntKind.u32.bits (S:Int)=BitVec.ofNat 32 S:=by
 simp [IntKind.bits]
theorem bKo {S T:Nat} (hS:S<4294967296) (hT:T<4294967296):bits .or .u32 (S:Int) (T:Int)=((S|||T:Nat):Int):=by
 have e:(BitVec.ofNat 32 S|||BitVec.ofNat 32 T).toNat=S|||T:=by
  simp only [BitVec.toNat_or,BitVec.toNat_ofNat]
  rw [Nat.mod_eq_of_lt (by omega),Nat.mod_eq_of_lt (by omega)]
 unfold bits;simp only [bv32]
 show IntKind.u32.wrap ((BitVec.ofNat 32 S|||BitVec.ofNat 32 T).toNat:Int)=_
 rw [e];exact aW5 (Nat.or_lt_two_pow (n:=32) hS hT)
theorem aH3 {S T:Nat} (hS:S<4294967296) (_hT:T<4294967296):bits .and .u32 (S:Int) (T:Int)=((S&&&T:Nat):Int):=by
 have e:(BitVec.ofNat 32 S&&&BitVec.ofNat 32 T).toNat=S&&&T:=by
  simp only [BitVec.toNat_and,BitVec.toNat_ofNat]
  rw [Nat.mod_eq_of_lt (by omega),Nat.mod_eq_of_lt (by omega)]
 unfold bits;simp only [bv32]
 show IntKind.u32.wrap ((BitVec.ofNat 32 S&&&BitVec.ofNat 32 T).toNat:Int)=_
 rw [e];exact aW5 (Nat.and_lt_two_pow (n:=32) S _hT)
def aHo (S T:Nat):Nat:=(BitVec.ofNat 32 S&&&~~~BitVec.ofNat 32 T).toNat
theorem bBn (S T:Nat):aHo S T<4294967296:=(BitVec.ofNat 32 S&&&~~~BitVec.ofNat 32 T).isLt
theorem aHi (S T:Nat):bits .andNot .u32 (S:Int) (T:Int)=((aHo S T:Nat):Int):=by
 unfold bits;simp only [bv32]
 exact aW5 (bBn S T)
theorem aX0 {S T:Nat} (hS:S<4294967296) (v:Nat):(aHo S T).testBit v=(S.testBit v && !T.testBit v):=by
 rcases Nat.lt_or_ge v 32 with hv | hv
 .unfold aHo
  rw [BitVec.testBit_toNat,BitVec.getLsbD_and,BitVec.getLsbD_not,BitVec.getLsbD_ofNat,BitVec.getLsbD_ofNat];simp [hv]
 .have e:(4294967296:Nat)<=2 ^ v:=Nat.pow_le_pow_right (n:=2) (i:=32) (by decide) hv
  rw [Nat.testBit_lt_two_pow (Nat.lt_of_lt_of_le (bBn S T) e),Nat.testBit_lt_two_pow (Nat.lt_of_lt_of_le hS e)];rfl
theorem aIx {S T:Nat} (hS:S<4294967296):(aHo S T==0)=aBh S T:=by
 rw [Bool.eq_iff_iff,beq_iff_eq,aB5];constructor
 .intro h v _ hv
  have:=aX0 (T:=T) hS v;rw [h,Nat.zero_testBit,hv] at this;simpa using this.symm
 .intro h
  refine Nat.eq_of_testBit_eq fun v=>?_
  rw [aX0 hS,Nat.zero_testBit];cases hb:S.testBit v with
  | false=>rfl
  | true=>rw [h v (aP0 hS hb) hb];rfl
theorem bLb (S v:Nat):(S >>> v)&&&1=(S.testBit v).toNat:=by
 rw [Nat.and_one_is_mod,Nat.shiftRight_eq_div_pow,Nat.testBit_eq_decide_div_mod_eq];have:=Nat.mod_lt (S / 2 ^ v) (show 0<2 by decide)
 by_cases h:S / 2 ^ v % 2=1
 .rw [h];simp
 .have:S / 2 ^ v % 2=0:=by omega
  rw [this];simp
theorem bKn {S v:Nat} (hS:S<4294967296):bits .and .u32 ((S:Int) / 2 ^ v) 1=((S.testBit v).toNat:Int):=by
 have h1:(S:Int) / 2 ^ v=((S >>> v:Nat):Int):=by rw [Nat.shiftRight_eq_div_pow];simp
 rw [h1,show (1:Int)=((1:Nat):Int) from rfl,aH3 (by have:=Nat.shiftRight_le S v;omega) (by decide),bLb]
theorem aN6 {S v:Nat} (hS:S<4294967296) (hv:v<32):bits .or .u32 (S:Int) (2 ^ v % 4294967296)=((S|||2 ^ v:Nat):Int):=by
 have h:=aL8 hv
 have e:(2:Int) ^ v % 4294967296=((2 ^ v:Nat):Int):=by
  have e2:(2:Int) ^ v=((2 ^ v:Nat):Int):=by rw [Int.natCast_pow];rfl
  rw [e2];exact Int.emod_eq_of_lt (b:=4294967296) (Int.natCast_nonneg _) (Int.ofNat_lt.2 h)
 rw [e,bKo hS h]
theorem bHh (b:Bool):((b.toNat:Int)==1)=b:=by cases b <;> rfl
theorem aHh (x y a b:Nat) (ha:a<2) (hb:b<2):(2*x+a)&&&(2*y+b)=2*(x&&&y)+a*b:=by
 have hab:a*b<2:=by
  have h1:a=0∨a=1:=by omega
  rcases h1 with rfl | rfl <;> omega
 refine Nat.eq_of_testBit_eq fun i=>?_
 rw [Nat.testBit_and];cases i with
 | zero =>
  have h1:a=0∨a=1:=by omega
  have h2:b=0∨b=1:=by omega
  rcases h1 with rfl | rfl <;> rcases h2 with rfl | rfl <;> simp [Nat.testBit_zero] <;> omega
 | succ i =>
  rw [Nat.testBit_succ,Nat.testBit_succ,Nat.testBit_succ,show (2*x+a) / 2=x by omega,show (2*y+b) / 2=y by omega,show (2*(x&&&y)+a*b) / 2=x&&&y by omega,Nat.testBit_and]
def aGy (w S s:Nat):Nat:=(s+(2 ^ w-S)) % 2 ^ w&&&S
theorem aSf (n:Nat):∃ x a,a<2/\n=2*x+a:=⟨n / 2,n % 2,Nat.mod_lt _ (by decide),by omega⟩
theorem aVq {x y a b:Nat} (ha:a<2) (hb:b<2) (h:(2*x+a)&&&(2*y+b)=2*x+a):x&&&y=x/\a<=b:=by
 rw [aHh x y a b ha hb] at h;have h1:a=0∨a=1:=by omega
 have h2:b=0∨b=1:=by omega
 rcases h1 with rfl | rfl <;> rcases h2 with rfl | rfl <;> omega
theorem bCy (w:Nat):∀ S s,S<2 ^ w->s&&&S=s->(s+(2 ^ w-1-S))&&&S=s:=by
 induction w with
 | zero => intro S s h hs; have : S = 0 := by simpa using h
           subst this;simpa using hs
 | succ w ih =>
  intro S s h hs
  obtain ⟨y,b,hb,rfl⟩:=aSf S;obtain ⟨x,a,ha,rfl⟩:=aSf s;obtain ⟨hxy,hab⟩:=aVq ha hb hs;have hp:2 ^ (w+1)=2*2 ^ w:=by rw [Nat.pow_succ];omega
  have hy:y<2 ^ w:=by omega
  have e:2*x+a+(2 ^ (w+1)-1-(2*y+b))=2*(x+(2 ^ w-1-y))+(a+1-b):=by omega
  rw [e,aHh _ _ _ _ (by omega) hb,ih y x hy hxy]
  have h1:a=0∨a=1:=by omega
  have h2:b=0∨b=1:=by omega
  rcases h1 with rfl | rfl <;> rcases h2 with rfl | rfl <;> omega
theorem aD1 {s S:Nat} (h:s&&&S=s):s<=S:=by rw [<- h];exact Nat.and_le_right
theorem aHc (w S:Nat) (h:S<2 ^ w):aGy w S S=0:=by
 unfold aGy;rw [show S+(2 ^ w-S)=2 ^ w by omega,Nat.mod_self,Nat.zero_and]
theorem aHd (w:Nat):∀ S s,S<2 ^ w->s&&&S=s->s≠S ->
  s<aGy w S s/\aGy w S s&&&S=aGy w S s/\∀ t,t&&&S=t->s<t->aGy w S s<=t:=by
 induction w with
 | zero =>
  intro S s h hs hne
  have:S=0:=by simpa using h
  have:=aD1 hs;omega
 | succ w ih =>
  intro S s h hs hne
  obtain ⟨y,b,hb,rfl⟩:=aSf S;obtain ⟨x,a,ha,rfl⟩:=aSf s;obtain ⟨hxy,hab⟩:=aVq ha hb hs;have hp:2 ^ (w+1)=2*2 ^ w:=by rw [Nat.pow_succ];omega
  have hy:y<2 ^ w:=by omega
  have hle:=aD1 hxy
  by_cases hc:a=0/\b=1
  .obtain ⟨rfl,rfl⟩:=hc
   have e:aGy (w+1) (2*y+1) (2*x+0)=2*x+1:=by
    unfold aGy;rw [Nat.mod_eq_of_lt (by omega),show 2*x+0+(2 ^ (w+1)-(2*y+1))=2*(x+(2 ^ w-1-y))+1 by omega,aHh _ _ _ _ (by omega) (by omega),bCy w y x hy hxy]
   rw [e];exact ⟨by omega,by rw [aHh _ _ _ _ (by omega) (by omega),hxy],fun t _ ht=>by omega⟩
  .have hab':a=b:=by omega
   subst hab';have hne':x≠y:=fun e=>hne (by rw [e])
   have e:aGy (w+1) (2*y+a) (2*x+a)=2*aGy w y x:=by
    unfold aGy
    rw [show 2*x+a+(2 ^ (w+1)-(2*y+a))=2*(x+(2 ^ w-y)) by omega,hp,Nat.mul_mod_mul_left,
     show 2*((x+(2 ^ w-y)) % 2 ^ w)=2*((x+(2 ^ w-y)) % 2 ^ w)+0 by omega,aHh _ _ _ _ (by omega) ha]
    omega
   obtain ⟨h1,h2,h3⟩:=ih y x hy hxy hne';rw [e];refine ⟨by omega,?_,fun t ht hlt=>?_⟩
   .rw [show 2*aGy w y x=2*aGy w y x+0 by omega,aHh _ _ _ _ (by omega) ha,h2];omega
   .obtain ⟨u,c,hcc,rfl⟩:=aSf t
    obtain ⟨hu,hca⟩:=aVq hcc ha ht;have:=h3 u hu (by omega)
    omega
def aKx (S:Nat):Nat->Nat->List Nat
 | 0,_=>[]
 | f+1,s=>if s=0 then [] else s :: aKx S f (aGy 32 S s)
theorem bAp {S:Nat} (hS:S<2 ^ 32):∀ f g s,s&&&S=s->S<f+s->S<g+s->aKx S f s=aKx S g s:=by
 intro f
 induction f with
 | zero=>intro g s hs hf _;have:=aD1 hs;omega
 | succ f ih =>
  intro g s hs hf hg
  cases g with
  | zero=>have:=aD1 hs;omega
  | succ g =>
   unfold aKx
   by_cases h0:s=0
   .rw [if_pos h0,if_pos h0]
   .rw [if_neg h0,if_neg h0]
    by_cases hl:s=S
    .subst hl
     rw [aHc 32 s hS];cases f <;> cases g <;> simp [aKx]
    .obtain ⟨h1,h2,_⟩:=aHd 32 S s hS hs hl
     rw [ih g _ h2 (by omega) (by omega)]
theorem bAq (S f s:Nat):aKx S (f+1) s=if s=0 then [] else s :: aKx S f (aGy 32 S s):=rfl
def aAo (S s:Nat):List Nat:=aKx S (S+1) s
theorem aBq (S:Nat):aAo S 0=[]:=by unfold aAo aKx;rw [if_pos rfl]
theorem aEu {S s:Nat} (hS:S<2 ^ 32) (hs:s&&&S=s) (h0:s≠0):aAo S s=s :: aAo S (aGy 32 S s):=by
 have e:aAo S s=s :: aKx S S (aGy 32 S s):=by unfold aAo;rw [bAq,if_neg h0]
 rw [e]
 by_cases hl:s=S
 .subst hl
  rw [aHc 32 s hS,aBq];cases s <;> simp [aKx]
 .obtain ⟨h1,h2,_⟩:=aHd 32 S s hS hs hl
  unfold aAo;rw [bAp hS S (S+1) _ h2 (by omega) (by omega)]
theorem aH6 {S:Nat} (hS:S<2 ^ 32):∀ n s,S-s<n->s&&&S=s->s≠0->∀ t,t∈aAo S s↔s<=t/\t&&&S=t:=by
 intro n
 induction n with
 | zero=>intro s h;omega
 | succ n ih =>
  intro s hn hs h0 t
  rw [aEu hS hs h0,List.mem_cons]
  by_cases hl:s=S
  .subst hl
   rw [aHc 32 s hS,aBq];constructor
   .rintro (rfl | h)
    .exact ⟨Nat.le_refl _,hs⟩
    .cases h
   .rintro ⟨h1,h2⟩
    exact .inl (Nat.le_antisymm (aD1 h2) h1)
  .obtain ⟨h1,h2,h3⟩:=aHd 32 S s hS hs hl
   have hle:=aD1 h2;rw [ih _ (by omega) h2 (by omega) t]
   constructor
   .rintro (rfl | ⟨ha,hb⟩)
    .exact ⟨Nat.le_refl _,hs⟩
    .exact ⟨by omega,hb⟩
   .rintro ⟨ha,hb⟩
    rcases Nat.eq_or_lt_of_le ha with rfl | hlt
    .exact .inl rfl
    .exact .inr ⟨h3 t hb hlt,hb⟩
theorem aPq {S:Nat} (hS:S<2 ^ 32):∀ n s,S-s<n->s&&&S=s->(aAo S s).Pairwise (· < ·):=by
 intro n
 induction n with
 | zero=>intro s h;omega
 | succ n ih =>
  intro s hn hs
  by_cases h0:s=0
  .subst h0;rw [aBq];exact .nil
  .rw [aEu hS hs h0]
   by_cases hl:s=S
   .subst hl;rw [aHc 32 s hS,aBq];exact .cons (fun _ h=>by cases h) .nil
   .obtain ⟨h1,h2,_⟩:=aHd 32 S s hS hs hl
    have hle:=aD1 h2;refine .cons (fun t ht=>?_) (ih _ (by omega) h2)
    have:=((aH6 hS n _ (by omega) h2 (by omega) t).1 ht).1
    omega
theorem bGj:∀ n S:Nat,S<n->S≠0->∃ k m,S=2 ^ k*(2*m+1):=by
 intro n
 induction n with
 | zero=>intro S h;omega
 | succ n ih =>
  intro S h h0
  obtain ⟨x,a,ha,rfl⟩:=aSf S
  by_cases h1:a=1
  .subst h1;exact ⟨0,x,by omega⟩
  .obtain rfl:a=0:=by omega
   obtain ⟨k,m,e⟩:=ih x (by omega) (by omega)
   exact ⟨k+1,m,by rw [Nat.pow_succ,e];rw [Nat.mul_right_comm,Nat.mul_comm];omega⟩
theorem bEz (w:Nat):∀ S,S<2 ^ w->S&&&(2 ^ w-1-S)=0:=by
 induction w with
 | zero => intro S h; have : S = 0 := by simpa using h
           subst this;rfl
 | succ w ih =>
  intro S h
  obtain ⟨x,a,ha,rfl⟩:=aSf S;have hp:2 ^ (w+1)=2*2 ^ w:=by rw [Nat.pow_succ];omega
  rw [show 2 ^ (w+1)-1-(2*x+a)=2*(2 ^ w-1-x)+(1-a) by omega,aHh _ _ _ _ ha (by omega),ih x (by omega)]
  have h1:a=0∨a=1:=by omega
  rcases h1 with rfl | rfl <;> rfl
theorem bI9 (x y:Nat):(2*x)&&&(2*y)=2*(x&&&y):=by
 have:=aHh x y 0 0 (by decide) (by decide)
 simpa using this
theorem bD0 (k m:Nat):2 ^ k*(2*m+1)&&&(2 ^ k*(2*m+1)-1)=2 ^ k*(2*m):=by
 induction k with
 | zero =>
  have:=aHh m m 1 0 (by decide) (by decide)
  simpa using this
 | succ k ih =>
  have hpos:0<2 ^ k*(2*m+1):=Nat.mul_pos (Nat.two_pow_pos k) (by omega)
  rw [show 2 ^ (k+1)*(2*m+1)=2*(2 ^ k*(2*m+1)) by rw [Nat.pow_succ,Nat.mul_comm (2 ^ k) 2,Nat.mul_assoc],
   show 2 ^ (k+1)*(2*m)=2*(2 ^ k*(2*m)) by rw [Nat.pow_succ,Nat.mul_comm (2 ^ k) 2,Nat.mul_assoc]]
  generalize 2 ^ k*(2*m+1)=S at *;have h:=aHh S (S-1) 0 1 (by decide) (by decide)
  rw [show 2*(S-1)+1=2*S-1 by omega] at h
  rw [<- ih];simpa using h
theorem bKy (k:Nat):∀ w m,2 ^ k*(2*m+1)<2 ^ w->2 ^ k*(2*m+1)&&&(2 ^ w-2 ^ k*(2*m+1))=2 ^ k:=by
 induction k with
 | zero =>
  intro w m h
  cases w with
  | zero=>simp at h
  | succ w =>
   have hp:2 ^ (w+1)=2*2 ^ w:=by rw [Nat.pow_succ];omega
   simp only [Nat.pow_zero,Nat.one_mul] at h ⊢
   rw [show 2 ^ (w+1)-(2*m+1)=2*(2 ^ w-1-m)+1 by omega,aHh _ _ _ _ (by decide) (by decide),bEz w m (by omega)]
 | succ k ih =>
  intro w m h
  have e:2 ^ (k+1)*(2*m+1)=2*(2 ^ k*(2*m+1)):=by rw [Nat.pow_succ,Nat.mul_comm (2 ^ k) 2,Nat.mul_assoc]
  rw [e] at h ⊢;cases w with
  | zero =>
   have hpos:0<2 ^ k*(2*m+1):=Nat.mul_pos (Nat.two_pow_pos k) (by omega)
   omega
  | succ w =>
   have hp:2 ^ (w+1)=2*2 ^ w:=by rw [Nat.pow_succ];omega
   have h2:=ih w m (by omega)
   rw [show 2 ^ (w+1)-2*(2 ^ k*(2*m+1))=2*(2 ^ w-2 ^ k*(2*m+1)) by omega,bI9,h2,Nat.pow_succ]
   omega
def aB1 (S:Nat):List Nat:=(List.range 32).filter (S.testBit ·)
theorem aG4:aB1 0=[]:=by unfold aB1;simp
theorem aDt {S v:Nat}:v∈aB1 S↔v<32/\S.testBit v=true:=by unfold aB1;simp [List.mem_filter]
theorem bK7 {k m w:Nat} (h:2 ^ k*(2*m+1)<2 ^ w):k<w:=by
 rcases Nat.lt_or_ge k w with hk | hk
 .exact hk
 .have h1:2 ^ w<=2 ^ k:=Nat.pow_le_pow_right (by decide) hk
  have h2:2 ^ k*1<=2 ^ k*(2*m+1):=Nat.mul_le_mul_left _ (by omega)
  omega
theorem aQh (k m i:Nat):(2 ^ k*(2*m+1)).testBit i=(decide (i=k)||(2 ^ k*(2*m)).testBit i):=by
 rw [Nat.testBit_two_pow_mul,Nat.testBit_two_pow_mul]
 by_cases h:i=k
 .subst h;simp [Nat.testBit_zero]
 .by_cases hk:k<=i
  .obtain ⟨j,rfl⟩:∃ j,i=k+(j+1):=⟨i-k-1,by omega⟩
   rw [show k+(j+1)-k=j+1 by omega,Nat.testBit_succ,Nat.testBit_succ,show (2*m+1) / 2=2*m / 2 by omega]
   simp
  .simp [h,hk]
theorem aN5 (k m i:Nat) (h:i<=k):(2 ^ k*(2*m)).testBit i=false:=by
 rw [Nat.testBit_two_pow_mul]
 by_cases hk:i=k
 .subst hk;simp [Nat.testBit_zero]
 .have:¬ i ≥ k:=by omega
  simp [this]
theorem aJe {k m:Nat} (h:2 ^ k*(2*m+1)<2 ^ 32):aB1 (2 ^ k*(2*m+1))=k :: aB1 (2 ^ k*(2*m)):=by
 have hk:k<32:=bK7 h;unfold aB1;obtain ⟨d,hd⟩:∃ d,32=k+(1+d):=⟨31-k,by omega⟩
 rw [hd,List.range_add,List.filter_append,List.filter_append,List.range_add,List.map_append,List.filter_append,List.filter_append]
 have h1:∀ S:Nat,(∀ i,i<k->S.testBit i=false)->(List.range k).filter (S.testBit ·)=[]:=by
  intro S hS;rw [List.filter_eq_nil_iff];intro a ha;rw [hS a (List.mem_range.1 ha)];decide
 rw [h1 _ (fun i hi=>by rw [aQh,aN5 k m i (by omega)];simp;omega),h1 _ (fun i hi=>aN5 k m i (by omega))]
 have h2:(List.map (k+·) (List.range 1))=[k]:=rfl;rw [h2,List.nil_append,List.nil_append];have e1:List.filter (fun x=>(2 ^ k*(2*m+1)).testBit x) [k]=[k]:=by simp [aQh]
 have e2:List.filter (fun x=>(2 ^ k*(2*m)).testBit x) [k]=[]:=by simp [aN5 k m k (Nat.le_refl _)]
 rw [e1,e2,List.nil_append,List.singleton_append]
 congr 1
 refine List.filter_congr fun i hi=>?_
 simp only [List.mem_map,List.mem_range] at hi
 obtain ⟨a,⟨b,_,rfl⟩,rfl⟩:=hi;rw [aQh];have:¬ k+(1+b)=k:=by omega
 simp [this]
def aAp:List (Int × Int)->Int
 | []=>1
 | b :: bs=>(b.2-b.1+1)*aAp bs
def okL (bs:List (Int × Int)):Prop:=∀ b∈bs,b.1<=b.2
def inL:List (Int × Int)->List Int->Prop
 | [],[]=>True
 | b :: bs,c :: cs=>b.1<=c/\c<=b.2/\inL bs cs
 | _,_=>False
def aH2:List (Int × Int)->List Int->Int
 | b :: bs,c :: cs=>(c-b.1)*aAp bs+aH2 bs cs
 | _,_=>0
def aBt (bs:List (Int × Int)):List Int:=bs.map (·.1)
def aGg:List (Int × Int)->List Int->List Int × Bool
 | b :: bs,c :: cs =>
  if (aGg bs cs).2 then (if c<b.2 then ((c+1) :: (aGg bs cs).1,false) else (b.1 :: (aGg bs cs).1,true))
  else (c :: (aGg bs cs).1,false)
 | _,_=>([],true)
def aO9:List (Int × Int)->Int->List Int
 | [],_=>[]
 | b :: bs,k=>(b.1+k / aAp bs) :: aO9 bs (k % aAp bs)
theorem aF2 {b:Int × Int} {bs:List (Int × Int)} (h:okL (b :: bs)):b.1<=b.2/\okL bs :=
 ⟨h b (List.mem_cons_self ..),fun x hx=>h x (List.mem_cons_of_mem _ hx)⟩
theorem aCs:∀ {bs:List (Int × Int)},okL bs->0<aAp bs
 | [],_=>by decide
 | b :: bs,h=>Int.mul_pos (by have:=(aF2 h).1;omega) (aCs (aF2 h).2)
theorem aXm:∀ {bs:List (Int × Int)},okL bs->inL bs (aBt bs)
 | [],_=>trivial
 | _ :: _,h=>⟨Int.le_refl _,(aF2 h).1,aXm (aF2 h).2⟩
theorem aOl:∀ bs:List (Int × Int),aH2 bs (aBt bs)=0
 | []=>rfl
 | b :: bs=>by
  show (b.1-b.1)*aAp bs+aH2 bs (aBt bs)=0
  rw [aOl bs,Int.sub_self,Int.zero_mul];rfl
theorem aJ0:∀ {bs:List (Int × Int)} {cs:List Int},inL bs cs->0<=aH2 bs cs/\aH2 bs cs<aAp bs
 | [],[],_=>by decide
 | [],_ :: _,h=>h.elim
 | _ :: _,[],h=>h.elim
 | b :: bs,c :: cs,h=>by
  obtain ⟨h1,h2,h3⟩:=h;obtain ⟨h4,h5⟩:=aJ0 h3;show 0<=(c-b.1)*aAp bs+aH2 bs cs/\(c-b.1)*aAp bs+aH2 bs cs<(b.2-b.1+1)*aAp bs
  have hp:0<aAp bs:=by omega
  have hm:0<=(c-b.1)*aAp bs:=Int.mul_nonneg (by omega) (by omega)
  have hm2:(c-b.1+1)*aAp bs<=(b.2-b.1+1)*aAp bs:=Int.mul_le_mul_of_nonneg_right (by omega) (by omega)
  rw [Int.add_mul (c-b.1) 1,Int.one_mul] at hm2;omega
theorem aWx:∀ {bs:List (Int × Int)} {cs:List Int},inL bs cs->aO9 bs (aH2 bs cs)=cs
 | [],[],_=>rfl
 | [],_ :: _,h=>h.elim
 | _ :: _,[],h=>h.elim
 | b :: bs,c :: cs,h=>by
  obtain ⟨h1,h2,h3⟩:=h;obtain ⟨h4,h5⟩:=aJ0 h3;show (b.1+((c-b.1)*aAp bs+aH2 bs cs) / aAp bs) :: aO9 bs (((c-b.1)*aAp bs+aH2 bs cs) % aAp bs)=c :: cs
  have hp:aAp bs≠0:=by omega
  rw [Int.add_comm ((c-b.1)*aAp bs),Int.add_mul_ediv_right _ _ hp,Int.add_mul_emod_self_right,Int.ediv_eq_zero_of_lt h4 h5,Int.emod_eq_of_lt h4 h5,aWx h3]
  congr 1;omega
theorem bBm:∀ {bs:List (Int × Int)} {k:Int},okL bs->0<=k->k<aAp bs->inL bs (aO9 bs k)
 | [],_,_,_,_=>trivial
 | b :: bs,k,ho,h0,hk=>by
  have hp:=aCs (aF2 ho).2;have h1:0<=k / aAp bs:=Int.ediv_nonneg h0 (by omega)
  have h2:k / aAp bs<b.2-b.1+1:=Int.ediv_lt_of_lt_mul hp hk;exact ⟨by omega,by omega,bBm (aF2 ho).2 (Int.emod_nonneg _ (by omega)) (Int.emod_lt_of_pos _ hp)⟩
theorem aY8:∀ {bs:List (Int × Int)} {k:Int},okL bs->0<=k->k<aAp bs->aH2 bs (aO9 bs k)=k
 | [],k,_,h0,hk=>by
  have:aAp []=1:=rfl;show (0:Int)=k;omega
 | b :: bs,k,ho,h0,hk=>by
  have hp:=aCs (aF2 ho).2;show (b.1+k / aAp bs-b.1)*aAp bs+aH2 bs (aO9 bs (k % aAp bs))=k
  rw [aY8 (aF2 ho).2 (Int.emod_nonneg _ (by omega)) (Int.emod_lt_of_pos _ hp),show b.1+k / aAp bs-b.1=k / aAp bs by omega]
  exact Int.ediv_mul_add_emod k (aAp bs)
theorem aUn:∀ {bs:List (Int × Int)} {cs:List Int},inL bs cs ->
  ((aGg bs cs).2=false->aH2 bs (aGg bs cs).1=aH2 bs cs+1)/\((aGg bs cs).2=true->aH2 bs cs=aAp bs-1/\(aGg bs cs).1=aBt bs)/\inL bs (aGg bs cs).1
 | [],[],_=>⟨(fun h=>by cases h),fun _=>⟨rfl,rfl⟩,trivial⟩
 | [],_ :: _,h=>h.elim
 | _ :: _,[],h=>h.elim
 | b :: bs,c :: cs,h=>by
  obtain ⟨h1,h2,h3⟩:=h;obtain ⟨ih1,ih2,ih3⟩:=aUn h3;have hs:aAp (b :: bs)=(b.2-b.1+1)*aAp bs:=rfl;cases hk:(aGg bs cs).2 with
  | false =>
   have e:aGg (b :: bs) (c :: cs)=(c :: (aGg bs cs).1,false):=by simp [aGg,hk]
   rw [e];refine ⟨fun _=>?_,(fun h=>by cases h),h1,h2,ih3⟩
   show (c-b.1)*aAp bs+aH2 bs (aGg bs cs).1=(c-b.1)*aAp bs+aH2 bs cs+1
   rw [ih1 hk];omega
  | true =>
   obtain ⟨e1,e2⟩:=ih2 hk
   by_cases hc:c<b.2
   .have e:aGg (b :: bs) (c :: cs)=((c+1) :: (aGg bs cs).1,false):=by simp [aGg,hk,hc]
    rw [e];refine ⟨fun _=>?_,(fun h=>by cases h),by omega,by omega,ih3⟩
    show (c+1-b.1)*aAp bs+aH2 bs (aGg bs cs).1=(c-b.1)*aAp bs+aH2 bs cs+1
    rw [e2,aOl,e1,show c+1-b.1=(c-b.1)+1 by omega,Int.add_mul,Int.one_mul];omega
   .have e:aGg (b :: bs) (c :: cs)=(b.1 :: (aGg bs cs).1,true):=by simp [aGg,hk,hc]
    rw [e];refine ⟨(fun h=>by cases h),fun _=>⟨?_,?_⟩,Int.le_refl _,by omega,ih3⟩
    .show (c-b.1)*aAp bs+aH2 bs cs=aAp (b :: bs)-1
     obtain rfl:c=b.2:=by omega
     rw [hs,e1,Int.add_mul,Int.one_mul];omega
    .show b.1 :: (aGg bs cs).1=b.1 :: aBt bs
     rw [e2]
def aAq:List (List (Int × Int))->Int
 | []=>1
 | t :: T=>aAp t*aAq T
def okN (T:List (List (Int × Int))):Prop:=∀ t∈T,okL t
def inN:List (List (Int × Int))->List (List Int)->Prop
 | [],[]=>True
 | t :: T,c :: C=>inL t c/\inN T C
 | _,_=>False
def aLm:List (List (Int × Int))->List (List Int)->Int
 | t :: T,c :: C=>aH2 t c*aAq T+aLm T C
 | _,_=>0
def aC3 (T:List (List (Int × Int))):List (List Int):=T.map aBt
def aI3:List (List (Int × Int))->List (List Int)->List (List Int) × Bool
 | t :: T,c :: C=>if (aI3 T C).2 then ((aGg t c).1 :: (aI3 T C).1,(aGg t c).2) else (c :: (aI3 T C).1,false)
 | _,_=>([],true)
def aLt:List (List (Int × Int))->Int->List (List Int)
 | [],_=>[]
 | t :: T,k=>aO9 t (k / aAq T) :: aLt T (k % aAq T)
theorem aDx {t:List (Int × Int)} {T:List (List (Int × Int))} (h:okN (t :: T)):okL t/\okN T :=
 ⟨h t (List.mem_cons_self ..),fun x hx=>h x (List.mem_cons_of_mem _ hx)⟩
theorem aEx:∀ {T:List (List (Int × Int))},okN T->0<aAq T
 | [],_=>by decide
 | _ :: _,h=>Int.mul_pos (aCs (aDx h).1) (aEx (aDx h).2)
theorem aXn:∀ {T:List (List (Int × Int))},okN T->inN T (aC3 T)
 | [],_=>trivial
 | _ :: _,h=>⟨aXm (aDx h).1,aXn (aDx h).2⟩
theorem aOm:∀ T:List (List (Int × Int)),aLm T (aC3 T)=0
 | []=>rfl
 | t :: T=>by
  show aH2 t (aBt t)*aAq T+aLm T (aC3 T)=0
  rw [aOm T,aOl,Int.zero_mul];rfl
theorem aLn:∀ {T:List (List (Int × Int))} {C:List (List Int)},inN T C->0<=aLm T C/\aLm T C<aAq T
 | [],[],_=>by decide
 | [],_ :: _,h=>h.elim
 | _ :: _,[],h=>h.elim
 | t :: T,c :: C,h=>by
  obtain ⟨h1,h2⟩:=h;obtain ⟨h3,h4⟩:=aLn h2;obtain ⟨h5,h6⟩:=aJ0 h1;show 0<=aH2 t c*aAq T+aLm T C/\aH2 t c*aAq T+aLm T C<aAp t*aAq T
  have hm:0<=aH2 t c*aAq T:=Int.mul_nonneg h5 (by omega)
  have hm2:(aH2 t c+1)*aAq T<=aAp t*aAq T:=Int.mul_le_mul_of_nonneg_right (by omega) (by omega)
  rw [Int.add_mul,Int.one_mul] at hm2;omega
theorem aQn:∀ {T:List (List (Int × Int))} {C:List (List Int)},inN T C->aLt T (aLm T C)=C
 | [],[],_=>rfl
 | [],_ :: _,h=>h.elim
 | _ :: _,[],h=>h.elim
 | t :: T,c :: C,h=>by
  obtain ⟨h1,h2⟩:=h;obtain ⟨h3,h4⟩:=aLn h2;show aO9 t ((aH2 t c*aAq T+aLm T C) / aAq T) :: aLt T ((aH2 t c*aAq T+aLm T C) % aAq T)=c :: C
  have hp:aAq T≠0:=by omega
  rw [Int.add_comm (aH2 t c*aAq T),Int.add_mul_ediv_right _ _ hp,Int.add_mul_emod_self_right,Int.ediv_eq_zero_of_lt h3 h4,Int.emod_eq_of_lt h3 h4,aQn h2,Int.zero_add,aWx h1]
theorem aUy:∀ {T:List (List (Int × Int))} {k:Int},okN T->0<=k->k<aAq T->inN T (aLt T k)
 | [],_,_,_,_=>trivial
 | t :: T,k,ho,h0,hk=>by
  have hp:=aEx (aDx ho).2;exact ⟨bBm (aDx ho).1 (Int.ediv_nonneg h0 (by omega)) (Int.ediv_lt_of_lt_mul hp hk),aUy (aDx ho).2 (Int.emod_nonneg _ (by omega)) (Int.emod_lt_of_pos _ hp)⟩
theorem aRm:∀ {T:List (List (Int × Int))} {k:Int},okN T->0<=k->k<aAq T->aLm T (aLt T k)=k
 | [],k,_,h0,hk=>by
  have:aAq []=1:=rfl;show (0:Int)=k;omega
 | t :: T,k,ho,h0,hk=>by
  have hp:=aEx (aDx ho).2;show aH2 t (aO9 t (k / aAq T))*aAq T+aLm T (aLt T (k % aAq T))=k
  rw [aRm (aDx ho).2 (Int.emod_nonneg _ (by omega)) (Int.emod_lt_of_pos _ hp),aY8 (aDx ho).1 (Int.ediv_nonneg h0 (by omega)) (Int.ediv_lt_of_lt_mul hp hk)]
  exact Int.ediv_mul_add_emod k (aAq T)
theorem aUo:∀ {T:List (List (Int × Int))} {C:List (List Int)},inN T C ->
  ((aI3 T C).2=false->aLm T (aI3 T C).1=aLm T C+1)/\((aI3 T C).2=true->aLm T C=aAq T-1/\(aI3 T C).1=aC3 T)/\inN T (aI3 T C).1
 | [],[],_=>⟨(fun h=>by cases h),fun _=>⟨rfl,rfl⟩,trivial⟩
 | [],_ :: _,h=>h.elim
 | _ :: _,[],h=>h.elim
 | t :: T,c :: C,h=>by
  obtain ⟨h1,h2⟩:=h;obtain ⟨ih1,ih2,ih3⟩:=aUo h2;obtain ⟨a1,a2,a3⟩:=aUn h1;have hs:aAq (t :: T)=aAp t*aAq T:=rfl;cases hk:(aI3 T C).2 with
  | false =>
   have e:aI3 (t :: T) (c :: C)=(c :: (aI3 T C).1,false):=by simp [aI3,hk]
   rw [e];refine ⟨fun _=>?_,(fun h=>by cases h),h1,ih3⟩
   show aH2 t c*aAq T+aLm T (aI3 T C).1=aH2 t c*aAq T+aLm T C+1
   rw [ih1 hk];omega
  | true =>
   obtain ⟨e1,e2⟩:=ih2 hk;have e:aI3 (t :: T) (c :: C)=((aGg t c).1 :: (aI3 T C).1,(aGg t c).2):=by simp [aI3,hk]
   rw [e];refine ⟨fun hc=>?_,fun hc=>?_,a3,ih3⟩
   .show aH2 t (aGg t c).1*aAq T+aLm T (aI3 T C).1=aH2 t c*aAq T+aLm T C+1
    rw [e2,aOm,e1,a1 hc,Int.add_mul,Int.one_mul];omega
   .obtain ⟨b1,b2⟩:=a2 hc
    refine ⟨?_,?_⟩
    .show aH2 t c*aAq T+aLm T C=aAq (t :: T)-1
     rw [hs,e1,b1,Int.sub_mul,Int.one_mul];omega
    .show (aGg t c).1 :: (aI3 T C).1=aBt t :: aC3 T
     rw [b2,e2]
theorem aWe {T:List (List (Int × Int))} {k:Int} (ho:okN T) (h0:0<=k) (hk:k+1<aAq T):(aI3 T (aLt T k)).1=aLt T (k+1):=by
 have hin:=aUy ho h0 (show k<aAq T by omega)
 have hn:=aRm ho h0 (show k<aAq T by omega)
 obtain ⟨h1,h2,h3⟩:=aUo hin;cases hc:(aI3 T (aLt T k)).2 with
 | true=>have:=(h2 hc).1;omega
 | false =>
  have:=h1 hc;rw [hn] at this;rw [<- this,aQn h3]
theorem aTj {T:List (List (Int × Int))} (ho:okN T):aLt T 0=aC3 T:=by
 have:=aQn (aXn ho)
 rwa [aOm] at this
def aE5 (m:Int):List (Int × Int)->List Int
 | []=>[]
 | _ :: bs=>(aAp bs*m) :: aE5 m bs
def aF8:List (List (Int × Int))->List (List Int)
 | []=>[]
 | t :: T=>aE5 (aAq T) t :: aF8 T
def aSp:List Int->List Int->List Int->Int
 | p :: ps,d :: ds,c :: cs=>(d-c)*p+aSp ps ds cs
 | _,_,_=>0
theorem aX6 (m:Int):∀ (bs:List (Int × Int)) (cs ds:List Int),inL bs cs->inL bs ds->aSp (aE5 m bs) ds cs=(aH2 bs ds-aH2 bs cs)*m
 | [],[],[],_,_=>by show (0:Int)=(0-0)*m;rw [Int.sub_self,Int.zero_mul]
 | [],_ :: _,_,h,_=>h.elim
 | [],[],_ :: _,_,h=>h.elim
 | _ :: _,[],_,h,_=>h.elim
 | _ :: _,_ :: _,[],_,h=>h.elim
 | b :: bs,c :: cs,d :: ds,h,h'=>by
  show (d-c)*(aAp bs*m)+aSp (aE5 m bs) ds cs=((d-b.1)*aAp bs+aH2 bs ds-((c-b.1)*aAp bs+aH2 bs cs))*m
  rw [aX6 m bs cs ds h.2.2 h'.2.2,<- Int.mul_assoc,<- Int.add_mul];have e:(d-c)*aAp bs=(d-b.1)*aAp bs-(c-b.1)*aAp bs:=by rw [<- Int.sub_mul];congr 1;omega
  rw [e];congr 1;omega
def bDf:List (List Int)->List (List Int)->List (List Int)->Int
 | p :: P,d :: D,c :: C=>aSp p d c+bDf P D C
 | _,_,_=>0
theorem bBu:∀ (T:List (List (Int × Int))) (C D:List (List Int)),inN T C->inN T D->aLm T D=aLm T C+bDf (aF8 T) D C
 | [],[],[],_,_=>rfl
 | [],_ :: _,_,h,_=>h.elim
 | [],[],_ :: _,_,h=>h.elim
 | _ :: _,[],_,h,_=>h.elim
 | _ :: _,_ :: _,[],_,h=>h.elim
 | t :: T,c :: C,d :: D,h,h'=>by
  show aH2 t d*aAq T+aLm T D=aH2 t c*aAq T+aLm T C+(aSp (aE5 (aAq T) t) d c+bDf (aF8 T) D C)
  rw [aX6 _ t c d h.1 h'.1,bBu T C D h.2 h'.2,Int.sub_mul];omega
theorem aX1:∀ p c:List Int,aSp p c c=0
 | [],_=>by simp [aSp]
 | _ :: _,[]=>by simp [aSp]
 | p :: ps,c :: cs=>by
  show (c-c)*p+aSp ps cs cs=0
  rw [aX1 ps cs,Int.sub_self,Int.zero_mul];rfl
theorem aXh:∀ (n:Nat) (P D C:List (List Int)),P.length=n->D.length=n->C.length=n ->
  bDf P D C=((List.range n).map fun v=>aSp (P.getD v []) (D.getD v []) (C.getD v [])).sum
 | 0,[],[],[],_,_,_=>rfl
 | n+1,p :: P,d :: D,c :: C,h1,h2,h3=>by
  have ih:=aXh n P D C (by simpa using h1) (by simpa using h2) (by simpa using h3)
  show aSp p d c+bDf P D C=_
  rw [List.range_succ_eq_map,List.map_cons,List.map_map,List.sum_cons,ih];rfl
theorem aUe (f g:Nat->Int) (q:Nat->Bool):∀ l:List Nat,(∀ v∈l,f v=if q v then g v else 0)->(l.map f).sum=((l.filter q).map g).sum
 | [],_=>rfl
 | v :: l,h=>by
  have ih:=aUe f g q l (fun w hw=>h w (List.mem_cons_of_mem _ hw));have hv:=h v (List.mem_cons_self ..);rw [List.map_cons,List.sum_cons,ih,hv];cases hq:q v with
  | true=>rw [List.filter_cons_of_pos hq,List.map_cons,List.sum_cons];rfl
  | false=>rw [List.filter_cons_of_neg (by rw [hq];decide)];simp
theorem aMe {S n:Nat} (hn:n<=32) (hS:S<2 ^ n):aB1 S=(List.range n).filter (S.testBit ·):=by
 unfold aB1;rw [show (32:Nat)=n+(32-n) by omega,List.range_add,List.filter_append]
 have e:List.filter (fun x=>S.testBit x) (List.map (n+·) (List.range (32-n)))=[]:=by
  rw [List.filter_eq_nil_iff];intro a ha
  simp only [List.mem_map,List.mem_range] at ha
  obtain ⟨b,_,rfl⟩:=ha;rw [Nat.testBit_lt_two_pow (Nat.lt_of_lt_of_le hS (Nat.pow_le_pow_right (by decide) (Nat.le_add_right n b)))]
  decide
 rw [e,List.append_nil]
theorem bIz {n S:Nat} {P D C:List (List Int)} {g:Nat->Int} (hn:n<=32) (hS:S<2 ^ n) (h1:P.length=n) (h2:D.length=n) (h3:C.length=n)
  (hin:∀ v,v<n->S.testBit v=true->aSp (P.getD v []) (D.getD v []) (C.getD v [])=g v) (hout:∀ v,v<n->S.testBit v=false->D.getD v []=C.getD v []) :
  bDf P D C=((aB1 S).map g).sum:=by
 rw [aXh n P D C h1 h2 h3,aMe hn hS];refine aUe _ g _ _ fun v hv=>?_
 have hv':=List.mem_range.1 hv;cases hb:S.testBit v with
 | true=>rw [if_pos rfl];exact hin v hv' hb
 | false=>rw [if_neg (by decide),hout v hv' hb];exact aX1 _ _
def bruijn:List Nat:=[0,1,28,2,29,14,24,3,30,22,20,15,25,17,4,8,31,27,13,23,21,19,16,7,26,12,18,6,11,5,10,9]
theorem bFc:∀ k,k<32->bruijn[(2 ^ k*125613361 % 4294967296) / 134217728]?=some k:=by decide
def lsb (S:Nat):Nat:=S&&&(4294967296-S)
theorem aEc {S:Nat} (hS:S<4294967296) (h0:S≠0):∃ k m,S=2 ^ k*(2*m+1)/\k<32/\lsb S=2 ^ k/\S&&&(S-1)=2 ^ k*(2*m)/\aB1 S=k :: aB1 (2 ^ k*(2*m)):=by
 obtain ⟨k,m,e⟩:=bGj (S+1) S (Nat.lt_succ_self S) h0;have h32:2 ^ k*(2*m+1)<2 ^ 32:=by rw [<- e];exact hS
 refine ⟨k,m,e,bK7 h32,?_,?_,?_⟩
 .unfold lsb;rw [e];exact bKy k 32 m h32
 .rw [e];exact bD0 k m
 .rw [e];exact aJe h32
theorem aLk:lsb 0=0:=by decide
theorem aFo {S:Nat}:lsb S&&&S=lsb S:=by unfold lsb;rw [Nat.and_comm (S&&&_) S,<- Nat.and_assoc,Nat.and_self]
theorem aKp {S:Nat} (hS:S<4294967296) (h0:S≠0):lsb S≠0:=by
 obtain ⟨k,m,_,_,h,_⟩:=aEc hS h0;rw [h];exact Nat.ne_of_gt (Nat.two_pow_pos k)
theorem bK8 {S:Nat} (hS:S<4294967296):lsb S<4294967296:=Nat.lt_of_le_of_lt Nat.and_le_left hS
theorem aIk {S:Nat} (hS:S<4294967296):(aB1 S).length=0↔S=0:=by
 constructor
 .intro h
  by_cases h0:S=0
  .exact h0
  .obtain ⟨k,m,_,_,_,_,e⟩:=aEc hS h0
   rw [e] at h;simp at h
 .rintro rfl;rw [aG4];rfl
theorem aOt {S:Nat} (hS:S<4294967296) (h0:S≠0):(S&&&(S-1)==0)=decide ((aB1 S).length=1):=by
 obtain ⟨k,m,e,_,_,h2,h3⟩:=aEc hS h0
 have hlt:2 ^ k*(2*m)<4294967296:=by
  have:2 ^ k*(2*m)<=2 ^ k*(2*m+1):=Nat.mul_le_mul_left _ (by omega)
  omega
 rw [h2,h3,List.length_cons,Bool.eq_iff_iff,beq_iff_eq,decide_eq_true_eq];rw [show ((aB1 (2 ^ k*(2*m))).length+1=1)↔(aB1 (2 ^ k*(2*m))).length=0 by omega,aIk hlt]
theorem aXt {S:Nat} (hS:S<4294967296):lsb S=0↔S=0:=by
 constructor
 .intro h
  by_cases h0:S=0
  .exact h0
  .exact absurd h (aKp hS h0)
 .rintro rfl;exact aLk
theorem bJ6 {S:Nat} (hS:S<4294967296):lsb S=match (aB1 S).head? with | some v=>2 ^ v | none=>0:=by
 by_cases h0:S=0
 .subst h0;rw [aG4];exact aLk
 .obtain ⟨k,m,_,_,h1,_,h3⟩:=aEc hS h0
  rw [h3,h1];rfl
def bIk (b:Nat):Nat:=((List.range 8).filter (b.testBit ·)).length
theorem bJm:∀ n:Fin 256,Lib.onesCount n.val=bIk n.val:=by decide +kernel
theorem aVr {b:Nat} (h:b<256):Lib.pop8 (b:Int)=(bIk b:Int):=by
 have h1:=Lib.pop8_eq ⟨b,h⟩;have h2:=bJm ⟨b,h⟩;simp only at h1 h2
 rw [h1,h2]
theorem aUw (b:Nat):bIk b<=8:=Nat.le_trans (List.length_filter_le _ _) (by simp)
theorem aPx (S s:Nat):(List.filter (S.testBit ·) ((List.range 8).map (s+·))).length=bIk (S / 2 ^ s % 256):=by
 unfold bIk;rw [List.filter_map,List.length_map]
 congr 1
 refine List.filter_congr fun i hi=>?_
 have hi:=List.mem_range.1 hi;show S.testBit (s+i)=(S / 2 ^ s % 2 ^ 8).testBit i
 rw [Nat.testBit_mod_two_pow,decide_eq_true hi,Bool.true_and,Nat.testBit_div_two_pow,Nat.add_comm]
theorem aZz {S:Nat} (hS:S<4294967296):(aB1 S).length=bIk (S / 16777216)+bIk (S / 65536 % 256)+bIk (S / 256 % 256)+bIk (S % 256):=by
 have e:List.range 32=(List.range 8).map (0+·)++((List.range 8).map (8+·)++((List.range 8).map (16+·)++(List.range 8).map (24+·))):=by decide
 unfold aB1;rw [e,List.filter_append,List.filter_append,List.filter_append,List.length_append,List.length_append,List.length_append,aPx,aPx,aPx,aPx];have e3:S / 2 ^ 24 % 256=S / 16777216:=by omega
 have e0:S / 2 ^ 0 % 256=S % 256:=by simp
 rw [e3,e0,show (2 ^ 16:Nat)=65536 by decide,show (2 ^ 8:Nat)=256 by decide]
 omega
theorem aV5 (l:List Int) (a b:Int):l.foldl max (max a b)=max a (l.foldl max b):=by
 induction l generalizing b with
 | nil=>rfl
 | cons x l ih=>simp only [List.foldl_cons];rw [Int.max_assoc];exact ih _
theorem aXf (x:Int) (l:List Int):aEo (l++[x])=max (aEo l) x:=by
 unfold aEo;rw [List.foldl_append];rfl
theorem bDc (x:Int) (l:List Int):aEo (x :: l)=max x (aEo l):=by
 have h:=aV5 l x 0;unfold aEo;rw [List.foldl_cons,Int.max_comm 0 x];exact h
theorem aXe (l:List Int):aEo l.reverse=aEo l:=by
 induction l with
 | nil=>rfl
 | cons x l ih=>rw [List.reverse_cons,aXf,ih,bDc,Int.max_comm]
def rl (num:Int->Int->Int):List Term->List Int
 | []=>[]
 | t :: ts=>num t.op (aEo ((rl num ts).take (aAn t.op).toNat)) :: (rl num ts).drop (aAn t.op).toNat
theorem aRa (num:Int->Int->Int) (l:List Term):∀ m,aHy l m->lev num l=(rl num l).reverse:=by
 induction l with
 | nil=>intro m _;rfl
 | cons t ts ih =>
  intro m h
  obtain ⟨h1,h2,h3⟩:=h.cons;have hlen:=h3.lev_length num;have e:=ih _ h3;rw [e,List.length_reverse] at hlen;simp only [lev,rl]
  rw [e,List.length_reverse,List.reverse_cons,List.take_reverse,List.drop_reverse,aXe];have hsub:(rl num ts).length-((rl num ts).length-(aAn t.op).toNat)=(aAn t.op).toNat:=by omega
  rw [hsub]
theorem aJ3 (num:Int->Int->Int) (l:List Term) (m:Int) (h:aHy l m):((rl num l).length:Int)=m:=by
 have:=h.lev_length num;rw [aRa num l m h,List.length_reverse] at this;exact this
def wt (om:Bool->Int) (s:List (Int × Bool)):Int:=(s.map fun x=>om x.2).sum
def aDv (om:Bool->Int):List (Int × Bool)->List Int
 | []=>[]
 | (c,b) :: r=>List.replicate (c-1).toNat (wt om ((c,b) :: r))++aDv om r
def aZc (om:Bool->Int) (s:List (Int × Bool)) (more:Bool):List Int:=if more then wt om s :: aDv om s else []
def fin (d:Int) (pl ds:List Int):Int:=(List.zipWith (·+·) pl ds).foldl max d
theorem aSo (om:Bool->Int) (c:Int) (b:Bool) (s:List (Int × Bool)):wt om ((c,b) :: s)=om b+wt om s:=by simp [wt]
theorem bAt (s:List (Int × Bool)) (h:bCi s):∃ more,∀ om,aDv om s=aZc om (bGu s) more:=by
 induction s with
 | nil=>exact ⟨false,fun om=>rfl⟩
 | cons x r ih =>
  obtain ⟨c,b⟩:=x;have hc:=h (c,b) (by simp)
  simp only at hc
  by_cases h1:c-1=0
  .obtain ⟨more,hm⟩:=ih h.tail
   refine ⟨more,fun om=>?_⟩
   simp only [aDv,bGu,if_pos h1]
   rw [h1];exact hm om
  .refine ⟨true,fun om=>?_⟩
   simp only [aDv,bGu,if_neg h1,aZc,if_true]
   have e:(c-1).toNat=(c-1-1).toNat+1:=by omega
   rw [e,List.replicate_succ,List.cons_append,aSo,aSo]
theorem aLo (om:Bool->Int) (a:Int) (b:Bool) (s:List (Int × Bool)) (ha:1<=a):aZc om ((a,b) :: s) true=List.replicate a.toNat (wt om ((a,b) :: s))++aDv om s:=by
 simp only [aZc,if_true,aDv]
 have e:a.toNat=(a-1).toNat+1:=by omega
 rw [e,List.replicate_succ,List.cons_append]
theorem aV4 (l:List Int) (d c x:Int):(l.map (c+·)).foldl max (max d (c+x))=max d (c+l.foldl max x):=by
 induction l generalizing x with
 | nil=>rfl
 | cons y l ih =>
  simp only [List.map_cons,List.foldl_cons]
  rw [Int.max_assoc,show max (c+x) (c+y)=c+max x y by omega]
  exact ih _
theorem bIw (d p de:Int) (pl R:List Int) (a:Nat) (h:a<=R.length) :
  fin d (p :: pl) ((aEo (R.take a)+de) :: R.drop a)=fin (max d (p+de)) (List.replicate a (p+de)++pl) R:=by
 unfold fin
 have hz:List.zipWith (·+·) (List.replicate a (p+de)++pl) R=(R.take a).map ((p+de)+·)++List.zipWith (·+·) pl (R.drop a):=by
  have hR:=(List.take_append_drop a R).symm;have hl:(List.replicate a (p+de)).length=(R.take a).length:=by rw [List.length_replicate,List.length_take];omega
  have e:List.zipWith (·+·) (List.replicate a (p+de)++pl) R=List.zipWith (·+·) (List.replicate a (p+de)++pl) (R.take a++R.drop a):=by rw [List.take_append_drop]
  rw [e,List.zipWith_append hl]
  congr 1
  generalize hQ:R.take a=Q at *;have:Q.length=a:=by rw [<- hl,List.length_replicate]
  clear hQ hR e hl h;subst this
  induction Q with
  | nil=>rfl
  | cons y Q ih=>simp only [List.length_cons,List.replicate_succ,List.zipWith_cons_cons,List.map_cons,ih]
 rw [hz,List.foldl_append];simp only [List.zipWith_cons_cons,List.foldl_cons]
 have:=aV4 (R.take a) d (p+de) 0;rw [Int.add_zero] at this;rw [this]
 congr 1
 unfold aEo;omega
def omD (_:Bool):Int:=1
def omN (b:Bool):Int:=if b then 1 else 0
theorem bMp (s:List (Int × Bool)):wt omD s=s.length:=by
 induction s with
 | nil=>rfl
 | cons x s ih=>obtain ⟨c,b⟩:=x;rw [aSo,ih];simp [omD];omega
theorem bMq (s:List (Int × Bool)):wt omN s=aHs s:=by
 induction s with
 | nil=>rfl
 | cons x s ih =>
  obtain ⟨c,b⟩:=x;rw [aSo,ih];unfold aHs omN;cases b
  .simp
  .simp;omega
theorem aZy (op g:Int):aD9 op g=g+omD (aAc op):=rfl
theorem bDp (op g:Int):aDu op g=g+omN (aAc op):=by unfold aDu omN;split <;> simp
theorem bCc (num:Int->Int->Int) (om:Bool->Int) (hnum:∀ op g,num op g=g+om (aAc op)) (d:Int) (t:Term) (ts:List Term) (s:List (Int × Bool)) (hl:(aAn t.op).toNat<=(rl num ts).length) :
  fin d (aZc om s true) (rl num (t :: ts))=fin (max d (wt om ((aAn t.op,aAc t.op) :: s))) (List.replicate (aAn t.op).toNat (wt om ((aAn t.op,aAc t.op) :: s))++aDv om s) (rl num ts):=by
 simp only [rl,aZc,if_true]
 rw [hnum,bIw _ _ _ _ _ _ hl,aSo,Int.add_comm (om _) (wt om s)]
theorem bE3 (ts:List Term):∀ (s:List (Int × Bool)) (d n:Int) (more:Bool),bCi s->aHy ts (aZc omD s more).length->aHy ts (aZc omN s more).length ->
  aPo ts s d n=(fin d (aZc omD s more) (rl aD9 ts),fin n (aZc omN s more) (rl aDu ts)):=by
 induction ts with
 | nil =>
  intro s d n more _ h _
  cases more with
  | false=>rfl
  | true =>
   rcases h with ⟨_,h⟩ | ⟨_,h⟩
   .simp [aZc] at h;omega
   .simp [aM9] at h
 | cons t ts ih =>
  intro s d n more hw hD hN
  cases more with
  | false=>have:=hD.cons.1;simp [aZc] at this
  | true =>
   obtain ⟨_,h0,hD2⟩:=hD.cons;obtain ⟨_,_,hN2⟩:=hN.cons;have lD:=aJ3 aD9 ts _ hD2;have lN:=aJ3 aDu ts _ hN2;have eD:((aZc omD s true).length:Int)=1+(aDv omD s).length:=by simp [aZc];omega
   have eN:((aZc omN s true).length:Int)=1+(aDv omN s).length:=by simp [aZc];omega
   rw [bCc aD9 omD aZy d t ts s (by omega),bCc aDu omN bDp n t ts s (by omega)]
   simp only [aPo]
   rw [<- bMq,<- bMp]
   rcases Int.lt_or_eq_of_le h0 with ha | ha
   .have hne:aGz ((aAn t.op,aAc t.op) :: s)=(aAn t.op,aAc t.op) :: s:=aY6 _ _ _ (by omega)
    rw [hne,<- aLo omD _ _ _ (by omega),<- aLo omN _ _ _ (by omega)]
    refine ih _ _ _ _ ?_ ?_ ?_
    .have:=aTw (b:=aAc t.op) hw h0 (aJb t.op).2
     rw [hne] at this;exact this.1
    .rw [aLo _ _ _ _ (by omega),List.length_append,List.length_replicate]
     rw [eD] at hD2;have:(((aAn t.op).toNat+(aDv omD s).length:Nat):Int)=1+(aDv omD s).length+(aAn t.op-1):=by omega
     rw [this];exact hD2
    .rw [aLo _ _ _ _ (by omega),List.length_append,List.length_replicate]
     rw [eN] at hN2;have:(((aAn t.op).toNat+(aDv omN s).length:Nat):Int)=1+(aDv omN s).length+(aAn t.op-1):=by omega
     rw [this];exact hN2
   .have hne:aGz ((aAn t.op,aAc t.op) :: s)=bGu s:=by simp [aGz,<- ha]
    obtain ⟨more,hm⟩:=bAt s hw;rw [hne,<- ha];simp only [Int.toNat_zero,List.replicate_zero,List.nil_append]
    rw [hm omD,hm omN];refine ih _ _ _ _ (aRu hw).1 ?_ ?_
    .rw [<- hm omD];rw [eD,<- ha] at hD2
     have:(1+((aDv omD s).length:Int)+(0-1))=(aDv omD s).length:=by omega
     rw [this] at hD2;exact hD2
    .rw [<- hm omN];rw [eN,<- ha] at hN2
     have:(1+((aDv omN s).length:Int)+(0-1))=(aDv omN s).length:=by omega
     rw [this] at hN2;exact hN2
theorem aRb (num:Int->Int->Int) (hn:∀ op g,0<=g->0<=num op g/\num op g<=g+1) (es:List Term) (h:endF es 0=es.length):fin 0 [0] (rl num es)=aF6 num es:=by
 have hF:=aHq h;have hl:=aJ3 num es 1 hF;obtain ⟨x,hx⟩:∃ x,rl num es=[x]:=List.length_eq_one_iff.1 (by omega)
 have hlev:=aRa num es 1 hF;unfold aF6;rw [if_pos h,hlev,hx];have hb:=(aXr num hn es).2 x (by rw [hlev,hx];simp)
 simp [fin];omega
theorem bC6 (es:List Term) (h:endF es 0=es.length):aPo es [] 0 0=(aEs es,aKe es):=by
 have hF:=aHq h;rw [bE3 es [] 0 0 true (fun _ h=>by simp at h) hF hF]
 show (fin 0 [0] (rl aD9 es),fin 0 [0] (rl aDu es))=_
 rw [aRb aD9 aQt es h,aRb aDu aTu es h];rfl
theorem aOn (es:List Term):bEm es=(endF es 0==es.length):=by
 unfold bEm;rw [Bool.eq_iff_iff];simp
 intro h
 have:=bA1 es 0;omega
theorem aOz (es:List Term) (h:endF es 0=es.length):∀ t∈es,0<=aAn t.op:=by
 intro t ht
 obtain ⟨i,hi,rfl⟩:=List.getElem_of_mem ht;exact (bK5 aD9 (aHq h) hi).1
theorem bJo (l:List Term):∀ (m1 m2:Int),1<=m1->1<=m2->aM9 l (m1+m2)=(match aM9 l m1 with | none=>none | some n=>(aM9 (l.drop n) m2).map (n+·)):=by
 induction l with
 | nil=>intro m1 m2 _ _;rfl
 | cons t ts ih =>
  intro m1 m2 h1 h2
  simp only [aM9]
  by_cases ha:aAn t.op<0
  .simp only [if_pos ha]
  .simp only [if_neg ha]
   rw [if_neg (by omega)]
   by_cases h0:m1+(aAn t.op-1)=0
   .rw [if_pos h0]
    simp only [List.drop_succ_cons,List.drop_zero]
    rw [show m1+m2+(aAn t.op-1)=m2 by omega]
    congr 1;funext x;omega
   .rw [if_neg h0,show m1+m2+(aAn t.op-1)=(m1+(aAn t.op-1))+m2 by omega,ih _ _ (by omega) h2]
    cases aM9 ts (m1+(aAn t.op-1)) with
    | none=>rfl
    | some n =>
     simp only [Option.map_some,List.drop_succ_cons,Option.map_map]
     congr 1;funext x;simp;omega
theorem bIq (es:List Term) (k:Nat) (h:k<es.length):endF es (k:Int)=aDy es k 1:=by
 unfold endF;rw [if_neg (by omega),Int.toNat_natCast]
theorem aSb (l r:List Term):∀ (m:Int) (n:Nat),aM9 l m=some n->aM9 (l++r) m=some n:=by
 induction l with
 | nil=>intro m n h;simp [aM9] at h
 | cons t ts ih =>
  intro m n h
  simp only [aM9] at h
  split at h
  .cases h
  .rename_i ha
   split at h
   .rename_i h0
    simp only [List.cons_append,aM9,if_neg ha,if_pos h0];exact h
   .rename_i h0
    cases hs:aM9 ts (m+(aAn t.op-1)) with
    | none=>rw [hs] at h;cases h
    | some q =>
     rw [hs] at h;simp only [List.cons_append,aM9,if_neg ha,if_neg h0,ih _ _ hs];exact h
theorem bBt {p:List Term} (h:aHy p 1):endF p 0=p.length:=by
 rcases h with ⟨_,h⟩ | ⟨_,h⟩
 .omega
 .have:=bAz _ _ _ h
  unfold endF aDy;rw [if_neg (by omega)]
  simp only [Int.toNat_zero,List.drop_zero,h]
  simp
theorem aHy.pos {p:List Term} (h:aHy p 1):0<p.length:=by
 rcases h with ⟨_,h⟩ | ⟨_,h⟩
 .omega
 .exact (bAz _ _ _ h).1
theorem aHy.add {p q:List Term} {m1 m2:Int} (hp:aHy p m1) (hq:aHy q m2) (h1:1<=m1) (h2:1<=m2):aHy (p++q) (m1+m2):=by
 rcases hp with ⟨_,h⟩ | ⟨_,hp⟩
 .omega
 .rcases hq with ⟨_,h⟩ | ⟨_,hq⟩
  .omega
  .right
   refine ⟨by omega,?_⟩
   rw [bJo _ _ _ h1 h2,aSb p q _ _ hp];simp only [List.drop_left,hq,Option.map_some,List.length_append]
theorem aHy.mk {t:Term} {ts:List Term} (h:aHy ts (aAn t.op)) (h1:1<=aAn t.op):aHy (t :: ts) 1:=by
 rcases h with ⟨_,h⟩ | ⟨_,h⟩
 .omega
 .right
  refine ⟨by omega,?_⟩
  simp only [aM9]
  rw [if_neg (by omega),if_neg (by omega),show 1+(aAn t.op-1)=aAn t.op by omega,h]
  rfl
theorem aJ2 (num:Int->Int->Int) (p r:List Term):∀ m,aHy p m->rl num (p++r)=rl num p++rl num r:=by
 induction p with
 | nil=>intro m _;rfl
 | cons t ts ih =>
  intro m h
  obtain ⟨h1,h2,h3⟩:=h.cons;have hl:=aJ3 num ts _ h3;simp only [List.cons_append,rl]
  rw [ih _ h3,List.take_append_of_le_length (by omega),List.drop_append_of_le_length (by omega)]
theorem aD4 (num:Int->Int->Int) {p:List Term} (h:aHy p 1):rl num p=[aF6 num p]:=by
 have hl:=aJ3 num p 1 h;obtain ⟨x,hx⟩:∃ x,rl num p=[x]:=List.length_eq_one_iff.1 (by omega)
 have hlev:=aRa num p 1 h;unfold aF6;rw [if_pos (bBt h),hlev,hx];rfl
theorem aZ6 (es:List Term) (vars:Int):aB8 es vars=true↔es.length<=200/\aHy es 1/\(∀ t∈es,aHz t vars=true)/\aEs es<=24/\aKe es<=2:=by
 unfold aB8;simp only [Bool.and_eq_true,decide_eq_true_eq,beq_iff_eq,List.all_eq_true]
 constructor
 .rintro ⟨⟨⟨⟨a,b⟩,c⟩,d⟩,e⟩
  exact ⟨a,aHq b,c,d,e⟩
 .rintro ⟨a,b,c,d,e⟩
  exact ⟨⟨⟨⟨a,bBt b⟩,c⟩,d⟩,e⟩
theorem aG8 (num:Int->Int->Int) {t:Term} {ts:List Term} (h:aHy ts (aAn t.op)) (h1:1<=aAn t.op):aF6 num (t :: ts)=num t.op (aEo (rl num ts)):=by
 have hs:=aD4 num (aHy.mk h h1);have hl:=aJ3 num ts _ h;simp only [rl] at hs
 injection hs with h2 _
 rw [<- h2,List.take_of_length_le (by omega)]
inductive Ex where
 | leaf (t:Term)
 | un (t:Term) (a:Ex)
 | bin (t:Term) (a b:Ex)
 | tri (t:Term) (a b c:Ex)
def Ex.terms:Ex->List Term
 | .leaf t=>[t]
 | .un t a=>t :: a.terms
 | .bin t a b=>t :: (a.terms++b.terms)
 | .tri t a b c=>t :: (a.terms++(b.terms++c.terms))
def Ex.len (x:Ex):Nat:=x.terms.length
def Ex.ok:Ex->Prop
 | .leaf t=>aAn t.op=0
 | .un t a=>aAn t.op=1/\a.ok
 | .bin t a b=>aAn t.op=2/\a.ok/\b.ok
 | .tri t a b c=>aAn t.op=3/\a.ok/\b.ok/\c.ok
theorem Ex.pos (x:Ex):0<x.len:=by cases x <;> simp [Ex.len,Ex.terms]
theorem Ex.full {x:Ex} (h:x.ok):aHy x.terms 1:=by
 induction x with
 | leaf t =>
  simp only [Ex.ok] at h
  right
  refine ⟨by omega,?_⟩
  simp [Ex.terms,aM9,h]
 | un t a ih =>
  obtain ⟨h1,h2⟩:=h;exact aHy.mk (by rw [h1];exact ih h2) (by omega)
 | bin t a b iha ihb =>
  obtain ⟨h1,h2,h3⟩:=h;exact aHy.mk (by rw [h1];exact aHy.add (m1:=1) (m2:=1) (iha h2) (ihb h3) (by omega) (by omega)) (by omega)
 | tri t a b c iha ihb ihc =>
  obtain ⟨h1,h2,h3,h4⟩:=h;exact aHy.mk (by rw [h1];exact aHy.add (m1:=1) (m2:=2) (iha h2) (aHy.add (m1:=1) (m2:=1) (ihb h3) (ihc h4) (by omega) (by omega)) (by omega) (by omega)) (by omega)
theorem parse (l:List Term):∀ m,aHy l m->∃ xs:List Ex,(∀ x∈xs,x.ok)/\xs.flatMap Ex.terms=l/\(xs.length:Int)=m:=by
 induction l with
 | nil =>
  intro m h
  rcases h with ⟨_,h⟩ | ⟨_,h⟩
  .exact ⟨[],fun _ h=>by simp at h,rfl,by simp [h]⟩
  .simp [aM9] at h
 | cons t ts ih =>
  intro m h
  obtain ⟨h1,h2,h3⟩:=h.cons;obtain ⟨xs,hok,hfl,hlen⟩:=ih _ h3;have h4:=(aJb t.op).2
  rcases (show aAn t.op=0∨aAn t.op=1∨aAn t.op=2∨aAn t.op=3 by omega) with ha | ha | ha | ha
  .refine ⟨.leaf t :: xs,?_,by simp [Ex.terms,hfl],by simp;omega⟩
   intro x hx
   rcases List.mem_cons.1 hx with e | e
   .subst e;exact ha
   .exact hok x e
  .match xs,hok,hfl,hlen with
   | [],_,_,hlen=>simp at hlen;omega
   | a :: xs,hok,hfl,hlen =>
    refine ⟨.un t a :: xs,?_,by simp [Ex.terms,<- hfl],by simp at hlen ⊢;omega⟩
    intro x hx
    rcases List.mem_cons.1 hx with e | e
    .subst e;exact ⟨ha,hok a (by simp)⟩
    .exact hok x (by simp [e])
  .match xs,hok,hfl,hlen with
   | [],_,_,hlen=>simp at hlen;omega
   | [a],_,_,hlen=>simp at hlen;omega
   | a :: b :: xs,hok,hfl,hlen =>
    refine ⟨.bin t a b :: xs,?_,by simp [Ex.terms,<- hfl],by simp at hlen ⊢;omega⟩
    intro x hx
    rcases List.mem_cons.1 hx with e | e
    .subst e;exact ⟨ha,hok a (by simp),hok b (by simp)⟩
    .exact hok x (by simp [e])
  .match xs,hok,hfl,hlen with
   | [],_,_,hlen=>simp at hlen;omega
   | [a],_,_,hlen=>simp at hlen;omega
   | [a,b],_,_,hlen=>simp at hlen;omega
   | a :: b :: c :: xs,hok,hfl,hlen =>
    refine ⟨.tri t a b c :: xs,?_,by simp [Ex.terms,<- hfl],by simp at hlen ⊢;omega⟩
    intro x hx
    rcases List.mem_cons.1 hx with e | e
    .subst e;exact ⟨ha,hok a (by simp),hok b (by simp),hok c (by simp)⟩
    .exact hok x (by simp [e])
theorem bMk {l:List Term} (h:aHy l 1):∃ x:Ex,x.ok/\x.terms=l:=by
 obtain ⟨xs,h1,h2,h3⟩:=parse l 1 h;obtain ⟨x,rfl⟩:∃ x,xs=[x]:=List.length_eq_one_iff.1 (by omega)
 exact ⟨x,h1 x (by simp),by simpa using h2⟩
def Ex.At (es:List Term) (k:Nat) (x:Ex):Prop:=x.ok/\∃ r,es.drop k=x.terms++r
theorem At.whole {es:List Term} {x:Ex} (h:x.ok) (he:x.terms=es):x.At es 0:=⟨h,[],by simp [he]⟩
theorem aI5 {es r:List Term} {k n:Nat} {p:List Term} (h:es.drop k=p++r) (hn:p.length=n):es.drop (k+n)=r:=by
 rw [<- List.drop_drop,h,<- hn,List.drop_left]
theorem At.bound {es:List Term} {k:Nat} {x:Ex} (h:x.At es k):k+x.len<=es.length:=by
 obtain ⟨_,r,hr⟩:=h;have:=congrArg List.length hr;have hp:=x.pos;simp only [List.length_drop,List.length_append] at this
 unfold Ex.len at *;omega
theorem At.lt {es:List Term} {k:Nat} {x:Ex} (h:x.At es k):k<es.length:=by
 have:=At.bound h;have:=x.pos;omega
theorem aNa {es r:List Term} {k:Nat} {t:Term} (h:es.drop k=t :: r):es[k]?=some t/\es.drop (k+1)=r:=by
 refine ⟨?_,?_⟩
 .have:=congrArg (·[0]?) h
  simpa using this
 .exact aI5 (p:=[t]) h rfl
theorem At.leaf {es:List Term} {k:Nat} {t:Term} (h:(Ex.leaf t).At es k):es[k]?=some t/\aAn t.op=0:=by
 obtain ⟨h1,r,hr⟩:=h;exact ⟨(aNa hr).1,h1⟩
theorem At.un {es:List Term} {k:Nat} {t:Term} {a:Ex} (h:(Ex.un t a).At es k):es[k]?=some t/\aAn t.op=1/\a.At es (k+1):=by
 obtain ⟨⟨h1,h2⟩,r,hr⟩:=h;obtain ⟨g1,g2⟩:=aNa hr;exact ⟨g1,h1,h2,r,g2⟩
theorem At.bin {es:List Term} {k:Nat} {t:Term} {a b:Ex} (h:(Ex.bin t a b).At es k):es[k]?=some t/\aAn t.op=2/\a.At es (k+1)/\b.At es (k+1+a.len):=by
 obtain ⟨⟨h1,h2,h3⟩,r,hr⟩:=h;obtain ⟨g1,g2⟩:=aNa (r:=_++r) hr;rw [List.append_assoc] at g2;exact ⟨g1,h1,⟨h2,_,g2⟩,h3,r,aI5 g2 rfl⟩
theorem At.tri {es:List Term} {k:Nat} {t:Term} {a b c:Ex} (h:(Ex.tri t a b c).At es k):es[k]?=some t/\aAn t.op=3/\a.At es (k+1)/\b.At es (k+1+a.len)/\c.At es (k+1+a.len+b.len):=by
 obtain ⟨⟨h1,h2,h3,h4⟩,r,hr⟩:=h;obtain ⟨g1,g2⟩:=aNa (r:=_++r) hr;rw [List.append_assoc] at g2;have g3:=aI5 g2 rfl;rw [List.append_assoc] at g3;exact ⟨g1,h1,⟨h2,_,g2⟩,⟨h3,_,g3⟩,h4,r,aI5 g3 rfl⟩
theorem At.endF {es:List Term} {k:Nat} {x:Ex} (h:x.At es k):endF es (k:Int)=((k+x.len:Nat):Int):=by
 have hlt:=At.lt h;obtain ⟨hok,r,hr⟩:=h;rw [bIq es k hlt];unfold aDy
 rcases Ex.full hok with ⟨_,h⟩ | ⟨_,h⟩
 .omega
 .rw [hr,aSb _ r _ _ h];simp [Ex.len]
theorem aYa {es:List Term} {k:Nat} {t:Term} (h:es[k]?=some t):opAt es (k:Int)=t.op:=by
 obtain ⟨h1,h2⟩:=List.getElem?_eq_some_iff.1 h;rw [bC2 h1,h2]
theorem At.operand1 {es:List Term} {k:Nat} {x a:Ex} {t:Term} (h:x.At es k) (ht:es[k]?=some t) (har:2<=aAn t.op) (ha:a.At es (k+1)):aEk es (k:Int) 1=((k+1+a.len:Nat):Int):=by
 unfold aEk;rw [At.endF h,aYa ht,if_neg (by omega)]
 show Go.Proofs.YtmifhmdghfbalaaGreatDoor.endF es ((k:Int)+1)=_
 rw [show (k:Int)+1=((k+1:Nat):Int) by omega,At.endF ha]
theorem At.operand2 {es:List Term} {k:Nat} {x a b:Ex} {t:Term} (h:x.At es k) (ht:es[k]?=some t) (har:3<=aAn t.op) (ha:a.At es (k+1)) (hb:b.At es (k+1+a.len)):aEk es (k:Int) 2=((k+1+a.len+b.len:Nat):Int):=by
 unfold aEk;rw [At.endF h,aYa ht,if_neg (by omega)]
 show Go.Proofs.YtmifhmdghfbalaaGreatDoor.endF es (Go.Proofs.YtmifhmdghfbalaaGreatDoor.endF es ((k:Int)+1))=_
 rw [show (k:Int)+1=((k+1:Nat):Int) by omega,At.endF ha,At.endF hb]
def Ex.depth:Ex->Int
 | .leaf _=>1
 | .un _ a=>a.depth+1
 | .bin _ a b=>max a.depth b.depth+1
 | .tri _ a b c=>max a.depth (max b.depth c.depth)+1
def Ex.nest:Ex->Int
 | .leaf _=>0
 | .un t a=>if aAc t.op then a.nest+1 else a.nest
 | .bin _ a b=>max a.nest b.nest
 | .tri _ a b c=>max a.nest (max b.nest c.nest)
theorem Ex.depth_pos (x:Ex):1<=x.depth:=by
 induction x <;> simp only [Ex.depth] <;> omega
theorem Ex.nest_pos (x:Ex):0<=x.nest:=by
 induction x with
 | leaf t=>simp [Ex.nest]
 | un t a ih=>simp only [Ex.nest];split <;> omega
 | bin t a b iha ihb=>simp only [Ex.nest];omega
 | tri t a b c iha ihb ihc=>simp only [Ex.nest];omega
theorem bEx {op:Int} (h:aAc op=true):aAn op=1:=by
 unfold aAc at h;have:20<=op/\op<=29:=by simpa using h
 unfold aAn;rw [if_neg (by omega),if_neg (by omega),if_pos (by omega)]
theorem aKi {op:Int} (h:aAn op≠1):aAc op=false:=by
 cases hb:aAc op with
 | false=>rfl
 | true=>exact absurd (bEx hb) h
theorem aRc (num:Int->Int->Int) {t:Term} (h:aAn t.op=0):aF6 num [t]=num t.op 0:=by
 have hF:aHy [t] 1:=Ex.full (x := .leaf t) h;have:=aD4 num hF;simp only [rl] at this
 injection this with h1 _
 rw [<- h1,h];rfl
theorem Ex.levels_depth {x:Ex} (h:x.ok):aEs x.terms=x.depth:=by
 unfold aEs
 induction x with
 | leaf t=>simp only [Ex.terms];rw [aRc _ h];rfl
 | un t a ih =>
  obtain ⟨h1,h2⟩:=h;have hp:=a.depth_pos;simp only [Ex.terms]
  rw [aG8 _ (by rw [h1];exact Ex.full h2) (by omega),aD4 _ (Ex.full h2),ih h2]
  simp [aEo,aD9,Ex.depth];omega
 | bin t a b iha ihb =>
  obtain ⟨h1,h2,h3⟩:=h;have hp:=a.depth_pos;have hq:=b.depth_pos;simp only [Ex.terms]
  rw [aG8 _ (by rw [h1];exact aHy.add (m1:=1) (m2:=1) (Ex.full h2) (Ex.full h3) (by omega) (by omega)) (by omega),aJ2 _ _ _ 1 (Ex.full h2),aD4 _ (Ex.full h2),aD4 _ (Ex.full h3),iha h2,ihb h3]
  simp [aEo,aD9,Ex.depth];omega
 | tri t a b c iha ihb ihc =>
  obtain ⟨h1,h2,h3,h4⟩:=h;have hp:=a.depth_pos;have hq:=b.depth_pos;have hr:=c.depth_pos;simp only [Ex.terms]
  rw [aG8 _ (by rw [h1];exact aHy.add (m1:=1) (m2:=2) (Ex.full h2) (aHy.add (m1:=1) (m2:=1) (Ex.full h3) (Ex.full h4) (by omega) (by omega)) (by omega) (by omega)) (by omega),aJ2 _ _ _ 1 (Ex.full h2),aJ2 _ _ _ 1 (Ex.full h3),aD4 _ (Ex.full h2),aD4 _ (Ex.full h3),aD4 _ (Ex.full h4),iha h2,ihb h3,ihc h4]
  simp [aEo,aD9,Ex.depth];omega
theorem Ex.levels_nest {x:Ex} (h:x.ok):aKe x.terms=x.nest:=by
 unfold aKe
 induction x with
 | leaf t =>
  simp only [Ex.terms];rw [aRc _ h]
  have:=aKi (op:=t.op) (by rw [h];omega)
  simp [aDu,this,Ex.nest]
 | un t a ih =>
  obtain ⟨h1,h2⟩:=h;have hp:=a.nest_pos;simp only [Ex.terms]
  rw [aG8 _ (by rw [h1];exact Ex.full h2) (by omega),aD4 _ (Ex.full h2),ih h2]
  have:aEo [a.nest]=a.nest:=by simp [aEo];omega
  rw [this];simp [aDu,Ex.nest]
 | bin t a b iha ihb =>
  obtain ⟨h1,h2,h3⟩:=h;have hp:=a.nest_pos;have hq:=b.nest_pos;have hag:=aKi (op:=t.op) (by rw [h1];omega)
  simp only [Ex.terms]
  rw [aG8 _ (by rw [h1];exact aHy.add (m1:=1) (m2:=1) (Ex.full h2) (Ex.full h3) (by omega) (by omega)) (by omega),aJ2 _ _ _ 1 (Ex.full h2),aD4 _ (Ex.full h2),aD4 _ (Ex.full h3),iha h2,ihb h3]
  simp [aEo,aDu,hag,Ex.nest];omega
 | tri t a b c iha ihb ihc =>
  obtain ⟨h1,h2,h3,h4⟩:=h;have hp:=a.nest_pos;have hq:=b.nest_pos;have hr:=c.nest_pos;have hag:=aKi (op:=t.op) (by rw [h1];omega)
  simp only [Ex.terms]
  rw [aG8 _ (by rw [h1];exact aHy.add (m1:=1) (m2:=2) (Ex.full h2) (aHy.add (m1:=1) (m2:=1) (Ex.full h3) (Ex.full h4) (by omega) (by omega)) (by omega) (by omega)) (by omega),aJ2 _ _ _ 1 (Ex.full h2),aJ2 _ _ _ 1 (Ex.full h3),aD4 _ (Ex.full h2),aD4 _ (Ex.full h3),aD4 _ (Ex.full h4),iha h2,ihb h3,ihc h4]
  simp [aEo,aDu,hag,Ex.nest];omega
theorem bEi {es:List Term} {vars:Int} (h:aB8 es vars=true):∃ x:Ex,x.ok/\x.terms=es/\es.length<=200/\(∀ t∈es,aHz t vars=true)/\x.depth<=24/\x.nest<=2:=by
 obtain ⟨h1,h2,h3,h4,h5⟩:=(aZ6 es vars).1 h;obtain ⟨x,hx,rfl⟩:=bMk h2;exact ⟨x,hx,rfl,h1,h3,by rw [<- Ex.levels_depth hx];exact h4,by rw [<- Ex.levels_nest hx];exact h5⟩
structure Link where
 «to»:Int
 weight:Int
instance:Inhabited Link:=⟨⟨0,0⟩⟩
structure Graph where
 ids:List Int
 ports:List (List Link)
structure Var where
 name:ByteArray
 kind:Int
 lo:Int
 hi:Int
 perNode:Int
 perID:Int
instance:Inhabited Var:=⟨⟨ByteArray.empty,0,0,0,0,0⟩⟩
structure SetT where
 var:Int
 value:List Term
instance:Inhabited SetT:=⟨⟨0,[]⟩⟩
structure Rule where
 name:ByteArray
 guard:List Term
 sets:List SetT
instance:Inhabited Rule:=⟨⟨ByteArray.empty,[],[]⟩⟩
structure Prg where
 name:ByteArray
 vars:List Var
 rules:List Rule
abbrev aA8:=List (List Int)
def aL6:List Term->List Ex
 | []=>[]
 | t :: ts =>
  let s:=aL6 ts
  if aAn t.op=0 then .leaf t :: s
  else if aAn t.op=1 then (match s with | a :: s => .un t a :: s | []=>[])
  else if aAn t.op=2 then (match s with | a :: b :: s => .bin t a b :: s | _=>[])
  else (match s with | a :: b :: c :: s => .tri t a b c :: s | _=>[])
def aAm (es:List Term):Ex:=(aL6 es).headD (.leaf default)
theorem aW2 {x:Ex} (h:x.ok) (r:List Term):aL6 (x.terms++r)=x :: aL6 r:=by
 induction x generalizing r with
 | leaf t=>simp only [Ex.ok] at h;simp [Ex.terms,aL6,h]
 | un t a ih=>obtain ⟨h1,h2⟩:=h;simp [Ex.terms,aL6,h1,ih h2]
 | bin t a b iha ihb=>obtain ⟨h1,h2,h3⟩:=h;simp [Ex.terms,aL6,h1,iha h2,ihb h3]
 | tri t a b c iha ihb ihc=>obtain ⟨h1,h2,h3,h4⟩:=h;simp [Ex.terms,aL6,h1,iha h2,ihb h3,ihc h4]
theorem aZ2 {x:Ex} (h:x.ok):aAm x.terms=x:=by
 have:=aW2 h [];rw [List.append_nil] at this;simp [aAm,this]
theorem bHi {es:List Term} {x:Ex} (h:x.ok) (he:x.terms=es):aAm es=x:=by rw [<- he];exact aZ2 h
theorem aDi {es:List Term} {vars:Int} (h:aB8 es vars=true):(aAm es).ok/\(aAm es).terms=es/\es.length<=200/\(∀ t∈es,aHz t vars=true)/\(aAm es).depth<=24/\(aAm es).nest<=2:=by
 obtain ⟨x,h1,h2,h3,h4,h5,h6⟩:=bEi h;rw [bHi h1 h2];exact ⟨h1,h2,h3,h4,h5,h6⟩
def aEt (k:Int):Bool:=k==1||k==2||k==3
def aDs (op:Int):Bool:=decide (11<=op/\op<=17)
def aSu (kinds:List Int) (t:Term):Int :=
 if t.op=2∨t.op=3∨t.op=10∨t.op=15 then 2
 else if t.op=4∨t.op=11∨t.op=17 then 3
 else if t.op=5∨t.op=12 then kinds.getD t.arg.toNat 0
 else 1
def ifK (b:Bool) (k:Int):Int:=if b then k else 0
def aIs (op a:Int):Int :=
 if op=19∨op=20∨op=21 then ifK (a==2) 2
 else if op=22 then ifK (a==2) 1
 else if op=23 then ifK (a==2) 3
 else ifK (a==1) 1
def aKm (op a b:Int):Int :=
 if op=35∨op=36 then ifK (a==b&&a != 0) 2
 else if op=41∨op=42 then ifK (a==2&&b==2) 2
 else if 37<=op/\op<=40 then ifK (a==1&&b==1) 2
 else ifK (a==1&&b==1) 1
def aBc (kinds:List Int):Bool->Ex->Int
 | bound,.leaf t=>if aDs t.op && !bound then 0 else aSu kinds t
 | bound,.un t a=>aIs t.op (aBc kinds (bound||aAc t.op) a)
 | bound,.bin t a b=>aKm t.op (aBc kinds bound a) (aBc kinds bound b)
 | bound,.tri _ a b c=>ifK (aBc kinds bound a==2&&aBc kinds bound b==aBc kinds bound c) (aBc kinds bound b)
def ofF (es:List Term) (kinds:List Int) (bound:Bool):Int × Int :=
 if 6<kinds.length then (0,7)
 else if kinds.all aEt=false then (0,7)
 else if aB8 es kinds.length=false then (0,7)
 else if aBc kinds bound (aAm es)=0 then (0,6)
 else (aBc kinds bound (aAm es),0)
def aAx (p:Prg):List Int:=p.vars.map Var.kind
def aEw (ls:List Link) (u:Int):Int:=match ls.findIdx? (fun l=>l.to==u) with | some i=>(i:Int) | none => -1
theorem aRv {ls:List Link} {u:Int} {j:Nat} (h:j<ls.length) (ha:(ls.take j).all (fun l => !(l.to==u))=true) (hj:(ls[j].to==u)=true):aEw ls u=(j:Int):=by
 unfold aEw
 have:ls.findIdx? (fun l=>l.to==u)=some j:=by
  rw [List.findIdx?_eq_some_iff_getElem];refine ⟨h,hj,fun k hk=>?_⟩
  have:=List.all_eq_true.1 ha ls[k] (by rw [List.mem_take_iff_getElem];exact ⟨k,by omega,rfl⟩)
  simpa using this
 rw [this]
theorem aU1 {ls:List Link} {u:Int} (ha:ls.all (fun l => !(l.to==u))=true):aEw ls u = -1:=by
 unfold aEw
 have:ls.findIdx? (fun l=>l.to==u)=none:=by
  rw [List.findIdx?_eq_none_iff];intro x hx
  have:=List.all_eq_true.1 ha x hx;simpa using this
 rw [this]
theorem bC0:∀ (n:Nat) (l:List Int),l.Nodup->(∀ x∈l,0<=x/\x<(n:Int))->l.length<=n
 | 0,l,_,h=>by
  cases l with
  | nil=>simp
  | cons x l=>have:=h x (by simp);omega
 | n+1,l,hn,h=>by
  have h1:=bC0 n (l.erase (n:Int)) (hn.erase _) (fun x hx=>by
   have h2:=h x (List.mem_of_mem_erase hx)
   have h3:x≠(n:Int):=by
    rintro rfl;exact (List.Nodup.not_mem_erase hn) hx
   omega)
  have h4:l.length<=(l.erase (n:Int)).length+1:=by
   rw [List.length_erase];split <;> omega
  omega
def aNd (n v:Nat) (l:Link):Bool:=decide (0<=l.to/\l.to<(n:Int)/\l.to≠(v:Int)/\1<=l.weight/\l.weight<=15)
def aDm (n v:Nat) (ls:List Link):Bool:=ls.all (aNd n v)&&decide ((ls.map Link.to).Nodup)
def aIw (g:Graph) (v:Nat) (l:Link):Bool:=(g.ports.getD l.to.toNat []).any fun k=>k.to==(v:Int)&&k.weight==l.weight
def aSs (ids:List Int):Bool:=ids.all (fun i=>decide (0<=i/\i<=255))&&decide ids.Nodup
def aFz (g:Graph):Bool :=
 decide (1<=g.ports.length/\g.ports.length<=24/\g.ids.length=g.ports.length)&&aSs g.ids
  && (List.range g.ports.length).all (fun v=>aDm g.ports.length v (g.ports.getD v []))
  && (List.range g.ports.length).all (fun v=>(g.ports.getD v []).all (aIw g v))
structure GOK (g:Graph):Prop where
 pos:1<=g.ports.length
 le:g.ports.length<=24
 ids:g.ids.length=g.ports.length
 idr:∀ i∈g.ids,0<=i/\i<=255
 idn:g.ids.Nodup
 links:∀ v,(h:v<g.ports.length)->aDm g.ports.length v g.ports[v]=true
 back:∀ v,(h:v<g.ports.length)->∀ l∈g.ports[v],aIw g v l=true
theorem aA7 {α:Type} {l:List α} {k:Nat} {d:α} (h:k<l.length):l.getD k d=l[k]:=by simp [List.getD_eq_getElem?_getD,h]
theorem aG7 (g:Graph):aFz g=true↔GOK g:=by
 unfold aFz aSs;simp only [Bool.and_eq_true,decide_eq_true_eq,List.all_eq_true,List.mem_range]
 constructor
 .rintro ⟨⟨⟨⟨h1,h2,h3⟩,h4,h5⟩,h6⟩,h7⟩
  exact ⟨h1,h2,h3,h4,h5,fun v hv=>by have:=h6 v hv;rwa [aA7 hv] at this,fun v hv l hl=>by have:=h7 v hv;rw [aA7 hv] at this;exact this l hl⟩
 .rintro ⟨h1,h2,h3,h4,h5,h6,h7⟩
  exact ⟨⟨⟨⟨h1,h2,h3⟩,h4,h5⟩,fun v hv=>by rw [aA7 hv];exact h6 v hv⟩,fun v hv=>by rw [aA7 hv];exact h7 v hv⟩
theorem aC1 {n v:Nat} {ls:List Link}:aDm n v ls=true↔(∀ l∈ls,aNd n v l=true)/\(ls.map Link.to).Nodup:=by
 unfold aDm;simp only [Bool.and_eq_true,decide_eq_true_eq,List.all_eq_true]
theorem aCb {n v:Nat} {l:Link}:aNd n v l=true↔0<=l.to/\l.to<(n:Int)/\l.to≠(v:Int)/\1<=l.weight/\l.weight<=15:=by
 unfold aNd;simp only [decide_eq_true_eq]
theorem aD7 {n v:Nat} {ls:List Link} (hv:v<n) (h:aDm n v ls=true):ls.length<n:=by
 obtain ⟨h1,h2⟩:=aC1.1 h
 have:=bC0 n ((v:Int) :: ls.map Link.to) (by
  rw [List.nodup_cons];refine ⟨?_,h2⟩
  intro hm
  obtain ⟨l,hl,he⟩:=List.mem_map.1 hm;exact (aCb.1 (h1 l hl)).2.2.1 he) (by
  intro x hx
  rcases List.mem_cons.1 hx with rfl | hx
  .omega
  .obtain ⟨l,hl,rfl⟩:=List.mem_map.1 hx
   have:=aCb.1 (h1 l hl)
   omega)
 simp at this
 omega
theorem aFp {l:List Int} {k:Nat} (h:k<l.length) (hn:(l.take k).Nodup) (hne:∀ j (hj:j<k),l[j]≠l[k]):(l.take (k+1)).Nodup:=by
 rw [List.take_succ_eq_append_getElem h,List.nodup_append];refine ⟨hn,by simp,?_⟩
 intro a ha b hb
 simp at hb
 subst hb;rw [List.mem_take_iff_getElem] at ha;obtain ⟨j,hj,rfl⟩:=ha;exact hne j (by omega)
theorem aGq {l:List Int} {j k:Nat} (hj:j<k) (hk:k<l.length) (he:l[j]=l[k]):¬ l.Nodup:=by
 intro hn
 have:=(List.nodup_iff_pairwise_ne.1 hn);rw [List.pairwise_iff_getElem] at this;exact this j k (by omega) hk hj he
theorem bE1 {ls:List Link} {u:Int} (h:0<=aEw ls u):∃ k:Nat,∃ hk:k<ls.length,aEw ls u=(k:Int)/\ls[k].to=u:=by
 unfold aEw at *;cases hf:ls.findIdx? (fun l=>l.to==u) with
 | none=>rw [hf] at h;simp at h
 | some k =>
  rw [List.findIdx?_eq_some_iff_getElem] at hf;obtain ⟨hk,h1,_⟩:=hf;exact ⟨k,hk,rfl,by simpa using h1⟩
theorem bGv {ls:List Link} {u:Int} (h:aEw ls u<0):∀ l∈ls,l.to≠u:=by
 unfold aEw at *;cases hf:ls.findIdx? (fun l=>l.to==u) with
 | none =>
  rw [List.findIdx?_eq_none_iff] at hf;intro l hl
  simpa using hf l hl
 | some k=>rw [hf] at h;simp at h;omega
theorem aRw (ls:List Link) (u:Int) : -1<=aEw ls u/\aEw ls u<ls.length:=by
 unfold aEw;cases hf:ls.findIdx? (fun l=>l.to==u) with
 | none=>simp;omega
 | some k =>
  rw [List.findIdx?_eq_some_iff_getElem] at hf;obtain ⟨hk,_⟩:=hf;simp;omega
theorem aZl {ls:List Link} {v:Nat} {x:Int} (hn:(ls.map Link.to).Nodup) (k:Nat) (hk:k<ls.length) (ht:ls[k].to=(v:Int)):(ls.any fun k=>k.to==(v:Int)&&k.weight==x)=(ls[k].weight==x):=by
 rw [Bool.eq_iff_iff,List.any_eq_true];constructor
 .rintro ⟨l,hl,hh⟩
  simp at hh
  obtain ⟨h1,h2⟩:=hh;obtain ⟨j,hj,rfl⟩:=List.getElem_of_mem hl
  have:j=k:=by
   rcases Nat.lt_trichotomy j k with h | h | h
   .exact absurd hn (aGq (k:=k) h (by simpa using hk) (by simp [h1,ht]))
   .exact h
   .exact absurd hn (aGq (k:=j) h (by simpa using hj) (by simp [h1,ht]))
  subst this;simpa using h2
 .intro h
  exact ⟨ls[k],List.getElem_mem hk,by simp [ht];simpa using h⟩
theorem bF6 {ls:List Link} {v:Nat} {x:Int} (h:aEw ls v<0):(ls.any fun k=>k.to==(v:Int)&&k.weight==x)=false:=by
 rw [List.any_eq_false];intro l hl
 have:=bGv h l hl;simp [this]
open Go.RowKit Go.Maps
def aTe (P:Program) (k e:TypeId) (w:World) (b n:Nat) (ks:List Lit):Prop :=
 ∃ D:DataW Unit,w.ownsMap P k (plainElem P e) b n D/\IsMap D/\∀ kl,∃ x,D.atKey kl (.lit (.bool false)) = .lit (.bool x)/\(x=true↔kl∈ks)
theorem aTe.made (P:Program) (k e:TypeId) (w:World):aTe P k e (w.alloc (.map #[] 0)) w.heap.size 0 [] :=
 ⟨.map [],World.ownsMap_made w P k _,isMap_empty,fun kl=>⟨false,by simp [DataW.atKey],by simp⟩⟩
theorem aTe.kept {P:Program} {k e:TypeId} {w w':World} {b n:Nat} {ks:List Lit} {row:Option Nat} (h:aTe P k e w b n ks) (hg:w.grownBy w' row) (hne:some b≠row):aTe P k e w' b n ks:=by
 obtain ⟨D,h1,h2,h3⟩:=h;exact ⟨D,h1.kept hg hne,h2,h3⟩
theorem aTe.keep {P:Program} {k e:TypeId} {w w':World} {b n:Nat} {ks:List Lit} (h:aTe P k e w b n ks) (hb:Bel w w'):aTe P k e w' b n ks:=h.kept (hb.grownBy none) (by simp)
theorem aTe.lt {P:Program} {k e:TypeId} {w:World} {b n:Nat} {ks:List Lit} (h:aTe P k e w b n ks):b<w.heap.size:=by
 obtain ⟨D,h1,_,_⟩:=h;exact h1.lt
theorem aNs {P:Program} {e:TypeId} (he:P.underlying e=some .bool) {v:Value} {x:Bool} {ps:List MemPlace} (h:plainElem (H:=Unit) P e v=some (.lit (.bool x),ps)):v = .bool x:=by
 unfold plainElem at h;rw [he] at h;cases v <;> simp at h
 .rename_i b
  obtain ⟨h1,_⟩:=h;simp [h1]
theorem aTe.look {P:Program} {k e t:TypeId} {w:World} {b n:Nat} {ks:List Lit} (h:aTe P k e w b n ks) (K:Keyed P k) (ht:P.underlying t=some (.map k e)) (he:P.underlying e=some .bool) (hz:(zeroValue e).run P w = .ok (.bool false) w)
  {key:Value} {kl:Lit} (hkey:keyOf P k key=some kl):∃ x,(Instr.lookup t (.map (some b)) key false).run P w = .ok (.bool x) w/\(x=true↔kl∈ks):=by
 obtain ⟨D,h1,_,h3⟩:=h;obtain ⟨v,ps,hrun,hv⟩:=h1.lookup K ht hz (plainElem_bool he false) hkey;obtain ⟨x,hx,hi⟩:=h3 kl;rw [hx] at hv;exact ⟨x,by rw [hrun,aNs he hv],hi⟩
theorem aK1 {P:Program} (w:World) {ops:Array Oper} {rest:List Oper} {o:Oper} {a:Act} {Q:Exit->Act->World->Prop}
  (hg:o.guard=none) (m x v:Operand) (t:TypeId) (hop:o.op=Op.mapUpdate t m x v)
  (k e:TypeId) (K:Keyed P k) (ht:P.underlying t=some (.map k e)) (he:P.underlying e=some .bool) (b n:Nat) (ks:List Lit)
  (hm:a.eval m = .map (some b)) (hown:aTe P k e w b n ks) (hn:n<maxLen) (key:Value) (kl:Lit) (hx:a.eval x=key) (hv:a.eval v = .bool true) (hkey:keyOf P k key=some kl) (hkl:WideAt.IsKeyLit kl)
  (hK:∀ w',aTe P k e w' b (n+1) (kl :: ks)->w.grownBy w' (some b)->wpList P ops Q rest (a.put o.dst undef) w') :
  wpList P ops Q (o :: rest) a w:=by
 obtain ⟨D,h1,h2,h3⟩:=hown;refine wpList_mapUpdate_own w hg m x v t hop k e K ht _ b n D hm h1 hn key (.bool true) kl hx hv hkey _ [] (plainElem_bool he true) ?_
 intro w' h4 h5
 refine hK w' ⟨_,h4,h2.put _ _,fun kl'=>?_⟩ h5
 by_cases hh:kl'=kl
 .subst hh
  exact ⟨true,by rw [atKey_put_same h2 hkl],by simp⟩
 .obtain ⟨x,hx,hi⟩:=h3 kl'
  exact ⟨x,by rw [atKey_put_other hh,hx],by rw [hi];simp [hh]⟩
theorem Bel.map {w wr w':World} (h:Bel w wr) {b:Nat} (hb:w.heap.size<=b) (hg:wr.grownBy w' (some b)):Bel w w':=h.grown hg (fun k hk=>by injection hk with hk;omega)
open Go.RowKit
def Blk (w:World) (B:Nat) (cs:Array Value) (t:TypeId):Prop:=w.heap[B]?=some (.cells cs t (0,0))
theorem Blk.cell {w:World} {B:Nat} {cs:Array Value} {t:TypeId} (h:Blk w B cs t) (i:Nat) {v:Value} (hv:cs[i]?=some v):w.cell? ⟨B,i,none⟩=some v:=by
 unfold Blk at h;simp [World.cell?,h,hv]
theorem Blk.frozen {w:World} {B:Nat} {cs:Array Value} {t:TypeId} (h:Blk w B cs t) (i:Nat):w.frozen? ⟨B,i,none⟩=false:=by
 unfold Blk at h;simp [World.frozen?,h]
theorem Blk.lt {w:World} {B:Nat} {cs:Array Value} {t:TypeId} (h:Blk w B cs t):B<w.heap.size:=lt_of_block h
theorem Blk.alloc {w:World} {B:Nat} {cs:Array Value} {t:TypeId} (h:Blk w B cs t) (o:Obj):Blk (w.alloc o) B cs t:=by
 unfold Blk at *;rw [Below.heap_alloc _ _ _ (lt_of_block h)];exact h
theorem Blk.new (w:World) (cs:Array Value) (t:TypeId):Blk (w.alloc (.cells cs t (0,0))) w.heap.size cs t:=heap_alloc_new w _
theorem Blk.drew {w:World} {B:Nat} {cs:Array Value} {t:TypeId} (h:Blk w B cs t):Blk w.drew B cs t:=h
theorem Blk.drewN {w:World} {B:Nat} {cs:Array Value} {t:TypeId} (h:Blk w B cs t) (k:Nat):Blk (w.drewN k) B cs t:=h
theorem Blk.set {w:World} {B:Nat} {cs:Array Value} {t:TypeId} (h:Blk w B cs t) (i:Nat) (v:Value):Blk (w.setCell ⟨B,i,none⟩ v) B (cs.setIfInBounds i v) t:=by
 unfold Blk at *;have hlt:=lt_of_block h;have h':w.heap[B] = .cells cs t (0,0):=by simpa [Array.getElem?_eq_getElem hlt] using h
 show (w.heap.modify B _)[B]?=_
 rw [Array.getElem?_eq_getElem (by simpa using hlt),Array.getElem_modify_self,h']
 rfl
theorem Blk.other {w:World} {B:Nat} {cs:Array Value} {t:TypeId} (h:Blk w B cs t) {a:Addr} (ha:B≠a.block) (v:Value):Blk (w.setCell a v) B cs t:=by
 unfold Blk at *;rw [Below.heap_setCell _ _ _ _ ha];exact h
theorem Blk.keep {w w':World} {B:Nat} {cs:Array Value} {t:TypeId} (h:Blk w B cs t) (k:Bel w w'):Blk w' B cs t:=by
 unfold Blk at *;rw [k.block B (lt_of_block h)];exact h
theorem Blk.grown {w w':World} {B:Nat} {cs:Array Value} {t:TypeId} (h:Blk w B cs t) {row:Option Nat} (hg:w.grownBy w' row) (hr:some B≠row):Blk w' B cs t:=by
 unfold Blk at *;rw [hg.block B (lt_of_block h) hr];exact h
theorem Blk.apart {w:World} {B:Nat} {cs:Array Value} {t e:TypeId} {base size n:Nat} {v:Value} {xs:List Value} (h:Blk w B cs t) (ho:w.ownsRow base e size v n xs) (hne:t≠e):some B≠v.ownBlock:=by
 rcases ho.2 with ⟨rfl,_⟩ | ⟨g,cap,cur,rfl,_,hg,_⟩
 .simp [Value.ownBlock]
 .simp only [Value.ownBlock]
  intro he
  injection he with he
  subst he;unfold Blk at h;rw [h] at hg;injection hg with hg
  injection hg with _ ht
  exact hne ht
theorem bGo {w:World} {base:Nat} {e:TypeId} {size g n c:Nat} {xs:List Value} (h:w.ownsRow base e size (.slice (some ⟨g,0,none⟩) n c) n xs):∃ cs,Blk w g cs e:=by
 rcases h.2 with ⟨hv,_⟩ | ⟨g',cap,cur,hv,_,hg,_⟩
 .cases hv
 .injection hv with hA _ _
  injection hA with hA
  injection hA with hA
  subst hA;exact ⟨cur,hg⟩
theorem aGr {w:World} {base base':Nat} {e:TypeId} {size:Nat} {v:Value} {n:Nat} {xs:List Value} (h:w.ownsRow base e size v n xs) (hb:base'<=base):w.ownsRow base' e size v n xs:=by
 refine ⟨h.1,?_⟩
 rcases h.2 with hn | ⟨g,cap,cur,hv,hg,rest⟩
 .exact .inl hn
 .exact .inr ⟨g,cap,cur,hv,Nat.le_trans hb hg,rest⟩
section
variable {P:Program}
theorem Blk.row {w:World} {B:Nat} {cs:Array Value} {t:TypeId} (h:Blk w B cs t) (cs':Array Value):Blk (w.setRow B cs') B cs' t:=setRow_heap w B cs cs' t _ h
theorem bLe {o:Oper} {a:Act} (w:World) {K:Act->World->Prop} {Q:Exit->Act->World->Prop} (t:TypeId) (x y:Operand) (ho:o.op = .makeSlice t x y)
  (base:Nat) (e:TypeId) (i:TypeInfo) (z:Value) (size:Nat) (ht:P.underlying t=some (.slice e)) (hi:P.info? e=some i) (hz:i.zero=some z) (hsize:i.size=size)
  (kl kc:IntKind) (n:Nat) (hx:a.eval x = .int kl (n:Int)) (hy:a.eval y = .int kc (n:Int)) (hbytes:i.bytes*n<=281474976710656) (h63:n<=maxLen) (hbase:base<=w.heap.size)
  (h:∀ g w',w'.ownsRow base e size (.slice (some ⟨g,0,none⟩) n n) n (madeCells z.cells (n*size)).toList->Bel w w'->K (a.put o.dst (.slice (some ⟨g,0,none⟩) n n)) w'):o.wp P a w K Q:=by
 obtain ⟨w',hr,h2,h3⟩:=run_make_full (P:=P) w base t e i z size ht hi hz hsize kl kc n hbytes h63 hbase;unfold Oper.wp execOp;simp only [ho,hx,hy,Sem.run_bind,hr,Result.andThen_ok,Sem.run_pure]
 exact h _ w' h2 ((Bel.refl w).grown h3 (fun k hk=>by cases hk))
theorem aCu {ops:Array Oper} {rest:List Oper} {o:Oper} {a:Act} (w:World) {Q:Exit->Act->World->Prop} (hgd:o.guard=none) (t:TypeId) (x y:Operand) (ho:o.op = .makeSlice t x y)
  (base:Nat) (e:TypeId) (i:TypeInfo) (z:Value) (size:Nat) (ht:P.underlying t=some (.slice e)) (hi:P.info? e=some i) (hz:i.zero=some z) (hsize:i.size=size)
  (kl kc:IntKind) (n:Nat) (hx:a.eval x = .int kl (n:Int)) (hy:a.eval y = .int kc (n:Int)) (hbytes:i.bytes*n<=281474976710656) (h63:n<=maxLen) (hbase:base<=w.heap.size)
  (h:∀ g w',w'.ownsRow base e size (.slice (some ⟨g,0,none⟩) n n) n (madeCells z.cells (n*size)).toList->Bel w w'->wpList P ops Q rest (a.put o.dst (.slice (some ⟨g,0,none⟩) n n)) w'):wpList P ops Q (o :: rest) a w :=
 wpList_plain hgd fun _ hK=>bLe w t x y ho base e i z size ht hi hz hsize kl kc n hx hy hbytes h63 hbase fun g w' h1 h2=>hK _ _ (h g w' h1 h2)
end
theorem aEj (z:Value) (hz:z.cells=#[z]) (n:Nat):(madeCells z.cells (n*1)).toList=List.replicate n z:=by
 rw [hz,Nat.mul_one];apply List.ext_getElem?
 intro k
 simp only [madeCells,Array.toList_map,List.getElem?_map]
 by_cases hk:k<n
 .simp [hk,Nat.mod_one]
 .simp [hk]
def bAy (a:Int):Int:=max (-1073741824) (min a 1073741824)
def bEl (a:Int):Bool:=decide (-1073741824<=a/\a<=1073741824)
def Num (a:Int):Prop := -1073741824<=a/\a<=1073741824
def aBz (b:Bool):Int:=if b then 1 else 0
theorem bC9 (a:Int):Num (bAy a):=by unfold Num bAy;omega
theorem bLa {a:Int} (h:Num a):bAy a=a:=by unfold Num at h;unfold bAy;omega
theorem aRl {a:Int} (h:Num a):bEl a=true:=by unfold bEl;unfold Num at h;exact decide_eq_true h
theorem aMl {a:Int} (h:bEl a=true):Num a:=by unfold bEl at h;unfold Num;exact of_decide_eq_true h
theorem bHj (b:Bool):aBz b=0∨aBz b=1:=by cases b <;> simp [aBz]
theorem aGf (b:Bool):Num (aBz b):=by unfold Num;have:=bHj b;omega
theorem aMv (b:Bool):bAy (aBz b)=aBz b:=bLa (aGf b)
def aKb (op a:Int):Int:=if op=18 then -a else aBz (a==0)
def aIh (op a:Int):Int × Int:=if (op≠18/\op≠19)∨bEl a=false then (0,2) else (aKb op a,0)
def aFs (a b:Int):Int:=if b=0 then 0 else if a.tmod b≠0/\(decide (a<0) != decide (b<0))=true then a.tdiv b-1 else a.tdiv b
theorem aOw (a b:Int) (ha:Num a) : -1073741824<=a.tdiv b/\a.tdiv b<=1073741824:=by
 have h:=Int.natAbs_tdiv_le_natAbs a b;unfold Num at ha;omega
theorem aRx (a b:Int) (ha:Num a) : -1073741825<=aFs a b/\aFs a b<=1073741824:=by
 unfold aFs;split
 .omega
 .have:=aOw a b ha
  split <;> omega
theorem aNj (a b:Int) (ha:Num a) (hb : -1073741825<=b/\b<=1073741825) : -1152921505680588800<=a*b/\a*b<=1152921505680588800:=by
 have h:(a*b).natAbs<=1073741824*1073741825:=by
  rw [Int.natAbs_mul];unfold Num at ha;exact Nat.mul_le_mul (by omega) (by omega)
 omega
def aK4 (op a b:Int):Int :=
 if op=30 then a*b
 else if op=31 then aFs a b
 else if op=32 then (if b=0 then 0 else a-b*aFs a b)
 else if op=33 then a+b
 else if op=34 then a-b
 else if op=35 then aBz (a==b)
 else if op=36 then aBz (a != b)
 else if op=37 then aBz (decide (a<b))
 else if op=38 then aBz (decide (a<=b))
 else if op=39 then aBz (decide (b<a))
 else if op=40 then aBz (decide (b<=a))
 else if op=41 then aBz (a != 0&&b != 0)
 else aBz (a != 0||b != 0)
def aF4 (op a b:Int):Int:=bAy (aK4 op a b)
def aDb (op a b:Int):Int × Int:=if op<30∨42<op∨bEl a=false∨bEl b=false then (0,2) else (aF4 op a b,0)
def aDw (l:List Int):Int:=(l.filter (fun a=>a != 0)).length
def aFk:List Int->Int->Int
 | [],_ => -1
 | a :: l,i=>if a≠0 then i else aFk l (i+1)
def minF (l:List Int):Int:=l.foldl min 1073741824
def aMx:List Int->Int->Int->Int × Int
 | [],g,s=>(g,s)
 | a :: l,g,s=>if g<a then aMx l a g else aMx l g (max s a)
def bJu (l:List Int):Int × Int:=aMx l (-1073741824) (-1073741824)
def sumF (l:List Int):Int:=l.foldl (·+·) 0
def aO8 (l:List Int) (k:Int):Nat:=(l.filter (fun x=>decide (k<=x))).length
def aKs (l:List Int):Nat->Int->Int
 | 0,k=>k
 | f+1,k=>if k∈l then aKs l f (k+1) else k
def bJ9 (l:List Int):Int:=aKs l (aO8 l 0) 0
def aLu (op:Int) (l:List Int):Int :=
 if op=20 then aBz (aDw l==l.length)
 else if op=21 then aBz (decide (0<aDw l))
 else if op=22 then aDw l
 else if op=23 then aFk l 0
 else if op=24 then minF l
 else if op=25 then (bJu l).1
 else if op=26 then bAy (sumF l)
 else if op=27 then bJ9 l
 else if op=28 then (bJu l).2
 else l.headD 0
theorem aQp (a:Int) (l:List Int):aDw (a :: l)=(if a=0 then 0 else 1)+aDw l:=by
 unfold aDw
 by_cases h:a=0
 .simp [h]
 .simp [h];omega
theorem bFi (l:List Int):0<=aDw l/\aDw l<=l.length:=by
 unfold aDw;have:=List.length_filter_le (fun a:Int=>a != 0) l;omega
theorem aPw {l:List Int} {k:Int} (h:k∈l):aO8 l (k+1)<aO8 l k:=by
 unfold aO8
 induction l with
 | nil=>cases h
 | cons x l ih =>
  have hmono:∀ l:List Int,(l.filter (fun x=>decide (k+1<=x))).length<=(l.filter (fun x=>decide (k<=x))).length:=by
   intro l
   induction l with
   | nil=>simp
   | cons y l ih =>
    simp only [List.filter_cons]
    by_cases h1:k+1<=y <;> by_cases h2:k<=y <;> simp [h1,h2] <;> omega
  rcases List.mem_cons.1 h with e | e
  .subst e
   have:=hmono l;simp only [List.filter_cons]
   rw [if_neg (by simp;omega),if_pos (by simp)]
   simp;omega
  .have:=ih e
   simp only [List.filter_cons]
   by_cases h1:k+1<=x <;> by_cases h2:k<=x <;> simp [h1,h2] <;> omega
theorem aUx (l:List Int) (k:Int):aO8 l k<=l.length:=List.length_filter_le _ _
theorem bJa (l:List Int):∀ (f:Nat) (k:Int),aO8 l k<=f->k<=aKs l f k/\aKs l f k<=k+f/\aKs l f k ∉ l/\∀ j,k<=j->j<aKs l f k->j∈l:=by
 intro f
 induction f with
 | zero =>
  intro k h
  have hk:k ∉ l:=fun hm=>by have:=aPw hm;omega
  exact ⟨Int.le_refl _,by simp [aKs],hk,fun j h1 h2=>by simp [aKs] at h2;omega⟩
 | succ f ih =>
  intro k h
  simp only [aKs]
  by_cases hk:k∈l
  .rw [if_pos hk]
   have hc:=aPw hk;obtain ⟨i1,i2,i3,i4⟩:=ih (k+1) (by omega)
   refine ⟨by omega,by omega,i3,fun j h1 h2=>?_⟩
   by_cases e:j=k
   .subst e;exact hk
   .exact i4 j (by omega) h2
  .rw [if_neg hk]
   exact ⟨Int.le_refl _,by omega,hk,fun j h1 h2=>by omega⟩
section
variable {P:Program} {ops:Array Oper} {Q:Exit->Act->World->Prop} {md:Region.Mode} {S:World->Prop} {L:Nat}
def aAd (P:Program) (md:Region.Mode) (ops:Array Oper) (Q:Exit->Act->World->Prop) (S:World->Prop) (L:Nat):Nat->Array Bool->Act->World->Prop
 | 0,listed,a,w=>Region.ready md ops listed=[]/\Q .normal a w
 | fuel+1,listed,a,w=>(Region.ready md ops listed=[]->Q .normal a w) /\
   ∀ i∈Region.ready md ops listed,wpOp P ops Q i (fun a' w'=>(i≠L->S w')/\aAd P md ops Q S L fuel (listed.setIfInBounds i true) a' w') a w
theorem aAd.any:∀ (fuel:Nat) (listed:Array Bool) (a:Act) (w:World),aAd P md ops Q S L fuel listed a w->wpAny P md ops Q fuel listed a w
 | 0,_,_,_,h=>h
 | fuel+1,_,_,_,h=>⟨h.1,fun i hi=>wpOp_mono (fun a' w' k=>aAd.any fuel _ a' w' k.2) (h.2 i hi)⟩
def aPr (md:Region.Mode) (ops:Array Oper):Nat->List Nat->Bool
 | _,[]=>true
 | i,c :: cs=>(match ops[c]? with | some o=>o.after.any (fun e=>Region.binds md e&&e.on==i) | none=>false)&&aPr md ops c cs
def aGl (listed:Array Bool) (cs:List Nat):Bool:=cs.all fun c => !(listed.getD c true)
theorem aY7 {listed:Array Bool} {j:Nat} (hj:j∈Region.ready md ops listed) (cs:List Nat):∀ i,listed.getD i true=false->aPr md ops i cs=true->aGl listed cs=true->j ∉ cs:=by
 induction cs with
 | nil=>intro i _ _ _ h;cases h
 | cons c cs ih =>
  intro i hi hw hu hm
  simp only [aPr,Bool.and_eq_true] at hw
  simp only [aGl,List.all_cons,Bool.and_eq_true] at hu
  have hc:listed.getD c true=false:=by simpa using hu.1
  rcases List.mem_cons.1 hm with rfl | hm
  .obtain ⟨_,oj,hoj,hall⟩:=mem_ready.1 hj
   have h1:=hw.1;rw [hoj] at h1;simp only [Array.any_eq_true'] at h1
   obtain ⟨e,he,hb⟩:=h1;simp only [Bool.and_eq_true,beq_iff_eq] at hb
   have h2:=hall e he hb.1;rw [hb.2] at h2
   rcases Nat.lt_or_ge i listed.size with h' | h'
   .simp [h'] at hi h2;rw [hi] at h2;cases h2
   .simp [Array.getElem?_eq_none h'] at h2
  .exact ih c hc hw.2 hu.2 hm
theorem aAd.first {i:Nat} {oi:Oper} {v:Value} (cs:List Nat) (hi:ops[i]?=some oi) (hsel:∀ (j:Nat) (o:Oper) cs b,ops[j]?=some o->o.op ≠ .select cs b)
  (hL:L∈cs) (hw:aPr md ops i cs=true)
  (hQ:∀ c a w,Q (.panic c) (a.put oi.dst v) w->Q (.panic c) a w) (fuel:Nat):∀ (listed:Array Bool) (a:Act) (w:World),
   (∀ j oj,ops[j]?=some oj->j≠i->listed.getD j true=false->(∀ e∈oj.after,Region.binds md e=true->e.on≠i)->oi.apart ops oj=true) ->
   i∈Region.ready md ops listed->aGl listed cs=true->YieldsIf P ops S oi v a->S w ->
   aAd P md ops Q S L fuel (listed.setIfInBounds i true) (a.put oi.dst v) w->aAd P md ops Q S L (fuel+1) listed a w:=by
 induction fuel with
 | zero =>
  intro listed a w _ hr _ hy hS H
  refine And.intro (fun h=>?_) (fun j hj=>?_)
  .rw [h] at hr;exact absurd hr (by simp)
  by_cases hji:j=i
  .subst hji;exact hy.wpOp hi hS ⟨fun _=>hS,H⟩
  .have:=ready_mono hj hji
   rw [H.1] at this;exact absurd this (by simp)
 | succ fuel ih =>
  intro listed a w hfree hr hun hy hS H
  refine And.intro (fun h=>?_) (fun j hj=>?_)
  .rw [h] at hr;exact absurd hr (by simp)
  by_cases hji:j=i
  .subst hji;exact hy.wpOp hi hS ⟨fun _=>hS,H⟩
  have hi0:=(mem_ready.1 hr).1;have hjc:=aY7 hj cs i hi0 hw hun;have hjL:j≠L:=fun e=>hjc (e ▸ hL);obtain ⟨hjun,oj,hoj,hall⟩:=mem_ready.1 hj
  have hnot:∀ e∈oj.after,Region.binds md e=true->e.on≠i:=fun e he hb heq=>by
   have h1:=hall e he hb;rw [heq] at h1
   rcases Nat.lt_or_ge i listed.size with h' | h'
   .simp [h'] at hi0 h1;rw [hi0] at h1;cases h1
   .simp [Array.getElem?_eq_none h'] at h1
  have h2:=wpOp_putIf hoj (hfree j oj hoj hji hjun hnot) (fun cs b=>hsel i oi cs b hi) (fun cs b=>hsel j oj cs b hoj) hQ hy (H.2 j (ready_mono hj hji));refine wpOp_mono (fun a' w' h3=>?_) h2
  obtain ⟨hy',hS',hrest⟩:=h3;have hs':=hS' hjL;refine ⟨fun _=>hs',ih _ a' w' ?_ (ready_mono hr (Ne.symm hji)) ?_ hy' hs' (by rw [Array.setIfInBounds_comm _ _ hji];exact hrest)⟩
  .intro k ok hk hki hunk hno
   refine hfree k ok hk hki ?_ hno
   by_cases hjk:j=k
   .subst hjk;exact hjun
   .rw [getD_set_ne true hjk] at hunk;exact hunk
  .unfold aGl at hun ⊢
   rw [List.all_eq_true] at hun ⊢;intro c hc
   rw [getD_set_ne true (show j≠c from fun e=>hjc (by rw [e];exact hc))]
   exact hun c hc
theorem aAd.take {i:Nat} {oi:Oper} {v:Value} {fuel:Nat} {listed:Array Bool} {a:Act} {w:World} (cs:List Nat) (d:Option Tmp) (hi:ops[i]?=some oi) (hd:oi.dst=d)
  (hs:Region.noSelect ops=true) (hf:Region.free md ops listed i=true) (hr:(Region.ready md ops listed).contains i=true)
  (hL:cs.contains L=true) (hw:aPr md ops i cs=true) (hu:aGl listed cs=true)
  (hQ:∀ c a w,Q (.panic c) (a.put d v) w->Q (.panic c) a w) (hS:S w) (hy:YieldsIf P ops S oi v a)
  (h:aAd P md ops Q S L fuel (listed.setIfInBounds i true) (a.put d v) w):aAd P md ops Q S L (fuel+1) listed a w :=
 aAd.first cs hi (Region.noSelect_spec hs) (by simpa using hL) hw (by rw [hd];exact hQ) fuel listed a w (Region.free_spec hi hf) (by simpa using hr) hu hy hS (by rw [hd];exact h)
theorem aAd.one {i:Nat} {o:Oper} {fuel:Nat} {listed:Array Bool} {a:Act} {w:World} (hr:Region.ready md ops listed=[i]) (ho:ops[i]?=some o)
  (h:∀ K':Act->World->Prop,Shut (∀ a w,(i≠L->S w)->aAd P md ops Q S L fuel (listed.setIfInBounds i true) a w->K' a w)->if Region.wanted o (yielded ops a.tmps)=true then Oper.wp P o a w K' Q else K' (a.put o.dst undef) w) :
  aAd P md ops Q S L (fuel+1) listed a w:=by
 refine And.intro (fun h=>by rw [h] at hr;exact absurd hr (by simp)) (fun j hj=>?_)
 rw [hr] at hj;obtain rfl:j=i:=by simpa using hj
 exact wpOp_step ho (fun K' hK=>h K' (fun a w hS hW=>hK a w ⟨hS,hW⟩))
theorem aAd.done {listed:Array Bool} {a:Act} {w:World} (hr:Region.ready md ops listed=[]) (h:Q .normal a w):∀ fuel,aAd P md ops Q S L fuel listed a w
 | 0=>⟨hr,h⟩
 | _+1=>⟨fun _=>h,by rw [hr];simp⟩
theorem aAd.start (S:World->Prop) (L:Nat) {id:Nat} {a:Act} {w:World} (hm:P.follows .mixedOrders=true)
  (h:aAd P .any ops Q S L ops.size (Array.replicate ops.size false) a w.drew):(Code.region id ops true).wp P Q a w :=
 wp_region_any hm (aAd.any _ _ _ _ h)
end
end Go.Proofs.YtmifhmdghfbalaaGreatDoor

