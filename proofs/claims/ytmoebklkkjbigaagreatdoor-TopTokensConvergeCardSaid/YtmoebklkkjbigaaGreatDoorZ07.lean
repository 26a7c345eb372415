/- Merged. -/
import Derived.Test.YtmoebklkkjbigaaGreatDoorZ05
import Derived.RangeFuncNested
import Derived.RangeFuncLeaves
import Derived.RangeFuncBox
import Derived.Lib.BitFns
import Derived.Deep.RegionHeld3
import Derived.OrdersIn
set_option linter.unusedSimpArgs false
set_option linter.unnecessarySimpa false
set_option linter.unusedVariables false
set_option maxRecDepth 100000
set_option maxHeartbeats 2000000
open Go.Proofs.Tryz

namespace Go.Proofs.YtmoebklkkjbigaaGreatDoor
theorem bIn:∀ n S:Nat,S<n->S≠0->∃ k m,S=2 ^ k*(2*m+1):=by
 intro n
 induction n with
 | zero=>intro S h;omega
 | succ n ih =>
  intro S h h0
  obtain ⟨x,a,ha,rfl⟩:=aRv S
  by_cases h1:a=1
  .subst h1;exact ⟨0,x,by omega⟩
  .obtain rfl:a=0:=by omega
   obtain ⟨k,m,e⟩:=ih x (by omega) (by omega)
   exact ⟨k+1,m,by rw [Nat.pow_succ,e];rw [Nat.mul_right_comm,Nat.mul_comm];omega⟩
theorem bH3 (w:Nat):∀ S,S<2 ^ w->S&&&(2 ^ w-1-S)=0:=by
 induction w with
 | zero => intro S h; have : S = 0 := by simpa using h
           subst this;rfl
 | succ w ih =>
  intro S h
  obtain ⟨x,a,ha,rfl⟩:=aRv S;have hp:2 ^ (w+1)=2*2 ^ w:=by rw [Nat.pow_succ];omega
  rw [show 2 ^ (w+1)-1-(2*x+a)=2*(2 ^ w-1-x)+(1-a) by omega,aGm _ _ _ _ ha (by omega),ih x (by omega)]
  have h1:a=0∨a=1:=by omega
  rcases h1 with rfl | rfl <;> rfl
theorem bKs (x y:Nat):(2*x)&&&(2*y)=2*(x&&&y):=by
 have:=aGm x y 0 0 (by decide) (by decide)
 simpa using this
theorem bEe (k m:Nat):2 ^ k*(2*m+1)&&&(2 ^ k*(2*m+1)-1)=2 ^ k*(2*m):=by
 induction k with
 | zero =>
  have:=aGm m m 1 0 (by decide) (by decide)
  simpa using this
 | succ k ih =>
  have hpos:0<2 ^ k*(2*m+1):=Nat.mul_pos (Nat.two_pow_pos k) (by omega)
  rw [show 2 ^ (k+1)*(2*m+1)=2*(2 ^ k*(2*m+1)) by rw [Nat.pow_succ,Nat.mul_comm (2 ^ k) 2,Nat.mul_assoc],
   show 2 ^ (k+1)*(2*m)=2*(2 ^ k*(2*m)) by rw [Nat.pow_succ,Nat.mul_comm (2 ^ k) 2,Nat.mul_assoc]]
  generalize 2 ^ k*(2*m+1)=S at *;have h:=aGm S (S-1) 0 1 (by decide) (by decide)
  rw [show 2*(S-1)+1=2*S-1 by omega] at h
  rw [<- ih];simpa using h
theorem bO4 (k:Nat):∀ w m,2 ^ k*(2*m+1)<2 ^ w->2 ^ k*(2*m+1)&&&(2 ^ w-2 ^ k*(2*m+1))=2 ^ k:=by
 induction k with
 | zero =>
  intro w m h
  cases w with
  | zero=>simp at h
  | succ w =>
   have hp:2 ^ (w+1)=2*2 ^ w:=by rw [Nat.pow_succ];omega
   simp only [Nat.pow_zero,Nat.one_mul] at h ⊢
   rw [show 2 ^ (w+1)-(2*m+1)=2*(2 ^ w-1-m)+1 by omega,aGm _ _ _ _ (by decide) (by decide),bH3 w m (by omega)]
 | succ k ih =>
  intro w m h
  have e:2 ^ (k+1)*(2*m+1)=2*(2 ^ k*(2*m+1)):=by rw [Nat.pow_succ,Nat.mul_comm (2 ^ k) 2,Nat.mul_assoc]
  rw [e] at h ⊢;cases w with
  | zero =>
   have hpos:0<2 ^ k*(2*m+1):=Nat.mul_pos (Nat.two_pow_pos k) (by omega)
   omega
  | succ w =>
   have hp:2 ^ (w+1)=2*2 ^ w:=by rw [Nat.pow_succ];omega
   have h2:=ih w m (by omega)
   rw [show 2 ^ (w+1)-2*(2 ^ k*(2*m+1))=2*(2 ^ w-2 ^ k*(2*m+1)) by omega,bKs,h2,Nat.pow_succ]
   omega
def aAd (S:Nat):List Nat:=(List.range 32).filter (S.testBit ·)
theorem aLe:aAd 0=[]:=by unfold aAd;simp
theorem aC8 {S v:Nat}:v∈aAd S↔v<32/\S.testBit v=true:=by unfold aAd;simp [List.mem_filter]
theorem bN1 {k m w:Nat} (h:2 ^ k*(2*m+1)<2 ^ w):k<w:=by
 rcases Nat.lt_or_ge k w with hk | hk
 .exact hk
 .have h1:2 ^ w<=2 ^ k:=Nat.pow_le_pow_right (by decide) hk
  have h2:2 ^ k*1<=2 ^ k*(2*m+1):=Nat.mul_le_mul_left _ (by omega)
  omega
theorem aQc (k m i:Nat):(2 ^ k*(2*m+1)).testBit i=(decide (i=k)||(2 ^ k*(2*m)).testBit i):=by
 rw [Nat.testBit_two_pow_mul,Nat.testBit_two_pow_mul]
 by_cases h:i=k
 .subst h;simp [Nat.testBit_zero]
 .by_cases hk:k<=i
  .obtain ⟨j,rfl⟩:∃ j,i=k+(j+1):=⟨i-k-1,by omega⟩
   rw [show k+(j+1)-k=j+1 by omega,Nat.testBit_succ,Nat.testBit_succ,show (2*m+1) / 2=2*m / 2 by omega]
   simp
  .simp [h,hk]
theorem aM7 (k m i:Nat) (h:i<=k):(2 ^ k*(2*m)).testBit i=false:=by
 rw [Nat.testBit_two_pow_mul]
 by_cases hk:i=k
 .subst hk;simp [Nat.testBit_zero]
 .have:¬ i ≥ k:=by omega
  simp [this]
theorem aI8 {k m:Nat} (h:2 ^ k*(2*m+1)<2 ^ 32):aAd (2 ^ k*(2*m+1))=k :: aAd (2 ^ k*(2*m)):=by
 have hk:k<32:=bN1 h;unfold aAd;obtain ⟨d,hd⟩:∃ d,32=k+(1+d):=⟨31-k,by omega⟩
 rw [hd,List.range_add,List.filter_append,List.filter_append,List.range_add,List.map_append,List.filter_append,List.filter_append]
 have h1:∀ S:Nat,(∀ i,i<k->S.testBit i=false)->(List.range k).filter (S.testBit ·)=[]:=by
  intro S hS;rw [List.filter_eq_nil_iff];intro a ha;rw [hS a (List.mem_range.1 ha)];decide
 rw [h1 _ (fun i hi=>by rw [aQc,aM7 k m i (by omega)];simp;omega),h1 _ (fun i hi=>aM7 k m i (by omega))]
 have h2:(List.map (k+·) (List.range 1))=[k]:=rfl;rw [h2,List.nil_append,List.nil_append];have e1:List.filter (fun x=>(2 ^ k*(2*m+1)).testBit x) [k]=[k]:=by simp [aQc]
 have e2:List.filter (fun x=>(2 ^ k*(2*m)).testBit x) [k]=[]:=by simp [aM7 k m k (Nat.le_refl _)]
 rw [e1,e2,List.nil_append,List.singleton_append]
 congr 1
 refine List.filter_congr fun i hi=>?_
 simp only [List.mem_map,List.mem_range] at hi
 obtain ⟨a,⟨b,_,rfl⟩,rfl⟩:=hi;rw [aQc];have:¬ k+(1+b)=k:=by omega
 simp [this]
def aB4:List (Int × Int)->Int
 | []=>1
 | b :: bs=>(b.2-b.1+1)*aB4 bs
def okL (bs:List (Int × Int)):Prop:=∀ b∈bs,b.1<=b.2
def inL:List (Int × Int)->List Int->Prop
 | [],[]=>True
 | b :: bs,c :: cs=>b.1<=c/\c<=b.2/\inL bs cs
 | _,_=>False
def aHt:List (Int × Int)->List Int->Int
 | b :: bs,c :: cs=>(c-b.1)*aB4 bs+aHt bs cs
 | _,_=>0
def aDt (bs:List (Int × Int)):List Int:=bs.map (·.1)
def aFo:List (Int × Int)->List Int->List Int × Bool
 | b :: bs,c :: cs =>
  if (aFo bs cs).2 then (if c<b.2 then ((c+1) :: (aFo bs cs).1,false) else (b.1 :: (aFo bs cs).1,true))
  else (c :: (aFo bs cs).1,false)
 | _,_=>([],true)
def aU9:List (Int × Int)->Int->List Int
 | [],_=>[]
 | b :: bs,k=>(b.1+k / aB4 bs) :: aU9 bs (k % aB4 bs)
theorem aGf {b:Int × Int} {bs:List (Int × Int)} (h:okL (b :: bs)):b.1<=b.2/\okL bs :=
 ⟨h b (List.mem_cons_self ..),fun x hx=>h x (List.mem_cons_of_mem _ hx)⟩
theorem aFy:∀ {bs:List (Int × Int)},okL bs->0<aB4 bs
 | [],_=>by decide
 | b :: bs,h=>Int.mul_pos (by have:=(aGf h).1;omega) (aFy (aGf h).2)
theorem aXu:∀ {bs:List (Int × Int)},okL bs->inL bs (aDt bs)
 | [],_=>trivial
 | _ :: _,h=>⟨Int.le_refl _,(aGf h).1,aXu (aGf h).2⟩
theorem aO5:∀ bs:List (Int × Int),aHt bs (aDt bs)=0
 | []=>rfl
 | b :: bs=>by
  show (b.1-b.1)*aB4 bs+aHt bs (aDt bs)=0
  rw [aO5 bs,Int.sub_self,Int.zero_mul];rfl
theorem aO6:∀ {bs:List (Int × Int)} {cs:List Int},inL bs cs->0<=aHt bs cs/\aHt bs cs<aB4 bs
 | [],[],_=>by decide
 | [],_ :: _,h=>h.elim
 | _ :: _,[],h=>h.elim
 | b :: bs,c :: cs,h=>by
  obtain ⟨h1,h2,h3⟩:=h;obtain ⟨h4,h5⟩:=aO6 h3;show 0<=(c-b.1)*aB4 bs+aHt bs cs/\(c-b.1)*aB4 bs+aHt bs cs<(b.2-b.1+1)*aB4 bs
  have hp:0<aB4 bs:=by omega
  have hm:0<=(c-b.1)*aB4 bs:=Int.mul_nonneg (by omega) (by omega)
  have hm2:(c-b.1+1)*aB4 bs<=(b.2-b.1+1)*aB4 bs:=Int.mul_le_mul_of_nonneg_right (by omega) (by omega)
  rw [Int.add_mul (c-b.1) 1,Int.one_mul] at hm2;omega
theorem aWw:∀ {bs:List (Int × Int)} {cs:List Int},inL bs cs->aU9 bs (aHt bs cs)=cs
 | [],[],_=>rfl
 | [],_ :: _,h=>h.elim
 | _ :: _,[],h=>h.elim
 | b :: bs,c :: cs,h=>by
  obtain ⟨h1,h2,h3⟩:=h;obtain ⟨h4,h5⟩:=aO6 h3;show (b.1+((c-b.1)*aB4 bs+aHt bs cs) / aB4 bs) :: aU9 bs (((c-b.1)*aB4 bs+aHt bs cs) % aB4 bs)=c :: cs
  have hp:aB4 bs≠0:=by omega
  rw [Int.add_comm ((c-b.1)*aB4 bs),Int.add_mul_ediv_right _ _ hp,Int.add_mul_emod_self_right,Int.ediv_eq_zero_of_lt h4 h5,Int.emod_eq_of_lt h4 h5,aWw h3]
  congr 1;omega
theorem bCb:∀ {bs:List (Int × Int)} {k:Int},okL bs->0<=k->k<aB4 bs->inL bs (aU9 bs k)
 | [],_,_,_,_=>trivial
 | b :: bs,k,ho,h0,hk=>by
  have hp:=aFy (aGf ho).2;have h1:0<=k / aB4 bs:=Int.ediv_nonneg h0 (by omega)
  have h2:k / aB4 bs<b.2-b.1+1:=Int.ediv_lt_of_lt_mul hp hk;exact ⟨by omega,by omega,bCb (aGf ho).2 (Int.emod_nonneg _ (by omega)) (Int.emod_lt_of_pos _ hp)⟩
theorem aYj:∀ {bs:List (Int × Int)} {k:Int},okL bs->0<=k->k<aB4 bs->aHt bs (aU9 bs k)=k
 | [],k,_,h0,hk=>by
  have:aB4 []=1:=rfl;show (0:Int)=k;omega
 | b :: bs,k,ho,h0,hk=>by
  have hp:=aFy (aGf ho).2;show (b.1+k / aB4 bs-b.1)*aB4 bs+aHt bs (aU9 bs (k % aB4 bs))=k
  rw [aYj (aGf ho).2 (Int.emod_nonneg _ (by omega)) (Int.emod_lt_of_pos _ hp),show b.1+k / aB4 bs-b.1=k / aB4 bs by omega]
  exact Int.ediv_mul_add_emod k (aB4 bs)
theorem aTw:∀ {bs:List (Int × Int)} {cs:List Int},inL bs cs ->
  ((aFo bs cs).2=false->aHt bs (aFo bs cs).1=aHt bs cs+1)/\((aFo bs cs).2=true->aHt bs cs=aB4 bs-1/\(aFo bs cs).1=aDt bs)/\inL bs (aFo bs cs).1
 | [],[],_=>⟨(fun h=>by cases h),fun _=>⟨rfl,rfl⟩,trivial⟩
 | [],_ :: _,h=>h.elim
 | _ :: _,[],h=>h.elim
 | b :: bs,c :: cs,h=>by
  obtain ⟨h1,h2,h3⟩:=h;obtain ⟨ih1,ih2,ih3⟩:=aTw h3;have hs:aB4 (b :: bs)=(b.2-b.1+1)*aB4 bs:=rfl;cases hk:(aFo bs cs).2 with
  | false =>
   have e:aFo (b :: bs) (c :: cs)=(c :: (aFo bs cs).1,false):=by simp [aFo,hk]
   rw [e];refine ⟨fun _=>?_,(fun h=>by cases h),h1,h2,ih3⟩
   show (c-b.1)*aB4 bs+aHt bs (aFo bs cs).1=(c-b.1)*aB4 bs+aHt bs cs+1
   rw [ih1 hk];omega
  | true =>
   obtain ⟨e1,e2⟩:=ih2 hk
   by_cases hc:c<b.2
   .have e:aFo (b :: bs) (c :: cs)=((c+1) :: (aFo bs cs).1,false):=by simp [aFo,hk,hc]
    rw [e];refine ⟨fun _=>?_,(fun h=>by cases h),by omega,by omega,ih3⟩
    show (c+1-b.1)*aB4 bs+aHt bs (aFo bs cs).1=(c-b.1)*aB4 bs+aHt bs cs+1
    rw [e2,aO5,e1,show c+1-b.1=(c-b.1)+1 by omega,Int.add_mul,Int.one_mul];omega
   .have e:aFo (b :: bs) (c :: cs)=(b.1 :: (aFo bs cs).1,true):=by simp [aFo,hk,hc]
    rw [e];refine ⟨(fun h=>by cases h),fun _=>⟨?_,?_⟩,Int.le_refl _,by omega,ih3⟩
    .show (c-b.1)*aB4 bs+aHt bs cs=aB4 (b :: bs)-1
     obtain rfl:c=b.2:=by omega
     rw [hs,e1,Int.add_mul,Int.one_mul];omega
    .show b.1 :: (aFo bs cs).1=b.1 :: aDt bs
     rw [e2]
def aAz:List (List (Int × Int))->Int
 | []=>1
 | t :: T=>aB4 t*aAz T
def okN (T:List (List (Int × Int))):Prop:=∀ t∈T,okL t
def inN:List (List (Int × Int))->List (List Int)->Prop
 | [],[]=>True
 | t :: T,c :: C=>inL t c/\inN T C
 | _,_=>False
def aPc:List (List (Int × Int))->List (List Int)->Int
 | t :: T,c :: C=>aHt t c*aAz T+aPc T C
 | _,_=>0
def aDu (T:List (List (Int × Int))):List (List Int):=T.map aDt
def aHe:List (List (Int × Int))->List (List Int)->List (List Int) × Bool
 | t :: T,c :: C=>if (aHe T C).2 then ((aFo t c).1 :: (aHe T C).1,(aFo t c).2) else (c :: (aHe T C).1,false)
 | _,_=>([],true)
def aQg:List (List (Int × Int))->Int->List (List Int)
 | [],_=>[]
 | t :: T,k=>aU9 t (k / aAz T) :: aQg T (k % aAz T)
theorem aF5 {t:List (Int × Int)} {T:List (List (Int × Int))} (h:okN (t :: T)):okL t/\okN T :=
 ⟨h t (List.mem_cons_self ..),fun x hx=>h x (List.mem_cons_of_mem _ hx)⟩
theorem aGv:∀ {T:List (List (Int × Int))},okN T->0<aAz T
 | [],_=>by decide
 | _ :: _,h=>Int.mul_pos (aFy (aF5 h).1) (aGv (aF5 h).2)
theorem aXv:∀ {T:List (List (Int × Int))},okN T->inN T (aDu T)
 | [],_=>trivial
 | _ :: _,h=>⟨aXu (aF5 h).1,aXv (aF5 h).2⟩
theorem aO7:∀ T:List (List (Int × Int)),aPc T (aDu T)=0
 | []=>rfl
 | t :: T=>by
  show aHt t (aDt t)*aAz T+aPc T (aDu T)=0
  rw [aO7 T,aO5,Int.zero_mul];rfl
theorem aO8:∀ {T:List (List (Int × Int))} {C:List (List Int)},inN T C->0<=aPc T C/\aPc T C<aAz T
 | [],[],_=>by decide
 | [],_ :: _,h=>h.elim
 | _ :: _,[],h=>h.elim
 | t :: T,c :: C,h=>by
  obtain ⟨h1,h2⟩:=h;obtain ⟨h3,h4⟩:=aO8 h2;obtain ⟨h5,h6⟩:=aO6 h1;show 0<=aHt t c*aAz T+aPc T C/\aHt t c*aAz T+aPc T C<aB4 t*aAz T
  have hm:0<=aHt t c*aAz T:=Int.mul_nonneg h5 (by omega)
  have hm2:(aHt t c+1)*aAz T<=aB4 t*aAz T:=Int.mul_le_mul_of_nonneg_right (by omega) (by omega)
  rw [Int.add_mul,Int.one_mul] at hm2;omega
theorem aMa:∀ {T:List (List (Int × Int))} {C:List (List Int)},inN T C->aQg T (aPc T C)=C
 | [],[],_=>rfl
 | [],_ :: _,h=>h.elim
 | _ :: _,[],h=>h.elim
 | t :: T,c :: C,h=>by
  obtain ⟨h1,h2⟩:=h;obtain ⟨h3,h4⟩:=aO8 h2;show aU9 t ((aHt t c*aAz T+aPc T C) / aAz T) :: aQg T ((aHt t c*aAz T+aPc T C) % aAz T)=c :: C
  have hp:aAz T≠0:=by omega
  rw [Int.add_comm (aHt t c*aAz T),Int.add_mul_ediv_right _ _ hp,Int.add_mul_emod_self_right,Int.ediv_eq_zero_of_lt h3 h4,Int.emod_eq_of_lt h3 h4,aMa h2,Int.zero_add,aWw h1]
theorem aUa:∀ {T:List (List (Int × Int))} {k:Int},okN T->0<=k->k<aAz T->inN T (aQg T k)
 | [],_,_,_,_=>trivial
 | t :: T,k,ho,h0,hk=>by
  have hp:=aGv (aF5 ho).2;exact ⟨bCb (aF5 ho).1 (Int.ediv_nonneg h0 (by omega)) (Int.ediv_lt_of_lt_mul hp hk),aUa (aF5 ho).2 (Int.emod_nonneg _ (by omega)) (Int.emod_lt_of_pos _ hp)⟩
theorem aR9:∀ {T:List (List (Int × Int))} {k:Int},okN T->0<=k->k<aAz T->aPc T (aQg T k)=k
 | [],k,_,h0,hk=>by
  have:aAz []=1:=rfl;show (0:Int)=k;omega
 | t :: T,k,ho,h0,hk=>by
  have hp:=aGv (aF5 ho).2;show aHt t (aU9 t (k / aAz T))*aAz T+aPc T (aQg T (k % aAz T))=k
  rw [aR9 (aF5 ho).2 (Int.emod_nonneg _ (by omega)) (Int.emod_lt_of_pos _ hp),aYj (aF5 ho).1 (Int.ediv_nonneg h0 (by omega)) (Int.ediv_lt_of_lt_mul hp hk)]
  exact Int.ediv_mul_add_emod k (aAz T)
theorem aTx:∀ {T:List (List (Int × Int))} {C:List (List Int)},inN T C ->
  ((aHe T C).2=false->aPc T (aHe T C).1=aPc T C+1)/\((aHe T C).2=true->aPc T C=aAz T-1/\(aHe T C).1=aDu T)/\inN T (aHe T C).1
 | [],[],_=>⟨(fun h=>by cases h),fun _=>⟨rfl,rfl⟩,trivial⟩
 | [],_ :: _,h=>h.elim
 | _ :: _,[],h=>h.elim
 | t :: T,c :: C,h=>by
  obtain ⟨h1,h2⟩:=h;obtain ⟨ih1,ih2,ih3⟩:=aTx h2;obtain ⟨a1,a2,a3⟩:=aTw h1;have hs:aAz (t :: T)=aB4 t*aAz T:=rfl;cases hk:(aHe T C).2 with
  | false =>
   have e:aHe (t :: T) (c :: C)=(c :: (aHe T C).1,false):=by simp [aHe,hk]
   rw [e];refine ⟨fun _=>?_,(fun h=>by cases h),h1,ih3⟩
   show aHt t c*aAz T+aPc T (aHe T C).1=aHt t c*aAz T+aPc T C+1
   rw [ih1 hk];omega
  | true =>
   obtain ⟨e1,e2⟩:=ih2 hk;have e:aHe (t :: T) (c :: C)=((aFo t c).1 :: (aHe T C).1,(aFo t c).2):=by simp [aHe,hk]
   rw [e];refine ⟨fun hc=>?_,fun hc=>?_,a3,ih3⟩
   .show aHt t (aFo t c).1*aAz T+aPc T (aHe T C).1=aHt t c*aAz T+aPc T C+1
    rw [e2,aO7,e1,a1 hc,Int.add_mul,Int.one_mul];omega
   .obtain ⟨b1,b2⟩:=a2 hc
    refine ⟨?_,?_⟩
    .show aHt t c*aAz T+aPc T C=aAz (t :: T)-1
     rw [hs,e1,b1,Int.sub_mul,Int.one_mul];omega
    .show (aFo t c).1 :: (aHe T C).1=aDt t :: aDu T
     rw [b2,e2]
theorem bGy {T:List (List (Int × Int))} {k:Int} (ho:okN T) (h0:0<=k) (hk:k+1<aAz T):(aHe T (aQg T k)).1=aQg T (k+1):=by
 have hin:=aUa ho h0 (show k<aAz T by omega)
 have hn:=aR9 ho h0 (show k<aAz T by omega)
 obtain ⟨h1,h2,h3⟩:=aTx hin;cases hc:(aHe T (aQg T k)).2 with
 | true=>have:=(h2 hc).1;omega
 | false =>
  have:=h1 hc;rw [hn] at this;rw [<- this,aMa h3]
theorem bEc {T:List (List (Int × Int))} (ho:okN T):aQg T 0=aDu T:=by
 have:=aMa (aXv ho)
 rwa [aO7] at this
def aDz (m:Int):List (Int × Int)->List Int
 | []=>[]
 | _ :: bs=>(aB4 bs*m) :: aDz m bs
def aEm:List (List (Int × Int))->List (List Int)
 | []=>[]
 | t :: T=>aDz (aAz T) t :: aEm T
def aS4:List Int->List Int->List Int->Int
 | p :: ps,d :: ds,c :: cs=>(d-c)*p+aS4 ps ds cs
 | _,_,_=>0
theorem aX9 (m:Int):∀ (bs:List (Int × Int)) (cs ds:List Int),inL bs cs->inL bs ds->aS4 (aDz m bs) ds cs=(aHt bs ds-aHt bs cs)*m
 | [],[],[],_,_=>by show (0:Int)=(0-0)*m;rw [Int.sub_self,Int.zero_mul]
 | [],_ :: _,_,h,_=>h.elim
 | [],[],_ :: _,_,h=>h.elim
 | _ :: _,[],_,h,_=>h.elim
 | _ :: _,_ :: _,[],_,h=>h.elim
 | b :: bs,c :: cs,d :: ds,h,h'=>by
  show (d-c)*(aB4 bs*m)+aS4 (aDz m bs) ds cs=((d-b.1)*aB4 bs+aHt bs ds-((c-b.1)*aB4 bs+aHt bs cs))*m
  rw [aX9 m bs cs ds h.2.2 h'.2.2,<- Int.mul_assoc,<- Int.add_mul];have e:(d-c)*aB4 bs=(d-b.1)*aB4 bs-(c-b.1)*aB4 bs:=by rw [<- Int.sub_mul];congr 1;omega
  rw [e];congr 1;omega
def bEy:List (List Int)->List (List Int)->List (List Int)->Int
 | p :: P,d :: D,c :: C=>aS4 p d c+bEy P D C
 | _,_,_=>0
theorem bCm:∀ (T:List (List (Int × Int))) (C D:List (List Int)),inN T C->inN T D->aPc T D=aPc T C+bEy (aEm T) D C
 | [],[],[],_,_=>rfl
 | [],_ :: _,_,h,_=>h.elim
 | [],[],_ :: _,_,h=>h.elim
 | _ :: _,[],_,h,_=>h.elim
 | _ :: _,_ :: _,[],_,h=>h.elim
 | t :: T,c :: C,d :: D,h,h'=>by
  show aHt t d*aAz T+aPc T D=aHt t c*aAz T+aPc T C+(aS4 (aDz (aAz T) t) d c+bEy (aEm T) D C)
  rw [aX9 _ t c d h.1 h'.1,bCm T C D h.2 h'.2,Int.sub_mul];omega
theorem aX4:∀ p c:List Int,aS4 p c c=0
 | [],_=>by simp [aS4]
 | _ :: _,[]=>by simp [aS4]
 | p :: ps,c :: cs=>by
  show (c-c)*p+aS4 ps cs cs=0
  rw [aX4 ps cs,Int.sub_self,Int.zero_mul];rfl
theorem aXq:∀ (n:Nat) (P D C:List (List Int)),P.length=n->D.length=n->C.length=n ->
  bEy P D C=((List.range n).map fun v=>aS4 (P.getD v []) (D.getD v []) (C.getD v [])).sum
 | 0,[],[],[],_,_,_=>rfl
 | n+1,p :: P,d :: D,c :: C,h1,h2,h3=>by
  have ih:=aXq n P D C (by simpa using h1) (by simpa using h2) (by simpa using h3)
  show aS4 p d c+bEy P D C=_
  rw [List.range_succ_eq_map,List.map_cons,List.map_map,List.sum_cons,ih];rfl
theorem aTh (f g:Nat->Int) (q:Nat->Bool):∀ l:List Nat,(∀ v∈l,f v=if q v then g v else 0)->(l.map f).sum=((l.filter q).map g).sum
 | [],_=>rfl
 | v :: l,h=>by
  have ih:=aTh f g q l (fun w hw=>h w (List.mem_cons_of_mem _ hw));have hv:=h v (List.mem_cons_self ..);rw [List.map_cons,List.sum_cons,ih,hv];cases hq:q v with
  | true=>rw [List.filter_cons_of_pos hq,List.map_cons,List.sum_cons];rfl
  | false=>rw [List.filter_cons_of_neg (by rw [hq];decide)];simp
theorem aQl {S n:Nat} (hn:n<=32) (hS:S<2 ^ n):aAd S=(List.range n).filter (S.testBit ·):=by
 unfold aAd;rw [show (32:Nat)=n+(32-n) by omega,List.range_add,List.filter_append]
 have e:List.filter (fun x=>S.testBit x) (List.map (n+·) (List.range (32-n)))=[]:=by
  rw [List.filter_eq_nil_iff];intro a ha
  simp only [List.mem_map,List.mem_range] at ha
  obtain ⟨b,_,rfl⟩:=ha;rw [Nat.testBit_lt_two_pow (Nat.lt_of_lt_of_le hS (Nat.pow_le_pow_right (by decide) (Nat.le_add_right n b)))]
  decide
 rw [e,List.append_nil]
theorem bLj {n S:Nat} {P D C:List (List Int)} {g:Nat->Int} (hn:n<=32) (hS:S<2 ^ n) (h1:P.length=n) (h2:D.length=n) (h3:C.length=n)
  (hin:∀ v,v<n->S.testBit v=true->aS4 (P.getD v []) (D.getD v []) (C.getD v [])=g v) (hout:∀ v,v<n->S.testBit v=false->D.getD v []=C.getD v []) :
  bEy P D C=((aAd S).map g).sum:=by
 rw [aXq n P D C h1 h2 h3,aQl hn hS];refine aTh _ g _ _ fun v hv=>?_
 have hv':=List.mem_range.1 hv;cases hb:S.testBit v with
 | true=>rw [if_pos rfl];exact hin v hv' hb
 | false=>rw [if_neg (by decide),hout v hv' hb];exact aX4 _ _
def bruijn:List Nat:=[0,1,28,2,29,14,24,3,30,22,20,15,25,17,4,8,31,27,13,23,21,19,16,7,26,12,18,6,11,5,10,9]
theorem bHb:∀ k,k<32->bruijn[(2 ^ k*125613361 % 4294967296) / 134217728]?=some k:=by decide
def lsb (S:Nat):Nat:=S&&&(4294967296-S)
theorem aE2 {S:Nat} (hS:S<4294967296) (h0:S≠0):∃ k m,S=2 ^ k*(2*m+1)/\k<32/\lsb S=2 ^ k/\S&&&(S-1)=2 ^ k*(2*m)/\aAd S=k :: aAd (2 ^ k*(2*m)):=by
 obtain ⟨k,m,e⟩:=bIn (S+1) S (Nat.lt_succ_self S) h0;have h32:2 ^ k*(2*m+1)<2 ^ 32:=by rw [<- e];exact hS
 refine ⟨k,m,e,bN1 h32,?_,?_,?_⟩
 .unfold lsb;rw [e];exact bO4 k 32 m h32
 .rw [e];exact bEe k m
 .rw [e];exact aI8 h32
theorem aIc {S:Nat}:lsb S&&&S=lsb S:=by unfold lsb;rw [Nat.and_comm (S&&&_) S,<- Nat.and_assoc,Nat.and_self]
theorem aSy {S:Nat} (hS:S<4294967296) (h0:S≠0):lsb S≠0:=by
 obtain ⟨k,m,_,_,h,_⟩:=aE2 hS h0;rw [h];exact Nat.ne_of_gt (Nat.two_pow_pos k)
theorem bCt {S:Nat} (hS:S<4294967296):lsb S<4294967296:=Nat.lt_of_le_of_lt Nat.and_le_left hS
theorem aFq {S:Nat} (hS:S<4294967296):(aAd S).length=0↔S=0:=by
 constructor
 .intro h
  by_cases h0:S=0
  .exact h0
  .obtain ⟨k,m,_,_,_,_,e⟩:=aE2 hS h0
   rw [e] at h;simp at h
 .rintro rfl;rw [aLe];rfl
theorem aOi {S:Nat} (hS:S<4294967296) (h0:S≠0):(S&&&(S-1)==0)=decide ((aAd S).length=1):=by
 obtain ⟨k,m,e,_,_,h2,h3⟩:=aE2 hS h0
 have hlt:2 ^ k*(2*m)<4294967296:=by
  have:2 ^ k*(2*m)<=2 ^ k*(2*m+1):=Nat.mul_le_mul_left _ (by omega)
  omega
 rw [h2,h3,List.length_cons,Bool.eq_iff_iff,beq_iff_eq,decide_eq_true_eq];rw [show ((aAd (2 ^ k*(2*m))).length+1=1)↔(aAd (2 ^ k*(2*m))).length=0 by omega,aFq hlt]
open Go.RowKit
theorem bCu {r s:Int} (hr:1<=r) (hs:1<=s):r<=r*s:=by
 have:=Int.mul_le_mul_of_nonneg_left hs (show 0<=r by omega)
 rwa [Int.mul_one] at this
theorem aMl (t:List (Int × Int)):(aDt t).length=t.length:=by simp [aDt]
theorem aIb (T:List (List (Int × Int))):(aDu T).length=T.length:=by simp [aDu]
theorem bD0 {t:List (Int × Int)} (h:okL t) (x:Nat):okL (t.drop x):=fun b hb=>h b (List.mem_of_mem_drop hb)
theorem bD1 {T:List (List (Int × Int))} (h:okN T) (x:Nat):okN (T.drop x):=fun b hb=>h b (List.mem_of_mem_drop hb)
theorem aQ7 (b:Int × Int) (bs:List (Int × Int)) (c:Int) (cs:List Int):aFo (b :: bs) (c :: cs)=if (aFo bs cs).2 then (if c<b.2 then ((c+1) :: (aFo bs cs).1,false) else (b.1 :: (aFo bs cs).1,true)) else (c :: (aFo bs cs).1,false):=rfl
theorem aQ8 (t:List (Int × Int)) (T:List (List (Int × Int))) (c:List Int) (C:List (List Int)):aHe (t :: T) (c :: C)=if (aHe T C).2 then ((aFo t c).1 :: (aHe T C).1,(aFo t c).2) else (c :: (aHe T C).1,false):=rfl
theorem bC0:∀ (x:Nat) (bs:List (Int × Int)) (cs:List Int),cs.length=bs.length->(aFo (bs.drop x) (cs.drop x)).2=false->aFo bs cs=(cs.take x++(aFo (bs.drop x) (cs.drop x)).1,false)
 | 0,bs,cs,_,h=>by
  simp only [List.drop_zero,List.take_zero,List.nil_append] at *
  rw [<- h]
 | x+1,[],cs,_,h=>by simp [aFo] at h
 | x+1,b :: bs,[],hl,_=>by simp at hl
 | x+1,b :: bs,c :: cs,hl,h=>by
  have ih:=bC0 x bs cs (by simpa using hl) h
  simp only [List.drop_succ_cons,List.take_succ_cons]
  rw [aQ7,ih];rfl
theorem bC1:∀ (v:Nat) (T:List (List (Int × Int))) (C:List (List Int)),C.length=T.length->(aHe (T.drop v) (C.drop v)).2=false->aHe T C=(C.take v++(aHe (T.drop v) (C.drop v)).1,false)
 | 0,bs,cs,_,h=>by
  simp only [List.drop_zero,List.take_zero,List.nil_append] at *
  rw [<- h]
 | x+1,[],cs,_,h=>by simp [aHe] at h
 | x+1,b :: bs,[],hl,_=>by simp at hl
 | x+1,b :: bs,c :: cs,hl,h=>by
  have ih:=bC1 x bs cs (by simpa using hl) h
  simp only [List.drop_succ_cons,List.take_succ_cons]
  rw [aQ8,ih];rfl
def aKq (t:List (Int × Int)) (c:List Int) (x:Nat):List Int:=c.take x++(aDt t).drop x
def aHm (T:List (List (Int × Int))) (C:List (List Int)) (v:Nat):List (List Int):=C.take v++(aDu T).drop v
theorem bH0 {bs:List (Int × Int)} {cs:List Int} (hin:inL bs cs) (h:(aFo bs cs).2=true):aFo bs cs=(aDt bs,true):=by
 have:=((aTw hin).2.1 h).2;rw [<- this,<- h]
theorem aSm {T:List (List (Int × Int))} {C:List (List Int)} (hin:inN T C) (h:(aHe T C).2=true):aHe T C=(aDu T,true):=by
 have:=((aTx hin).2.1 h).2;rw [<- this,<- h]
theorem aKc:∀ {bs:List (Int × Int)} {cs:List Int},inL bs cs->cs.length=bs.length
 | [],[],_=>rfl
 | [],_ :: _,h=>h.elim
 | _ :: _,[],h=>h.elim
 | _ :: _,_ :: _,h=>by simpa using aKc h.2.2
theorem aNx:∀ {bs:List (List (Int × Int))} {cs:List (List Int)},inN bs cs->cs.length=bs.length
 | [],[],_=>rfl
 | [],_ :: _,h=>h.elim
 | _ :: _,[],h=>h.elim
 | _ :: _,_ :: _,h=>by simpa using aNx h.2
theorem bCn:∀ {bs:List (Int × Int)} {cs:List Int} (x:Nat),inL bs cs->inL (bs.drop x) (cs.drop x)
 | _,_,0,h=>by simpa using h
 | [],[],_+1,_=>by simp [inL]
 | [],_ :: _,_,h=>h.elim
 | _ :: _,[],_,h=>h.elim
 | _ :: bs,_ :: cs,x+1,h=>by simpa using bCn x h.2.2
theorem bCo:∀ {bs:List (List (Int × Int))} {cs:List (List Int)} (x:Nat),inN bs cs->inN (bs.drop x) (cs.drop x)
 | _,_,0,h=>by simpa using h
 | [],[],_+1,_=>by simp [inN]
 | [],_ :: _,_,h=>h.elim
 | _ :: _,[],_,h=>h.elim
 | _ :: bs,_ :: cs,x+1,h=>by simpa using bCo x h.2
theorem aZr {t:List (Int × Int)} {c:List Int} (h:c.length=t.length):aKq t c t.length=c:=by
 unfold aKq;rw [List.take_of_length_le (by omega),List.drop_eq_nil_of_le (by rw [aMl];exact Nat.le_refl _),List.append_nil]
theorem aZs {T:List (List (Int × Int))} {C:List (List Int)} (h:C.length=T.length):aHm T C T.length=C:=by
 unfold aHm;rw [List.take_of_length_le (by omega),List.drop_eq_nil_of_le (by rw [aIb];exact Nat.le_refl _),List.append_nil]
theorem bE2 {t:List (Int × Int)} {c:List Int}:aKq t c 0=aDt t:=by simp [aKq]
theorem bE4 {T:List (List (Int × Int))} {C:List (List Int)}:aHm T C 0=aDu T:=by simp [aHm]
theorem aWi {T:List (List (Int × Int))} {C:List (List Int)} (h:C.length=T.length) {x:Nat} (hx:x<=T.length):(aHm T C x).length=T.length:=by
 unfold aHm;rw [List.length_append,List.length_take,List.length_drop,aIb];omega
theorem bE1 {t:List (Int × Int)} {c:List Int} (h:c.length=t.length) {x:Nat} (hx:x<t.length):(aKq t c (x+1)).set x t[x].1=aKq t c x/\(aKq t c (x+1))[x]?=some (c[x]'(by omega)):=by
 have hl:x<(aDt t).length:=by rw [aMl];exact hx
 have hd:(aDt t).drop x=t[x].1 :: (aDt t).drop (x+1):=by rw [List.drop_eq_getElem_cons hl];simp [aDt]
 have ht:c.take (x+1)=c.take x++[c[x]'(by omega)]:=List.take_succ_eq_append_getElem _
 have hlen:(c.take x).length=x:=by rw [List.length_take];omega
 unfold aKq;rw [hd,ht];refine ⟨?_,?_⟩
 .rw [List.append_assoc,List.set_append_right _ _ (by omega),hlen,Nat.sub_self];rfl
 .rw [List.append_assoc,List.getElem?_append_right (by omega),hlen,Nat.sub_self];rfl
theorem bE3 {T:List (List (Int × Int))} {C:List (List Int)} (h:C.length=T.length) {x:Nat} (hx:x<T.length):(aHm T C (x+1)).set x (aDt T[x])=aHm T C x/\(aHm T C (x+1))[x]?=some (C[x]'(by omega)):=by
 have hl:x<(aDu T).length:=by rw [aIb];exact hx
 have hd:(aDu T).drop x=aDt T[x] :: (aDu T).drop (x+1):=by rw [List.drop_eq_getElem_cons hl];simp [aDu]
 have ht:C.take (x+1)=C.take x++[C[x]'(by omega)]:=List.take_succ_eq_append_getElem _
 have hlen:(C.take x).length=x:=by rw [List.length_take];omega
 unfold aHm;rw [hd,ht];refine ⟨?_,?_⟩
 .rw [List.append_assoc,List.set_append_right _ _ (by omega),hlen,Nat.sub_self];rfl
 .rw [List.append_assoc,List.getElem?_append_right (by omega),hlen,Nat.sub_self];rfl
theorem bGx {t:List (Int × Int)} {c:List Int} (hin:inL t c) {x:Nat} (hx:x<t.length) (hc:x<c.length) (hb:(aFo (t.drop (x+1)) (c.drop (x+1))).2=true) (hlt:c[x]<t[x].2) :
  aFo t c=((aKq t c (x+1)).set x (c[x]+1),false):=by
 have h1:=bH0 (bCn (x+1) hin) hb
 have e:aFo (t.drop x) (c.drop x)=((c[x]+1) :: aDt (t.drop (x+1)),false):=by
  rw [List.drop_eq_getElem_cons hx,List.drop_eq_getElem_cons hc];rw [aQ7];rw [h1,if_pos rfl,if_pos hlt]
 rw [bC0 x t c (aKc hin) (by rw [e]),e]
 have ht:c.take (x+1)=c.take x++[c[x]]:=List.take_succ_eq_append_getElem hc;have hlen:(c.take x).length=x:=by rw [List.length_take];omega
 unfold aKq;rw [ht,List.append_assoc,List.set_append_right _ _ (by omega),hlen,Nat.sub_self]
 simp [aDt]
theorem bNh {t:List (Int × Int)} {c:List Int} {x:Nat} (hx:x<t.length) (hc:x<c.length) (hb:(aFo (t.drop (x+1)) (c.drop (x+1))).2=true) (hlt:¬ c[x]<t[x].2) :
  (aFo (t.drop x) (c.drop x)).2=true:=by
 rw [List.drop_eq_getElem_cons hx,List.drop_eq_getElem_cons hc];rw [aQ7,hb,if_pos rfl,if_neg hlt]
theorem bGz {T:List (List (Int × Int))} {C:List (List Int)} (hin:inN T C) {v:Nat} (hv:v<T.length) (hc:v<C.length) (hb:(aHe (T.drop (v+1)) (C.drop (v+1))).2=true) (hlt:(aFo T[v] C[v]).2=false) :
  (aHe T C).1=(aHm T C (v+1)).set v (aFo T[v] C[v]).1:=by
 have h1:=aSm (bCo (v+1) hin) hb
 have e:aHe (T.drop v) (C.drop v)=((aFo T[v] C[v]).1 :: aDu (T.drop (v+1)),false):=by
  rw [List.drop_eq_getElem_cons hv,List.drop_eq_getElem_cons hc];rw [aQ8];rw [h1,if_pos rfl,hlt]
 rw [bC1 v T C (aNx hin) (by rw [e]),e]
 have ht:C.take (v+1)=C.take v++[C[v]]:=List.take_succ_eq_append_getElem hc;have hlen:(C.take v).length=v:=by rw [List.length_take];omega
 unfold aHm;rw [ht,List.append_assoc,List.set_append_right _ _ (by omega),hlen,Nat.sub_self]
 simp [aDu]
theorem bNi {T:List (List (Int × Int))} {C:List (List Int)} {v:Nat} (hv:v<T.length) (hc:v<C.length) (hb:(aHe (T.drop (v+1)) (C.drop (v+1))).2=true) (hlt:(aFo T[v] C[v]).2=true) :
  (aHe (T.drop v) (C.drop v)).2=true:=by
 rw [List.drop_eq_getElem_cons hv,List.drop_eq_getElem_cons hc];rw [aQ8,hb,if_pos rfl,hlt]
theorem bKn (t:List (Int × Int)) (c:List Int):(aFo (t.drop t.length) (c.drop t.length)).2=true:=by
 rw [List.drop_length];simp [aFo]
theorem bKo (T:List (List (Int × Int))) (C:List (List Int)):(aHe (T.drop T.length) (C.drop T.length)).2=true:=by
 rw [List.drop_length];simp [aHe]
theorem aTc:∀ {bs:List (Int × Int)} (x:Nat),okL bs->aB4 (bs.drop x)<=aB4 bs
 | bs,0,_=>by simp
 | [],_+1,_=>by simp
 | b :: bs,x+1,ho=>by
  obtain ⟨hb,ho'⟩:=aGf ho;have ih:=aTc x ho';have hp:=aFy ho';have:=bCu (r:=aB4 bs) (s:=b.2-b.1+1) (by omega) (by omega)
  rw [Int.mul_comm] at this;show aB4 (bs.drop x)<=(b.2-b.1+1)*aB4 bs
  omega
theorem aTd:∀ {T:List (List (Int × Int))} (v:Nat),okN T->aAz (T.drop v)<=aAz T
 | T,0,_=>by simp
 | [],_+1,_=>by simp
 | t :: T,x+1,ho=>by
  obtain ⟨hb,ho'⟩:=aF5 ho;have ih:=aTd x ho';have hp:=aGv ho';have hq:=aFy hb;have:=bCu (r:=aAz T) (s:=aB4 t) (by omega) (by omega)
  rw [Int.mul_comm] at this;show aAz (T.drop x)<=aB4 t*aAz T
  omega
theorem aRu {T:List (List (Int × Int))} (ho:okN T) {M:Int} (hM:aAz T<=M) {v:Nat} (hv:v<T.length) (x:Nat) :
  1<=aB4 (T[v].drop x)*aAz (T.drop (v+1))/\aB4 (T[v].drop x)*aAz (T.drop (v+1))<=M:=by
 have hok:okL T[v]:=ho _ (List.getElem_mem hv);have h1:=aFy (bD0 hok x);have h2:=aGv (bD1 ho (v+1));have h3:=aTc x hok;have h4:=aTd v ho;rw [List.drop_eq_getElem_cons hv] at h4;have h5:aAz (T[v] :: T.drop (v+1))=aB4 T[v]*aAz (T.drop (v+1)):=rfl;rw [h5] at h4;have h6:=Int.mul_le_mul_of_nonneg_right h3 (Int.le_of_lt h2);have h7:=Int.mul_pos h1 h2;omega
def aOc (t:List (Int × Int)) (M:Int) (x:Nat):List Int:=List.replicate x 0++aDz M (t.drop x)
theorem aEf:∀ (M:Int) (t:List (Int × Int)),(aDz M t).length=t.length
 | _,[]=>rfl
 | M,_ :: t=>by show _+1=_+1;rw [aEf M t]
theorem aCq:∀ (T:List (List (Int × Int))),(aEm T).length=T.length
 | []=>rfl
 | _ :: T=>by show _+1=_+1;rw [aCq T]
theorem aYr {t:List (Int × Int)} {M:Int} {x:Nat} (hx:x<=t.length):(aOc t M x).length=t.length:=by
 unfold aOc;rw [List.length_append,List.length_replicate,aEf,List.length_drop];omega
theorem bB8 (t:List (Int × Int)) (M:Int):aOc t M t.length=List.replicate t.length 0:=by
 unfold aOc;rw [List.drop_length];simp [aDz]
theorem bFm (t:List (Int × Int)) (M:Int):aOc t M 0=aDz M t:=by simp [aOc]
theorem bJ3 {t:List (Int × Int)} {M:Int} {x:Nat} (hx:x<t.length):(aOc t M (x+1)).set x (aB4 (t.drop (x+1))*M)=aOc t M x:=by
 unfold aOc;have hd:t.drop x=t[x] :: t.drop (x+1):=(List.drop_eq_getElem_cons hx);rw [hd,List.replicate_succ',List.append_assoc,List.set_append_right _ _ (by simp),List.length_replicate,Nat.sub_self]
 rfl
theorem aKl:∀ {T:List (List (Int × Int))} {v:Nat} (hv:v<T.length),(aEm T)[v]?=some (aDz (aAz (T.drop (v+1))) T[v])
 | t :: T,0,_=>by simp [aEm]
 | t :: T,v+1,hv=>by
  have:=aKl (T:=T) (v:=v) (by simpa using hv)
  simpa [aEm] using this
theorem aRj:∀ (M:Int) (t:List (Int × Int)) (x:Nat) (h:x<(aDz M t).length),(aDz M t)[x]=aB4 (t.drop (x+1))*M
 | _,[],_,h=>by simp [aDz] at h
 | _,_ :: _,0,_=>rfl
 | M,_ :: t,x+1,h=>aRj M t x (by simpa [aDz] using h)
theorem bIl (f:FuncId) (caps:Array Value) (hp:Nat->Bool) (n:Nat) (w:World)
  (hf:∀ v w',v<n->Bel w w'->Calls prog f (#[.int .i64 (v:Int)]++caps) w' fun e w2=>e = .returned (.bool (hp v))/\Bel w' w2)
  (hcall:∀ a w',(callFunc f (#[a]++caps)).run prog w' = .ok (.enter f (#[a]++caps)) w') (hn:n<=24) :
  Calls prog 157 #[.int .i64 (n:Int),.func (.func f) #[] caps] w fun e w'=>e = .returned (.int .u32 (aHv n hp:Nat))/\Bel w w':=by
 have HF:=aA0 hf;clear hf;go_enter func157,ntmps157
 go_wp2_with fail
 have HB:=Bel.refl w
 go_loopg [5,6,8] n (fun m s _x z wr=>∃ v:Nat,v<=n/\m=n-v/\z = .int .i64 v/\s = .int .u32 (aHv v hp:Nat)/\Bel w wr)
 case atStart=>exact ⟨0,by omega,rfl,rfl,rfl,HB⟩
 case round =>
  clear HB;obtain ⟨v,hv,rfl,rfl,rfl,HB⟩:=hrel
  by_cases hlt:v<n
  .have hd0:decide (v<n)=true:=by simpa using hlt
   have hsl:=aN5 hp (show v<=32 by omega)
   cases hb:hp v with
   | true =>
    go_wp2_with (((with_reducible refine (HF.out _ _ hlt HB).mono ?_);rintro e w' ⟨rfl,hbb⟩;rw [hb];replace HB:=HB.trans hbb;clear hbb))
    go_roundg (n-(v+1))
    case rel=>exact ⟨v+1,by omega,rfl,by go_num,by rw [aHw,hb,if_pos rfl,aK6 hsl (by omega)],HB⟩
    case measure=>omega
   | false =>
    go_wp2_with (((with_reducible refine (HF.out _ _ hlt HB).mono ?_);rintro e w' ⟨rfl,hbb⟩;rw [hb];replace HB:=HB.trans hbb;clear hbb))
    go_roundg (n-(v+1))
    case rel=>exact ⟨v+1,by omega,rfl,by go_num,by rw [aHw,hb];rfl,HB⟩
    case measure=>omega
  .have hd0:decide (v<n)=false:=by simpa using hlt
   obtain rfl:v=n:=by omega
   go_wp2_with fail
   go_ret;exact ⟨rfl,HB⟩
theorem bHr (S:Nat) (x:Int) (w:World) (hS:S<4294967296) :
  Calls prog 43 #[.int .u32 (S:Int),.int .i64 x] w fun e w'=>e = .returned (.bool (hasB S x))/\w=w':=by
 have HF:Hid (hasB S x=(decide (0<=x)&&decide (x<32)&&S.testBit x.toNat)):=rfl
 by_cases h0:0<=x
 .have d0:decide (0<=x)=true:=by simpa using h0
  rw [d0] at HF;obtain ⟨v,rfl⟩:=Int.eq_ofNat_of_zero_le h0
  by_cases h1:v<32
  .have d1:decide ((v:Int)<32)=true:=by simp;omega
   have d2:decide (v<32)=true:=by simpa using h1
   rw [d1,Int.toNat_natCast] at HF;clear h0;have hq:=aZw (v:=v) hS;go_enter func43,ntmps43
   go_wp2_with fail
   go_ret;exact ⟨aA1 (by rw [HF.out];simp [bJy]),rfl⟩
  .have d1:decide ((v:Int)<32)=false:=by simp;omega
   have d2:decide (v<32)=false:=by simpa using h1
   rw [d1] at HF;clear h0;go_enter func43,ntmps43
   go_wp2_with fail
   go_ret;exact ⟨aA1 (by rw [HF.out];simp),rfl⟩
 .have d0:decide (0<=x)=false:=by simpa using h0
  rw [d0] at HF;go_enter func43,ntmps43
  go_wp2_with fail
  go_ret;exact ⟨aA1 (by rw [HF.out];simp),rfl⟩
structure Agr (E:Nat->Prop) (A B:World):Prop where
 os:B.os=A.os
 tape:B.tape=A.tape
 output:B.output=A.output
 size:A.heap.size<=B.heap.size
 block:∀ k,k<A.heap.size->¬ E k->B.heap[k]?=A.heap[k]?
theorem Agr.refl (E:Nat->Prop) (A:World):Agr E A A:=⟨rfl,rfl,rfl,Nat.le_refl _,fun _ _ _=>rfl⟩
theorem Agr.mono {E E':Nat->Prop} {A B:World} (h:Agr E A B) (hE:∀ k,E k->E' k):Agr E' A B :=
 ⟨h.os,h.tape,h.output,h.size,fun k hk hn=>h.block k hk (fun e=>hn (hE k e))⟩
theorem Agr.trans {E:Nat->Prop} {A B C:World} (h:Agr E A B) (k:Agr E B C):Agr E A C :=
 ⟨k.os.trans h.os,k.tape.trans h.tape,k.output.trans h.output,Nat.le_trans h.size k.size,fun i hi hn=>(k.block i (Nat.lt_of_lt_of_le hi h.size) hn).trans (h.block i hi hn)⟩
theorem Agr.alloc (E:Nat->Prop) (A:World) (o:Obj):Agr E A (A.alloc o) :=
 ⟨rfl,rfl,rfl,by simp,fun k hk _=>Below.heap_alloc A o k hk⟩
theorem Agr.putObj {E:Nat->Prop} (A:World) (l:Nat) (o:Obj) (hl:E l):Agr E A (A.putObj l o) :=
 ⟨rfl,rfl,rfl,by simp,fun k _ hn=>World.putObj_heap_other (fun e=>hn (e ▸ hl))⟩
theorem Agr.setCell {E:Nat->Prop} (A:World) (p:Addr) (v:Value) (hl:E p.block):Agr E A (A.setCell p v) :=
 ⟨rfl,rfl,rfl,by simp,fun k _ hn=>Below.heap_setCell A p v k (fun e=>hn (e ▸ hl))⟩
def aBf (E:Nat->Prop) (A B:World):Prop:=A.heap.size<=B.heap.size/\∀ k,k<A.heap.size->E k->B.heap[k]?=A.heap[k]?
def orE (E R:Nat->Prop) (k:Nat):Prop:=E k∨R k
def bPq {α:Type} (E:Nat->Prop) (I:List α->World->Prop) (Ix:Code->List α->World->Prop) (xs:List α) (W:World):Exit->Act->World->Prop
 | .normal,_,W'=>aBf E W W'/\I xs W'
 | .ret,_,W'=>aBf E W W'/\Ix .ret xs W'
 | .exit id,_,W'=>aBf E W W'/\Ix (.exit id) xs W'
 | .goto t,_,W'=>aBf E W W'/\Ix (.goto t) xs W'
 | .panic _,_,_=>False
 | .outgrown,_,_=>False
def bKl {α:Type} (F:Fence) (n:Nat) (P:Program) (g:Nat) (lb:Array Value) (encs:α->Array Value) (Bs Rs:Nat->Prop) (S:List α) (w:World):Prop :=
 ∀ (l:Nat) (J Jx:List α->World->Prop) (W:World),Bel w W->(∀ s A B,J s A->Agr Bs A B->J s B)->(∀ s A B,Jx s A->Agr Bs A B->Jx s B) ->
  (∀ pre x W1,pre++[x] <+: S->J pre W1->YieldAt F (n-1) P l (encs x) W1 fun e W' =>
   (e = .returned (.bool true)/\J (pre++[x]) W'/\aBf (orE Bs Rs) W1 W')∨(e = .returned (.bool false)/\Jx (pre++[x]) W')) ->
  J [] W ->
  CallsIn F n P g (#[.func (.yield l) #[] #[]]++lb) W fun e W'=>(∃ v,e = .returned v)/\(J S W'∨∃ pre,pre <+: S/\Jx pre W')
variable {F:Fence} {n:Nat} {P:Program}
theorem aFn {α:Type} {g:Operand} {ps:Array Tmp} {assign body:Code} {Q:Exit->Act->World->Prop} {a:Act} {w:World}
  (hro:F.round=none) (h1:1<=n) {gf:Nat} {lb:Array Value} (hg:a.eval g = .func (.func gf) #[] lb) (hFg:F.fn gf) (eg:∀ args w,(callFunc gf args).run P w = .ok (.enter gf args) w)
  {encs:α->Array Value} {Bs Rs:Nat->Prop} {S:List α} (hseq:bKl F (n-1) P gf lb encs Bs Rs S w) (hBs:∀ k,Bs k->k<w.heap.size) (hRs:∀ k,Rs k->k<w.heap.size) (hps:∀ x,(encs x).size=ps.size)
  (E:Nat->Prop) (hE:∀ k,E k↔Bs k∨k=w.heap.size∨k=w.heap.size+1)
  (I:List α->World->Prop) (Ix:Code->List α->World->Prop) (hI:∀ s A B,I s A->Agr E A B->I s B) (hIx:∀ c s A B,Ix c s A->Agr E A B->Ix c s B) (h0:I [] w)
  (Ax:α->Act->World->Prop) (hAx:∀ x a' A B,Ax x a' A->Agr E A B->Ax x a' B)
  (hassign:∀ (pre:List α) (x:α) (W:World) (K:Act->World->Prop),pre++[x] <+: S->I pre W->w.heap.size+1<W.heap.size->(∀ a' W',aBf (orE E Rs) W W'->I pre W'->Ax x a' W'->K a' W') ->
   assign.wpIn (F.inRound (w.heap.size+1)) (n-1-1) P (Exit.then K (fun _ _ _=>False)) { tmps:=(ps.zip (encs x)).foldl (fun t (p,v)=>t.setIfInBounds p v) a.tmps,defers:=[] } W)
  (hbody:∀ (pre:List α) (x:α) (a':Act) (W:World),pre++[x] <+: S->I pre W->Ax x a' W->w.heap.size+1<W.heap.size->(∃ r,W.heap[w.heap.size+1]?=some (.loop r)) ->
   body.wpIn (F.inRound (w.heap.size+1)) (n-1-1) P (bPq (orE E Rs) I Ix (pre++[x]) W) a' W)
  (hdone:∀ (W:World),I S W->W.heap[w.heap.size]?=some (.deferred (some []))->Q .normal { a with defers:={ target := .collected w.heap.size,args:=#[] } :: a.defers } W)
  (hstop:∀ (c:Code) (pre:List α) (W:World),pre <+: S->Ix c pre W->W.heap[w.heap.size]?=some (.deferred (some []))->c.wpIn F n P Q { a with defers:={ target := .collected w.heap.size,args:=#[] } :: a.defers } W) :
  (Code.rangeFunc g ps assign body).wpIn F n P Q a w:=by
 have El:E (w.heap.size+1):=(hE _).2 (.inr (.inr rfl));have Ed:E w.heap.size:=(hE _).2 (.inr (.inl rfl));have nl:¬ Bs (w.heap.size+1):=fun h=>by have:=hBs _ h;omega
 have nek:∀ k,orE Bs Rs k->k<w.heap.size:=fun k h=>h.elim (hBs k) (hRs k);have up:∀ k,orE Bs Rs k->orE E Rs k:=fun k h=>h.elim (fun h => .inl ((hE k).2 (.inl h))) .inr;have nd:¬ Bs w.heap.size:=fun h=>by have:=hBs _ h;omega
 have sub:∀ {A B:World},Agr Bs A B->Agr E A B:=fun h=>h.mono (fun k hk=>(hE k).2 (.inl hk));refine wpIn_rangeFunc fun fn hfn=>?_
 rw [hro];obtain ⟨rec,hrec⟩:∃ rec:LoopState->Option Code->Loop,rec=fun st pe=>{ state:=st,pending:=pe,fn,tmps:=a.tmps,params:=ps,assign,body,defers:=w.heap.size }:=⟨_,rfl⟩
 have hL1:((w.alloc (.deferred (some []))).alloc (.loop (rec .ready none))).heap[w.heap.size+1]?=some (.loop (rec .ready none)):=by
  have:=World.alloc_heap_new (w.alloc (.deferred (some []))) (.loop (rec .ready none));rwa [World.size_alloc] at this
 have hK1:((w.alloc (.deferred (some []))).alloc (.loop (rec .ready none))).heap[w.heap.size]?=some (.deferred (some [])) :=
  (Below.heap_alloc _ _ _ (by simp)).trans (World.alloc_heap_new w _)
 have hI1:I [] ((w.alloc (.deferred (some []))).alloc (.loop (rec .ready none))):=hI _ _ _ (hI _ _ _ h0 (Agr.alloc E w _)) (Agr.alloc E _ _);have hb1:Bel w ((w.alloc (.deferred (some []))).alloc (.loop (rec .ready none))):=((Bel.refl w).alloc _).alloc _
 refine ⟨w.heap.size+1,[{ target := .collected w.heap.size,args:=#[] }],_,{ target := .fn (.func gf) lb,args:=#[.func (.yield (w.heap.size+1)) #[] #[]] },_,gf,
  #[.func (.yield (w.heap.size+1)) #[] #[]]++lb,_,by rw [run_enterLoop_outer],by simp only [resolve,hg];simp [go_sem];rfl,fun f' hf'=>by simp [Target.leads] at hf';subst hf';exact hFg,by simp [invoke,go_sem,eg];rfl,fun _=>h1,?_⟩
 revert hL1 hK1 hI1 hb1
 rw [hrec];intro hL1 hK1 hI1 hb1
 refine (hseq (w.heap.size+1)
  (fun pre W=>I pre W/\W.heap[w.heap.size+1]?=some (.loop (rec .ready none))/\W.heap[w.heap.size]?=some (.deferred (some [])))
  (fun pre W=>∃ c,Ix c pre W/\W.heap[w.heap.size+1]?=some (.loop (rec .done (some c)))/\W.heap[w.heap.size]?=some (.deferred (some [])))
  _ hb1 (fun s A B hs hg'=>⟨hI _ _ _ hs.1 (sub hg'),(hg'.block _ (Array.getElem?_eq_some_iff.1 hs.2.1).1 nl).trans hs.2.1,(hg'.block _ (Array.getElem?_eq_some_iff.1 hs.2.2).1 nd).trans hs.2.2⟩)
  (fun s A B hs hg'=>by
   obtain ⟨c,hc,hl,hk⟩:=hs
   exact ⟨c,hIx _ _ _ _ hc (sub hg'),(hg'.block _ (Array.getElem?_eq_some_iff.1 hl).1 nl).trans hl,(hg'.block _ (Array.getElem?_eq_some_iff.1 hk).1 nd).trans hk⟩)
  ?_ ⟨hI1,by rw [hrec];exact hL1,hK1⟩).mono ?_
 .-- one round
  rintro pre x W hpre ⟨hi,hl,hk⟩;have hlt:=(Array.getElem?_eq_some_iff.1 hl).1;have hy:=run_yield (P:=P) (args:=encs x) hl (by rw [hrec];exact hps x)
  rw [hrec] at hy;refine ⟨fn,_,assign,body,hy,roundIn_of_wpIn hfn (hassign pre x W _ hpre hi hlt ?_)⟩
  clear hy;intro a' Wa hsa hia hax
  have hl2:=(hsa.2 _ hlt (.inl El)).trans hl;have hk2:=(hsa.2 _ (by omega) (.inl Ed)).trans hk
  have hlta:=(Array.getElem?_eq_some_iff.1 hl2).1;refine ⟨_,run_beginRound hl2 (by rw [hrec]),?_⟩
  have agb:Agr E Wa (Wa.putObj (w.heap.size+1) (.loop { rec .ready none with state := .busy })):=Agr.putObj _ _ _ El
  have hl3:(Wa.putObj (w.heap.size+1) (.loop { rec .ready none with state := .busy })).heap[w.heap.size+1]?=some (.loop { rec .ready none with state := .busy }):=World.putObj_heap_same hlta
  have hk3:(Wa.putObj (w.heap.size+1) (.loop { rec .ready none with state := .busy })).heap[w.heap.size]?=some (.deferred (some [])):=(World.putObj_heap_other (by omega)).trans hk2
  have hsz:=agb.size
  have hsb:aBf (orE Bs Rs) W (Wa.putObj (w.heap.size+1) (.loop { rec .ready none with state := .busy })) :=
   ⟨Nat.le_trans hsa.1 hsz,fun k hk hB=>(World.putObj_heap_other (by have:=nek k hB;omega)).trans (hsa.2 k hk (up k hB))⟩
  refine wpIn_mono (hbody pre x a' _ hpre (hI _ _ _ hia agb) (hAx _ _ _ _ hax agb) (Nat.lt_of_lt_of_le hlta hsz) ⟨_,hl3⟩) ?_
  generalize Wa.putObj (w.heap.size+1) (.loop { rec .ready none with state := .busy })=Wb at *
  have fin:∀ (jump:Option Code) (W3:World),aBf (orE E Rs) Wb W3 ->
    (Instr.endRound (w.heap.size+1) jump).run P W3 = .ok (.bool jump.isNone) (W3.putObj (w.heap.size+1) (.loop (rec (if jump.isNone then .ready else .done) jump))) /\
    (W3.putObj (w.heap.size+1) (.loop (rec (if jump.isNone then .ready else .done) jump))).heap[w.heap.size+1]?=some (.loop (rec (if jump.isNone then .ready else .done) jump)) /\
    (W3.putObj (w.heap.size+1) (.loop (rec (if jump.isNone then .ready else .done) jump))).heap[w.heap.size]?=some (.deferred (some [])):=fun jump W3 h3=>by
   have hl4:=(h3.2 _ (by omega) (.inl El)).trans hl3
   have:=run_endRound (P:=P) jump hl4;rw [hrec] at this ⊢;exact ⟨this,World.putObj_heap_same (Array.getElem?_eq_some_iff.1 hl4).1,(World.putObj_heap_other (by omega)).trans ((h3.2 _ (by omega) (.inl Ed)).trans hk3)⟩
  rintro e a3 W3 hp;cases e with
  | normal =>
   obtain ⟨h3,hi3⟩:=hp;obtain ⟨hr,hl4,hk4⟩:=fin none W3 h3
   exact ⟨_,_,hr,.inl ⟨rfl,⟨hI _ _ _ hi3 (Agr.putObj _ _ _ El),hl4,hk4⟩,Nat.le_trans hsb.1 (Nat.le_trans h3.1 (Agr.putObj (E:=E) W3 _ _ El).size),fun k hk hB =>
    (World.putObj_heap_other (by have:=nek k hB;omega)).trans ((h3.2 k (Nat.lt_of_lt_of_le hk hsb.1) (up k hB)).trans (hsb.2 k hk hB))⟩⟩
  | ret =>
   obtain ⟨h3,hi3⟩:=hp;obtain ⟨hr,hl4,hk4⟩:=fin (some .ret) W3 h3;exact ⟨_,_,hr,.inr ⟨rfl,.ret,hIx _ _ _ _ hi3 (Agr.putObj _ _ _ El),hl4,hk4⟩⟩
  | exit id =>
   obtain ⟨h3,hi3⟩:=hp;obtain ⟨hr,hl4,hk4⟩:=fin (some (.exit id)) W3 h3;exact ⟨_,_,hr,.inr ⟨rfl,.exit id,hIx _ _ _ _ hi3 (Agr.putObj _ _ _ El),hl4,hk4⟩⟩
  | goto t =>
   obtain ⟨h3,hi3⟩:=hp;obtain ⟨hr,hl4,hk4⟩:=fin (some (.goto t)) W3 h3;exact ⟨_,_,hr,.inr ⟨rfl,.goto t,hIx _ _ _ _ hi3 (Agr.putObj _ _ _ El),hl4,hk4⟩⟩
  | panic ch=>exact hp.elim
  | outgrown=>exact hp.elim
 .-- behind the iterator
  rintro e W2 ⟨⟨v,rfl⟩,(⟨hi,hl,hk⟩ | ⟨pre,hSp,c,hi,hl,hk⟩)⟩
  .exact ⟨none,_,by have:=run_endLoop (P:=P) hl (by rw [hrec];simp);rw [hrec] at this;exact this,hdone _ (hI _ _ _ hi (Agr.putObj _ _ _ El)) ((World.putObj_heap_other (by omega)).trans hk)⟩
  .exact ⟨some c,_,by have:=run_endLoop (P:=P) hl (by rw [hrec];simp);rw [hrec] at this;exact this,hstop c pre _ hSp (hIx _ _ _ _ hi (Agr.putObj _ _ _ El)) ((World.putObj_heap_other (by omega)).trans hk)⟩
theorem aZf {α:Type} {g:Operand} {ps:Array Tmp} {assign body:Code} {Q:Exit->Act->World->Prop} {a:Act} {w:World}
  {l₀:Nat} {r₀:Loop} (hro:F.round=some l₀) (hl₀:w.heap[l₀]?=some (.loop r₀)) (h1:1<=n) {gf:Nat} {lb:Array Value} (hg:a.eval g = .func (.func gf) #[] lb) (hFg:F.fn gf) (eg:∀ args w,(callFunc gf args).run P w = .ok (.enter gf args) w)
  {encs:α->Array Value} {Bs Rs:Nat->Prop} {S:List α} (hseq:bKl F (n-1) P gf lb encs Bs Rs S w) (hBs:∀ k,Bs k->k<w.heap.size) (hRs:∀ k,Rs k->k<w.heap.size) (hps:∀ x,(encs x).size=ps.size)
  (E:Nat->Prop) (hE:∀ k,E k↔Bs k∨k=w.heap.size)
  (I:List α->World->Prop) (Ix:Code->List α->World->Prop) (hI:∀ s A B,I s A->Agr E A B->I s B) (hIx:∀ c s A B,Ix c s A->Agr E A B->Ix c s B) (h0:I [] w)
  (Ax:α->Act->World->Prop) (hAx:∀ x a' A B,Ax x a' A->Agr E A B->Ax x a' B)
  (hassign:∀ (pre:List α) (x:α) (W:World) (K:Act->World->Prop),pre++[x] <+: S->I pre W->w.heap.size<W.heap.size->(∀ a' W',aBf (orE E Rs) W W'->I pre W'->Ax x a' W'->K a' W') ->
   assign.wpIn (F.inRound (w.heap.size)) (n-1-1) P (Exit.then K (fun _ _ _=>False)) { tmps:=(ps.zip (encs x)).foldl (fun t (p,v)=>t.setIfInBounds p v) a.tmps,defers:=[] } W)
  (hbody:∀ (pre:List α) (x:α) (a':Act) (W:World),pre++[x] <+: S->I pre W->Ax x a' W->w.heap.size<W.heap.size->(∃ r,W.heap[w.heap.size]?=some (.loop r)) ->
   body.wpIn (F.inRound (w.heap.size)) (n-1-1) P (bPq (orE E Rs) I Ix (pre++[x]) W) a' W)
  (hdone:∀ (W:World),I S W->Q .normal a W)
  (hstop:∀ (c:Code) (pre:List α) (W:World),pre <+: S->Ix c pre W->c.wpIn F n P Q a W) :
  (Code.rangeFunc g ps assign body).wpIn F n P Q a w:=by
 have El:E (w.heap.size):=(hE _).2 (.inr rfl);have nl:¬ Bs (w.heap.size):=fun h=>by have:=hBs _ h;omega
 have nek:∀ k,orE Bs Rs k->k<w.heap.size:=fun k h=>h.elim (hBs k) (hRs k);have up:∀ k,orE Bs Rs k->orE E Rs k:=fun k h=>h.elim (fun h => .inl ((hE k).2 (.inl h))) .inr;have sub:∀ {A B:World},Agr Bs A B->Agr E A B:=fun h=>h.mono (fun k hk=>(hE k).2 (.inl hk));refine wpIn_rangeFunc fun fn hfn=>?_
 rw [hro];obtain ⟨rec,hrec⟩:∃ rec:LoopState->Option Code->Loop,rec=fun st pe=>{ state:=st,pending:=pe,fn,tmps:=a.tmps,params:=ps,assign,body,defers:=r₀.defers }:=⟨_,rfl⟩
 have hL1:(w.alloc (.loop (rec .ready none))).heap[w.heap.size]?=some (.loop (rec .ready none)) :=
  World.alloc_heap_new w _
 have hI1:I [] (w.alloc (.loop (rec .ready none))):=hI _ _ _ h0 (Agr.alloc E w _);have hb1:Bel w (w.alloc (.loop (rec .ready none))):=(Bel.refl w).alloc _
 refine ⟨w.heap.size,[],_,{ target := .fn (.func gf) lb,args:=#[.func (.yield (w.heap.size)) #[] #[]] },_,gf,
  #[.func (.yield (w.heap.size)) #[] #[]]++lb,_,by rw [run_enterLoop_inner hl₀],by simp only [resolve,hg];simp [go_sem];rfl,fun f' hf'=>by simp [Target.leads] at hf';subst hf';exact hFg,by simp [invoke,go_sem,eg];rfl,fun _=>h1,?_⟩
 revert hL1 hI1 hb1
 rw [hrec];intro hL1 hI1 hb1
 refine (hseq (w.heap.size)
  (fun pre W=>I pre W/\W.heap[w.heap.size]?=some (.loop (rec .ready none)))
  (fun pre W=>∃ c,Ix c pre W/\W.heap[w.heap.size]?=some (.loop (rec .done (some c))))
  _ hb1 (fun s A B hs hg'=>⟨hI _ _ _ hs.1 (sub hg'),(hg'.block _ (Array.getElem?_eq_some_iff.1 hs.2).1 nl).trans hs.2⟩)
  (fun s A B hs hg'=>by
   obtain ⟨c,hc,hl⟩:=hs
   exact ⟨c,hIx _ _ _ _ hc (sub hg'),(hg'.block _ (Array.getElem?_eq_some_iff.1 hl).1 nl).trans hl⟩)
  ?_ ⟨hI1,by rw [hrec];exact hL1⟩).mono ?_
 .-- one round
  rintro pre x W hpre ⟨hi,hl⟩;have hlt:=(Array.getElem?_eq_some_iff.1 hl).1;have hy:=run_yield (P:=P) (args:=encs x) hl (by rw [hrec];exact hps x)
  rw [hrec] at hy;refine ⟨fn,_,assign,body,hy,roundIn_of_wpIn hfn (hassign pre x W _ hpre hi hlt ?_)⟩
  clear hy;intro a' Wa hsa hia hax
  have hl2:=(hsa.2 _ hlt (.inl El)).trans hl;have hlta:=(Array.getElem?_eq_some_iff.1 hl2).1;refine ⟨_,run_beginRound hl2 (by rw [hrec]),?_⟩
  have agb:Agr E Wa (Wa.putObj (w.heap.size) (.loop { rec .ready none with state := .busy })):=Agr.putObj _ _ _ El
  have hl3:(Wa.putObj (w.heap.size) (.loop { rec .ready none with state := .busy })).heap[w.heap.size]?=some (.loop { rec .ready none with state := .busy }):=World.putObj_heap_same hlta
  have hsz:=agb.size
  have hsb:aBf (orE Bs Rs) W (Wa.putObj (w.heap.size) (.loop { rec .ready none with state := .busy })) :=
   ⟨Nat.le_trans hsa.1 hsz,fun k hk hB=>(World.putObj_heap_other (by have:=nek k hB;omega)).trans (hsa.2 k hk (up k hB))⟩
  refine wpIn_mono (hbody pre x a' _ hpre (hI _ _ _ hia agb) (hAx _ _ _ _ hax agb) (Nat.lt_of_lt_of_le hlta hsz) ⟨_,hl3⟩) ?_
  generalize Wa.putObj (w.heap.size) (.loop { rec .ready none with state := .busy })=Wb at *
  have fin:∀ (jump:Option Code) (W3:World),aBf (orE E Rs) Wb W3 ->
    (Instr.endRound (w.heap.size) jump).run P W3 = .ok (.bool jump.isNone) (W3.putObj (w.heap.size) (.loop (rec (if jump.isNone then .ready else .done) jump))) /\
    (W3.putObj (w.heap.size) (.loop (rec (if jump.isNone then .ready else .done) jump))).heap[w.heap.size]?=some (.loop (rec (if jump.isNone then .ready else .done) jump)):=fun jump W3 h3=>by
   have hl4:=(h3.2 _ (by omega) (.inl El)).trans hl3
   have:=run_endRound (P:=P) jump hl4;rw [hrec] at this ⊢;exact ⟨this,World.putObj_heap_same (Array.getElem?_eq_some_iff.1 hl4).1⟩
  rintro e a3 W3 hp;cases e with
  | normal =>
   obtain ⟨h3,hi3⟩:=hp;obtain ⟨hr,hl4⟩:=fin none W3 h3
   exact ⟨_,_,hr,.inl ⟨rfl,⟨hI _ _ _ hi3 (Agr.putObj _ _ _ El),hl4⟩,Nat.le_trans hsb.1 (Nat.le_trans h3.1 (Agr.putObj (E:=E) W3 _ _ El).size),fun k hk hB =>
    (World.putObj_heap_other (by have:=nek k hB;omega)).trans ((h3.2 k (Nat.lt_of_lt_of_le hk hsb.1) (up k hB)).trans (hsb.2 k hk hB))⟩⟩
  | ret =>
   obtain ⟨h3,hi3⟩:=hp;obtain ⟨hr,hl4⟩:=fin (some .ret) W3 h3;exact ⟨_,_,hr,.inr ⟨rfl,.ret,hIx _ _ _ _ hi3 (Agr.putObj _ _ _ El),hl4⟩⟩
  | exit id =>
   obtain ⟨h3,hi3⟩:=hp;obtain ⟨hr,hl4⟩:=fin (some (.exit id)) W3 h3;exact ⟨_,_,hr,.inr ⟨rfl,.exit id,hIx _ _ _ _ hi3 (Agr.putObj _ _ _ El),hl4⟩⟩
  | goto t =>
   obtain ⟨h3,hi3⟩:=hp;obtain ⟨hr,hl4⟩:=fin (some (.goto t)) W3 h3;exact ⟨_,_,hr,.inr ⟨rfl,.goto t,hIx _ _ _ _ hi3 (Agr.putObj _ _ _ El),hl4⟩⟩
  | panic ch=>exact hp.elim
  | outgrown=>exact hp.elim
 .-- behind the iterator
  rintro e W2 ⟨⟨v,rfl⟩,(⟨hi,hl⟩ | ⟨pre,hSp,c,hi,hl⟩)⟩
  .exact ⟨none,_,by have:=run_endLoop (P:=P) hl (by rw [hrec];simp);rw [hrec] at this;exact this,hdone _ (hI _ _ _ hi (Agr.putObj _ _ _ El))⟩
  .exact ⟨some c,_,by have:=run_endLoop (P:=P) hl (by rw [hrec];simp);rw [hrec] at this;exact this,hstop c pre _ hSp (hIx _ _ _ _ hi (Agr.putObj _ _ _ El))⟩
theorem aFi {P:Program} {f:FuncId} {fn:Func} {c:Code} {args:Array Value} {w:World} {R:Ending->World->Prop}
  (hf:P.funcs[f]?=some fn) (hb:fn.body=some c)
  (h:c.wp P (bodyPostM Fence.wide 5 P fn R) { tmps:=args++Array.replicate (fn.ntmps-args.size) undef,defers:=[] } w):Calls P f args w R :=
 callsIn_wide.1 (callsIn_of_wp_marks hf hb trivial (wpIn_wide.2 h) rfl)
def aE5 (B:Nat) (W:World):List Deferred->Prop
 | []=>True
 | d :: ds=>(∃ D,d={ target := .collected D,args:=#[] }/\B<=D/\W.heap[D]?=some (.deferred (some []))/\∀ d'∈ds,∀ D',d'.target = .collected D'->D' < D)/\aE5 B W ds
theorem aE5.nil (B:Nat) (W:World):aE5 B W []:=trivial
def bN7 (B:Nat) (W:World) (k:Nat):Prop:=B<=k/\∃ x,W.heap[k]?=some (.deferred x)
theorem aE5.keep {B:Nat} {W W':World}:∀ {ds:List Deferred},aE5 B W ds->(∀ D,B<=D->W.heap[D]?=some (.deferred (some []))->W'.heap[D]?=some (.deferred (some [])))->aE5 B W' ds
 | [],_,_=>trivial
 | _ :: _,h,hk=>by
  obtain ⟨⟨D,e,h1,h2,h3⟩,h4⟩:=h;exact ⟨⟨D,e,h1,hk D h1 h2,h3⟩,h4.keep hk⟩
theorem aE5.below {B:Nat} {W:World}:∀ {ds:List Deferred},aE5 B W ds->∀ d∈ds,∀ D,d.target = .collected D->B<=D/\D<W.heap.size
 | [],_,_,hd,_,_=>by cases hd
 | d0 :: ds,h,d,hd,D,e=>by
  obtain ⟨⟨D0,e0,h1,h2,h3⟩,h4⟩:=h
  rcases List.mem_cons.1 hd with rfl | hd
  .subst e0
   injection e with e
   subst e;exact ⟨h1,(Array.getElem?_eq_some_iff.1 h2).1⟩
  .exact h4.below d hd D e
theorem aE5.push {B:Nat} {W:World} {ds:List Deferred} {D:Nat} (h:aE5 B W ds) (hB:B<=D) (hD:W.heap[D]?=some (.deferred (some []))) (hlt:∀ d'∈ds,∀ D',d'.target = .collected D'->D' < D):aE5 B W ({ target := .collected D,args:=#[] } :: ds) :=
 ⟨⟨D,rfl,hB,hD,hlt⟩,h⟩
theorem aE5.shut {B D:Nat} {W:World}:∀ {ds:List Deferred},aE5 B W ds->(∀ d'∈ds,∀ D',d'.target = .collected D'->D' < D)->aE5 B (W.putObj D (.deferred none)) ds
 | [],_,_=>trivial
 | d :: ds,h,hl=>by
  obtain ⟨⟨D0,e,h1,h2,h3⟩,h4⟩:=h;have:=hl d (List.mem_cons_self ..) D0 (by rw [e])
  exact ⟨⟨D0,e,h1,(World.putObj_heap_other (by omega)).trans h2,h3⟩,h4.shut (fun d' hd=>hl d' (List.mem_cons_of_mem _ hd))⟩
theorem aD7 {P:Program} {fn:Func} {tmps:Array Value} {R:Ending->World->Prop} {F:Fence} {n B:Nat}:∀ {ds:List Deferred} {W:World},aE5 B W ds ->
  (∀ W',Agr (bN7 B W) W W'->W'.heap.size=W.heap.size->∃ v,(results fn tmps).run P W' = .ok v W'/\R (.returned v) W')->LeavesInM F n P fn tmps R ds .returning W
 | [],W,_,hR=>hR W (Agr.refl _ W) rfl
 | d :: ds,W,h,hR=>by
  obtain ⟨⟨D,rfl,h1,h2,h3⟩,h4⟩:=h;refine ⟨by simp,.inl ⟨D,_,rfl,run_takeDeferred h2,?_⟩⟩
  have hlt:=(Array.getElem?_eq_some_iff.1 h2).1;refine aD7 (B:=B) (h4.shut h3) ?_
  intro W' hA hs
  have hE:∀ k,bN7 B (W.putObj D (.deferred none)) k->bN7 B W k:=by
   rintro k ⟨hk,x,hx⟩
   by_cases hkD:k=D
   .subst hkD;exact ⟨hk,_,h2⟩
   .rw [World.putObj_heap_other hkD] at hx;exact ⟨hk,x,hx⟩
  have hsz:(W.putObj D (.deferred none)).heap.size=W.heap.size:=by simp
  exact hR W' ((Agr.putObj W D _ ⟨h1,_,h2⟩).trans (hA.mono hE)) (by omega)
theorem Agr.cell {E:Nat->Prop} {A B:World} (h:Agr E A B) {k o:Nat} (hk:k<A.heap.size) (hE:¬ E k):B.cell? ⟨k,o,none⟩=A.cell? ⟨k,o,none⟩ :=
 World.cell?_of_block (h.block k hk hE)
theorem Agr.cellD {B0:Nat} {A B:World} (h:Agr (bN7 B0 A) A B) {k o:Nat} {v:Value} (hc:A.cell? ⟨k,o,none⟩=some v):B.cell? ⟨k,o,none⟩=some v:=by
 have hne:¬ bN7 B0 A k:=by
  rintro ⟨_,x,hx⟩;simp [World.cell?,hx] at hc
 have hk:k<A.heap.size:=by
  rcases Nat.lt_or_ge k A.heap.size with h | h
  .exact h
  .simp [World.cell?,Array.getElem?_eq_none h] at hc
 rw [h.cell hk hne];exact hc
theorem Agr.bel {w A C:World} (hb:Bel w A) (h:Agr (bN7 w.heap.size A) A C):Bel w C :=
 ⟨h.os.trans hb.os,h.tape.trans hb.tape,h.output.trans hb.output,Nat.le_trans hb.size h.size,fun k hk=>(h.block k (Nat.lt_of_lt_of_le hk hb.size) (fun e=>by have:=e.1;omega)).trans (hb.block k hk)⟩
theorem Agr.belE {E:Nat->Prop} {w A C:World} (hb:Bel w A) (h:Agr E A C) (hE:∀ k,E k->w.heap.size<=k):Bel w C :=
 ⟨h.os.trans hb.os,h.tape.trans hb.tape,h.output.trans hb.output,Nat.le_trans hb.size h.size,fun k hk=>(h.block k (Nat.lt_of_lt_of_le hk hb.size) (fun e=>by have:=hE k e;omega)).trans (hb.block k hk)⟩
theorem Agr.boxed {E:Nat->Prop} {A B:World} (h:Agr E A B) {k:Nat} {t:TypeId} {v:Value} (hx:Boxed A k t v) (hk:¬ E k):Boxed B k t v:=(h.block k hx.lt hk).trans hx
theorem Agr.blk {E:Nat->Prop} {A B:World} (h:Agr E A B) {k:Nat} {t:TypeId} {cs:Array Value} (hx:A.heap[k]?=some (.cells cs t (0,0))) (hk:¬ E k):B.heap[k]?=some (.cells cs t (0,0)):=(h.block k (Array.getElem?_eq_some_iff.1 hx).1 hk).trans hx
theorem aBf.refl (E:Nat->Prop) (A:World):aBf E A A:=⟨Nat.le_refl _,fun _ _ _=>rfl⟩
theorem aBf.trans {E:Nat->Prop} {A B C:World} (h:aBf E A B) (k:aBf E B C):aBf E A C :=
 ⟨Nat.le_trans h.1 k.1,fun i hi hE=>(k.2 i (Nat.lt_of_lt_of_le hi h.1) hE).trans (h.2 i hi hE)⟩
theorem aBf.setCell {E:Nat->Prop} (A:World) (p:Addr) (v:Value) (hp:¬ E p.block):aBf E A (A.setCell p v) :=
 ⟨by simp,fun k _ hE=>Below.heap_setCell A p v k (fun e=>hp (e ▸ hE))⟩
theorem aBf.of_bel {E:Nat->Prop} {A B:World} (h:Bel A B):aBf E A B:=⟨h.size,fun k hk _=>h.block k hk⟩
theorem aBf.of_agr {E G:Nat->Prop} {A B:World} (h:Agr G A B) (hG:∀ k,E k->¬ G k):aBf E A B:=⟨h.size,fun k hk hE=>h.block k hk (hG k hE)⟩
theorem aAs {W:World} {B:Nat} {t:TypeId} {v:Value} (h:Boxed W B t v):W.cell? ⟨B,0,none⟩=some v/\W.frozen? ⟨B,0,none⟩=false/\B<W.heap.size:=⟨h.cell,h.frozen,h.lt⟩
def aDl (w:World):Prop:=0<w.heap.size/\∀ i,i<32->w.cell? ⟨0,i,none⟩=some (.int .u8 ((bruijn.getD i 0:Nat):Int))
theorem aDl.keep {w w':World} (h:aDl w) (k:Bel w w'):aDl w':=⟨Nat.lt_of_lt_of_le h.1 k.size,fun i hi=>(k.cell h.1).trans (h.2 i hi)⟩
theorem bIe {S:Nat} (h0:S≠0) (hS:S<4294967296) : -(S:Int) % 4294967296=((4294967296-S:Nat):Int):=by omega
theorem bC9 {S:Nat} (hS:S<4294967296) (h0:S≠0):bits .and .u32 (S:Int) (-(S:Int) % 4294967296)=((lsb S:Nat):Int):=by
 rw [bIe h0 hS,aCs hS (by omega)];rfl
theorem bH7 {S:Nat} (hS:S<4294967296) (h0:S≠0):bits .and .u32 (-(S:Int) % 4294967296) (S:Int)=((lsb S:Nat):Int):=by
 rw [bIe h0 hS,aCs (by omega) hS,Nat.and_comm];rfl
theorem aWo {k:Nat} (hk:k<32):∃ J:Nat,J<32/\((2 ^ k:Nat):Int)*125613361 % 4294967296 / 134217728=(J:Int)/\bruijn.getD J 0=k:=by
 have h:=bHb k hk;refine ⟨2 ^ k*125613361 % 4294967296 / 134217728,?_,by omega,?_⟩
 .omega
 .rw [List.getD_eq_getElem?_getD,h];rfl
theorem bQ0 (S:Nat) (k m:Nat) (w:World) (hT:aDl w) (hS:S<4294967296) (e:S=2 ^ k*(2*m+1)) :
  Calls prog 126 #[.int .u32 (S:Int)] w fun e w'=>e = .returned (.int .i64 (k:Int))/\w=w':=by
 have h0:S≠0:=by rw [e];exact Nat.ne_of_gt (Nat.mul_pos (Nat.two_pow_pos k) (by omega))
 have hb:((S:Int)==0)=false:=by simp;omega
 have hlt:=hT.1;obtain ⟨k',m',e',hk,hl,_⟩:=aE2 hS h0
 obtain rfl:k=k':=by
  have h1:=aI8 (k:=k) (m:=m) (by rw [<- e];exact hS)
  have h2:=aI8 (k:=k') (m:=m') (by rw [<- e'];exact hS)
  rw [<- e] at h1;rw [<- e',h1] at h2;injection h2
 have q1:=bC9 hS h0;rw [hl] at q1;obtain ⟨J,hJ,q2,hv⟩:=aWo hk;have hc:=hT.2 J hJ;rw [hv] at hc;generalize 2 ^ k=P at q1 q2;have dJ:decide (J<32)=true:=by simpa using hJ
 clear e e' hl hv hT h0 hS hJ;go_enter func126,ntmps126
 go_wp2_with fail
 go_ret;exact ⟨rfl,rfl⟩
def bL5 (b:Nat):Nat:=((List.range 8).filter (b.testBit ·)).length
theorem bMa:∀ n:Fin 256,Lib.onesCount n.val=bL5 n.val:=by decide +kernel
theorem aVf {b:Nat} (h:b<256):Lib.pop8 (b:Int)=(bL5 b:Int):=by
 have h1:=Lib.pop8_eq ⟨b,h⟩;have h2:=bMa ⟨b,h⟩;simp only at h1 h2
 rw [h1,h2]
theorem aU7 (b:Nat):bL5 b<=8:=Nat.le_trans (List.length_filter_le _ _) (by simp)
theorem aPl (S s:Nat):(List.filter (S.testBit ·) ((List.range 8).map (s+·))).length=bL5 (S / 2 ^ s % 256):=by
 unfold bL5;rw [List.filter_map,List.length_map]
 congr 1
 refine List.filter_congr fun i hi=>?_
 have hi:=List.mem_range.1 hi;show S.testBit (s+i)=(S / 2 ^ s % 2 ^ 8).testBit i
 rw [Nat.testBit_mod_two_pow,decide_eq_true hi,Bool.true_and,Nat.testBit_div_two_pow,Nat.add_comm]
theorem bA8 {S:Nat} (hS:S<4294967296):(aAd S).length=bL5 (S / 16777216)+bL5 (S / 65536 % 256)+bL5 (S / 256 % 256)+bL5 (S % 256):=by
 have e:List.range 32=(List.range 8).map (0+·)++((List.range 8).map (8+·)++((List.range 8).map (16+·)++(List.range 8).map (24+·))):=by decide
 unfold aAd;rw [e,List.filter_append,List.filter_append,List.filter_append,List.length_append,List.length_append,List.length_append,aPl,aPl,aPl,aPl];have e3:S / 2 ^ 24 % 256=S / 16777216:=by omega
 have e0:S / 2 ^ 0 % 256=S % 256:=by simp
 rw [e3,e0,show (2 ^ 16:Nat)=65536 by decide,show (2 ^ 8:Nat)=256 by decide]
 omega
theorem aU6 {x:Nat} (h:x<4294967296):bits .and .u32 (x:Int) 255=((x % 256:Nat):Int):=by
 rw [show (255:Int)=((255:Nat):Int) from rfl,aCs h (by decide),Nat.and_two_pow_sub_one_eq_mod x 8]
theorem aPt (S:Nat) (w:World) (hS:S<4294967296) :
  Calls prog 116 #[.int .u32 (S:Int)] w fun e w'=>e = .returned (.int .i64 ((aAd S).length:Int))/\Bel w w':=by
 obtain ⟨b0,hb0⟩:∃ b:Nat,b=S % 256:=⟨_,rfl⟩;obtain ⟨b1,hb1⟩:∃ b:Nat,b=S / 256 % 256:=⟨_,rfl⟩;obtain ⟨b2,hb2⟩:∃ b:Nat,b=S / 65536 % 256:=⟨_,rfl⟩;obtain ⟨b3,hb3⟩:∃ b:Nat,b=S / 16777216:=⟨_,rfl⟩;have q0:bits .and .u32 (S:Int) 255=(b0:Int):=by rw [aU6 hS,hb0]
 have q1:bits .and .u32 ((S:Int) / 256) 255=(b1:Int):=by
  rw [show (S:Int) / 256=((S / 256:Nat):Int) by omega,aU6 (by omega),hb1]
 have q2:bits .and .u32 ((S:Int) / 65536) 255=(b2:Int):=by
  rw [show (S:Int) / 65536=((S / 65536:Nat):Int) by omega,aU6 (by omega),hb2]
 have q3:(S:Int) / 16777216=(b3:Int):=by omega
 have l0:(b0:Int)<=255:=by omega
 have l1:(b1:Int)<=255:=by omega
 have l2:(b2:Int)<=255:=by omega
 have l3:(b3:Int)<=255:=by omega
 have i0:b0<=255:=by omega
 have i1:b1<=255:=by omega
 have i2:b2<=255:=by omega
 have i3:b3<=255:=by omega
 have HB:=aA0 (And.intro hb0 (And.intro hb1 (And.intro hb2 hb3)));clear hb0 hb1 hb2 hb3;go_enter func116,ntmps116;simp only [List.append_eq,List.cons_append,List.nil_append,Lib.fold_pop8tab]
 go_wp2
 go_region
 go_wp2;go_ret;refine ⟨aA9 ?_,(Bel.refl w).drew⟩
 obtain ⟨e0,e1,e2,e3⟩:=HB.out;rw [aVf (by omega),aVf (by omega),aVf (by omega),aVf (by omega),bA8 hS,e0,e1,e2,e3]
 have h0:=aU7 (S % 256);have h1:=aU7 (S / 256 % 256);have h2:=aU7 (S / 65536 % 256);have h3:=aU7 (S / 16777216);omega
def bPl (md:Region.Mode) (ops:Array Oper) (i:Nat):Option Nat :=
 (List.range ops.size).find? fun j=>match ops[j]? with | some o=>o.after.any (fun e=>Region.binds md e&&e.on==i) | none=>false
def aGn (md:Region.Mode) (ops:Array Oper) (L:Nat):Nat->Nat->List Nat
 | 0,_=>[]
 | n+1,i=>match bPl md ops i with | none=>[] | some j=>j :: (if j==L then [] else aGn md ops L n j)
theorem aA4.takeC {P:Program} {ops:Array Oper} {Q:Exit->Act->World->Prop} {md:Region.Mode} {S:World->Prop} {L:Nat} {i:Nat} {oi:Oper} {v:Value} {fuel:Nat} {listed:Array Bool} {a:Act} {w:World} (d:Option Tmp) (hi:ops[i]?=some oi) (hd:oi.dst=d)
  (hs:Region.noSelect ops=true) (hf:Region.free md ops listed i=true) (hr:(Region.ready md ops listed).contains i=true)
  (hc:((aGn md ops L 60 i).contains L&&aPg md ops i (aGn md ops L 60 i)&&aFa listed (aGn md ops L 60 i))=true)
  (hQ:∀ c a w,Q (.panic c) (a.put d v) w->Q (.panic c) a w) (hS:S w) (hy:YieldsIf P ops S oi v a)
  (h:aA4 P md ops Q S L fuel (listed.setIfInBounds i true) (a.put d v) w):aA4 P md ops Q S L (fuel+1) listed a w:=by
 rw [Bool.and_eq_true,Bool.and_eq_true] at hc;exact aA4.take (aGn md ops L 60 i) d hi hd hs hf hr hc.1.1 hc.1.2 hc.2 hQ hS hy h
theorem aA4.t {P:Program} {ops:Array Oper} {Q:Exit->Act->World->Prop} {md:Region.Mode} {S:World->Prop} {L:Nat} {oi:Oper} {v:Value} {fuel:Nat} {listed:Array Bool} {a:Act} {w:World} (i d:Nat) (hi:ops[i]?=some oi) (hd:oi.dst=some d)
  (hc:(Region.noSelect ops&&Region.free md ops listed i&&(Region.ready md ops listed).contains i&&((aGn md ops L 60 i).contains L&&aPg md ops i (aGn md ops L 60 i)&&aFa listed (aGn md ops L 60 i)))=true)
  (hQ:∀ c a w,Q (.panic c) (a.put (some d) v) w->Q (.panic c) a w) (hS:S w) (hy:YieldsIf P ops S oi v a)
  (h:aA4 P md ops Q S L fuel (listed.setIfInBounds i true) (a.put (some d) v) w):aA4 P md ops Q S L (fuel+1) listed a w:=by
 rw [Bool.and_eq_true,Bool.and_eq_true,Bool.and_eq_true] at hc;exact aA4.takeC (some d) hi hd hc.1.1.1 hc.1.1.2 hc.1.2 hc.2 hQ hS hy h
theorem aA4.u {P:Program} {ops:Array Oper} {Q:Exit->Act->World->Prop} {md:Region.Mode} {S:World->Prop} {L:Nat} {oi:Oper} {v:Value} {fuel:Nat} {listed:Array Bool} {a:Act} {w:World} (i d:Nat) (hi:ops[i]?=some oi) (hS:S w) (hy:∀ w,S w->(execOp a.eval oi).run P w = .ok (.value v) w)
  (h:aA4 P md ops Q S L fuel (listed.setIfInBounds i true) (a.put (some d) v) w) (hd:oi.dst=some d:=by rfl) (hg:Region.wanted oi (yielded ops a.tmps)=true:=by rfl)
  (hc:(Region.noSelect ops&&Region.free md ops listed i&&(Region.ready md ops listed).contains i&&((aGn md ops L 60 i).contains L&&aPg md ops i (aGn md ops L 60 i)&&aFa listed (aGn md ops L 60 i)))=true:=by kernel_rfl)
  (hQ:∀ c a w,Q (.panic c) (a.put (some d) v) w->Q (.panic c) a w:=by exact fun _ _ _ h=>h):aA4 P md ops Q S L (fuel+1) listed a w:=aA4.t i d hi hd hc hQ hS (.inl ⟨hg,hy⟩) h
theorem aA4.startN {P:Program} {ops:Array Oper} {Q:Exit->Act->World->Prop} (S:World->Prop) (L:Nat) {id:Nat} {a:Act} {w:World} (hm:P.follows .mixedOrders=true)
  (h:aA4 P .any ops (NoPanic Q) S L ops.size (Array.replicate ops.size false) a w.drew):(Code.region id ops true).wp P Q a w :=
 wp_region_noPanic (aA4.start S L hm h)
def aV3:Op->Bool
 | .defer _=>false
 | _=>true
def aPr (ops:Array Oper):Bool:=ops.all fun o=>aV3 o.op
section
variable {P:Program} {ops:Array Oper} {Q:Exit->Act->World->Prop} {md:Region.Mode} {l n:Nat}
theorem bO9 {o:Oper} (ho:aV3 o.op=true) {a:Act} {w:World} {K K':Act->World->Prop} (hK:∀ a w,K a w->K' a w) (h:o.wp P a w K Q):o.wpIn (Fence.wide.inRound l) n P a w K' Q:=by
 refine ⟨fun _ _=>trivial,?_⟩
 rw [Oper.semAt_eq _ _ _ (fun c h=>by rw [h] at ho;cases ho)]
 unfold Oper.wp at h;generalize (execOp a.eval o).run P w=r at *;cases r with
 | ok x w' =>
  cases x with
  | value v=>exact hK _ _ h
  | skip=>exact hK _ _ h
  | defer d=>exact hK _ _ h
  | enter f args=>exact ⟨(fun hd=>by cases hd),(CallsIn.inRound l ((callsIn_wide (n:=n-1)).2 h)).mono (fun e w'' he=>by cases e <;> first | exact hK _ _ he | exact he)⟩
  | row r args=>exact ⟨(fun hd=>by cases hd),fun c cs _=>let ⟨v,w'',hr,hs⟩:=h c cs;⟨v,w'',hK _ _ hr,stepsIn_wide.2 hs⟩⟩
  | round lr f tmps assign body=>exact h.elim
  | _=>first | exact h | exact h.elim
 | halt x w'=>cases x <;> first | exact h | exact h.elim
theorem op_in {i:Nat} (hd:aPr ops=true) (hq:¬ LetsOut Q) {a:Act} {w:World} {K K':Act->World->Prop} (hK:∀ a w,K a w->K' a w) (h:wpOp P ops Q i K a w):wpOpIn (Fence.wide.inRound l) n P ops Q i K' a w:=by
 unfold wpOp at h;unfold wpOpIn;cases ho:ops[i]? with
 | none=>simp only [ho] at h;exact hK _ _ h
 | some o =>
  simp only [ho] at h ⊢
  have hn:aV3 o.op=true:=by
   unfold aPr at hd;rw [Array.all_eq_true] at hd;obtain ⟨hi,e⟩:=Array.getElem?_eq_some_iff.1 ho;have:=hd i hi
   rwa [e] at this
  by_cases hw:Region.wanted o (yielded ops a.tmps)=true
  .rw [if_pos hw] at h ⊢;exact bO9 hn hK (h.resolve_right (fun e=>hq e.2))
  .rw [if_neg hw] at h ⊢;exact ⟨fun _ _=>trivial,hK _ _ h⟩
theorem bMy (hd:aPr ops=true) (hq:¬ LetsOut Q):∀ (fuel:Nat) (listed:Array Bool) (a:Act) (w:World),wpAny P md ops Q fuel listed a w->wpAnyIn (Fence.wide.inRound l) n P md ops Q fuel listed a w
 | 0,_,_,_,h=>h
 | fuel+1,_,_,_,h=>⟨h.1,fun i hi=>op_in hd hq (fun a w k=>bMy hd hq fuel _ a w k) (h.2 i hi)⟩
theorem aA4.startIn (S:World->Prop) (L:Nat) {id:Nat} {a:Act} {w:World} (hm:P.follows .mixedOrders=true) (hd:aPr ops=true) (hq:¬ LetsOut Q)
  (h:aA4 P .any ops Q S L ops.size (Array.replicate ops.size false) a w.drew):(Code.region id ops true).wpIn (Fence.wide.inRound l) n P Q a w :=
 wpIn_region_any hm (bMy hd hq _ _ _ _ (aA4.any _ _ _ _ h))
end
theorem bCf {n x:Nat} {pre:List Nat} (h:pre++[x] <+: (List.range n).reverse):x+pre.length+1=n:=by
 obtain ⟨t,ht⟩:=h;have hl:=congrArg List.length ht;simp at hl
 have hx:((List.range n).reverse)[pre.length]?=some x:=by
  rw [<- ht,List.append_assoc,List.getElem?_append_right (Nat.le_refl _),Nat.sub_self];rfl
 rw [List.getElem?_reverse (by simp;omega),List.length_range] at hx
 have:=(List.getElem?_eq_some_iff.1 hx).2;simp at this
 omega
theorem aXa (n:Nat):(List.range n).reverse.length=n:=by simp
def aG0:Nat->(Nat->Nat)->Nat
 | 0,_=>0
 | n+1,f=>aG0 n f+f n
section
variable (A:Nat->List Nat)
variable {A}
end
structure Tok where
 kind:Nat
 at_:Nat
 en:Nat
 num:Nat
 deriving DecidableEq
instance:Inhabited Tok:=⟨⟨0,0,0,0⟩⟩
def aSo (c:UInt8):Bool:=c==32||c==9||c==10||c==13
def aJh (c:UInt8):Bool:=(97<=c.toNat&&c.toNat<=122)||(65<=c.toNat&&c.toNat<=90)
def aEr (c:UInt8):Bool:=48<=c.toNat&&c.toNat<=57
def aEc (c:UInt8):Bool:=aJh c||aEr c||c.toNat==95
def signs1:List UInt8:=[59,58,44,40,41,46,63,60,62,43,45,42,47,37,33]
def signs2:List (UInt8 × UInt8):=[(46,46),(45,62),(58,61),(38,38),(124,124),(61,61),(33,61),(60,61),(62,61)]
def aHx:List UInt8->Nat->Nat
 | c :: l,k=>if aSo c then aHx l (k+1) else k
 | [],k=>k
def aD1 (f:UInt8->Bool):List UInt8->Nat->Nat
 | c :: l,k=>if f c then aD1 f l (k+1) else k
 | [],k=>k
def aMw:List UInt8->Nat->Option Nat
 | [],v=>some v
 | c :: l,v=>if 10*v+(c.toNat-48)<=1073741824 then aMw l (10*v+(c.toNat-48)) else none
def aRa:List UInt8->Option Nat
 | []=>none
 | c :: l=>if c==48&&0<l.length then none else aMw (c :: l) 0
def aOg:List UInt8->Nat
 | []=>0
 | [c]=>if signs1.contains c then 1 else 0
 | c :: d :: _=>if signs2.contains (c,d) then 2 else if signs1.contains c then 1 else 0
def aV2 (l:List UInt8) (k:Nat):Option Tok :=
 match l.drop k with
 | []=>none
 | c :: r =>
  if aJh c then
   let e:=aD1 aEc (c :: r) k
   if e-k<=24 then some ⟨1,k,e,0⟩ else none
  else if aEr c then
   let e:=aD1 aEr (c :: r) k
   match aRa ((c :: r).take (e-k)) with | some v=>some ⟨2,k,e,v⟩ | none=>none
  else if aOg (c :: r)=0 then none else some ⟨3,k,k+aOg (c :: r),0⟩
def aOf (l:List UInt8):Nat->Nat->Option (List Tok)
 | 0,_=>none
 | n+1,k =>
  if k<l.length then
   match aV2 l k with
   | some t=>(match aOf l n (aHx (l.drop t.en) t.en) with | some r=>some (t :: r) | none=>none)
   | none=>none
  else some []
def aGw (l:List UInt8):Option (List Tok) :=
 if l.all (· != 35)&&decide (l.length<=16384) then aOf l (l.length+1) (aHx l 0) else none
def wordL (l:List UInt8) (t:Tok):List UInt8:=(l.drop t.at_).take (t.en-t.at_)
def aB8 (l:List UInt8):List Tok->List UInt8
 | []=>[]
 | t :: _=>wordL l t
section
variable {P:Program} {ops:Array Oper} {Q:Exit->Act->World->Prop} {md:Region.Mode} {S:World->Prop} {L:Nat}
theorem aA4.two {i j:Nat} {o o2:Oper} {fuel:Nat} {listed:Array Bool} {a:Act} {w:World} (hr:Region.ready md ops listed=[i,j]) (ho:ops[i]?=some o) (ho2:ops[j]?=some o2)
  (h:∀ K':Act->World->Prop,Shut (∀ a w,(i≠L->S w)->aA4 P md ops Q S L fuel (listed.setIfInBounds i true) a w->K' a w)->if Region.wanted o (yielded ops a.tmps)=true then Oper.wp P o a w K' Q else K' (a.put o.dst undef) w)
  (h2:∀ K':Act->World->Prop,Shut (∀ a w,(j≠L->S w)->aA4 P md ops Q S L fuel (listed.setIfInBounds j true) a w->K' a w)->if Region.wanted o2 (yielded ops a.tmps)=true then Oper.wp P o2 a w K' Q else K' (a.put o2.dst undef) w) :
  aA4 P md ops Q S L (fuel+1) listed a w:=by
 refine And.intro (fun h=>by rw [h] at hr;exact absurd hr (by simp)) (fun k hk=>?_)
 rw [hr] at hk;have hk':k=i∨k=j:=by simpa using hk
 rcases hk' with rfl | rfl
 .exact wpOp_step ho (fun K' hK=>h K' (fun a w hS hW=>hK a w ⟨hS,hW⟩))
 .exact wpOp_step ho2 (fun K' hK=>h2 K' (fun a w hS hW=>hK a w ⟨hS,hW⟩))
theorem aA4.three {i j k:Nat} {o o2 o3:Oper} {fuel:Nat} {listed:Array Bool} {a:Act} {w:World} (hr:Region.ready md ops listed=[i,j,k]) (ho:ops[i]?=some o) (ho2:ops[j]?=some o2) (ho3:ops[k]?=some o3)
  (h:∀ K':Act->World->Prop,Shut (∀ a w,(i≠L->S w)->aA4 P md ops Q S L fuel (listed.setIfInBounds i true) a w->K' a w)->if Region.wanted o (yielded ops a.tmps)=true then Oper.wp P o a w K' Q else K' (a.put o.dst undef) w)
  (h2:∀ K':Act->World->Prop,Shut (∀ a w,(j≠L->S w)->aA4 P md ops Q S L fuel (listed.setIfInBounds j true) a w->K' a w)->if Region.wanted o2 (yielded ops a.tmps)=true then Oper.wp P o2 a w K' Q else K' (a.put o2.dst undef) w)
  (h3:∀ K':Act->World->Prop,Shut (∀ a w,(k≠L->S w)->aA4 P md ops Q S L fuel (listed.setIfInBounds k true) a w->K' a w)->if Region.wanted o3 (yielded ops a.tmps)=true then Oper.wp P o3 a w K' Q else K' (a.put o3.dst undef) w) :
  aA4 P md ops Q S L (fuel+1) listed a w:=by
 refine And.intro (fun h=>by rw [h] at hr;exact absurd hr (by simp)) (fun q hq=>?_)
 rw [hr] at hq;have hq':q=i∨q=j∨q=k:=by simpa using hq
 rcases hq' with rfl | rfl | rfl
 .exact wpOp_step ho (fun K' hK=>h K' (fun a w hS hW=>hK a w ⟨hS,hW⟩))
 .exact wpOp_step ho2 (fun K' hK=>h2 K' (fun a w hS hW=>hK a w ⟨hS,hW⟩))
 .exact wpOp_step ho3 (fun K' hK=>h3 K' (fun a w hS hW=>hK a w ⟨hS,hW⟩))
end
open Go.ChangeShapes Go.WideShapes Go.ChangeAt Go.RowKit Go.Deep
end Go.Proofs.YtmoebklkkjbigaaGreatDoor

