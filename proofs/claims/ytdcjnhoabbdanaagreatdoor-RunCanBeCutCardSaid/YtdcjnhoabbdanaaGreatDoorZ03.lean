/- Merged. -/
import Derived.Test.YtdcjnhoabbdanaaGreatDoorZ01
import Derived.Test.YtdcjnhoabbdanaaGreatDoorZ02
import Derived.Maps.Own
import Derived.Maps.OwnOps
import Derived.Maps.OwnSet
import Derived.Maps.Views
import Derived.OneCell
import Derived.Deep.WholeRow
import Derived.Laws.OwnMore
import Derived.Laws.CopyOwn
import Derived.Deep.RegionHeld
import Derived.ProofKit
import Derived.OpenShut
import Derived.Deep.Slices
import Derived.Deep.Fields
import Derived.ChangeSame
import Derived.Carry
set_option linter.unusedSimpArgs false
set_option linter.unnecessarySimpa false
set_option linter.unusedVariables false
set_option maxRecDepth 100000
open Go.Proofs.Tryz

namespace Go.Proofs.YtdcjnhoabbdanaaGreatDoor
theorem aLn (x y a b:Nat) (ha:a<2) (hb:b<2):(2*x+a)&&&(2*y+b)=2*(x&&&y)+a*b:=by
 have hab:a*b<2:=by
  have h1:a=0∨a=1:=by omega
  rcases h1 with rfl | rfl <;> omega
 refine Nat.eq_of_testBit_eq fun i=>?_
 rw [Nat.testBit_and];cases i with
 | zero =>
  have h1:a=0∨a=1:=by omega
  have h2:b=0∨b=1:=by omega
  rcases h1 with rfl | rfl <;> rcases h2 with rfl | rfl <;> simp [Nat.testBit_zero] <;> omega
 | succ i =>
  rw [Nat.testBit_succ,Nat.testBit_succ,Nat.testBit_succ,show (2*x+a) / 2=x by omega,show (2*y+b) / 2=y by omega,show (2*(x&&&y)+a*b) / 2=x&&&y by omega,Nat.testBit_and]
theorem aZ1 (n:Nat):∃ x a,a<2/\n=2*x+a:=⟨n / 2,n % 2,Nat.mod_lt _ (by decide),by omega⟩
theorem aT5 {s S:Nat} (h:s&&&S=s):s<=S:=by rw [<- h];exact Nat.and_le_right
theorem aW8:∀ n S:Nat,S<n->S≠0->∃ k m,S=2 ^ k*(2*m+1):=by
 intro n
 induction n with
 | zero=>intro S h;omega
 | succ n ih =>
  intro S h h0
  obtain ⟨x,a,ha,rfl⟩:=aZ1 S
  by_cases h1:a=1
  .subst h1;exact ⟨0,x,by omega⟩
  .obtain rfl:a=0:=by omega
   obtain ⟨k,m,e⟩:=ih x (by omega) (by omega)
   exact ⟨k+1,m,by rw [Nat.pow_succ,e];rw [Nat.mul_right_comm,Nat.mul_comm];omega⟩
theorem aV7 (w:Nat):∀ S,S<2 ^ w->S&&&(2 ^ w-1-S)=0:=by
 induction w with
 | zero => intro S h; have : S = 0 := by simpa using h
           subst this;rfl
 | succ w ih =>
  intro S h
  obtain ⟨x,a,ha,rfl⟩:=aZ1 S;have hp:2 ^ (w+1)=2*2 ^ w:=by rw [Nat.pow_succ];omega
  rw [show 2 ^ (w+1)-1-(2*x+a)=2*(2 ^ w-1-x)+(1-a) by omega,aLn _ _ _ _ ha (by omega),ih x (by omega)]
  have h1:a=0∨a=1:=by omega
  rcases h1 with rfl | rfl <;> rfl
theorem aXe (x y:Nat):(2*x)&&&(2*y)=2*(x&&&y):=by
 have:=aLn x y 0 0 (by decide) (by decide)
 simpa using this
theorem aTn (k m:Nat):2 ^ k*(2*m+1)&&&(2 ^ k*(2*m+1)-1)=2 ^ k*(2*m):=by
 induction k with
 | zero =>
  have:=aLn m m 1 0 (by decide) (by decide)
  simpa using this
 | succ k ih =>
  have hpos:0<2 ^ k*(2*m+1):=Nat.mul_pos (Nat.two_pow_pos k) (by omega)
  rw [show 2 ^ (k+1)*(2*m+1)=2*(2 ^ k*(2*m+1)) by rw [Nat.pow_succ,Nat.mul_comm (2 ^ k) 2,Nat.mul_assoc],
   show 2 ^ (k+1)*(2*m)=2*(2 ^ k*(2*m)) by rw [Nat.pow_succ,Nat.mul_comm (2 ^ k) 2,Nat.mul_assoc]]
  generalize 2 ^ k*(2*m+1)=S at *;have h:=aLn S (S-1) 0 1 (by decide) (by decide)
  rw [show 2*(S-1)+1=2*S-1 by omega] at h
  rw [<- ih];simpa using h
theorem aZj (k:Nat):∀ w m,2 ^ k*(2*m+1)<2 ^ w->2 ^ k*(2*m+1)&&&(2 ^ w-2 ^ k*(2*m+1))=2 ^ k:=by
 induction k with
 | zero =>
  intro w m h
  cases w with
  | zero=>simp at h
  | succ w =>
   have hp:2 ^ (w+1)=2*2 ^ w:=by rw [Nat.pow_succ];omega
   simp only [Nat.pow_zero,Nat.one_mul] at h ⊢
   rw [show 2 ^ (w+1)-(2*m+1)=2*(2 ^ w-1-m)+1 by omega,aLn _ _ _ _ (by decide) (by decide),aV7 w m (by omega)]
 | succ k ih =>
  intro w m h
  have e:2 ^ (k+1)*(2*m+1)=2*(2 ^ k*(2*m+1)):=by rw [Nat.pow_succ,Nat.mul_comm (2 ^ k) 2,Nat.mul_assoc]
  rw [e] at h ⊢;cases w with
  | zero =>
   have hpos:0<2 ^ k*(2*m+1):=Nat.mul_pos (Nat.two_pow_pos k) (by omega)
   omega
  | succ w =>
   have hp:2 ^ (w+1)=2*2 ^ w:=by rw [Nat.pow_succ];omega
   have h2:=ih w m (by omega)
   rw [show 2 ^ (w+1)-2*(2 ^ k*(2*m+1))=2*(2 ^ w-2 ^ k*(2*m+1)) by omega,aXe,h2,Nat.pow_succ]
   omega
def aAe (S:Nat):List Nat:=(List.range 32).filter (S.testBit ·)
theorem aIh:aAe 0=[]:=by unfold aAe;simp
theorem aCe {S v:Nat}:v∈aAe S↔v<32/\S.testBit v=true:=by unfold aAe;simp [List.mem_filter]
theorem aYw {k m w:Nat} (h:2 ^ k*(2*m+1)<2 ^ w):k<w:=by
 rcases Nat.lt_or_ge k w with hk | hk
 .exact hk
 .have h1:2 ^ w<=2 ^ k:=Nat.pow_le_pow_right (by decide) hk
  have h2:2 ^ k*1<=2 ^ k*(2*m+1):=Nat.mul_le_mul_left _ (by omega)
  omega
theorem aRc (k m i:Nat):(2 ^ k*(2*m+1)).testBit i=(decide (i=k)||(2 ^ k*(2*m)).testBit i):=by
 rw [Nat.testBit_two_pow_mul,Nat.testBit_two_pow_mul]
 by_cases h:i=k
 .subst h;simp [Nat.testBit_zero]
 .by_cases hk:k<=i
  .obtain ⟨j,rfl⟩:∃ j,i=k+(j+1):=⟨i-k-1,by omega⟩
   rw [show k+(j+1)-k=j+1 by omega,Nat.testBit_succ,Nat.testBit_succ,show (2*m+1) / 2=2*m / 2 by omega]
   simp
  .simp [h,hk]
theorem aLo (k m i:Nat) (h:i<=k):(2 ^ k*(2*m)).testBit i=false:=by
 rw [Nat.testBit_two_pow_mul]
 by_cases hk:i=k
 .subst hk;simp [Nat.testBit_zero]
 .have:¬ i ≥ k:=by omega
  simp [this]
theorem aG3 {k m:Nat} (h:2 ^ k*(2*m+1)<2 ^ 32):aAe (2 ^ k*(2*m+1))=k :: aAe (2 ^ k*(2*m)):=by
 have hk:k<32:=aYw h;unfold aAe;obtain ⟨d,hd⟩:∃ d,32=k+(1+d):=⟨31-k,by omega⟩
 rw [hd,List.range_add,List.filter_append,List.filter_append,List.range_add,List.map_append,List.filter_append,List.filter_append]
 have h1:∀ S:Nat,(∀ i,i<k->S.testBit i=false)->(List.range k).filter (S.testBit ·)=[]:=by
  intro S hS;rw [List.filter_eq_nil_iff];intro a ha;rw [hS a (List.mem_range.1 ha)];decide
 rw [h1 _ (fun i hi=>by rw [aRc,aLo k m i (by omega)];simp;omega),h1 _ (fun i hi=>aLo k m i (by omega))]
 have h2:(List.map (k+·) (List.range 1))=[k]:=rfl;rw [h2,List.nil_append,List.nil_append];have e1:List.filter (fun x=>(2 ^ k*(2*m+1)).testBit x) [k]=[k]:=by simp [aRc]
 have e2:List.filter (fun x=>(2 ^ k*(2*m)).testBit x) [k]=[]:=by simp [aLo k m k (Nat.le_refl _)]
 rw [e1,e2,List.nil_append,List.singleton_append]
 congr 1
 refine List.filter_congr fun i hi=>?_
 simp only [List.mem_map,List.mem_range] at hi
 obtain ⟨a,⟨b,_,rfl⟩,rfl⟩:=hi;rw [aRc];have:¬ k+(1+b)=k:=by omega
 simp [this]
def aQr:List (Int × Int)->Int
 | []=>1
 | b :: bs=>(b.2-b.1+1)*aQr bs
def okL (bs:List (Int × Int)):Prop:=∀ b∈bs,b.1<=b.2
def inL:List (Int × Int)->List Int->Prop
 | [],[]=>True
 | b :: bs,c :: cs=>b.1<=c/\c<=b.2/\inL bs cs
 | _,_=>False
theorem aSz {b:Int × Int} {bs:List (Int × Int)} (h:okL (b :: bs)):b.1<=b.2/\okL bs :=
 ⟨h b (List.mem_cons_self ..),fun x hx=>h x (List.mem_cons_of_mem _ hx)⟩
theorem aMv:∀ {bs:List (Int × Int)},okL bs->0<aQr bs
 | [],_=>by decide
 | b :: bs,h=>Int.mul_pos (by have:=(aSz h).1;omega) (aMv (aSz h).2)
def aNa:List (List (Int × Int))->Int
 | []=>1
 | t :: T=>aQr t*aNa T
def okN (T:List (List (Int × Int))):Prop:=∀ t∈T,okL t
def inN:List (List (Int × Int))->List (List Int)->Prop
 | [],[]=>True
 | t :: T,c :: C=>inL t c/\inN T C
 | _,_=>False
theorem aT0 {t:List (Int × Int)} {T:List (List (Int × Int))} (h:okN (t :: T)):okL t/\okN T :=
 ⟨h t (List.mem_cons_self ..),fun x hx=>h x (List.mem_cons_of_mem _ hx)⟩
theorem aQs:∀ {T:List (List (Int × Int))},okN T->0<aNa T
 | [],_=>by decide
 | _ :: _,h=>Int.mul_pos (aMv (aT0 h).1) (aQs (aT0 h).2)
theorem aOf (l:List Int) (a b:Int):l.foldl max (max a b)=max a (l.foldl max b):=by
 induction l generalizing b with
 | nil=>rfl
 | cons x l ih=>simp only [List.foldl_cons];rw [Int.max_assoc];exact ih _
theorem aPr (x:Int) (l:List Int):aD0 (l++[x])=max (aD0 l) x:=by
 unfold aD0;rw [List.foldl_append];rfl
theorem aTx (x:Int) (l:List Int):aD0 (x :: l)=max x (aD0 l):=by
 have h:=aOf l x 0;unfold aD0;rw [List.foldl_cons,Int.max_comm 0 x];exact h
theorem aPq (l:List Int):aD0 l.reverse=aD0 l:=by
 induction l with
 | nil=>rfl
 | cons x l ih=>rw [List.reverse_cons,aPr,ih,aTx,Int.max_comm]
def rl (num:Int->Int->Int):List Term->List Int
 | []=>[]
 | t :: ts=>num t.op (aD0 ((rl num ts).take (aAd t.op).toNat)) :: (rl num ts).drop (aAd t.op).toNat
theorem aM8 (num:Int->Int->Int) (l:List Term):∀ m,aF7 l m->lev num l=(rl num l).reverse:=by
 induction l with
 | nil=>intro m _;rfl
 | cons t ts ih =>
  intro m h
  obtain ⟨h1,h2,h3⟩:=h.cons;have hlen:=h3.lev_length num;have e:=ih _ h3;rw [e,List.length_reverse] at hlen;simp only [lev,rl]
  rw [e,List.length_reverse,List.reverse_cons,List.take_reverse,List.drop_reverse,aPq];have hsub:(rl num ts).length-((rl num ts).length-(aAd t.op).toNat)=(aAd t.op).toNat:=by omega
  rw [hsub]
theorem aFv (num:Int->Int->Int) (l:List Term) (m:Int) (h:aF7 l m):((rl num l).length:Int)=m:=by
 have:=h.lev_length num;rw [aM8 num l m h,List.length_reverse] at this;exact this
def wt (om:Bool->Int) (s:List (Int × Bool)):Int:=(s.map fun x=>om x.2).sum
def aCg (om:Bool->Int):List (Int × Bool)->List Int
 | []=>[]
 | (c,b) :: r=>List.replicate (c-1).toNat (wt om ((c,b) :: r))++aCg om r
def aR4 (om:Bool->Int) (s:List (Int × Bool)) (more:Bool):List Int:=if more then wt om s :: aCg om s else []
def fin (d:Int) (pl ds:List Int):Int:=(List.zipWith (·+·) pl ds).foldl max d
theorem aMw (om:Bool->Int) (c:Int) (b:Bool) (s:List (Int × Bool)):wt om ((c,b) :: s)=om b+wt om s:=by simp [wt]
theorem aSb (s:List (Int × Bool)) (h:aTg s):∃ more,∀ om,aCg om s=aR4 om (aWh s) more:=by
 induction s with
 | nil=>exact ⟨false,fun om=>rfl⟩
 | cons x r ih =>
  obtain ⟨c,b⟩:=x;have hc:=h (c,b) (by simp)
  simp only at hc
  by_cases h1:c-1=0
  .obtain ⟨more,hm⟩:=ih h.tail
   refine ⟨more,fun om=>?_⟩
   simp only [aCg,aWh,if_pos h1]
   rw [h1];exact hm om
  .refine ⟨true,fun om=>?_⟩
   simp only [aCg,aWh,if_neg h1,aR4,if_true]
   have e:(c-1).toNat=(c-1-1).toNat+1:=by omega
   rw [e,List.replicate_succ,List.cons_append,aMw,aMw]
theorem aHt (om:Bool->Int) (a:Int) (b:Bool) (s:List (Int × Bool)) (ha:1<=a):aR4 om ((a,b) :: s) true=List.replicate a.toNat (wt om ((a,b) :: s))++aCg om s:=by
 simp only [aR4,if_true,aCg]
 have e:a.toNat=(a-1).toNat+1:=by omega
 rw [e,List.replicate_succ,List.cons_append]
theorem aOe (l:List Int) (d c x:Int):(l.map (c+·)).foldl max (max d (c+x))=max d (c+l.foldl max x):=by
 induction l generalizing x with
 | nil=>rfl
 | cons y l ih =>
  simp only [List.map_cons,List.foldl_cons]
  rw [Int.max_assoc,show max (c+x) (c+y)=c+max x y by omega]
  exact ih _
theorem aXw (d p de:Int) (pl R:List Int) (a:Nat) (h:a<=R.length) :
  fin d (p :: pl) ((aD0 (R.take a)+de) :: R.drop a)=fin (max d (p+de)) (List.replicate a (p+de)++pl) R:=by
 unfold fin
 have hz:List.zipWith (·+·) (List.replicate a (p+de)++pl) R=(R.take a).map ((p+de)+·)++List.zipWith (·+·) pl (R.drop a):=by
  have hR:=(List.take_append_drop a R).symm;have hl:(List.replicate a (p+de)).length=(R.take a).length:=by rw [List.length_replicate,List.length_take];omega
  have e:List.zipWith (·+·) (List.replicate a (p+de)++pl) R=List.zipWith (·+·) (List.replicate a (p+de)++pl) (R.take a++R.drop a):=by rw [List.take_append_drop]
  rw [e,List.zipWith_append hl]
  congr 1
  generalize hQ:R.take a=Q at *;have:Q.length=a:=by rw [<- hl,List.length_replicate]
  clear hQ hR e hl h;subst this
  induction Q with
  | nil=>rfl
  | cons y Q ih=>simp only [List.length_cons,List.replicate_succ,List.zipWith_cons_cons,List.map_cons,ih]
 rw [hz,List.foldl_append];simp only [List.zipWith_cons_cons,List.foldl_cons]
 have:=aOe (R.take a) d (p+de) 0;rw [Int.add_zero] at this;rw [this]
 congr 1
 unfold aD0;omega
def omD (_:Bool):Int:=1
def omN (b:Bool):Int:=if b then 1 else 0
theorem bAi (s:List (Int × Bool)):wt omD s=s.length:=by
 induction s with
 | nil=>rfl
 | cons x s ih=>obtain ⟨c,b⟩:=x;rw [aMw,ih];simp [omD];omega
theorem bAj (s:List (Int × Bool)):wt omN s=aEw s:=by
 induction s with
 | nil=>rfl
 | cons x s ih =>
  obtain ⟨c,b⟩:=x;rw [aMw,ih];unfold aEw omN;cases b
  .simp
  .simp;omega
theorem aRi (op g:Int):aC2 op g=g+omD (aAa op):=rfl
theorem aU7 (op g:Int):aCf op g=g+omN (aAa op):=by unfold aCf omN;split <;> simp
theorem aTb (num:Int->Int->Int) (om:Bool->Int) (hnum:∀ op g,num op g=g+om (aAa op)) (d:Int) (t:Term) (ts:List Term) (s:List (Int × Bool)) (hl:(aAd t.op).toNat<=(rl num ts).length) :
  fin d (aR4 om s true) (rl num (t :: ts))=fin (max d (wt om ((aAd t.op,aAa t.op) :: s))) (List.replicate (aAd t.op).toNat (wt om ((aAd t.op,aAa t.op) :: s))++aCg om s) (rl num ts):=by
 simp only [rl,aR4,if_true]
 rw [hnum,aXw _ _ _ _ _ _ hl,aMw,Int.add_comm (om _) (wt om s)]
theorem aUj (ts:List Term):∀ (s:List (Int × Bool)) (d n:Int) (more:Bool),aTg s->aF7 ts (aR4 omD s more).length->aF7 ts (aR4 omN s more).length ->
  aL5 ts s d n=(fin d (aR4 omD s more) (rl aC2 ts),fin n (aR4 omN s more) (rl aCf ts)):=by
 induction ts with
 | nil =>
  intro s d n more _ h _
  cases more with
  | false=>rfl
  | true =>
   rcases h with ⟨_,h⟩ | ⟨_,h⟩
   .simp [aR4] at h;omega
   .simp [aIc] at h
 | cons t ts ih =>
  intro s d n more hw hD hN
  cases more with
  | false=>have:=hD.cons.1;simp [aR4] at this
  | true =>
   obtain ⟨_,h0,hD2⟩:=hD.cons;obtain ⟨_,_,hN2⟩:=hN.cons;have lD:=aFv aC2 ts _ hD2;have lN:=aFv aCf ts _ hN2;have eD:((aR4 omD s true).length:Int)=1+(aCg omD s).length:=by simp [aR4];omega
   have eN:((aR4 omN s true).length:Int)=1+(aCg omN s).length:=by simp [aR4];omega
   rw [aTb aC2 omD aRi d t ts s (by omega),aTb aCf omN aU7 n t ts s (by omega)]
   simp only [aL5]
   rw [<- bAj,<- bAi]
   rcases Int.lt_or_eq_of_le h0 with ha | ha
   .have hne:aEg ((aAd t.op,aAa t.op) :: s)=(aAd t.op,aAa t.op) :: s:=aQ5 _ _ _ (by omega)
    rw [hne,<- aHt omD _ _ _ (by omega),<- aHt omN _ _ _ (by omega)]
    refine ih _ _ _ _ ?_ ?_ ?_
    .have:=aNp (b:=aAa t.op) hw h0 (aG1 t.op).2
     rw [hne] at this;exact this.1
    .rw [aHt _ _ _ _ (by omega),List.length_append,List.length_replicate]
     rw [eD] at hD2;have:(((aAd t.op).toNat+(aCg omD s).length:Nat):Int)=1+(aCg omD s).length+(aAd t.op-1):=by omega
     rw [this];exact hD2
    .rw [aHt _ _ _ _ (by omega),List.length_append,List.length_replicate]
     rw [eN] at hN2;have:(((aAd t.op).toNat+(aCg omN s).length:Nat):Int)=1+(aCg omN s).length+(aAd t.op-1):=by omega
     rw [this];exact hN2
   .have hne:aEg ((aAd t.op,aAa t.op) :: s)=aWh s:=by simp [aEg,<- ha]
    obtain ⟨more,hm⟩:=aSb s hw;rw [hne,<- ha];simp only [Int.toNat_zero,List.replicate_zero,List.nil_append]
    rw [hm omD,hm omN];refine ih _ _ _ _ (aMj hw).1 ?_ ?_
    .rw [<- hm omD];rw [eD,<- ha] at hD2
     have:(1+((aCg omD s).length:Int)+(0-1))=(aCg omD s).length:=by omega
     rw [this] at hD2;exact hD2
    .rw [<- hm omN];rw [eN,<- ha] at hN2
     have:(1+((aCg omN s).length:Int)+(0-1))=(aCg omN s).length:=by omega
     rw [this] at hN2;exact hN2
theorem aM9 (num:Int->Int->Int) (hn:∀ op g,0<=g->0<=num op g/\num op g<=g+1) (es:List Term) (h:endF es 0=es.length):fin 0 [0] (rl num es)=aDc num es:=by
 have hF:=aEv h;have hl:=aFv num es 1 hF;obtain ⟨x,hx⟩:∃ x,rl num es=[x]:=List.length_eq_one_iff.1 (by omega)
 have hlev:=aM8 num es 1 hF;unfold aDc;rw [if_pos h,hlev,hx];have hb:=(aPx num hn es).2 x (by rw [hlev,hx];simp)
 simp [fin];omega
theorem aT6 (es:List Term) (h:endF es 0=es.length):aL5 es [] 0 0=(aD2 es,aGs es):=by
 have hF:=aEv h;rw [aUj es [] 0 0 true (fun _ h=>by simp at h) hF hF]
 show (fin 0 [0] (rl aC2 es),fin 0 [0] (rl aCf es))=_
 rw [aM9 aC2 aLv es h,aM9 aCf aNo es h];rfl
theorem aK2 (es:List Term):aUv es=(endF es 0==es.length):=by
 unfold aUv;rw [Bool.eq_iff_iff];simp
 intro h
 have:=aRl es 0;omega
theorem aKf (es:List Term) (h:endF es 0=es.length):∀ t∈es,0<=aAd t.op:=by
 intro t ht
 obtain ⟨i,hi,rfl⟩:=List.getElem_of_mem ht;exact (aYv aC2 (aEv h) hi).1
theorem aYm (l:List Term):∀ (m1 m2:Int),1<=m1->1<=m2->aIc l (m1+m2)=(match aIc l m1 with | none=>none | some n=>(aIc (l.drop n) m2).map (n+·)):=by
 induction l with
 | nil=>intro m1 m2 _ _;rfl
 | cons t ts ih =>
  intro m1 m2 h1 h2
  simp only [aIc]
  by_cases ha:aAd t.op<0
  .simp only [if_pos ha]
  .simp only [if_neg ha]
   rw [if_neg (by omega)]
   by_cases h0:m1+(aAd t.op-1)=0
   .rw [if_pos h0]
    simp only [List.drop_succ_cons,List.drop_zero]
    rw [show m1+m2+(aAd t.op-1)=m2 by omega]
    congr 1;funext x;omega
   .rw [if_neg h0,show m1+m2+(aAd t.op-1)=(m1+(aAd t.op-1))+m2 by omega,ih _ _ (by omega) h2]
    cases aIc ts (m1+(aAd t.op-1)) with
    | none=>rfl
    | some n =>
     simp only [Option.map_some,List.drop_succ_cons,Option.map_map]
     congr 1;funext x;simp;omega
theorem aXp (es:List Term) (k:Nat) (h:k<es.length):endF es (k:Int)=aCj es k 1:=by
 unfold endF;rw [if_neg (by omega),Int.toNat_natCast]
theorem aMu (l r:List Term):∀ (m:Int) (n:Nat),aIc l m=some n->aIc (l++r) m=some n:=by
 induction l with
 | nil=>intro m n h;simp [aIc] at h
 | cons t ts ih =>
  intro m n h
  simp only [aIc] at h
  split at h
  .cases h
  .rename_i ha
   split at h
   .rename_i h0
    simp only [List.cons_append,aIc,if_neg ha,if_pos h0];exact h
   .rename_i h0
    cases hs:aIc ts (m+(aAd t.op-1)) with
    | none=>rw [hs] at h;cases h
    | some q =>
     rw [hs] at h;simp only [List.cons_append,aIc,if_neg ha,if_neg h0,ih _ _ hs];exact h
theorem aSs {p:List Term} (h:aF7 p 1):endF p 0=p.length:=by
 rcases h with ⟨_,h⟩ | ⟨_,h⟩
 .omega
 .have:=aSg _ _ _ h
  unfold endF aCj;rw [if_neg (by omega)]
  simp only [Int.toNat_zero,List.drop_zero,h]
  simp
theorem aF7.pos {p:List Term} (h:aF7 p 1):0<p.length:=by
 rcases h with ⟨_,h⟩ | ⟨_,h⟩
 .omega
 .exact (aSg _ _ _ h).1
theorem aF7.add {p q:List Term} {m1 m2:Int} (hp:aF7 p m1) (hq:aF7 q m2) (h1:1<=m1) (h2:1<=m2):aF7 (p++q) (m1+m2):=by
 rcases hp with ⟨_,h⟩ | ⟨_,hp⟩
 .omega
 .rcases hq with ⟨_,h⟩ | ⟨_,hq⟩
  .omega
  .right
   refine ⟨by omega,?_⟩
   rw [aYm _ _ _ h1 h2,aMu p q _ _ hp];simp only [List.drop_left,hq,Option.map_some,List.length_append]
theorem aF7.mk {t:Term} {ts:List Term} (h:aF7 ts (aAd t.op)) (h1:1<=aAd t.op):aF7 (t :: ts) 1:=by
 rcases h with ⟨_,h⟩ | ⟨_,h⟩
 .omega
 .right
  refine ⟨by omega,?_⟩
  simp only [aIc]
  rw [if_neg (by omega),if_neg (by omega),show 1+(aAd t.op-1)=aAd t.op by omega,h]
  rfl
theorem aFu (num:Int->Int->Int) (p r:List Term):∀ m,aF7 p m->rl num (p++r)=rl num p++rl num r:=by
 induction p with
 | nil=>intro m _;rfl
 | cons t ts ih =>
  intro m h
  obtain ⟨h1,h2,h3⟩:=h.cons;have hl:=aFv num ts _ h3;simp only [List.cons_append,rl]
  rw [ih _ h3,List.take_append_of_le_length (by omega),List.drop_append_of_le_length (by omega)]
theorem aBw (num:Int->Int->Int) {p:List Term} (h:aF7 p 1):rl num p=[aDc num p]:=by
 have hl:=aFv num p 1 h;obtain ⟨x,hx⟩:∃ x,rl num p=[x]:=List.length_eq_one_iff.1 (by omega)
 have hlev:=aM8 num p 1 h;unfold aDc;rw [if_pos (aSs h),hlev,hx];rfl
theorem aR2 (es:List Term) (vars:Int):aAs es vars=true↔es.length<=200/\aF7 es 1/\(∀ t∈es,aFo t vars=true)/\aD2 es<=24/\aGs es<=2:=by
 unfold aAs;simp only [Bool.and_eq_true,decide_eq_true_eq,beq_iff_eq,List.all_eq_true]
 constructor
 .rintro ⟨⟨⟨⟨a,b⟩,c⟩,d⟩,e⟩
  exact ⟨a,aEv b,c,d,e⟩
 .rintro ⟨a,b,c,d,e⟩
  exact ⟨⟨⟨⟨a,aSs b⟩,c⟩,d⟩,e⟩
theorem aE1 (num:Int->Int->Int) {t:Term} {ts:List Term} (h:aF7 ts (aAd t.op)) (h1:1<=aAd t.op):aDc num (t :: ts)=num t.op (aD0 (rl num ts)):=by
 have hs:=aBw num (aF7.mk h h1);have hl:=aFv num ts _ h;simp only [rl] at hs
 injection hs with h2 _
 rw [<- h2,List.take_of_length_le (by omega)]
inductive Ex where
 | leaf (t:Term)
 | un (t:Term) (a:Ex)
 | bin (t:Term) (a b:Ex)
 | tri (t:Term) (a b c:Ex)
def Ex.terms:Ex->List Term
 | .leaf t=>[t]
 | .un t a=>t :: a.terms
 | .bin t a b=>t :: (a.terms++b.terms)
 | .tri t a b c=>t :: (a.terms++(b.terms++c.terms))
def Ex.len (x:Ex):Nat:=x.terms.length
def Ex.ok:Ex->Prop
 | .leaf t=>aAd t.op=0
 | .un t a=>aAd t.op=1/\a.ok
 | .bin t a b=>aAd t.op=2/\a.ok/\b.ok
 | .tri t a b c=>aAd t.op=3/\a.ok/\b.ok/\c.ok
theorem Ex.pos (x:Ex):0<x.len:=by cases x <;> simp [Ex.len,Ex.terms]
theorem Ex.full {x:Ex} (h:x.ok):aF7 x.terms 1:=by
 induction x with
 | leaf t =>
  simp only [Ex.ok] at h
  right
  refine ⟨by omega,?_⟩
  simp [Ex.terms,aIc,h]
 | un t a ih =>
  obtain ⟨h1,h2⟩:=h;exact aF7.mk (by rw [h1];exact ih h2) (by omega)
 | bin t a b iha ihb =>
  obtain ⟨h1,h2,h3⟩:=h;exact aF7.mk (by rw [h1];exact aF7.add (m1:=1) (m2:=1) (iha h2) (ihb h3) (by omega) (by omega)) (by omega)
 | tri t a b c iha ihb ihc =>
  obtain ⟨h1,h2,h3,h4⟩:=h;exact aF7.mk (by rw [h1];exact aF7.add (m1:=1) (m2:=2) (iha h2) (aF7.add (m1:=1) (m2:=1) (ihb h3) (ihc h4) (by omega) (by omega)) (by omega) (by omega)) (by omega)
theorem parse (l:List Term):∀ m,aF7 l m->∃ xs:List Ex,(∀ x∈xs,x.ok)/\xs.flatMap Ex.terms=l/\(xs.length:Int)=m:=by
 induction l with
 | nil =>
  intro m h
  rcases h with ⟨_,h⟩ | ⟨_,h⟩
  .exact ⟨[],fun _ h=>by simp at h,rfl,by simp [h]⟩
  .simp [aIc] at h
 | cons t ts ih =>
  intro m h
  obtain ⟨h1,h2,h3⟩:=h.cons;obtain ⟨xs,hok,hfl,hlen⟩:=ih _ h3;have h4:=(aG1 t.op).2
  rcases (show aAd t.op=0∨aAd t.op=1∨aAd t.op=2∨aAd t.op=3 by omega) with ha | ha | ha | ha
  .refine ⟨.leaf t :: xs,?_,by simp [Ex.terms,hfl],by simp;omega⟩
   intro x hx
   rcases List.mem_cons.1 hx with e | e
   .subst e;exact ha
   .exact hok x e
  .match xs,hok,hfl,hlen with
   | [],_,_,hlen=>simp at hlen;omega
   | a :: xs,hok,hfl,hlen =>
    refine ⟨.un t a :: xs,?_,by simp [Ex.terms,<- hfl],by simp at hlen ⊢;omega⟩
    intro x hx
    rcases List.mem_cons.1 hx with e | e
    .subst e;exact ⟨ha,hok a (by simp)⟩
    .exact hok x (by simp [e])
  .match xs,hok,hfl,hlen with
   | [],_,_,hlen=>simp at hlen;omega
   | [a],_,_,hlen=>simp at hlen;omega
   | a :: b :: xs,hok,hfl,hlen =>
    refine ⟨.bin t a b :: xs,?_,by simp [Ex.terms,<- hfl],by simp at hlen ⊢;omega⟩
    intro x hx
    rcases List.mem_cons.1 hx with e | e
    .subst e;exact ⟨ha,hok a (by simp),hok b (by simp)⟩
    .exact hok x (by simp [e])
  .match xs,hok,hfl,hlen with
   | [],_,_,hlen=>simp at hlen;omega
   | [a],_,_,hlen=>simp at hlen;omega
   | [a,b],_,_,hlen=>simp at hlen;omega
   | a :: b :: c :: xs,hok,hfl,hlen =>
    refine ⟨.tri t a b c :: xs,?_,by simp [Ex.terms,<- hfl],by simp at hlen ⊢;omega⟩
    intro x hx
    rcases List.mem_cons.1 hx with e | e
    .subst e;exact ⟨ha,hok a (by simp),hok b (by simp),hok c (by simp)⟩
    .exact hok x (by simp [e])
theorem bAg {l:List Term} (h:aF7 l 1):∃ x:Ex,x.ok/\x.terms=l:=by
 obtain ⟨xs,h1,h2,h3⟩:=parse l 1 h;obtain ⟨x,rfl⟩:∃ x,xs=[x]:=List.length_eq_one_iff.1 (by omega)
 exact ⟨x,h1 x (by simp),by simpa using h2⟩
def Ex.At (es:List Term) (k:Nat) (x:Ex):Prop:=x.ok/\∃ r,es.drop k=x.terms++r
theorem At.whole {es:List Term} {x:Ex} (h:x.ok) (he:x.terms=es):x.At es 0:=⟨h,[],by simp [he]⟩
theorem aF9 {es r:List Term} {k n:Nat} {p:List Term} (h:es.drop k=p++r) (hn:p.length=n):es.drop (k+n)=r:=by
 rw [<- List.drop_drop,h,<- hn,List.drop_left]
theorem At.bound {es:List Term} {k:Nat} {x:Ex} (h:x.At es k):k+x.len<=es.length:=by
 obtain ⟨_,r,hr⟩:=h;have:=congrArg List.length hr;have hp:=x.pos;simp only [List.length_drop,List.length_append] at this
 unfold Ex.len at *;omega
theorem At.lt {es:List Term} {k:Nat} {x:Ex} (h:x.At es k):k<es.length:=by
 have:=At.bound h;have:=x.pos;omega
theorem aIy {es r:List Term} {k:Nat} {t:Term} (h:es.drop k=t :: r):es[k]?=some t/\es.drop (k+1)=r:=by
 refine ⟨?_,?_⟩
 .have:=congrArg (·[0]?) h
  simpa using this
 .exact aF9 (p:=[t]) h rfl
theorem At.leaf {es:List Term} {k:Nat} {t:Term} (h:(Ex.leaf t).At es k):es[k]?=some t/\aAd t.op=0:=by
 obtain ⟨h1,r,hr⟩:=h;exact ⟨(aIy hr).1,h1⟩
theorem At.un {es:List Term} {k:Nat} {t:Term} {a:Ex} (h:(Ex.un t a).At es k):es[k]?=some t/\aAd t.op=1/\a.At es (k+1):=by
 obtain ⟨⟨h1,h2⟩,r,hr⟩:=h;obtain ⟨g1,g2⟩:=aIy hr;exact ⟨g1,h1,h2,r,g2⟩
theorem At.bin {es:List Term} {k:Nat} {t:Term} {a b:Ex} (h:(Ex.bin t a b).At es k):es[k]?=some t/\aAd t.op=2/\a.At es (k+1)/\b.At es (k+1+a.len):=by
 obtain ⟨⟨h1,h2,h3⟩,r,hr⟩:=h;obtain ⟨g1,g2⟩:=aIy (r:=_++r) hr;rw [List.append_assoc] at g2;exact ⟨g1,h1,⟨h2,_,g2⟩,h3,r,aF9 g2 rfl⟩
theorem At.tri {es:List Term} {k:Nat} {t:Term} {a b c:Ex} (h:(Ex.tri t a b c).At es k):es[k]?=some t/\aAd t.op=3/\a.At es (k+1)/\b.At es (k+1+a.len)/\c.At es (k+1+a.len+b.len):=by
 obtain ⟨⟨h1,h2,h3,h4⟩,r,hr⟩:=h;obtain ⟨g1,g2⟩:=aIy (r:=_++r) hr;rw [List.append_assoc] at g2;have g3:=aF9 g2 rfl;rw [List.append_assoc] at g3;exact ⟨g1,h1,⟨h2,_,g2⟩,⟨h3,_,g3⟩,h4,r,aF9 g3 rfl⟩
theorem At.endF {es:List Term} {k:Nat} {x:Ex} (h:x.At es k):endF es (k:Int)=((k+x.len:Nat):Int):=by
 have hlt:=At.lt h;obtain ⟨hok,r,hr⟩:=h;rw [aXp es k hlt];unfold aCj
 rcases Ex.full hok with ⟨_,h⟩ | ⟨_,h⟩
 .omega
 .rw [hr,aMu _ r _ _ h];simp [Ex.len]
theorem aQ7 {es:List Term} {k:Nat} {t:Term} (h:es[k]?=some t):opAt es (k:Int)=t.op:=by
 obtain ⟨h1,h2⟩:=List.getElem?_eq_some_iff.1 h;rw [aT1 h1,h2]
theorem At.operand1 {es:List Term} {k:Nat} {x a:Ex} {t:Term} (h:x.At es k) (ht:es[k]?=some t) (har:2<=aAd t.op) (ha:a.At es (k+1)):aCv es (k:Int) 1=((k+1+a.len:Nat):Int):=by
 unfold aCv;rw [At.endF h,aQ7 ht,if_neg (by omega)]
 show Go.Proofs.YtdcjnhoabbdanaaGreatDoor.endF es ((k:Int)+1)=_
 rw [show (k:Int)+1=((k+1:Nat):Int) by omega,At.endF ha]
theorem At.operand2 {es:List Term} {k:Nat} {x a b:Ex} {t:Term} (h:x.At es k) (ht:es[k]?=some t) (har:3<=aAd t.op) (ha:a.At es (k+1)) (hb:b.At es (k+1+a.len)):aCv es (k:Int) 2=((k+1+a.len+b.len:Nat):Int):=by
 unfold aCv;rw [At.endF h,aQ7 ht,if_neg (by omega)]
 show Go.Proofs.YtdcjnhoabbdanaaGreatDoor.endF es (Go.Proofs.YtdcjnhoabbdanaaGreatDoor.endF es ((k:Int)+1))=_
 rw [show (k:Int)+1=((k+1:Nat):Int) by omega,At.endF ha,At.endF hb]
def Ex.depth:Ex->Int
 | .leaf _=>1
 | .un _ a=>a.depth+1
 | .bin _ a b=>max a.depth b.depth+1
 | .tri _ a b c=>max a.depth (max b.depth c.depth)+1
def Ex.nest:Ex->Int
 | .leaf _=>0
 | .un t a=>if aAa t.op then a.nest+1 else a.nest
 | .bin _ a b=>max a.nest b.nest
 | .tri _ a b c=>max a.nest (max b.nest c.nest)
theorem Ex.depth_pos (x:Ex):1<=x.depth:=by
 induction x <;> simp only [Ex.depth] <;> omega
theorem Ex.nest_pos (x:Ex):0<=x.nest:=by
 induction x with
 | leaf t=>simp [Ex.nest]
 | un t a ih=>simp only [Ex.nest];split <;> omega
 | bin t a b iha ihb=>simp only [Ex.nest];omega
 | tri t a b c iha ihb ihc=>simp only [Ex.nest];omega
theorem aV6 {op:Int} (h:aAa op=true):aAd op=1:=by
 unfold aAa at h;have:20<=op/\op<=29:=by simpa using h
 unfold aAd;rw [if_neg (by omega),if_neg (by omega),if_pos (by omega)]
theorem aGv {op:Int} (h:aAd op≠1):aAa op=false:=by
 cases hb:aAa op with
 | false=>rfl
 | true=>exact absurd (aV6 hb) h
theorem aMa (num:Int->Int->Int) {t:Term} (h:aAd t.op=0):aDc num [t]=num t.op 0:=by
 have hF:aF7 [t] 1:=Ex.full (x := .leaf t) h;have:=aBw num hF;simp only [rl] at this
 injection this with h1 _
 rw [<- h1,h];rfl
theorem Ex.levels_depth {x:Ex} (h:x.ok):aD2 x.terms=x.depth:=by
 unfold aD2
 induction x with
 | leaf t=>simp only [Ex.terms];rw [aMa _ h];rfl
 | un t a ih =>
  obtain ⟨h1,h2⟩:=h;have hp:=a.depth_pos;simp only [Ex.terms]
  rw [aE1 _ (by rw [h1];exact Ex.full h2) (by omega),aBw _ (Ex.full h2),ih h2]
  simp [aD0,aC2,Ex.depth];omega
 | bin t a b iha ihb =>
  obtain ⟨h1,h2,h3⟩:=h;have hp:=a.depth_pos;have hq:=b.depth_pos;simp only [Ex.terms]
  rw [aE1 _ (by rw [h1];exact aF7.add (m1:=1) (m2:=1) (Ex.full h2) (Ex.full h3) (by omega) (by omega)) (by omega),aFu _ _ _ 1 (Ex.full h2),aBw _ (Ex.full h2),aBw _ (Ex.full h3),iha h2,ihb h3]
  simp [aD0,aC2,Ex.depth];omega
 | tri t a b c iha ihb ihc =>
  obtain ⟨h1,h2,h3,h4⟩:=h;have hp:=a.depth_pos;have hq:=b.depth_pos;have hr:=c.depth_pos;simp only [Ex.terms]
  rw [aE1 _ (by rw [h1];exact aF7.add (m1:=1) (m2:=2) (Ex.full h2) (aF7.add (m1:=1) (m2:=1) (Ex.full h3) (Ex.full h4) (by omega) (by omega)) (by omega) (by omega)) (by omega),aFu _ _ _ 1 (Ex.full h2),aFu _ _ _ 1 (Ex.full h3),aBw _ (Ex.full h2),aBw _ (Ex.full h3),aBw _ (Ex.full h4),iha h2,ihb h3,ihc h4]
  simp [aD0,aC2,Ex.depth];omega
theorem Ex.levels_nest {x:Ex} (h:x.ok):aGs x.terms=x.nest:=by
 unfold aGs
 induction x with
 | leaf t =>
  simp only [Ex.terms];rw [aMa _ h]
  have:=aGv (op:=t.op) (by rw [h];omega)
  simp [aCf,this,Ex.nest]
 | un t a ih =>
  obtain ⟨h1,h2⟩:=h;have hp:=a.nest_pos;simp only [Ex.terms]
  rw [aE1 _ (by rw [h1];exact Ex.full h2) (by omega),aBw _ (Ex.full h2),ih h2]
  have:aD0 [a.nest]=a.nest:=by simp [aD0];omega
  rw [this];simp [aCf,Ex.nest]
 | bin t a b iha ihb =>
  obtain ⟨h1,h2,h3⟩:=h;have hp:=a.nest_pos;have hq:=b.nest_pos;have hag:=aGv (op:=t.op) (by rw [h1];omega)
  simp only [Ex.terms]
  rw [aE1 _ (by rw [h1];exact aF7.add (m1:=1) (m2:=1) (Ex.full h2) (Ex.full h3) (by omega) (by omega)) (by omega),aFu _ _ _ 1 (Ex.full h2),aBw _ (Ex.full h2),aBw _ (Ex.full h3),iha h2,ihb h3]
  simp [aD0,aCf,hag,Ex.nest];omega
 | tri t a b c iha ihb ihc =>
  obtain ⟨h1,h2,h3,h4⟩:=h;have hp:=a.nest_pos;have hq:=b.nest_pos;have hr:=c.nest_pos;have hag:=aGv (op:=t.op) (by rw [h1];omega)
  simp only [Ex.terms]
  rw [aE1 _ (by rw [h1];exact aF7.add (m1:=1) (m2:=2) (Ex.full h2) (aF7.add (m1:=1) (m2:=1) (Ex.full h3) (Ex.full h4) (by omega) (by omega)) (by omega) (by omega)) (by omega),aFu _ _ _ 1 (Ex.full h2),aFu _ _ _ 1 (Ex.full h3),aBw _ (Ex.full h2),aBw _ (Ex.full h3),aBw _ (Ex.full h4),iha h2,ihb h3,ihc h4]
  simp [aD0,aCf,hag,Ex.nest];omega
theorem aUt {es:List Term} {vars:Int} (h:aAs es vars=true):∃ x:Ex,x.ok/\x.terms=es/\es.length<=200/\(∀ t∈es,aFo t vars=true)/\x.depth<=24/\x.nest<=2:=by
 obtain ⟨h1,h2,h3,h4,h5⟩:=(aR2 es vars).1 h;obtain ⟨x,hx,rfl⟩:=bAg h2;exact ⟨x,hx,rfl,h1,h3,by rw [<- Ex.levels_depth hx];exact h4,by rw [<- Ex.levels_nest hx];exact h5⟩
structure Link where
 «to»:Int
 weight:Int
instance:Inhabited Link:=⟨⟨0,0⟩⟩
structure Graph where
 ids:List Int
 ports:List (List Link)
structure Var where
 name:ByteArray
 kind:Int
 lo:Int
 hi:Int
 perNode:Int
 perID:Int
instance:Inhabited Var:=⟨⟨ByteArray.empty,0,0,0,0,0⟩⟩
structure SetT where
 var:Int
 value:List Term
instance:Inhabited SetT:=⟨⟨0,[]⟩⟩
structure Rule where
 name:ByteArray
 guard:List Term
 sets:List SetT
instance:Inhabited Rule:=⟨⟨ByteArray.empty,[],[]⟩⟩
structure Prg where
 name:ByteArray
 vars:List Var
 rules:List Rule
abbrev aA5:=List (List Int)
def aHh:List Term->List Ex
 | []=>[]
 | t :: ts =>
  let s:=aHh ts
  if aAd t.op=0 then .leaf t :: s
  else if aAd t.op=1 then (match s with | a :: s => .un t a :: s | []=>[])
  else if aAd t.op=2 then (match s with | a :: b :: s => .bin t a b :: s | _=>[])
  else (match s with | a :: b :: c :: s => .tri t a b c :: s | _=>[])
def aAp (es:List Term):Ex:=(aHh es).headD (.leaf default)
theorem aP2 {x:Ex} (h:x.ok) (r:List Term):aHh (x.terms++r)=x :: aHh r:=by
 induction x generalizing r with
 | leaf t=>simp only [Ex.ok] at h;simp [Ex.terms,aHh,h]
 | un t a ih=>obtain ⟨h1,h2⟩:=h;simp [Ex.terms,aHh,h1,ih h2]
 | bin t a b iha ihb=>obtain ⟨h1,h2,h3⟩:=h;simp [Ex.terms,aHh,h1,iha h2,ihb h3]
 | tri t a b c iha ihb ihc=>obtain ⟨h1,h2,h3,h4⟩:=h;simp [Ex.terms,aHh,h1,iha h2,ihb h3,ihc h4]
theorem aQz {x:Ex} (h:x.ok):aAp x.terms=x:=by
 have:=aP2 h [];rw [List.append_nil] at this;simp [aAp,this]
theorem aWz {es:List Term} {x:Ex} (h:x.ok) (he:x.terms=es):aAp es=x:=by rw [<- he];exact aQz h
theorem aEe {es:List Term} {vars:Int} (h:aAs es vars=true):(aAp es).ok/\(aAp es).terms=es/\es.length<=200/\(∀ t∈es,aFo t vars=true)/\(aAp es).depth<=24/\(aAp es).nest<=2:=by
 obtain ⟨x,h1,h2,h3,h4,h5,h6⟩:=aUt h;rw [aWz h1 h2];exact ⟨h1,h2,h3,h4,h5,h6⟩
def aDo (k:Int):Bool:=k==1||k==2||k==3
def aDi (op:Int):Bool:=decide (11<=op/\op<=17)
def aN3 (kinds:List Int) (t:Term):Int :=
 if t.op=2∨t.op=3∨t.op=10∨t.op=15 then 2
 else if t.op=4∨t.op=11∨t.op=17 then 3
 else if t.op=5∨t.op=12 then kinds.getD t.arg.toNat 0
 else 1
def ifK (b:Bool) (k:Int):Int:=if b then k else 0
def aFm (op a:Int):Int :=
 if op=19∨op=20∨op=21 then ifK (a==2) 2
 else if op=22 then ifK (a==2) 1
 else if op=23 then ifK (a==2) 3
 else ifK (a==1) 1
def aGy (op a b:Int):Int :=
 if op=35∨op=36 then ifK (a==b&&a != 0) 2
 else if op=41∨op=42 then ifK (a==2&&b==2) 2
 else if 37<=op/\op<=40 then ifK (a==1&&b==1) 2
 else ifK (a==1&&b==1) 1
def aAv (kinds:List Int):Bool->Ex->Int
 | bound,.leaf t=>if aDi t.op && !bound then 0 else aN3 kinds t
 | bound,.un t a=>aFm t.op (aAv kinds (bound||aAa t.op) a)
 | bound,.bin t a b=>aGy t.op (aAv kinds bound a) (aAv kinds bound b)
 | bound,.tri _ a b c=>ifK (aAv kinds bound a==2&&aAv kinds bound b==aAv kinds bound c) (aAv kinds bound b)
def ofF (es:List Term) (kinds:List Int) (bound:Bool):Int × Int :=
 if 6<kinds.length then (0,7)
 else if kinds.all aDo=false then (0,7)
 else if aAs es kinds.length=false then (0,7)
 else if aAv kinds bound (aAp es)=0 then (0,6)
 else (aAv kinds bound (aAp es),0)
def aB7 (p:Prg):List Int:=p.vars.map Var.kind
def aDl (ls:List Link) (u:Int):Int:=match ls.findIdx? (fun l=>l.to==u) with | some i=>(i:Int) | none => -1
theorem aMk {ls:List Link} {u:Int} {j:Nat} (h:j<ls.length) (ha:(ls.take j).all (fun l => !(l.to==u))=true) (hj:(ls[j].to==u)=true):aDl ls u=(j:Int):=by
 unfold aDl
 have:ls.findIdx? (fun l=>l.to==u)=some j:=by
  rw [List.findIdx?_eq_some_iff_getElem];refine ⟨h,hj,fun k hk=>?_⟩
  have:=List.all_eq_true.1 ha ls[k] (by rw [List.mem_take_iff_getElem];exact ⟨k,by omega,rfl⟩)
  simpa using this
 rw [this]
theorem aNr {ls:List Link} {u:Int} (ha:ls.all (fun l => !(l.to==u))=true):aDl ls u = -1:=by
 unfold aDl
 have:ls.findIdx? (fun l=>l.to==u)=none:=by
  rw [List.findIdx?_eq_none_iff];intro x hx
  have:=List.all_eq_true.1 ha x hx;simpa using this
 rw [this]
theorem aSy:∀ (n:Nat) (l:List Int),l.Nodup->(∀ x∈l,0<=x/\x<(n:Int))->l.length<=n
 | 0,l,_,h=>by
  cases l with
  | nil=>simp
  | cons x l=>have:=h x (by simp);omega
 | n+1,l,hn,h=>by
  have h1:=aSy n (l.erase (n:Int)) (hn.erase _) (fun x hx=>by
   have h2:=h x (List.mem_of_mem_erase hx)
   have h3:x≠(n:Int):=by
    rintro rfl;exact (List.Nodup.not_mem_erase hn) hx
   omega)
  have h4:l.length<=(l.erase (n:Int)).length+1:=by
   rw [List.length_erase];split <;> omega
  omega
def aJ4 (n v:Nat) (l:Link):Bool:=decide (0<=l.to/\l.to<(n:Int)/\l.to≠(v:Int)/\1<=l.weight/\l.weight<=15)
def aC9 (n v:Nat) (ls:List Link):Bool:=ls.all (aJ4 n v)&&decide ((ls.map Link.to).Nodup)
def aF8 (g:Graph) (v:Nat) (l:Link):Bool:=(g.ports.getD l.to.toNat []).any fun k=>k.to==(v:Int)&&k.weight==l.weight
def aN2 (ids:List Int):Bool:=ids.all (fun i=>decide (0<=i/\i<=255))&&decide ids.Nodup
def aD4 (g:Graph):Bool :=
 decide (1<=g.ports.length/\g.ports.length<=24/\g.ids.length=g.ports.length)&&aN2 g.ids
  && (List.range g.ports.length).all (fun v=>aC9 g.ports.length v (g.ports.getD v []))
  && (List.range g.ports.length).all (fun v=>(g.ports.getD v []).all (aF8 g v))
structure GOK (g:Graph):Prop where
 pos:1<=g.ports.length
 le:g.ports.length<=24
 ids:g.ids.length=g.ports.length
 idr:∀ i∈g.ids,0<=i/\i<=255
 idn:g.ids.Nodup
 links:∀ v,(h:v<g.ports.length)->aC9 g.ports.length v g.ports[v]=true
 back:∀ v,(h:v<g.ports.length)->∀ l∈g.ports[v],aF8 g v l=true
theorem aA8 {α:Type} {l:List α} {k:Nat} {d:α} (h:k<l.length):l.getD k d=l[k]:=by simp [List.getD_eq_getElem?_getD,h]
theorem aCr (g:Graph):aD4 g=true↔GOK g:=by
 unfold aD4 aN2;simp only [Bool.and_eq_true,decide_eq_true_eq,List.all_eq_true,List.mem_range]
 constructor
 .rintro ⟨⟨⟨⟨h1,h2,h3⟩,h4,h5⟩,h6⟩,h7⟩
  exact ⟨h1,h2,h3,h4,h5,fun v hv=>by have:=h6 v hv;rwa [aA8 hv] at this,fun v hv l hl=>by have:=h7 v hv;rw [aA8 hv] at this;exact this l hl⟩
 .rintro ⟨h1,h2,h3,h4,h5,h6,h7⟩
  exact ⟨⟨⟨⟨h1,h2,h3⟩,h4,h5⟩,fun v hv=>by rw [aA8 hv];exact h6 v hv⟩,fun v hv=>by rw [aA8 hv];exact h7 v hv⟩
theorem aB3 {n v:Nat} {ls:List Link}:aC9 n v ls=true↔(∀ l∈ls,aJ4 n v l=true)/\(ls.map Link.to).Nodup:=by
 unfold aC9;simp only [Bool.and_eq_true,decide_eq_true_eq,List.all_eq_true]
theorem aBd {n v:Nat} {l:Link}:aJ4 n v l=true↔0<=l.to/\l.to<(n:Int)/\l.to≠(v:Int)/\1<=l.weight/\l.weight<=15:=by
 unfold aJ4;simp only [decide_eq_true_eq]
theorem aCa {n v:Nat} {ls:List Link} (hv:v<n) (h:aC9 n v ls=true):ls.length<n:=by
 obtain ⟨h1,h2⟩:=aB3.1 h
 have:=aSy n ((v:Int) :: ls.map Link.to) (by
  rw [List.nodup_cons];refine ⟨?_,h2⟩
  intro hm
  obtain ⟨l,hl,he⟩:=List.mem_map.1 hm;exact (aBd.1 (h1 l hl)).2.2.1 he) (by
  intro x hx
  rcases List.mem_cons.1 hx with rfl | hx
  .omega
  .obtain ⟨l,hl,rfl⟩:=List.mem_map.1 hx
   have:=aBd.1 (h1 l hl)
   omega)
 simp at this
 omega
theorem aDq {l:List Int} {k:Nat} (h:k<l.length) (hn:(l.take k).Nodup) (hne:∀ j (hj:j<k),l[j]≠l[k]):(l.take (k+1)).Nodup:=by
 rw [List.take_succ_eq_append_getElem h,List.nodup_append];refine ⟨hn,by simp,?_⟩
 intro a ha b hb
 simp at hb
 subst hb;rw [List.mem_take_iff_getElem] at ha;obtain ⟨j,hj,rfl⟩:=ha;exact hne j (by omega)
theorem aEa {l:List Int} {j k:Nat} (hj:j<k) (hk:k<l.length) (he:l[j]=l[k]):¬ l.Nodup:=by
 intro hn
 have:=(List.nodup_iff_pairwise_ne.1 hn);rw [List.pairwise_iff_getElem] at this;exact this j k (by omega) hk hj he
theorem aUh {ls:List Link} {u:Int} (h:0<=aDl ls u):∃ k:Nat,∃ hk:k<ls.length,aDl ls u=(k:Int)/\ls[k].to=u:=by
 unfold aDl at *;cases hf:ls.findIdx? (fun l=>l.to==u) with
 | none=>rw [hf] at h;simp at h
 | some k =>
  rw [List.findIdx?_eq_some_iff_getElem] at hf;obtain ⟨hk,h1,_⟩:=hf;exact ⟨k,hk,rfl,by simpa using h1⟩
theorem aWi {ls:List Link} {u:Int} (h:aDl ls u<0):∀ l∈ls,l.to≠u:=by
 unfold aDl at *;cases hf:ls.findIdx? (fun l=>l.to==u) with
 | none =>
  rw [List.findIdx?_eq_none_iff] at hf;intro l hl
  simpa using hf l hl
 | some k=>rw [hf] at h;simp at h;omega
theorem aMl (ls:List Link) (u:Int) : -1<=aDl ls u/\aDl ls u<ls.length:=by
 unfold aDl;cases hf:ls.findIdx? (fun l=>l.to==u) with
 | none=>simp;omega
 | some k =>
  rw [List.findIdx?_eq_some_iff_getElem] at hf;obtain ⟨hk,_⟩:=hf;simp;omega
theorem aR9 {ls:List Link} {v:Nat} {x:Int} (hn:(ls.map Link.to).Nodup) (k:Nat) (hk:k<ls.length) (ht:ls[k].to=(v:Int)):(ls.any fun k=>k.to==(v:Int)&&k.weight==x)=(ls[k].weight==x):=by
 rw [Bool.eq_iff_iff,List.any_eq_true];constructor
 .rintro ⟨l,hl,hh⟩
  simp at hh
  obtain ⟨h1,h2⟩:=hh;obtain ⟨j,hj,rfl⟩:=List.getElem_of_mem hl
  have:j=k:=by
   rcases Nat.lt_trichotomy j k with h | h | h
   .exact absurd hn (aEa (k:=k) h (by simpa using hk) (by simp [h1,ht]))
   .exact h
   .exact absurd hn (aEa (k:=j) h (by simpa using hj) (by simp [h1,ht]))
  subst this;simpa using h2
 .intro h
  exact ⟨ls[k],List.getElem_mem hk,by simp [ht];simpa using h⟩
theorem aVa {ls:List Link} {v:Nat} {x:Int} (h:aDl ls v<0):(ls.any fun k=>k.to==(v:Int)&&k.weight==x)=false:=by
 rw [List.any_eq_false];intro l hl
 have:=aWi h l hl;simp [this]
open Go.RowKit Go.Maps
def aNe (P:Program) (k e:TypeId) (w:World) (b n:Nat) (ks:List Lit):Prop :=
 ∃ D:DataW Unit,w.ownsMap P k (plainElem P e) b n D/\IsMap D/\∀ kl,∃ x,D.atKey kl (.lit (.bool false)) = .lit (.bool x)/\(x=true↔kl∈ks)
theorem aNe.made (P:Program) (k e:TypeId) (w:World):aNe P k e (w.alloc (.map #[] 0)) w.heap.size 0 [] :=
 ⟨.map [],World.ownsMap_made w P k _,isMap_empty,fun kl=>⟨false,by simp [DataW.atKey],by simp⟩⟩
theorem aNe.kept {P:Program} {k e:TypeId} {w w':World} {b n:Nat} {ks:List Lit} {row:Option Nat} (h:aNe P k e w b n ks) (hg:w.grownBy w' row) (hne:some b≠row):aNe P k e w' b n ks:=by
 obtain ⟨D,h1,h2,h3⟩:=h;exact ⟨D,h1.kept hg hne,h2,h3⟩
theorem aNe.keep {P:Program} {k e:TypeId} {w w':World} {b n:Nat} {ks:List Lit} (h:aNe P k e w b n ks) (hb:Bel w w'):aNe P k e w' b n ks:=h.kept (hb.grownBy none) (by simp)
theorem aNe.lt {P:Program} {k e:TypeId} {w:World} {b n:Nat} {ks:List Lit} (h:aNe P k e w b n ks):b<w.heap.size:=by
 obtain ⟨D,h1,_,_⟩:=h;exact h1.lt
theorem aJd {P:Program} {e:TypeId} (he:P.underlying e=some .bool) {v:Value} {x:Bool} {ps:List MemPlace} (h:plainElem (H:=Unit) P e v=some (.lit (.bool x),ps)):v = .bool x:=by
 unfold plainElem at h;rw [he] at h;cases v <;> simp at h
 .rename_i b
  obtain ⟨h1,_⟩:=h;simp [h1]
theorem aNe.look {P:Program} {k e t:TypeId} {w:World} {b n:Nat} {ks:List Lit} (h:aNe P k e w b n ks) (K:Keyed P k) (ht:P.underlying t=some (.map k e)) (he:P.underlying e=some .bool) (hz:(zeroValue e).run P w = .ok (.bool false) w)
  {key:Value} {kl:Lit} (hkey:keyOf P k key=some kl):∃ x,(Instr.lookup t (.map (some b)) key false).run P w = .ok (.bool x) w/\(x=true↔kl∈ks):=by
 obtain ⟨D,h1,_,h3⟩:=h;obtain ⟨v,ps,hrun,hv⟩:=h1.lookup K ht hz (plainElem_bool he false) hkey;obtain ⟨x,hx,hi⟩:=h3 kl;rw [hx] at hv;exact ⟨x,by rw [hrun,aJd he hv],hi⟩
theorem aGf {P:Program} (w:World) {ops:Array Oper} {rest:List Oper} {o:Oper} {a:Act} {Q:Exit->Act->World->Prop}
  (hg:o.guard=none) (m x v:Operand) (t:TypeId) (hop:o.op=Op.mapUpdate t m x v)
  (k e:TypeId) (K:Keyed P k) (ht:P.underlying t=some (.map k e)) (he:P.underlying e=some .bool) (b n:Nat) (ks:List Lit)
  (hm:a.eval m = .map (some b)) (hown:aNe P k e w b n ks) (hn:n<maxLen) (key:Value) (kl:Lit) (hx:a.eval x=key) (hv:a.eval v = .bool true) (hkey:keyOf P k key=some kl) (hkl:WideAt.IsKeyLit kl)
  (hK:∀ w',aNe P k e w' b (n+1) (kl :: ks)->w.grownBy w' (some b)->wpList P ops Q rest (a.put o.dst undef) w') :
  wpList P ops Q (o :: rest) a w:=by
 obtain ⟨D,h1,h2,h3⟩:=hown;refine wpList_mapUpdate_own w hg m x v t hop k e K ht _ b n D hm h1 hn key (.bool true) kl hx hv hkey _ [] (plainElem_bool he true) ?_
 intro w' h4 h5
 refine hK w' ⟨_,h4,h2.put _ _,fun kl'=>?_⟩ h5
 by_cases hh:kl'=kl
 .subst hh
  exact ⟨true,by rw [atKey_put_same h2 hkl],by simp⟩
 .obtain ⟨x,hx,hi⟩:=h3 kl'
  exact ⟨x,by rw [atKey_put_other hh,hx],by rw [hi];simp [hh]⟩
theorem Bel.map {w wr w':World} (h:Bel w wr) {b:Nat} (hb:w.heap.size<=b) (hg:wr.grownBy w' (some b)):Bel w w':=h.grown hg (fun k hk=>by injection hk with hk;omega)
open Go.RowKit
def Blk (w:World) (B:Nat) (cs:Array Value) (t:TypeId):Prop:=w.heap[B]?=some (.cells cs t (0,0))
theorem Blk.cell {w:World} {B:Nat} {cs:Array Value} {t:TypeId} (h:Blk w B cs t) (i:Nat) {v:Value} (hv:cs[i]?=some v):w.cell? ⟨B,i,none⟩=some v:=by
 unfold Blk at h;simp [World.cell?,h,hv]
theorem Blk.frozen {w:World} {B:Nat} {cs:Array Value} {t:TypeId} (h:Blk w B cs t) (i:Nat):w.frozen? ⟨B,i,none⟩=false:=by
 unfold Blk at h;simp [World.frozen?,h]
theorem Blk.lt {w:World} {B:Nat} {cs:Array Value} {t:TypeId} (h:Blk w B cs t):B<w.heap.size:=lt_of_block h
theorem Blk.alloc {w:World} {B:Nat} {cs:Array Value} {t:TypeId} (h:Blk w B cs t) (o:Obj):Blk (w.alloc o) B cs t:=by
 unfold Blk at *;rw [Below.heap_alloc _ _ _ (lt_of_block h)];exact h
theorem Blk.new (w:World) (cs:Array Value) (t:TypeId):Blk (w.alloc (.cells cs t (0,0))) w.heap.size cs t:=heap_alloc_new w _
theorem Blk.drew {w:World} {B:Nat} {cs:Array Value} {t:TypeId} (h:Blk w B cs t):Blk w.drew B cs t:=h
theorem Blk.drewN {w:World} {B:Nat} {cs:Array Value} {t:TypeId} (h:Blk w B cs t) (k:Nat):Blk (w.drewN k) B cs t:=h
theorem Blk.set {w:World} {B:Nat} {cs:Array Value} {t:TypeId} (h:Blk w B cs t) (i:Nat) (v:Value):Blk (w.setCell ⟨B,i,none⟩ v) B (cs.setIfInBounds i v) t:=by
 unfold Blk at *;have hlt:=lt_of_block h;have h':w.heap[B] = .cells cs t (0,0):=by simpa [Array.getElem?_eq_getElem hlt] using h
 show (w.heap.modify B _)[B]?=_
 rw [Array.getElem?_eq_getElem (by simpa using hlt),Array.getElem_modify_self,h']
 rfl
theorem Blk.other {w:World} {B:Nat} {cs:Array Value} {t:TypeId} (h:Blk w B cs t) {a:Addr} (ha:B≠a.block) (v:Value):Blk (w.setCell a v) B cs t:=by
 unfold Blk at *;rw [Below.heap_setCell _ _ _ _ ha];exact h
theorem Blk.keep {w w':World} {B:Nat} {cs:Array Value} {t:TypeId} (h:Blk w B cs t) (k:Bel w w'):Blk w' B cs t:=by
 unfold Blk at *;rw [k.block B (lt_of_block h)];exact h
theorem Blk.grown {w w':World} {B:Nat} {cs:Array Value} {t:TypeId} (h:Blk w B cs t) {row:Option Nat} (hg:w.grownBy w' row) (hr:some B≠row):Blk w' B cs t:=by
 unfold Blk at *;rw [hg.block B (lt_of_block h) hr];exact h
theorem Blk.apart {w:World} {B:Nat} {cs:Array Value} {t e:TypeId} {base size n:Nat} {v:Value} {xs:List Value} (h:Blk w B cs t) (ho:w.ownsRow base e size v n xs) (hne:t≠e):some B≠v.ownBlock:=by
 rcases ho.2 with ⟨rfl,_⟩ | ⟨g,cap,cur,rfl,_,hg,_⟩
 .simp [Value.ownBlock]
 .simp only [Value.ownBlock]
  intro he
  injection he with he
  subst he;unfold Blk at h;rw [h] at hg;injection hg with hg
  injection hg with _ ht
  exact hne ht
section
variable {P:Program}
theorem Blk.row {w:World} {B:Nat} {cs:Array Value} {t:TypeId} (h:Blk w B cs t) (cs':Array Value):Blk (w.setRow B cs') B cs' t:=setRow_heap w B cs cs' t _ h
theorem aZx {o:Oper} {a:Act} (w:World) {K:Act->World->Prop} {Q:Exit->Act->World->Prop} (t:TypeId) (x y:Operand) (ho:o.op = .makeSlice t x y)
  (base:Nat) (e:TypeId) (i:TypeInfo) (z:Value) (size:Nat) (ht:P.underlying t=some (.slice e)) (hi:P.info? e=some i) (hz:i.zero=some z) (hsize:i.size=size)
  (kl kc:IntKind) (n:Nat) (hx:a.eval x = .int kl (n:Int)) (hy:a.eval y = .int kc (n:Int)) (hbytes:i.bytes*n<=281474976710656) (h63:n<=maxLen) (hbase:base<=w.heap.size)
  (h:∀ g w',w'.ownsRow base e size (.slice (some ⟨g,0,none⟩) n n) n (madeCells z.cells (n*size)).toList->Bel w w'->K (a.put o.dst (.slice (some ⟨g,0,none⟩) n n)) w'):o.wp P a w K Q:=by
 obtain ⟨w',hr,h2,h3⟩:=run_make_full (P:=P) w base t e i z size ht hi hz hsize kl kc n hbytes h63 hbase;unfold Oper.wp execOp;simp only [ho,hx,hy,Sem.run_bind,hr,Result.andThen_ok,Sem.run_pure]
 exact h _ w' h2 ((Bel.refl w).grown h3 (fun k hk=>by cases hk))
theorem aF5 {ops:Array Oper} {rest:List Oper} {o:Oper} {a:Act} (w:World) {Q:Exit->Act->World->Prop} (hgd:o.guard=none) (t:TypeId) (x y:Operand) (ho:o.op = .makeSlice t x y)
  (base:Nat) (e:TypeId) (i:TypeInfo) (z:Value) (size:Nat) (ht:P.underlying t=some (.slice e)) (hi:P.info? e=some i) (hz:i.zero=some z) (hsize:i.size=size)
  (kl kc:IntKind) (n:Nat) (hx:a.eval x = .int kl (n:Int)) (hy:a.eval y = .int kc (n:Int)) (hbytes:i.bytes*n<=281474976710656) (h63:n<=maxLen) (hbase:base<=w.heap.size)
  (h:∀ g w',w'.ownsRow base e size (.slice (some ⟨g,0,none⟩) n n) n (madeCells z.cells (n*size)).toList->Bel w w'->wpList P ops Q rest (a.put o.dst (.slice (some ⟨g,0,none⟩) n n)) w'):wpList P ops Q (o :: rest) a w :=
 wpList_plain hgd fun _ hK=>aZx w t x y ho base e i z size ht hi hz hsize kl kc n hx hy hbytes h63 hbase fun g w' h1 h2=>hK _ _ (h g w' h1 h2)
end
theorem aJ5 (z:Value) (hz:z.cells=#[z]) (n:Nat):(madeCells z.cells (n*1)).toList=List.replicate n z:=by
 rw [hz,Nat.mul_one];apply List.ext_getElem?
 intro k
 simp only [madeCells,Array.toList_map,List.getElem?_map]
 by_cases hk:k<n
 .simp [hk,Nat.mod_one]
 .simp [hk]
def aUw (a:Int):Int:=max (-1073741824) (min a 1073741824)
def Num (a:Int):Prop := -1073741824<=a/\a<=1073741824
def aC0 (b:Bool):Int:=if b then 1 else 0
theorem aT8 (a:Int):Num (aUw a):=by unfold Num aUw;omega
theorem aZs {a:Int} (h:Num a):aUw a=a:=by unfold Num at h;unfold aUw;omega
theorem aX0 (b:Bool):aC0 b=0∨aC0 b=1:=by cases b <;> simp [aC0]
theorem aE5 (b:Bool):Num (aC0 b):=by unfold Num;have:=aX0 b;omega
theorem aIp (b:Bool):aUw (aC0 b)=aC0 b:=aZs (aE5 b)
def aKz (op a:Int):Int:=if op=18 then -a else aC0 (a==0)
def aHa (a b:Int):Int:=if b=0 then 0 else if a.tmod b≠0/\(decide (a<0) != decide (b<0))=true then a.tdiv b-1 else a.tdiv b
theorem aNy (a b:Int) (ha:Num a) : -1073741824<=a.tdiv b/\a.tdiv b<=1073741824:=by
 have h:=Int.natAbs_tdiv_le_natAbs a b;unfold Num at ha;omega
theorem aSc (a b:Int) (ha:Num a) : -1073741825<=aHa a b/\aHa a b<=1073741824:=by
 unfold aHa;split
 .omega
 .have:=aNy a b ha
  split <;> omega
theorem aQ0 (a b:Int) (ha:Num a) (hb : -1073741825<=b/\b<=1073741825) : -1152921505680588800<=a*b/\a*b<=1152921505680588800:=by
 have h:(a*b).natAbs<=1073741824*1073741825:=by
  rw [Int.natAbs_mul];unfold Num at ha;exact Nat.mul_le_mul (by omega) (by omega)
 omega
def aV8 (op a b:Int):Int :=
 if op=30 then a*b
 else if op=31 then aHa a b
 else if op=32 then (if b=0 then 0 else a-b*aHa a b)
 else if op=33 then a+b
 else if op=34 then a-b
 else if op=35 then aC0 (a==b)
 else if op=36 then aC0 (a != b)
 else if op=37 then aC0 (decide (a<b))
 else if op=38 then aC0 (decide (a<=b))
 else if op=39 then aC0 (decide (b<a))
 else if op=40 then aC0 (decide (b<=a))
 else if op=41 then aC0 (a != 0&&b != 0)
 else aC0 (a != 0||b != 0)
def aDw (op a b:Int):Int:=aUw (aV8 op a b)
def aDe (l:List Int):Int:=(l.filter (fun a=>a != 0)).length
def aH0:List Int->Int->Int
 | [],_ => -1
 | a :: l,i=>if a≠0 then i else aH0 l (i+1)
def minF (l:List Int):Int:=l.foldl min 1073741824
def aKa:List Int->Int->Int->Int × Int
 | [],g,s=>(g,s)
 | a :: l,g,s=>if g<a then aKa l a g else aKa l g (max s a)
def aZv (l:List Int):Int × Int:=aKa l (-1073741824) (-1073741824)
def sumF (l:List Int):Int:=l.foldl (·+·) 0
def aMz (l:List Int) (k:Int):Nat:=(l.filter (fun x=>decide (k<=x))).length
def aJz (l:List Int):Nat->Int->Int
 | 0,k=>k
 | f+1,k=>if k∈l then aJz l f (k+1) else k
def bA0 (l:List Int):Int:=aJz l (aMz l 0) 0
def aM1 (op:Int) (l:List Int):Int :=
 if op=20 then aC0 (aDe l==l.length)
 else if op=21 then aC0 (decide (0<aDe l))
 else if op=22 then aDe l
 else if op=23 then aH0 l 0
 else if op=24 then minF l
 else if op=25 then (aZv l).1
 else if op=26 then aUw (sumF l)
 else if op=27 then bA0 l
 else if op=28 then (aZv l).2
 else l.headD 0
theorem aRh (a:Int) (l:List Int):aDe (a :: l)=(if a=0 then 0 else 1)+aDe l:=by
 unfold aDe
 by_cases h:a=0
 .simp [h]
 .simp [h];omega
theorem aVh (l:List Int):0<=aDe l/\aDe l<=l.length:=by
 unfold aDe;have:=List.length_filter_le (fun a:Int=>a != 0) l;omega
theorem aO8 {l:List Int} {k:Int} (h:k∈l):aMz l (k+1)<aMz l k:=by
 unfold aMz
 induction l with
 | nil=>cases h
 | cons x l ih =>
  have hmono:∀ l:List Int,(l.filter (fun x=>decide (k+1<=x))).length<=(l.filter (fun x=>decide (k<=x))).length:=by
   intro l
   induction l with
   | nil=>simp
   | cons y l ih =>
    simp only [List.filter_cons]
    by_cases h1:k+1<=y <;> by_cases h2:k<=y <;> simp [h1,h2] <;> omega
  rcases List.mem_cons.1 h with e | e
  .subst e
   have:=hmono l;simp only [List.filter_cons]
   rw [if_neg (by simp;omega),if_pos (by simp)]
   simp;omega
  .have:=ih e
   simp only [List.filter_cons]
   by_cases h1:k+1<=x <;> by_cases h2:k<=x <;> simp [h1,h2] <;> omega
theorem aSo (l:List Int) (k:Int):aMz l k<=l.length:=List.length_filter_le _ _
theorem aY4 (l:List Int):∀ (f:Nat) (k:Int),aMz l k<=f->k<=aJz l f k/\aJz l f k<=k+f/\aJz l f k ∉ l/\∀ j,k<=j->j<aJz l f k->j∈l:=by
 intro f
 induction f with
 | zero =>
  intro k h
  have hk:k ∉ l:=fun hm=>by have:=aO8 hm;omega
  exact ⟨Int.le_refl _,by simp [aJz],hk,fun j h1 h2=>by simp [aJz] at h2;omega⟩
 | succ f ih =>
  intro k h
  simp only [aJz]
  by_cases hk:k∈l
  .rw [if_pos hk]
   have hc:=aO8 hk;obtain ⟨i1,i2,i3,i4⟩:=ih (k+1) (by omega)
   refine ⟨by omega,by omega,i3,fun j h1 h2=>?_⟩
   by_cases e:j=k
   .subst e;exact hk
   .exact i4 j (by omega) h2
  .rw [if_neg hk]
   exact ⟨Int.le_refl _,by omega,hk,fun j h1 h2=>by omega⟩
section
variable {P:Program} {ops:Array Oper} {Q:Exit->Act->World->Prop} {md:Region.Mode} {S:World->Prop} {L:Nat}
def aA6 (P:Program) (md:Region.Mode) (ops:Array Oper) (Q:Exit->Act->World->Prop) (S:World->Prop) (L:Nat):Nat->Array Bool->Act->World->Prop
 | 0,listed,a,w=>Region.ready md ops listed=[]/\Q .normal a w
 | fuel+1,listed,a,w=>(Region.ready md ops listed=[]->Q .normal a w) /\
   ∀ i∈Region.ready md ops listed,wpOp P ops Q i (fun a' w'=>(i≠L->S w')/\aA6 P md ops Q S L fuel (listed.setIfInBounds i true) a' w') a w
theorem aA6.any:∀ (fuel:Nat) (listed:Array Bool) (a:Act) (w:World),aA6 P md ops Q S L fuel listed a w->wpAny P md ops Q fuel listed a w
 | 0,_,_,_,h=>h
 | fuel+1,_,_,_,h=>⟨h.1,fun i hi=>wpOp_mono (fun a' w' k=>aA6.any fuel _ a' w' k.2) (h.2 i hi)⟩
def aL7 (md:Region.Mode) (ops:Array Oper):Nat->List Nat->Bool
 | _,[]=>true
 | i,c :: cs=>(match ops[c]? with | some o=>o.after.any (fun e=>Region.binds md e&&e.on==i) | none=>false)&&aL7 md ops c cs
def aE6 (listed:Array Bool) (cs:List Nat):Bool:=cs.all fun c => !(listed.getD c true)
theorem aQ6 {listed:Array Bool} {j:Nat} (hj:j∈Region.ready md ops listed) (cs:List Nat):∀ i,listed.getD i true=false->aL7 md ops i cs=true->aE6 listed cs=true->j ∉ cs:=by
 induction cs with
 | nil=>intro i _ _ _ h;cases h
 | cons c cs ih =>
  intro i hi hw hu hm
  simp only [aL7,Bool.and_eq_true] at hw
  simp only [aE6,List.all_cons,Bool.and_eq_true] at hu
  have hc:listed.getD c true=false:=by simpa using hu.1
  rcases List.mem_cons.1 hm with rfl | hm
  .obtain ⟨_,oj,hoj,hall⟩:=mem_ready.1 hj
   have h1:=hw.1;rw [hoj] at h1;simp only [Array.any_eq_true'] at h1
   obtain ⟨e,he,hb⟩:=h1;simp only [Bool.and_eq_true,beq_iff_eq] at hb
   have h2:=hall e he hb.1;rw [hb.2] at h2
   rcases Nat.lt_or_ge i listed.size with h' | h'
   .simp [h'] at hi h2;rw [hi] at h2;cases h2
   .simp [Array.getElem?_eq_none h'] at h2
  .exact ih c hc hw.2 hu.2 hm
theorem aA6.first {i:Nat} {oi:Oper} {v:Value} (cs:List Nat) (hi:ops[i]?=some oi) (hsel:∀ (j:Nat) (o:Oper) cs b,ops[j]?=some o->o.op ≠ .select cs b)
  (hL:L∈cs) (hw:aL7 md ops i cs=true)
  (hQ:∀ c a w,Q (.panic c) (a.put oi.dst v) w->Q (.panic c) a w) (fuel:Nat):∀ (listed:Array Bool) (a:Act) (w:World),
   (∀ j oj,ops[j]?=some oj->j≠i->listed.getD j true=false->(∀ e∈oj.after,Region.binds md e=true->e.on≠i)->oi.apart ops oj=true) ->
   i∈Region.ready md ops listed->aE6 listed cs=true->YieldsIf P ops S oi v a->S w ->
   aA6 P md ops Q S L fuel (listed.setIfInBounds i true) (a.put oi.dst v) w->aA6 P md ops Q S L (fuel+1) listed a w:=by
 induction fuel with
 | zero =>
  intro listed a w _ hr _ hy hS H
  refine And.intro (fun h=>?_) (fun j hj=>?_)
  .rw [h] at hr;exact absurd hr (by simp)
  by_cases hji:j=i
  .subst hji;exact hy.wpOp hi hS ⟨fun _=>hS,H⟩
  .have:=ready_mono hj hji
   rw [H.1] at this;exact absurd this (by simp)
 | succ fuel ih =>
  intro listed a w hfree hr hun hy hS H
  refine And.intro (fun h=>?_) (fun j hj=>?_)
  .rw [h] at hr;exact absurd hr (by simp)
  by_cases hji:j=i
  .subst hji;exact hy.wpOp hi hS ⟨fun _=>hS,H⟩
  have hi0:=(mem_ready.1 hr).1;have hjc:=aQ6 hj cs i hi0 hw hun;have hjL:j≠L:=fun e=>hjc (e ▸ hL);obtain ⟨hjun,oj,hoj,hall⟩:=mem_ready.1 hj
  have hnot:∀ e∈oj.after,Region.binds md e=true->e.on≠i:=fun e he hb heq=>by
   have h1:=hall e he hb;rw [heq] at h1
   rcases Nat.lt_or_ge i listed.size with h' | h'
   .simp [h'] at hi0 h1;rw [hi0] at h1;cases h1
   .simp [Array.getElem?_eq_none h'] at h1
  have h2:=wpOp_putIf hoj (hfree j oj hoj hji hjun hnot) (fun cs b=>hsel i oi cs b hi) (fun cs b=>hsel j oj cs b hoj) hQ hy (H.2 j (ready_mono hj hji));refine wpOp_mono (fun a' w' h3=>?_) h2
  obtain ⟨hy',hS',hrest⟩:=h3;have hs':=hS' hjL;refine ⟨fun _=>hs',ih _ a' w' ?_ (ready_mono hr (Ne.symm hji)) ?_ hy' hs' (by rw [Array.setIfInBounds_comm _ _ hji];exact hrest)⟩
  .intro k ok hk hki hunk hno
   refine hfree k ok hk hki ?_ hno
   by_cases hjk:j=k
   .subst hjk;exact hjun
   .rw [getD_set_ne true hjk] at hunk;exact hunk
  .unfold aE6 at hun ⊢
   rw [List.all_eq_true] at hun ⊢;intro c hc
   rw [getD_set_ne true (show j≠c from fun e=>hjc (by rw [e];exact hc))]
   exact hun c hc
theorem aA6.take {i:Nat} {oi:Oper} {v:Value} {fuel:Nat} {listed:Array Bool} {a:Act} {w:World} (cs:List Nat) (d:Option Tmp) (hi:ops[i]?=some oi) (hd:oi.dst=d)
  (hs:Region.noSelect ops=true) (hf:Region.free md ops listed i=true) (hr:(Region.ready md ops listed).contains i=true)
  (hL:cs.contains L=true) (hw:aL7 md ops i cs=true) (hu:aE6 listed cs=true)
  (hQ:∀ c a w,Q (.panic c) (a.put d v) w->Q (.panic c) a w) (hS:S w) (hy:YieldsIf P ops S oi v a)
  (h:aA6 P md ops Q S L fuel (listed.setIfInBounds i true) (a.put d v) w):aA6 P md ops Q S L (fuel+1) listed a w :=
 aA6.first cs hi (Region.noSelect_spec hs) (by simpa using hL) hw (by rw [hd];exact hQ) fuel listed a w (Region.free_spec hi hf) (by simpa using hr) hu hy hS (by rw [hd];exact h)
theorem aA6.one {i:Nat} {o:Oper} {fuel:Nat} {listed:Array Bool} {a:Act} {w:World} (hr:Region.ready md ops listed=[i]) (ho:ops[i]?=some o)
  (h:∀ K':Act->World->Prop,Shut (∀ a w,(i≠L->S w)->aA6 P md ops Q S L fuel (listed.setIfInBounds i true) a w->K' a w)->if Region.wanted o (yielded ops a.tmps)=true then Oper.wp P o a w K' Q else K' (a.put o.dst undef) w) :
  aA6 P md ops Q S L (fuel+1) listed a w:=by
 refine And.intro (fun h=>by rw [h] at hr;exact absurd hr (by simp)) (fun j hj=>?_)
 rw [hr] at hj;obtain rfl:j=i:=by simpa using hj
 exact wpOp_step ho (fun K' hK=>h K' (fun a w hS hW=>hK a w ⟨hS,hW⟩))
theorem aA6.done {listed:Array Bool} {a:Act} {w:World} (hr:Region.ready md ops listed=[]) (h:Q .normal a w):∀ fuel,aA6 P md ops Q S L fuel listed a w
 | 0=>⟨hr,h⟩
 | _+1=>⟨fun _=>h,by rw [hr];simp⟩
theorem aA6.start (S:World->Prop) (L:Nat) {id:Nat} {a:Act} {w:World} (hm:P.follows .mixedOrders=true)
  (h:aA6 P .any ops Q S L ops.size (Array.replicate ops.size false) a w.drew):(Code.region id ops true).wp P Q a w :=
 wp_region_any hm (aA6.any _ _ _ _ h)
end
section
variable {P:Program} {ops:Array Oper} {Q:Exit->Act->World->Prop} {md:Region.Mode} {S:World->Prop} {L:Nat}
theorem aA6.two {i j:Nat} {o o2:Oper} {fuel:Nat} {listed:Array Bool} {a:Act} {w:World} (hr:Region.ready md ops listed=[i,j]) (ho:ops[i]?=some o) (ho2:ops[j]?=some o2)
  (h:∀ K':Act->World->Prop,Shut (∀ a w,(i≠L->S w)->aA6 P md ops Q S L fuel (listed.setIfInBounds i true) a w->K' a w)->if Region.wanted o (yielded ops a.tmps)=true then Oper.wp P o a w K' Q else K' (a.put o.dst undef) w)
  (h2:∀ K':Act->World->Prop,Shut (∀ a w,(j≠L->S w)->aA6 P md ops Q S L fuel (listed.setIfInBounds j true) a w->K' a w)->if Region.wanted o2 (yielded ops a.tmps)=true then Oper.wp P o2 a w K' Q else K' (a.put o2.dst undef) w) :
  aA6 P md ops Q S L (fuel+1) listed a w:=by
 refine And.intro (fun h=>by rw [h] at hr;exact absurd hr (by simp)) (fun k hk=>?_)
 rw [hr] at hk;have hk':k=i∨k=j:=by simpa using hk
 rcases hk' with rfl | rfl
 .exact wpOp_step ho (fun K' hK=>h K' (fun a w hS hW=>hK a w ⟨hS,hW⟩))
 .exact wpOp_step ho2 (fun K' hK=>h2 K' (fun a w hS hW=>hK a w ⟨hS,hW⟩))
end
open Go.ChangeShapes Go.WideShapes Go.ChangeAt Go.RowKit Go.Deep
theorem Tryz.own:ownKnob prog.godebug=none:=by kernel_rfl
theorem Tryz.laidOut:laidOutB prog=true:=by kernel_rfl
theorem Tryz.cells_int:prog.cellsOf 3=1:=by kernel_rfl
section
variable {H:Type} {enc:TypeId × Value->H} {P:Program} {w:World} {base:Nat} {spare:Nat->Bool} {held:Bool}
theorem aXk {w:World} {a:Addr} {v:Value} (h:w.cell? a=some v):a.block<w.heap.size/\a.spot=none:=by
 unfold World.cell? at h;split at h
 .rename_i c e f hh
  refine ⟨?_,?_⟩
  .rcases Nat.lt_or_ge a.block w.heap.size with hlt | hge
   .exact hlt
   .rw [Array.getElem?_eq_none hge] at hh;cases hh
  .cases hs:a.spot with
   | none=>rfl
   | some s=>rw [hs] at h;simp at h
 .cases h
theorem aSk {b o k:Nat}:(⟨b,o,none⟩:Addr).add k=⟨b,o+k,none⟩:=by
 unfold Addr.add;split
 .rename_i h;subst h;rfl
 .rfl
theorem aIm {α:Type} [Inhabited α] {t e:TypeId} {size:Nat} {E:World->Nat->Nat->α->Prop} {Good:α->Prop} (ht:P.underlying t=some (.slice e)) (hC:P.cellsOf e=size) (hsz:0<size)
  (hE:∀ n cs y b o,(∀ j,j<size->w.cell? ⟨b,o+j,none⟩=cs[j]?)->cs.length=size->DataW.trod enc P w base spare held n e cs=some y->∃ x,E w b o x/\Good x)
  {fuel:Nat} {cs:List Value} {x:DataW H × List MemPlace} (h:DataW.trod enc P w base spare held fuel t cs=some x) :
  ∃ (A:Option Addr) (n c:Nat) (xs:List α),cs=[.slice A n c]/\aAc size E w A n xs/\(∀ x∈xs,Good x)/\n<=c/\c<=maxLen:=by
 rcases open_slice ht h with ⟨hcs,_⟩ | ⟨a,len,cap,m,n,D,Pl,hcs,hb,hl,hm,hmm,hx,hi⟩
 .exact ⟨none,0,0,[],hcs,aAc.nil,fun _ h=>by simp at h,Nat.le_refl _,by unfold maxLen;omega⟩
 .have hlm:len<=m:=by rw [hmm];split <;> omega
  rw [hC] at hi
  rcases Nat.eq_zero_or_pos len with h0 | h0
  .subst h0
   exact ⟨some a,0,cap,[],hcs,aAc.nil,fun _ h=>by simp at h,hl,hm⟩
  .have ha:a=⟨a.block,a.off,none⟩/\a.block<w.heap.size:=by
    obtain ⟨cs',hc,_⟩:=hi 0 (by omega)
    obtain ⟨_,hcl,hat⟩:=World.cells?_some hc;have h1:=hat 0 (by omega)
    rw [List.getElem?_eq_getElem (by omega)] at h1
    simp [Addr.add] at h1
    obtain ⟨h2,h3⟩:=aXk h1;exact ⟨by rw [<- h3],h2⟩
   obtain ⟨hae,hab⟩:=ha;generalize a.block=b at *;generalize a.off=o at *;subst hae
   have hch:∀ i,i<len->∃ x,E w b (o+i*size) x/\Good x:=by
    intro i hi'
    obtain ⟨cs',hc,htr⟩:=hi i (by omega)
    obtain ⟨_,hcl,hat⟩:=World.cells?_some hc;refine hE n cs' _ b (o+i*size) (fun j hj=>?_) hcl htr
    have:=hat j hj;rw [aSk,aSk] at this;exact this
   obtain ⟨f,hf⟩:=choose_lt hch;refine ⟨some ⟨b,o,none⟩,len,cap,(List.range len).map f,hcs,⟨by simp,fun i x hx=>?_⟩,fun x hx=>?_,hl,hm⟩
   .have hil:i<len:=by
     have:=(List.getElem?_eq_some_iff.1 hx).1;simpa using this
    rw [List.getElem?_map,List.getElem?_range hil] at hx;simp at hx
    subst hx;exact ⟨b,o,rfl,hab,(hf i hil).1⟩
   .obtain ⟨i,hi',rfl⟩:=List.mem_map.1 hx
    exact (hf i (List.mem_range.1 hi')).2
def aUy (x:Int):Prop := -9223372036854775808<=x/\x<=9223372036854775807
theorem aIj {x:Int} (h:(Lit.int .i64 x).wf=true):aUy x:=by
 simpa [aUy,Lit.wf,IntKind.min,IntKind.max,IntKind.signed,IntKind.bits] using h
theorem aS7 {e:TypeId} (he:P.underlying e=some (.int .i64)):∀ n cs y b o,(∀ j,j<1->w.cell? ⟨b,o+j,none⟩=cs[j]?)->cs.length=1->DataW.trod enc P w base spare held n e cs=some y->∃ x,aGp w b o x/\aUy x:=by
 intro n cs y b o hat hl h
 obtain ⟨x,rfl,_,hwf⟩:=DataW.trod_int he h;refine ⟨x,?_,aIj hwf⟩
 have:=hat 0 (by omega)
 simpa [aGp] using this
end
section
variable {H:Type} {enc:TypeId × Value->H} {P:Program}
theorem aJo (hl:laidOutB P=true) {W W':World} {sp:Nat->Bool} (hb:Below W.heap.size W W'):∀ {ts:List TypeId} {vs:List Value} {ds:List (DataW H)} {ps:List MemPlace},
  (∀ t∈ts,P.readableRec t=true/\t<P.types.size)->DataW.TrodAll enc P W 0 (fun _=>true) true ts vs ds ps->(∀ x∈ps,x.block<W.heap.size)->(∀ x∈ps,sp x.block=true)->DataW.TrodAll enc P W' 0 sp true ts vs ds ps
 | [],vs,ds,ps,_,h,_,_=>by
  obtain ⟨rfl,rfl,rfl⟩:=trodAll_nil h;exact trodAll_mk0
 | t :: ts,vs,ds,ps,hr,h,hlt,hsp=>by
  obtain ⟨v,vs',d,ds',p,q,rfl,rfl,rfl,hd,hrest⟩:=trodAll_cons h;refine trodAll_cons_mk ?_ (aJo hl hb (fun t ht=>hr t (by simp [ht])) hrest (fun x hx=>hlt x (by simp [hx])) (fun x hx=>hsp x (by simp [hx])))
  exact WideElems.Trod_stays hl (hr t (by simp)).1 (hr t (by simp)).2 hd (fun x hx=>hb.same (hlt x (by simp [hx]))) (fun x hx=>hsp x (by simp [hx]))
theorem aLd {f:Func} {s:ChangeSpec} {apart fresh handsOn again:Bool} {W W':World} {args:Array Value} {ds gs:List (DataW H)} {before:List MemPlace} {tb:TypeId}
  (hl:laidOutB P=true) (hvs:s.vars=[]) (hr0:(f.params.toList.all fun t=>P.readableRec t&&decide (t<P.types.size))=true) (hres:f.resultTypes=#[tb]) (htb:P.underlying tb=some .bool)
  (hW:DataW.Whole enc P f.params.toList s.vars apart W args.toList ds gs before)
  (hfn:(s.fn H (ds++gs)).results=[.lit (.bool true)]/\(s.fn H (ds++gs)).args=ds/\(s.fn H (ds++gs)).vars=[])
  (hb:Bel W W'):s.post enc P f apart fresh handsOn again W args (.bool true) W':=by
 have hr:∀ t∈f.params.toList,P.readableRec t=true/\t<P.types.size:=fun t ht=>by
  have:=List.all_eq_true.1 hr0 t ht;simpa using this
 have hb':Below W.heap.size W W':=hb;have hlt:∀ p∈before,p.block<W.heap.size:=fun p hp=>hW.lt p hp;have hold:∀ p∈before,(fun b=>decide (b<W.heap.size)) p.block=true:=fun p hp=>by simpa using hlt p hp
 have hWh:=hW;obtain ⟨pa,pv,hA,hV,hps,hz,hn⟩:=hW;rw [hvs] at hV;obtain ⟨hg,hpv⟩:=trodVars_none hV;subst hg;subst hpv;have hps':before=pa:=by simpa using hps
 subst hps'
 have hargs:∀ sp:Nat->Bool,(∀ p∈before,sp p.block=true)->DataW.TrodAll enc P W' 0 sp true f.params.toList args.toList (s.fn H (ds++[])).args before:=fun sp hsp=>by
  rw [hfn.2.1];exact aJo hl hb' hr hA hlt hsp
 have hvars:∀ sp:Nat->Bool,DataW.TrodVars enc P W' sp s.vars (s.fn H (ds++[])).vars []:=fun sp=>by
  rw [hvs,hfn.2.2];exact rfl
 have hresT:∀ (b:Nat) (sp:Nat->Bool) (hd:Bool),DataW.TrodAll enc P W' b sp hd f.resultTypes.toList ((Value.bool true).resultList f.resultTypes.size) (s.fn H (ds++[])).results []:=fun b sp hd=>by
  rw [hres,hfn.1];exact trodAll_cons_mk (shut_bool htb _) trodAll_mk0
 refine ⟨ds,[],before,[],before,[],hWh,hresT _ _ _,hargs _ hold,hvars _,World.keptBut_mono (fun p hp=>⟨hp,?_⟩) (hb'.frame (·∈before)),fun _=>?_⟩
 .right;simpa using hp
 .refine ⟨ok_one hres rfl (okWide_bool_mk htb _),_,_,([]++before)++[],⟨[]++before,[],trodAll_append (hargs _ (fun _ _=>rfl)) (hresT _ _ _),hvars _,rfl,?_,?_⟩,?_⟩
  .intro b off hp
   have hin:MemPlace.cell b off∈before:=by simpa using hp
   rw [hb'.frozen (hlt _ hin)];exact hz b off hin
  .intro ha
   have:=hn ha;simpa using this
  .intro p hp _
   simpa using hp
end
end Go.Proofs.YtdcjnhoabbdanaaGreatDoor

