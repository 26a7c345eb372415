/- Merged. -/

set_option linter.unusedSimpArgs false
set_option linter.unnecessarySimpa false
set_option linter.unusedVariables false
set_option maxRecDepth 100000

namespace Go.Proofs.YtmifhmdghfbalaaGreatDoor
structure Term where
 op:Int
 arg:Int
instance:Inhabited Term:=⟨⟨0,0⟩⟩
def aAn (op:Int):Int :=
 if op<1∨43<op then -1 else if op<=17 then 0 else if op<=29 then 1 else if op<=42 then 2 else 3
theorem aJb (op:Int) : -1<=aAn op/\aAn op<=3:=by unfold aAn;repeat' split <;> omega
def aM9:List Term->Int->Option Nat
 | [],_=>none
 | t :: ts,m=>if aAn t.op<0 then none else if m+(aAn t.op-1)=0 then some 1 else (aM9 ts (m+(aAn t.op-1))).map (·+1)
def aDy (es:List Term) (k:Nat) (m:Int):Int :=
 match aM9 (es.drop k) m with
 | none => -1
 | some n=>k+n
theorem aS9 {es:List Term} {k:Nat} {m:Int} (h:es.length<=k):aDy es k m = -1:=by
 unfold aDy;rw [List.drop_eq_nil_of_le h];rfl
theorem aU7 {es:List Term} {k:Nat} {m:Int} (h:k<es.length) (ha:aAn es[k].op<0):aDy es k m = -1:=by
 unfold aDy;rw [List.drop_eq_getElem_cons h];simp only [aM9,if_pos ha]
theorem aU8 {es:List Term} {k:Nat} {m:Int} (h:k<es.length) (ha:0<=aAn es[k].op) (hm:m+(aAn es[k].op-1)=0):aDy es k m=k+1:=by
 unfold aDy;rw [List.drop_eq_getElem_cons h];simp only [aM9];rw [if_neg (by omega),if_pos hm];rfl
theorem aSa {es:List Term} {k:Nat} {m:Int} (h:k<es.length) (ha:0<=aAn es[k].op) (hm:m+(aAn es[k].op-1)≠0):aDy es k m=aDy es (k+1) (m+(aAn es[k].op-1)):=by
 unfold aDy;rw [List.drop_eq_getElem_cons h];simp only [aM9];rw [if_neg (by omega),if_neg hm]
 cases aM9 (es.drop (k+1)) (m+(aAn es[k].op-1)) with
 | none=>rfl
 | some n=>simp;omega
def endF (es:List Term) (p:Int):Int:=if p<0∨es.length<=p then -1 else aDy es p.toNat 1
theorem bAz (l:List Term) (m:Int) (n:Nat) (h:aM9 l m=some n):1<=n/\n<=l.length:=by
 induction l generalizing m n with
 | nil=>simp [aM9] at h
 | cons t ts ih =>
  simp only [aM9] at h
  split at h
  .cases h
  .split at h
   .injection h with h;subst h;simp
   .cases hs:aM9 ts (m+(aAn t.op-1)) with
    | none=>rw [hs] at h;cases h
    | some q =>
     rw [hs] at h;injection h with h;subst h
     have:=ih _ _ hs;simp;omega
theorem bH5 (es:List Term) (k:Nat) (m:Int) (hk:k<=es.length):aDy es k m = -1∨(k<aDy es k m/\aDy es k m<=es.length):=by
 unfold aDy;cases h:aM9 (es.drop k) m with
 | none=>left;rfl
 | some n =>
  right
  have:=bAz _ _ _ h;simp at this
  simp;omega
theorem bA1 (es:List Term) (p:Int):endF es p = -1∨(0<=p/\p<es.length/\p<endF es p/\endF es p<=es.length):=by
 unfold endF;split
 .left;rfl
 .rename_i h
  have:=bH5 es p.toNat 1 (by omega)
  omega
def aR7 (es:List Term):Nat->Int->Int
 | 0,p=>p
 | n+1,p=>aR7 es n (endF es p)
def opAt (es:List Term) (p:Int):Int:=(es.getD p.toNat default).op
theorem bC2 {es:List Term} {k:Nat} (h:k<es.length):opAt es (k:Int)=es[k].op:=by
 unfold opAt;rw [List.getD_eq_getElem?_getD];simp [h]
def aEk (es:List Term) (p k:Int):Int :=
 if endF es p<0∨k<0∨aAn (opAt es p)<=k then -1 else aR7 es k.toNat (p+1)
def aAc (op:Int):Bool:=decide (20<=op/\op<=29)
def aEo (l:List Int):Int:=l.foldl max 0
theorem aXb (l:List Int) (a:Int):a<=l.foldl max a:=by
 induction l generalizing a with
 | nil=>exact Int.le_refl _
 | cons x l ih=>exact Int.le_trans (Int.le_max_left a x) (ih _)
theorem aXc (l:List Int) (a b:Int) (ha:a<=b) (h:∀ x∈l,x<=b):l.foldl max a<=b:=by
 induction l generalizing a with
 | nil=>exact ha
 | cons x l ih=>exact ih _ (Int.max_le.2 ⟨ha,h x (by simp)⟩) (fun y hy=>h y (by simp [hy]))
theorem aMg (l:List Int):0<=aEo l:=aXb l 0
theorem bA5 (l:List Int) (b:Int) (hb:0<=b) (h:∀ x∈l,x<=b):aEo l<=b:=aXc l 0 b hb h
def lev (num:Int->Int->Int):List Term->List Int
 | []=>[]
 | t :: ts=>(lev num ts).take ((lev num ts).length-(aAn t.op).toNat)++[num t.op (aEo ((lev num ts).drop ((lev num ts).length-(aAn t.op).toNat)))]
def aHy (l:List Term) (m:Int):Prop:=(l=[]/\m=0)∨(1<=m/\aM9 l m=some l.length)
theorem aHy.cons {t:Term} {ts:List Term} {m:Int} (h:aHy (t :: ts) m):1<=m/\0<=aAn t.op/\aHy ts (m+(aAn t.op-1)):=by
 rcases h with ⟨h,_⟩ | ⟨hm,h⟩
 .cases h
 .simp only [aM9] at h
  split at h
  .cases h
  .rename_i ha
   refine ⟨hm,by omega,?_⟩
   split at h
   .rename_i h0
    injection h with h
    left
    exact ⟨List.eq_nil_of_length_eq_zero (by simpa using h.symm),h0⟩
   .rename_i h0
    right
    refine ⟨by omega,?_⟩
    cases hs:aM9 ts (m+(aAn t.op-1)) with
    | none=>rw [hs] at h;cases h
    | some q=>rw [hs] at h;injection h with h;simp at h;rw [h]
theorem aHy.lev_length (num:Int->Int->Int) (l:List Term):∀ m,aHy l m->((lev num l).length:Int)=m:=by
 induction l with
 | nil =>
  intro m h
  rcases h with ⟨_,h⟩ | ⟨_,h⟩
  .simp [lev,h]
  .simp [aM9] at h
 | cons t ts ih =>
  intro m h
  obtain ⟨h1,h2,h3⟩:=h.cons;have:=ih _ h3;simp only [lev,List.length_append,List.length_take,List.length_singleton]
  omega
theorem aHq {es:List Term} (h:endF es 0=es.length):aHy es 1:=by
 unfold endF at h;split at h
 .omega
 .right
  refine ⟨by omega,?_⟩
  unfold aDy at h;simp only [Int.toNat_zero,List.drop_zero] at h
  cases hs:aM9 es 1 with
  | none=>rw [hs] at h;simp at h
  | some n=>rw [hs] at h;simp at h;rw [show n=es.length by omega]
theorem aHy.drop {es:List Term} (h:aHy es 1):∀ i,i<=es.length->∃ m,aHy (es.drop i) m:=by
 intro i
 induction i with
 | zero=>intro _;exact ⟨1,by simpa using h⟩
 | succ i ih =>
  intro hi
  obtain ⟨m,hm⟩:=ih (by omega)
  rw [List.drop_eq_getElem_cons (by omega)] at hm
  exact ⟨_,hm.cons.2.2⟩
theorem bK5 (num:Int->Int->Int) {es:List Term} (h:aHy es 1) {i:Nat} (hi:i<es.length) :
  0<=aAn es[i].op/\aAn es[i].op<=(lev num (es.drop (i+1))).length:=by
 obtain ⟨m,hm⟩:=h.drop i (by omega)
 rw [List.drop_eq_getElem_cons hi] at hm;obtain ⟨h1,h2,h3⟩:=hm.cons;have:=h3.lev_length num;exact ⟨h2,by omega⟩
theorem aXr (num:Int->Int->Int) (hn:∀ op g,0<=g->0<=num op g/\num op g<=g+1) (l:List Term):(lev num l).length<=l.length/\∀ x∈lev num l,0<=x/\x<=l.length:=by
 induction l with
 | nil=>simp [lev]
 | cons t ts ih =>
  obtain ⟨ih1,ih2⟩:=ih;refine ⟨by simp only [lev,List.length_append,List.length_take,List.length_cons,List.length_nil];omega,fun x hx=>?_⟩
  simp only [lev,List.mem_append,List.mem_singleton] at hx
  rcases hx with hx | hx
  .have:=ih2 x (List.mem_of_mem_take hx)
   simp;omega
  .have g1:=aMg ((lev num ts).drop ((lev num ts).length-(aAn t.op).toNat))
   have g2:=bA5 ((lev num ts).drop ((lev num ts).length-(aAn t.op).toNat)) ts.length (by omega) (fun y hy=>(ih2 y (List.mem_of_mem_drop hy)).2)
   have:=hn t.op _ g1;rw [hx];simp;omega
def aF6 (num:Int->Int->Int) (es:List Term):Int:=if endF es 0=es.length then (lev num es).headD 0 else 0
def aD9 (_ g:Int):Int:=g+1
def aDu (op g:Int):Int:=if aAc op then g+1 else g
theorem aQt (op g:Int) (h:0<=g):0<=aD9 op g/\aD9 op g<=g+1:=by unfold aD9;omega
theorem aTu (op g:Int) (h:0<=g):0<=aDu op g/\aDu op g<=g+1:=by unfold aDu;split <;> omega
def aEs (es:List Term):Int:=aF6 aD9 es
def aKe (es:List Term):Int:=aF6 aDu es
def aHz (t:Term) (vars:Int):Bool :=
 if t.op=1 then decide (0<=t.arg/\t.arg<=1073741824) else if t.op=5∨t.op=12 then decide (0<=t.arg/\t.arg<vars) else decide (t.arg=0)
def bEm (es:List Term):Bool:=decide (0<es.length/\endF es 0=es.length)
def aB8 (es:List Term) (vars:Int):Bool :=
 decide (es.length<=200)&&(endF es 0==es.length)&&es.all (aHz · vars)&&decide (aEs es<=24)&&decide (aKe es<=2)
def bGu:List (Int × Bool)->List (Int × Bool)
 | []=>[]
 | (c,b) :: r=>if c-1=0 then bGu r else (c-1,b) :: r
def aGz:List (Int × Bool)->List (Int × Bool)
 | []=>[]
 | (c,b) :: r=>if c=0 then bGu r else (c,b) :: r
def aHs (s:List (Int × Bool)):Int:=(s.filter (·.2)).length
def aPo:List Term->List (Int × Bool)->Int->Int->Int × Int
 | [],_,d,n=>(d,n)
 | t :: ts,s,d,n=>aPo ts (aGz ((aAn t.op,aAc t.op) :: s)) (max d (((aAn t.op,aAc t.op) :: s).length:Nat)) (max n (aHs ((aAn t.op,aAc t.op) :: s)))
def bCi (s:List (Int × Bool)):Prop:=∀ x∈s,1<=x.1/\x.1<=3
theorem bCi.tail {x:Int × Bool} {s:List (Int × Bool)} (h:bCi (x :: s)):bCi s:=fun y hy=>h y (by simp [hy])
theorem aRu {s:List (Int × Bool)} (h:bCi s):bCi (bGu s)/\(bGu s).length<=s.length:=by
 induction s with
 | nil=>exact ⟨h,Nat.le_refl _⟩
 | cons x s ih =>
  obtain ⟨c,b⟩:=x;have hc:=h (c,b) (by simp)
  simp only [bGu]
  split
  .exact ⟨(ih h.tail).1,by have:=(ih h.tail).2;simp;omega⟩
  .refine ⟨fun y hy=>?_,by simp⟩
   rcases List.mem_cons.1 hy with e | e
   .subst e;simp at hc ⊢;omega
   .exact h y (by simp [e])
theorem aTw {c:Int} {b:Bool} {s:List (Int × Bool)} (h:bCi s) (h0:0<=c) (h3:c<=3):bCi (aGz ((c,b) :: s))/\(aGz ((c,b) :: s)).length<=s.length+1:=by
 simp only [aGz]
 split
 .exact ⟨(aRu h).1,by have:=(aRu h).2;omega⟩
 .refine ⟨fun y hy=>?_,by simp⟩
  rcases List.mem_cons.1 hy with e | e
  .subst e;simp;omega
  .exact h y e
theorem bDi (s:List (Int × Bool)):0<=aHs s/\aHs s<=s.length:=by
 unfold aHs;have:=List.length_filter_le (fun x:Int × Bool=>x.2) s;omega
def bK1 (l:List Bool):Int:=(l.filter id).length
theorem aWv (s:List (Int × Bool)):bK1 ((s.map (·.2)).reverse)=aHs s:=by
 unfold bK1 aHs;rw [List.filter_reverse,List.length_reverse,List.filter_map,List.length_map];rfl
theorem aWu (b:Bool) (l:List Bool):bK1 (b :: l)=(if b then 1 else 0)+bK1 l:=by
 cases b
 .simp [bK1]
 .simp [bK1];omega
theorem bDt (b:Bool) (c:Int) (b':Bool) (r:List (Int × Bool)):aGz ((0,b) :: (c,b') :: r)=aGz ((c-1,b') :: r):=by
 simp [aGz,bGu]
theorem aSx (b:Bool):aGz [(0,b)]=[]:=by simp [aGz,bGu]
theorem aY6 (c:Int) (b:Bool) (r:List (Int × Bool)) (h:c≠0):aGz ((c,b) :: r)=(c,b) :: r:=by simp [aGz,h]
def bKh:List (Int × Bool)->Prop
 | []=>True
 | (c,_) :: r=>0<=c/\c<=3/\bCi r
end Go.Proofs.YtmifhmdghfbalaaGreatDoor

