/- Merged. -/

set_option linter.unusedSimpArgs false
set_option linter.unnecessarySimpa false
set_option linter.unusedVariables false
set_option maxRecDepth 100000

namespace Go.Proofs.YtdcjnhoabbdanaaGreatDoor
structure Term where
 op:Int
 arg:Int
instance:Inhabited Term:=⟨⟨0,0⟩⟩
def aAj (op:Int):Int :=
 if op<1∨43<op then -1 else if op<=17 then 0 else if op<=29 then 1 else if op<=42 then 2 else 3
theorem aH4 (op:Int) : -1<=aAj op/\aAj op<=3:=by unfold aAj;repeat' split <;> omega
def aJf:List Term->Int->Option Nat
 | [],_=>none
 | t :: ts,m=>if aAj t.op<0 then none else if m+(aAj t.op-1)=0 then some 1 else (aJf ts (m+(aAj t.op-1))).map (·+1)
def aDa (es:List Term) (k:Nat) (m:Int):Int :=
 match aJf (es.drop k) m with
 | none => -1
 | some n=>k+n
theorem aOe {es:List Term} {k:Nat} {m:Int} (h:es.length<=k):aDa es k m = -1:=by
 unfold aDa;rw [List.drop_eq_nil_of_le h];rfl
theorem aPp {es:List Term} {k:Nat} {m:Int} (h:k<es.length) (ha:aAj es[k].op<0):aDa es k m = -1:=by
 unfold aDa;rw [List.drop_eq_getElem_cons h];simp only [aJf,if_pos ha]
theorem aPq {es:List Term} {k:Nat} {m:Int} (h:k<es.length) (ha:0<=aAj es[k].op) (hm:m+(aAj es[k].op-1)=0):aDa es k m=k+1:=by
 unfold aDa;rw [List.drop_eq_getElem_cons h];simp only [aJf];rw [if_neg (by omega),if_pos hm];rfl
theorem aOf {es:List Term} {k:Nat} {m:Int} (h:k<es.length) (ha:0<=aAj es[k].op) (hm:m+(aAj es[k].op-1)≠0):aDa es k m=aDa es (k+1) (m+(aAj es[k].op-1)):=by
 unfold aDa;rw [List.drop_eq_getElem_cons h];simp only [aJf];rw [if_neg (by omega),if_neg hm]
 cases aJf (es.drop (k+1)) (m+(aAj es[k].op-1)) with
 | none=>rfl
 | some n=>simp;omega
def endF (es:List Term) (p:Int):Int:=if p<0∨es.length<=p then -1 else aDa es p.toNat 1
theorem aUg (l:List Term) (m:Int) (n:Nat) (h:aJf l m=some n):1<=n/\n<=l.length:=by
 induction l generalizing m n with
 | nil=>simp [aJf] at h
 | cons t ts ih =>
  simp only [aJf] at h
  split at h
  .cases h
  .split at h
   .injection h with h;subst h;simp
   .cases hs:aJf ts (m+(aAj t.op-1)) with
    | none=>rw [hs] at h;cases h
    | some q =>
     rw [hs] at h;injection h with h;subst h
     have:=ih _ _ hs;simp;omega
theorem aYq (es:List Term) (k:Nat) (m:Int) (hk:k<=es.length):aDa es k m = -1∨(k<aDa es k m/\aDa es k m<=es.length):=by
 unfold aDa;cases h:aJf (es.drop k) m with
 | none=>left;rfl
 | some n =>
  right
  have:=aUg _ _ _ h;simp at this
  simp;omega
theorem aTn (es:List Term) (p:Int):endF es p = -1∨(0<=p/\p<es.length/\p<endF es p/\endF es p<=es.length):=by
 unfold endF;split
 .left;rfl
 .rename_i h
  have:=aYq es p.toNat 1 (by omega)
  omega
def aNk (es:List Term):Nat->Int->Int
 | 0,p=>p
 | n+1,p=>aNk es n (endF es p)
def opAt (es:List Term) (p:Int):Int:=(es.getD p.toNat default).op
theorem aV3 {es:List Term} {k:Nat} (h:k<es.length):opAt es (k:Int)=es[k].op:=by
 unfold opAt;rw [List.getD_eq_getElem?_getD];simp [h]
def aDm (es:List Term) (p k:Int):Int :=
 if endF es p<0∨k<0∨aAj (opAt es p)<=k then -1 else aNk es k.toNat (p+1)
def aAc (op:Int):Bool:=decide (20<=op/\op<=29)
def aDp (l:List Int):Int:=l.foldl max 0
theorem aRl (l:List Int) (a:Int):a<=l.foldl max a:=by
 induction l generalizing a with
 | nil=>exact Int.le_refl _
 | cons x l ih=>exact Int.le_trans (Int.le_max_left a x) (ih _)
theorem aRm (l:List Int) (a b:Int) (ha:a<=b) (h:∀ x∈l,x<=b):l.foldl max a<=b:=by
 induction l generalizing a with
 | nil=>exact ha
 | cons x l ih=>exact ih _ (Int.max_le.2 ⟨ha,h x (by simp)⟩) (fun y hy=>h y (by simp [hy]))
theorem aJl (l:List Int):0<=aDp l:=aRl l 0
theorem aTq (l:List Int) (b:Int) (hb:0<=b) (h:∀ x∈l,x<=b):aDp l<=b:=aRm l 0 b hb h
def lev (num:Int->Int->Int):List Term->List Int
 | []=>[]
 | t :: ts=>(lev num ts).take ((lev num ts).length-(aAj t.op).toNat)++[num t.op (aDp ((lev num ts).drop ((lev num ts).length-(aAj t.op).toNat)))]
def aG4 (l:List Term) (m:Int):Prop:=(l=[]/\m=0)∨(1<=m/\aJf l m=some l.length)
theorem aG4.cons {t:Term} {ts:List Term} {m:Int} (h:aG4 (t :: ts) m):1<=m/\0<=aAj t.op/\aG4 ts (m+(aAj t.op-1)):=by
 rcases h with ⟨h,_⟩ | ⟨hm,h⟩
 .cases h
 .simp only [aJf] at h
  split at h
  .cases h
  .rename_i ha
   refine ⟨hm,by omega,?_⟩
   split at h
   .rename_i h0
    injection h with h
    left
    exact ⟨List.eq_nil_of_length_eq_zero (by simpa using h.symm),h0⟩
   .rename_i h0
    right
    refine ⟨by omega,?_⟩
    cases hs:aJf ts (m+(aAj t.op-1)) with
    | none=>rw [hs] at h;cases h
    | some q=>rw [hs] at h;injection h with h;simp at h;rw [h]
theorem aG4.lev_length (num:Int->Int->Int) (l:List Term):∀ m,aG4 l m->((lev num l).length:Int)=m:=by
 induction l with
 | nil =>
  intro m h
  rcases h with ⟨_,h⟩ | ⟨_,h⟩
  .simp [lev,h]
  .simp [aJf] at h
 | cons t ts ih =>
  intro m h
  obtain ⟨h1,h2,h3⟩:=h.cons;have:=ih _ h3;simp only [lev,List.length_append,List.length_take,List.length_singleton]
  omega
theorem aFt {es:List Term} (h:endF es 0=es.length):aG4 es 1:=by
 unfold endF at h;split at h
 .omega
 .right
  refine ⟨by omega,?_⟩
  unfold aDa at h;simp only [Int.toNat_zero,List.drop_zero] at h
  cases hs:aJf es 1 with
  | none=>rw [hs] at h;simp at h
  | some n=>rw [hs] at h;simp at h;rw [show n=es.length by omega]
theorem aG4.drop {es:List Term} (h:aG4 es 1):∀ i,i<=es.length->∃ m,aG4 (es.drop i) m:=by
 intro i
 induction i with
 | zero=>intro _;exact ⟨1,by simpa using h⟩
 | succ i ih =>
  intro hi
  obtain ⟨m,hm⟩:=ih (by omega)
  rw [List.drop_eq_getElem_cons (by omega)] at hm
  exact ⟨_,hm.cons.2.2⟩
theorem bB0 (num:Int->Int->Int) {es:List Term} (h:aG4 es 1) {i:Nat} (hi:i<es.length) :
  0<=aAj es[i].op/\aAj es[i].op<=(lev num (es.drop (i+1))).length:=by
 obtain ⟨m,hm⟩:=h.drop i (by omega)
 rw [List.drop_eq_getElem_cons hi] at hm;obtain ⟨h1,h2,h3⟩:=hm.cons;have:=h3.lev_length num;exact ⟨h2,by omega⟩
theorem aRr (num:Int->Int->Int) (hn:∀ op g,0<=g->0<=num op g/\num op g<=g+1) (l:List Term):(lev num l).length<=l.length/\∀ x∈lev num l,0<=x/\x<=l.length:=by
 induction l with
 | nil=>simp [lev]
 | cons t ts ih =>
  obtain ⟨ih1,ih2⟩:=ih;refine ⟨by simp only [lev,List.length_append,List.length_take,List.length_cons,List.length_nil];omega,fun x hx=>?_⟩
  simp only [lev,List.mem_append,List.mem_singleton] at hx
  rcases hx with hx | hx
  .have:=ih2 x (List.mem_of_mem_take hx)
   simp;omega
  .have g1:=aJl ((lev num ts).drop ((lev num ts).length-(aAj t.op).toNat))
   have g2:=aTq ((lev num ts).drop ((lev num ts).length-(aAj t.op).toNat)) ts.length (by omega) (fun y hy=>(ih2 y (List.mem_of_mem_drop hy)).2)
   have:=hn t.op _ g1;rw [hx];simp;omega
def aE0 (num:Int->Int->Int) (es:List Term):Int:=if endF es 0=es.length then (lev num es).headD 0 else 0
def aCn (_ g:Int):Int:=g+1
def aD5 (op g:Int):Int:=if aAc op then g+1 else g
theorem aN2 (op g:Int) (h:0<=g):0<=aCn op g/\aCn op g<=g+1:=by unfold aCn;omega
theorem aPd (op g:Int) (h:0<=g):0<=aD5 op g/\aD5 op g<=g+1:=by unfold aD5;split <;> omega
def aDq (es:List Term):Int:=aE0 aCn es
def aHt (es:List Term):Int:=aE0 aD5 es
def aG5 (t:Term) (vars:Int):Bool :=
 if t.op=1 then decide (0<=t.arg/\t.arg<=1073741824) else if t.op=5∨t.op=12 then decide (0<=t.arg/\t.arg<vars) else decide (t.arg=0)
def aWx (es:List Term):Bool:=decide (0<es.length/\endF es 0=es.length)
def aB6 (es:List Term) (vars:Int):Bool :=
 decide (es.length<=200)&&(endF es 0==es.length)&&es.all (aG5 · vars)&&decide (aDq es<=24)&&decide (aHt es<=2)
def aYh:List (Int × Bool)->List (Int × Bool)
 | []=>[]
 | (c,b) :: r=>if c-1=0 then aYh r else (c-1,b) :: r
def aF9:List (Int × Bool)->List (Int × Bool)
 | []=>[]
 | (c,b) :: r=>if c=0 then aYh r else (c,b) :: r
def aFv (s:List (Int × Bool)):Int:=(s.filter (·.2)).length
def aM8:List Term->List (Int × Bool)->Int->Int->Int × Int
 | [],_,d,n=>(d,n)
 | t :: ts,s,d,n=>aM8 ts (aF9 ((aAj t.op,aAc t.op) :: s)) (max d (((aAj t.op,aAc t.op) :: s).length:Nat)) (max n (aFv ((aAj t.op,aAc t.op) :: s)))
def aVj (s:List (Int × Bool)):Prop:=∀ x∈s,1<=x.1/\x.1<=3
theorem aVj.tail {x:Int × Bool} {s:List (Int × Bool)} (h:aVj (x :: s)):aVj s:=fun y hy=>h y (by simp [hy])
theorem aO6 {s:List (Int × Bool)} (h:aVj s):aVj (aYh s)/\(aYh s).length<=s.length:=by
 induction s with
 | nil=>exact ⟨h,Nat.le_refl _⟩
 | cons x s ih =>
  obtain ⟨c,b⟩:=x;have hc:=h (c,b) (by simp)
  simp only [aYh]
  split
  .exact ⟨(ih h.tail).1,by have:=(ih h.tail).2;simp;omega⟩
  .refine ⟨fun y hy=>?_,by simp⟩
   rcases List.mem_cons.1 hy with e | e
   .subst e;simp at hc ⊢;omega
   .exact h y (by simp [e])
theorem aPe {c:Int} {b:Bool} {s:List (Int × Bool)} (h:aVj s) (h0:0<=c) (h3:c<=3):aVj (aF9 ((c,b) :: s))/\(aF9 ((c,b) :: s)).length<=s.length+1:=by
 simp only [aF9]
 split
 .exact ⟨(aO6 h).1,by have:=(aO6 h).2;omega⟩
 .refine ⟨fun y hy=>?_,by simp⟩
  rcases List.mem_cons.1 hy with e | e
  .subst e;simp;omega
  .exact h y e
theorem aW6 (s:List (Int × Bool)):0<=aFv s/\aFv s<=s.length:=by
 unfold aFv;have:=List.length_filter_le (fun x:Int × Bool=>x.2) s;omega
def bAy (l:List Bool):Int:=(l.filter id).length
theorem aRe (s:List (Int × Bool)):bAy ((s.map (·.2)).reverse)=aFv s:=by
 unfold bAy aFv;rw [List.filter_reverse,List.length_reverse,List.filter_map,List.length_map];rfl
theorem aRd (b:Bool) (l:List Bool):bAy (b :: l)=(if b then 1 else 0)+bAy l:=by
 cases b
 .simp [bAy]
 .simp [bAy];omega
theorem aWc (b:Bool) (c:Int) (b':Bool) (r:List (Int × Bool)):aF9 ((0,b) :: (c,b') :: r)=aF9 ((c-1,b') :: r):=by
 simp [aF9,aYh]
theorem aOt (b:Bool):aF9 [(0,b)]=[]:=by simp [aF9,aYh]
theorem aRz (c:Int) (b:Bool) (r:List (Int × Bool)) (h:c≠0):aF9 ((c,b) :: r)=(c,b) :: r:=by simp [aF9,h]
def bB9:List (Int × Bool)->Prop
 | []=>True
 | (c,_) :: r=>0<=c/\c<=3/\aVj r
end Go.Proofs.YtdcjnhoabbdanaaGreatDoor

