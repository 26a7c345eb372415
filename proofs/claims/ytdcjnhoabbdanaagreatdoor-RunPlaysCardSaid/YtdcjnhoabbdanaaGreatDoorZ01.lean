/- Merged. -/

set_option linter.unusedSimpArgs false
set_option linter.unnecessarySimpa false
set_option linter.unusedVariables false
set_option maxRecDepth 100000

namespace Go.Proofs.YtdcjnhoabbdanaaGreatDoor
structure Term where
 op:Int
 arg:Int
instance:Inhabited Term:=⟨⟨0,0⟩⟩
def aAe (op:Int):Int :=
 if op<1∨43<op then -1 else if op<=17 then 0 else if op<=29 then 1 else if op<=42 then 2 else 3
theorem aGg (op:Int) : -1<=aAe op/\aAe op<=3:=by unfold aAe;repeat' split <;> omega
def aIl:List Term->Int->Option Nat
 | [],_=>none
 | t :: ts,m=>if aAe t.op<0 then none else if m+(aAe t.op-1)=0 then some 1 else (aIl ts (m+(aAe t.op-1))).map (·+1)
def aCt (es:List Term) (k:Nat) (m:Int):Int :=
 match aIl (es.drop k) m with
 | none => -1
 | some n=>k+n
theorem aN6 {es:List Term} {k:Nat} {m:Int} (h:es.length<=k):aCt es k m = -1:=by
 unfold aCt;rw [List.drop_eq_nil_of_le h];rfl
theorem aOa {es:List Term} {k:Nat} {m:Int} (h:k<es.length) (ha:aAe es[k].op<0):aCt es k m = -1:=by
 unfold aCt;rw [List.drop_eq_getElem_cons h];simp only [aIl,if_pos ha]
theorem aOb {es:List Term} {k:Nat} {m:Int} (h:k<es.length) (ha:0<=aAe es[k].op) (hm:m+(aAe es[k].op-1)=0):aCt es k m=k+1:=by
 unfold aCt;rw [List.drop_eq_getElem_cons h];simp only [aIl];rw [if_neg (by omega),if_pos hm];rfl
theorem aN7 {es:List Term} {k:Nat} {m:Int} (h:k<es.length) (ha:0<=aAe es[k].op) (hm:m+(aAe es[k].op-1)≠0):aCt es k m=aCt es (k+1) (m+(aAe es[k].op-1)):=by
 unfold aCt;rw [List.drop_eq_getElem_cons h];simp only [aIl];rw [if_neg (by omega),if_neg hm]
 cases aIl (es.drop (k+1)) (m+(aAe es[k].op-1)) with
 | none=>rfl
 | some n=>simp;omega
def endF (es:List Term) (p:Int):Int:=if p<0∨es.length<=p then -1 else aCt es p.toNat 1
theorem aSz (l:List Term) (m:Int) (n:Nat) (h:aIl l m=some n):1<=n/\n<=l.length:=by
 induction l generalizing m n with
 | nil=>simp [aIl] at h
 | cons t ts ih =>
  simp only [aIl] at h
  split at h
  .cases h
  .split at h
   .injection h with h;subst h;simp
   .cases hs:aIl ts (m+(aAe t.op-1)) with
    | none=>rw [hs] at h;cases h
    | some q =>
     rw [hs] at h;injection h with h;subst h
     have:=ih _ _ hs;simp;omega
theorem aX0 (es:List Term) (k:Nat) (m:Int) (hk:k<=es.length):aCt es k m = -1∨(k<aCt es k m/\aCt es k m<=es.length):=by
 unfold aCt;cases h:aIl (es.drop k) m with
 | none=>left;rfl
 | some n =>
  right
  have:=aSz _ _ _ h;simp at this
  simp;omega
theorem aS7 (es:List Term) (p:Int):endF es p = -1∨(0<=p/\p<es.length/\p<endF es p/\endF es p<=es.length):=by
 unfold endF;split
 .left;rfl
 .rename_i h
  have:=aX0 es p.toNat 1 (by omega)
  omega
def aMe (es:List Term):Nat->Int->Int
 | 0,p=>p
 | n+1,p=>aMe es n (endF es p)
def opAt (es:List Term) (p:Int):Int:=(es.getD p.toNat default).op
theorem aTg {es:List Term} {k:Nat} (h:k<es.length):opAt es (k:Int)=es[k].op:=by
 unfold opAt;rw [List.getD_eq_getElem?_getD];simp [h]
def aD2 (es:List Term) (p k:Int):Int :=
 if endF es p<0∨k<0∨aAe (opAt es p)<=k then -1 else aMe es k.toNat (p+1)
def aAa (op:Int):Bool:=decide (20<=op/\op<=29)
def aD5 (l:List Int):Int:=l.foldl max 0
theorem aQ6 (l:List Int) (a:Int):a<=l.foldl max a:=by
 induction l generalizing a with
 | nil=>exact Int.le_refl _
 | cons x l ih=>exact Int.le_trans (Int.le_max_left a x) (ih _)
theorem aQ7 (l:List Int) (a b:Int) (ha:a<=b) (h:∀ x∈l,x<=b):l.foldl max a<=b:=by
 induction l generalizing a with
 | nil=>exact ha
 | cons x l ih=>exact ih _ (Int.max_le.2 ⟨ha,h x (by simp)⟩) (fun y hy=>h y (by simp [hy]))
theorem aIt (l:List Int):0<=aD5 l:=aQ6 l 0
theorem aSa (l:List Int) (b:Int) (hb:0<=b) (h:∀ x∈l,x<=b):aD5 l<=b:=aQ7 l 0 b hb h
def lev (num:Int->Int->Int):List Term->List Int
 | []=>[]
 | t :: ts=>(lev num ts).take ((lev num ts).length-(aAe t.op).toNat)++[num t.op (aD5 ((lev num ts).drop ((lev num ts).length-(aAe t.op).toNat)))]
def aFe (l:List Term) (m:Int):Prop:=(l=[]/\m=0)∨(1<=m/\aIl l m=some l.length)
theorem aFe.cons {t:Term} {ts:List Term} {m:Int} (h:aFe (t :: ts) m):1<=m/\0<=aAe t.op/\aFe ts (m+(aAe t.op-1)):=by
 rcases h with ⟨h,_⟩ | ⟨hm,h⟩
 .cases h
 .simp only [aIl] at h
  split at h
  .cases h
  .rename_i ha
   refine ⟨hm,by omega,?_⟩
   split at h
   .rename_i h0
    injection h with h
    left
    exact ⟨List.eq_nil_of_length_eq_zero (by simpa using h.symm),h0⟩
   .rename_i h0
    right
    refine ⟨by omega,?_⟩
    cases hs:aIl ts (m+(aAe t.op-1)) with
    | none=>rw [hs] at h;cases h
    | some q=>rw [hs] at h;injection h with h;simp at h;rw [h]
theorem aFe.lev_length (num:Int->Int->Int) (l:List Term):∀ m,aFe l m->((lev num l).length:Int)=m:=by
 induction l with
 | nil =>
  intro m h
  rcases h with ⟨_,h⟩ | ⟨_,h⟩
  .simp [lev,h]
  .simp [aIl] at h
 | cons t ts ih =>
  intro m h
  obtain ⟨h1,h2,h3⟩:=h.cons;have:=ih _ h3;simp only [lev,List.length_append,List.length_take,List.length_singleton]
  omega
theorem aF4 {es:List Term} (h:endF es 0=es.length):aFe es 1:=by
 unfold endF at h;split at h
 .omega
 .right
  refine ⟨by omega,?_⟩
  unfold aCt at h;simp only [Int.toNat_zero,List.drop_zero] at h
  cases hs:aIl es 1 with
  | none=>rw [hs] at h;simp at h
  | some n=>rw [hs] at h;simp at h;rw [show n=es.length by omega]
theorem aFe.drop {es:List Term} (h:aFe es 1):∀ i,i<=es.length->∃ m,aFe (es.drop i) m:=by
 intro i
 induction i with
 | zero=>intro _;exact ⟨1,by simpa using h⟩
 | succ i ih =>
  intro hi
  obtain ⟨m,hm⟩:=ih (by omega)
  rw [List.drop_eq_getElem_cons (by omega)] at hm
  exact ⟨_,hm.cons.2.2⟩
theorem aZ2 (num:Int->Int->Int) {es:List Term} (h:aFe es 1) {i:Nat} (hi:i<es.length) :
  0<=aAe es[i].op/\aAe es[i].op<=(lev num (es.drop (i+1))).length:=by
 obtain ⟨m,hm⟩:=h.drop i (by omega)
 rw [List.drop_eq_getElem_cons hi] at hm;obtain ⟨h1,h2,h3⟩:=hm.cons;have:=h3.lev_length num;exact ⟨h2,by omega⟩
theorem aQd (num:Int->Int->Int) (hn:∀ op g,0<=g->0<=num op g/\num op g<=g+1) (l:List Term):(lev num l).length<=l.length/\∀ x∈lev num l,0<=x/\x<=l.length:=by
 induction l with
 | nil=>simp [lev]
 | cons t ts ih =>
  obtain ⟨ih1,ih2⟩:=ih;refine ⟨by simp only [lev,List.length_append,List.length_take,List.length_cons,List.length_nil];omega,fun x hx=>?_⟩
  simp only [lev,List.mem_append,List.mem_singleton] at hx
  rcases hx with hx | hx
  .have:=ih2 x (List.mem_of_mem_take hx)
   simp;omega
  .have g1:=aIt ((lev num ts).drop ((lev num ts).length-(aAe t.op).toNat))
   have g2:=aSa ((lev num ts).drop ((lev num ts).length-(aAe t.op).toNat)) ts.length (by omega) (fun y hy=>(ih2 y (List.mem_of_mem_drop hy)).2)
   have:=hn t.op _ g1;rw [hx];simp;omega
def aDi (num:Int->Int->Int) (es:List Term):Int:=if endF es 0=es.length then (lev num es).headD 0 else 0
def aCe (_ g:Int):Int:=g+1
def aCq (op g:Int):Int:=if aAa op then g+1 else g
theorem aLz (op g:Int) (h:0<=g):0<=aCe op g/\aCe op g<=g+1:=by unfold aCe;omega
theorem aNz (op g:Int) (h:0<=g):0<=aCq op g/\aCq op g<=g+1:=by unfold aCq;split <;> omega
def aD9 (es:List Term):Int:=aDi aCe es
def aH5 (es:List Term):Int:=aDi aCq es
def aFf (t:Term) (vars:Int):Bool :=
 if t.op=1 then decide (0<=t.arg/\t.arg<=1073741824) else if t.op=5∨t.op=12 then decide (0<=t.arg/\t.arg<vars) else decide (t.arg=0)
def aV9 (es:List Term):Bool:=decide (0<es.length/\endF es 0=es.length)
def aAy (es:List Term) (vars:Int):Bool :=
 decide (es.length<=200)&&(endF es 0==es.length)&&es.all (aFf · vars)&&decide (aD9 es<=24)&&decide (aH5 es<=2)
def aWs:List (Int × Bool)->List (Int × Bool)
 | []=>[]
 | (c,b) :: r=>if c-1=0 then aWs r else (c-1,b) :: r
def aEi:List (Int × Bool)->List (Int × Bool)
 | []=>[]
 | (c,b) :: r=>if c=0 then aWs r else (c,b) :: r
def aF5 (s:List (Int × Bool)):Int:=(s.filter (·.2)).length
def aL9:List Term->List (Int × Bool)->Int->Int->Int × Int
 | [],_,d,n=>(d,n)
 | t :: ts,s,d,n=>aL9 ts (aEi ((aAe t.op,aAa t.op) :: s)) (max d (((aAe t.op,aAa t.op) :: s).length:Nat)) (max n (aF5 ((aAe t.op,aAa t.op) :: s)))
def aTv (s:List (Int × Bool)):Prop:=∀ x∈s,1<=x.1/\x.1<=3
theorem aTv.tail {x:Int × Bool} {s:List (Int × Bool)} (h:aTv (x :: s)):aTv s:=fun y hy=>h y (by simp [hy])
theorem aMx {s:List (Int × Bool)} (h:aTv s):aTv (aWs s)/\(aWs s).length<=s.length:=by
 induction s with
 | nil=>exact ⟨h,Nat.le_refl _⟩
 | cons x s ih =>
  obtain ⟨c,b⟩:=x;have hc:=h (c,b) (by simp)
  simp only [aWs]
  split
  .exact ⟨(ih h.tail).1,by have:=(ih h.tail).2;simp;omega⟩
  .refine ⟨fun y hy=>?_,by simp⟩
   rcases List.mem_cons.1 hy with e | e
   .subst e;simp at hc ⊢;omega
   .exact h y (by simp [e])
theorem aO0 {c:Int} {b:Bool} {s:List (Int × Bool)} (h:aTv s) (h0:0<=c) (h3:c<=3):aTv (aEi ((c,b) :: s))/\(aEi ((c,b) :: s)).length<=s.length+1:=by
 simp only [aEi]
 split
 .exact ⟨(aMx h).1,by have:=(aMx h).2;omega⟩
 .refine ⟨fun y hy=>?_,by simp⟩
  rcases List.mem_cons.1 hy with e | e
  .subst e;simp;omega
  .exact h y e
theorem aUi (s:List (Int × Bool)):0<=aF5 s/\aF5 s<=s.length:=by
 unfold aF5;have:=List.length_filter_le (fun x:Int × Bool=>x.2) s;omega
def aZ0 (l:List Bool):Int:=(l.filter id).length
theorem aPx (s:List (Int × Bool)):aZ0 ((s.map (·.2)).reverse)=aF5 s:=by
 unfold aZ0 aF5;rw [List.filter_reverse,List.length_reverse,List.filter_map,List.length_map];rfl
theorem aPw (b:Bool) (l:List Bool):aZ0 (b :: l)=(if b then 1 else 0)+aZ0 l:=by
 cases b
 .simp [aZ0]
 .simp [aZ0];omega
theorem aUp (b:Bool) (c:Int) (b':Bool) (r:List (Int × Bool)):aEi ((0,b) :: (c,b') :: r)=aEi ((c-1,b') :: r):=by
 simp [aEi,aWs]
theorem aNi (b:Bool):aEi [(0,b)]=[]:=by simp [aEi,aWs]
theorem aQl (c:Int) (b:Bool) (r:List (Int × Bool)) (h:c≠0):aEi ((c,b) :: r)=(c,b) :: r:=by simp [aEi,h]
def aZc:List (Int × Bool)->Prop
 | []=>True
 | (c,_) :: r=>0<=c/\c<=3/\aTv r
end Go.Proofs.YtdcjnhoabbdanaaGreatDoor

