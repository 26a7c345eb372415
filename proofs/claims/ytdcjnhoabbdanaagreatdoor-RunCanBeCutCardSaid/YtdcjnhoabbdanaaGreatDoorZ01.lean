/- Merged. -/

set_option linter.unusedSimpArgs false
set_option linter.unnecessarySimpa false
set_option linter.unusedVariables false
set_option maxRecDepth 100000

namespace Go.Proofs.YtdcjnhoabbdanaaGreatDoor
structure Term where
 op:Int
 arg:Int
instance:Inhabited Term:=⟨⟨0,0⟩⟩
def aAd (op:Int):Int :=
 if op<1∨43<op then -1 else if op<=17 then 0 else if op<=29 then 1 else if op<=42 then 2 else 3
theorem aG1 (op:Int) : -1<=aAd op/\aAd op<=3:=by unfold aAd;repeat' split <;> omega
def aIc:List Term->Int->Option Nat
 | [],_=>none
 | t :: ts,m=>if aAd t.op<0 then none else if m+(aAd t.op-1)=0 then some 1 else (aIc ts (m+(aAd t.op-1))).map (·+1)
def aCj (es:List Term) (k:Nat) (m:Int):Int :=
 match aIc (es.drop k) m with
 | none => -1
 | some n=>k+n
theorem aMs {es:List Term} {k:Nat} {m:Int} (h:es.length<=k):aCj es k m = -1:=by
 unfold aCj;rw [List.drop_eq_nil_of_le h];rfl
theorem aNt {es:List Term} {k:Nat} {m:Int} (h:k<es.length) (ha:aAd es[k].op<0):aCj es k m = -1:=by
 unfold aCj;rw [List.drop_eq_getElem_cons h];simp only [aIc,if_pos ha]
theorem aNu {es:List Term} {k:Nat} {m:Int} (h:k<es.length) (ha:0<=aAd es[k].op) (hm:m+(aAd es[k].op-1)=0):aCj es k m=k+1:=by
 unfold aCj;rw [List.drop_eq_getElem_cons h];simp only [aIc];rw [if_neg (by omega),if_pos hm];rfl
theorem aMt {es:List Term} {k:Nat} {m:Int} (h:k<es.length) (ha:0<=aAd es[k].op) (hm:m+(aAd es[k].op-1)≠0):aCj es k m=aCj es (k+1) (m+(aAd es[k].op-1)):=by
 unfold aCj;rw [List.drop_eq_getElem_cons h];simp only [aIc];rw [if_neg (by omega),if_neg hm]
 cases aIc (es.drop (k+1)) (m+(aAd es[k].op-1)) with
 | none=>rfl
 | some n=>simp;omega
def endF (es:List Term) (p:Int):Int:=if p<0∨es.length<=p then -1 else aCj es p.toNat 1
theorem aSg (l:List Term) (m:Int) (n:Nat) (h:aIc l m=some n):1<=n/\n<=l.length:=by
 induction l generalizing m n with
 | nil=>simp [aIc] at h
 | cons t ts ih =>
  simp only [aIc] at h
  split at h
  .cases h
  .split at h
   .injection h with h;subst h;simp
   .cases hs:aIc ts (m+(aAd t.op-1)) with
    | none=>rw [hs] at h;cases h
    | some q =>
     rw [hs] at h;injection h with h;subst h
     have:=ih _ _ hs;simp;omega
theorem aWo (es:List Term) (k:Nat) (m:Int) (hk:k<=es.length):aCj es k m = -1∨(k<aCj es k m/\aCj es k m<=es.length):=by
 unfold aCj;cases h:aIc (es.drop k) m with
 | none=>left;rfl
 | some n =>
  right
  have:=aSg _ _ _ h;simp at this
  simp;omega
theorem aRl (es:List Term) (p:Int):endF es p = -1∨(0<=p/\p<es.length/\p<endF es p/\endF es p<=es.length):=by
 unfold endF;split
 .left;rfl
 .rename_i h
  have:=aWo es p.toNat 1 (by omega)
  omega
def aM6 (es:List Term):Nat->Int->Int
 | 0,p=>p
 | n+1,p=>aM6 es n (endF es p)
def opAt (es:List Term) (p:Int):Int:=(es.getD p.toNat default).op
theorem aT1 {es:List Term} {k:Nat} (h:k<es.length):opAt es (k:Int)=es[k].op:=by
 unfold opAt;rw [List.getD_eq_getElem?_getD];simp [h]
def aCv (es:List Term) (p k:Int):Int :=
 if endF es p<0∨k<0∨aAd (opAt es p)<=k then -1 else aM6 es k.toNat (p+1)
def aAa (op:Int):Bool:=decide (20<=op/\op<=29)
def aD0 (l:List Int):Int:=l.foldl max 0
theorem aPo (l:List Int) (a:Int):a<=l.foldl max a:=by
 induction l generalizing a with
 | nil=>exact Int.le_refl _
 | cons x l ih=>exact Int.le_trans (Int.le_max_left a x) (ih _)
theorem aPp (l:List Int) (a b:Int) (ha:a<=b) (h:∀ x∈l,x<=b):l.foldl max a<=b:=by
 induction l generalizing a with
 | nil=>exact ha
 | cons x l ih=>exact ih _ (Int.max_le.2 ⟨ha,h x (by simp)⟩) (fun y hy=>h y (by simp [hy]))
theorem aIi (l:List Int):0<=aD0 l:=aPo l 0
theorem aRq (l:List Int) (b:Int) (hb:0<=b) (h:∀ x∈l,x<=b):aD0 l<=b:=aPp l 0 b hb h
def lev (num:Int->Int->Int):List Term->List Int
 | []=>[]
 | t :: ts=>(lev num ts).take ((lev num ts).length-(aAd t.op).toNat)++[num t.op (aD0 ((lev num ts).drop ((lev num ts).length-(aAd t.op).toNat)))]
def aF7 (l:List Term) (m:Int):Prop:=(l=[]/\m=0)∨(1<=m/\aIc l m=some l.length)
theorem aF7.cons {t:Term} {ts:List Term} {m:Int} (h:aF7 (t :: ts) m):1<=m/\0<=aAd t.op/\aF7 ts (m+(aAd t.op-1)):=by
 rcases h with ⟨h,_⟩ | ⟨hm,h⟩
 .cases h
 .simp only [aIc] at h
  split at h
  .cases h
  .rename_i ha
   refine ⟨hm,by omega,?_⟩
   split at h
   .rename_i h0
    injection h with h
    left
    exact ⟨List.eq_nil_of_length_eq_zero (by simpa using h.symm),h0⟩
   .rename_i h0
    right
    refine ⟨by omega,?_⟩
    cases hs:aIc ts (m+(aAd t.op-1)) with
    | none=>rw [hs] at h;cases h
    | some q=>rw [hs] at h;injection h with h;simp at h;rw [h]
theorem aF7.lev_length (num:Int->Int->Int) (l:List Term):∀ m,aF7 l m->((lev num l).length:Int)=m:=by
 induction l with
 | nil =>
  intro m h
  rcases h with ⟨_,h⟩ | ⟨_,h⟩
  .simp [lev,h]
  .simp [aIc] at h
 | cons t ts ih =>
  intro m h
  obtain ⟨h1,h2,h3⟩:=h.cons;have:=ih _ h3;simp only [lev,List.length_append,List.length_take,List.length_singleton]
  omega
theorem aEv {es:List Term} (h:endF es 0=es.length):aF7 es 1:=by
 unfold endF at h;split at h
 .omega
 .right
  refine ⟨by omega,?_⟩
  unfold aCj at h;simp only [Int.toNat_zero,List.drop_zero] at h
  cases hs:aIc es 1 with
  | none=>rw [hs] at h;simp at h
  | some n=>rw [hs] at h;simp at h;rw [show n=es.length by omega]
theorem aF7.drop {es:List Term} (h:aF7 es 1):∀ i,i<=es.length->∃ m,aF7 (es.drop i) m:=by
 intro i
 induction i with
 | zero=>intro _;exact ⟨1,by simpa using h⟩
 | succ i ih =>
  intro hi
  obtain ⟨m,hm⟩:=ih (by omega)
  rw [List.drop_eq_getElem_cons (by omega)] at hm
  exact ⟨_,hm.cons.2.2⟩
theorem aYv (num:Int->Int->Int) {es:List Term} (h:aF7 es 1) {i:Nat} (hi:i<es.length) :
  0<=aAd es[i].op/\aAd es[i].op<=(lev num (es.drop (i+1))).length:=by
 obtain ⟨m,hm⟩:=h.drop i (by omega)
 rw [List.drop_eq_getElem_cons hi] at hm;obtain ⟨h1,h2,h3⟩:=hm.cons;have:=h3.lev_length num;exact ⟨h2,by omega⟩
theorem aPx (num:Int->Int->Int) (hn:∀ op g,0<=g->0<=num op g/\num op g<=g+1) (l:List Term):(lev num l).length<=l.length/\∀ x∈lev num l,0<=x/\x<=l.length:=by
 induction l with
 | nil=>simp [lev]
 | cons t ts ih =>
  obtain ⟨ih1,ih2⟩:=ih;refine ⟨by simp only [lev,List.length_append,List.length_take,List.length_cons,List.length_nil];omega,fun x hx=>?_⟩
  simp only [lev,List.mem_append,List.mem_singleton] at hx
  rcases hx with hx | hx
  .have:=ih2 x (List.mem_of_mem_take hx)
   simp;omega
  .have g1:=aIi ((lev num ts).drop ((lev num ts).length-(aAd t.op).toNat))
   have g2:=aRq ((lev num ts).drop ((lev num ts).length-(aAd t.op).toNat)) ts.length (by omega) (fun y hy=>(ih2 y (List.mem_of_mem_drop hy)).2)
   have:=hn t.op _ g1;rw [hx];simp;omega
def aDc (num:Int->Int->Int) (es:List Term):Int:=if endF es 0=es.length then (lev num es).headD 0 else 0
def aC2 (_ g:Int):Int:=g+1
def aCf (op g:Int):Int:=if aAa op then g+1 else g
theorem aLv (op g:Int) (h:0<=g):0<=aC2 op g/\aC2 op g<=g+1:=by unfold aC2;omega
theorem aNo (op g:Int) (h:0<=g):0<=aCf op g/\aCf op g<=g+1:=by unfold aCf;split <;> omega
def aD2 (es:List Term):Int:=aDc aC2 es
def aGs (es:List Term):Int:=aDc aCf es
def aFo (t:Term) (vars:Int):Bool :=
 if t.op=1 then decide (0<=t.arg/\t.arg<=1073741824) else if t.op=5∨t.op=12 then decide (0<=t.arg/\t.arg<vars) else decide (t.arg=0)
def aUv (es:List Term):Bool:=decide (0<es.length/\endF es 0=es.length)
def aAs (es:List Term) (vars:Int):Bool :=
 decide (es.length<=200)&&(endF es 0==es.length)&&es.all (aFo · vars)&&decide (aD2 es<=24)&&decide (aGs es<=2)
def aWh:List (Int × Bool)->List (Int × Bool)
 | []=>[]
 | (c,b) :: r=>if c-1=0 then aWh r else (c-1,b) :: r
def aEg:List (Int × Bool)->List (Int × Bool)
 | []=>[]
 | (c,b) :: r=>if c=0 then aWh r else (c,b) :: r
def aEw (s:List (Int × Bool)):Int:=(s.filter (·.2)).length
def aL5:List Term->List (Int × Bool)->Int->Int->Int × Int
 | [],_,d,n=>(d,n)
 | t :: ts,s,d,n=>aL5 ts (aEg ((aAd t.op,aAa t.op) :: s)) (max d (((aAd t.op,aAa t.op) :: s).length:Nat)) (max n (aEw ((aAd t.op,aAa t.op) :: s)))
def aTg (s:List (Int × Bool)):Prop:=∀ x∈s,1<=x.1/\x.1<=3
theorem aTg.tail {x:Int × Bool} {s:List (Int × Bool)} (h:aTg (x :: s)):aTg s:=fun y hy=>h y (by simp [hy])
theorem aMj {s:List (Int × Bool)} (h:aTg s):aTg (aWh s)/\(aWh s).length<=s.length:=by
 induction s with
 | nil=>exact ⟨h,Nat.le_refl _⟩
 | cons x s ih =>
  obtain ⟨c,b⟩:=x;have hc:=h (c,b) (by simp)
  simp only [aWh]
  split
  .exact ⟨(ih h.tail).1,by have:=(ih h.tail).2;simp;omega⟩
  .refine ⟨fun y hy=>?_,by simp⟩
   rcases List.mem_cons.1 hy with e | e
   .subst e;simp at hc ⊢;omega
   .exact h y (by simp [e])
theorem aNp {c:Int} {b:Bool} {s:List (Int × Bool)} (h:aTg s) (h0:0<=c) (h3:c<=3):aTg (aEg ((c,b) :: s))/\(aEg ((c,b) :: s)).length<=s.length+1:=by
 simp only [aEg]
 split
 .exact ⟨(aMj h).1,by have:=(aMj h).2;omega⟩
 .refine ⟨fun y hy=>?_,by simp⟩
  rcases List.mem_cons.1 hy with e | e
  .subst e;simp;omega
  .exact h y e
theorem aU3 (s:List (Int × Bool)):0<=aEw s/\aEw s<=s.length:=by
 unfold aEw;have:=List.length_filter_le (fun x:Int × Bool=>x.2) s;omega
def aYt (l:List Bool):Int:=(l.filter id).length
theorem aPd (s:List (Int × Bool)):aYt ((s.map (·.2)).reverse)=aEw s:=by
 unfold aYt aEw;rw [List.filter_reverse,List.length_reverse,List.filter_map,List.length_map];rfl
theorem aPc (b:Bool) (l:List Bool):aYt (b :: l)=(if b then 1 else 0)+aYt l:=by
 cases b
 .simp [aYt]
 .simp [aYt];omega
theorem aUa (b:Bool) (c:Int) (b':Bool) (r:List (Int × Bool)):aEg ((0,b) :: (c,b') :: r)=aEg ((c-1,b') :: r):=by
 simp [aEg,aWh]
theorem aN5 (b:Bool):aEg [(0,b)]=[]:=by simp [aEg,aWh]
theorem aQ5 (c:Int) (b:Bool) (r:List (Int × Bool)) (h:c≠0):aEg ((c,b) :: r)=(c,b) :: r:=by simp [aEg,h]
def aZ6:List (Int × Bool)->Prop
 | []=>True
 | (c,_) :: r=>0<=c/\c<=3/\aTg r
end Go.Proofs.YtdcjnhoabbdanaaGreatDoor

