/- Merged. -/

set_option linter.unusedSimpArgs false
set_option linter.unnecessarySimpa false
set_option linter.unusedVariables false
set_option maxRecDepth 100000

namespace Go.Proofs.YtdcjnhoabbdanaaGreatDoor
structure Term where
 op:Int
 arg:Int
instance:Inhabited Term:=⟨⟨0,0⟩⟩
def aAg (op:Int):Int :=
 if op<1∨43<op then -1 else if op<=17 then 0 else if op<=29 then 1 else if op<=42 then 2 else 3
theorem aGw (op:Int) : -1<=aAg op/\aAg op<=3:=by unfold aAg;repeat' split <;> omega
def aJ6:List Term->Int->Option Nat
 | [],_=>none
 | t :: ts,m=>if aAg t.op<0 then none else if m+(aAg t.op-1)=0 then some 1 else (aJ6 ts (m+(aAg t.op-1))).map (·+1)
def aD2 (es:List Term) (k:Nat) (m:Int):Int :=
 match aJ6 (es.drop k) m with
 | none => -1
 | some n=>k+n
theorem aNt {es:List Term} {k:Nat} {m:Int} (h:es.length<=k):aD2 es k m = -1:=by
 unfold aD2;rw [List.drop_eq_nil_of_le h];rfl
theorem aP1 {es:List Term} {k:Nat} {m:Int} (h:k<es.length) (ha:aAg es[k].op<0):aD2 es k m = -1:=by
 unfold aD2;rw [List.drop_eq_getElem_cons h];simp only [aJ6,if_pos ha]
theorem aP2 {es:List Term} {k:Nat} {m:Int} (h:k<es.length) (ha:0<=aAg es[k].op) (hm:m+(aAg es[k].op-1)=0):aD2 es k m=k+1:=by
 unfold aD2;rw [List.drop_eq_getElem_cons h];simp only [aJ6];rw [if_neg (by omega),if_pos hm];rfl
theorem aNu {es:List Term} {k:Nat} {m:Int} (h:k<es.length) (ha:0<=aAg es[k].op) (hm:m+(aAg es[k].op-1)≠0):aD2 es k m=aD2 es (k+1) (m+(aAg es[k].op-1)):=by
 unfold aD2;rw [List.drop_eq_getElem_cons h];simp only [aJ6];rw [if_neg (by omega),if_neg hm]
 cases aJ6 (es.drop (k+1)) (m+(aAg es[k].op-1)) with
 | none=>rfl
 | some n=>simp;omega
def endF (es:List Term) (p:Int):Int:=if p<0∨es.length<=p then -1 else aD2 es p.toNat 1
theorem aTo (l:List Term) (m:Int) (n:Nat) (h:aJ6 l m=some n):1<=n/\n<=l.length:=by
 induction l generalizing m n with
 | nil=>simp [aJ6] at h
 | cons t ts ih =>
  simp only [aJ6] at h
  split at h
  .cases h
  .split at h
   .injection h with h;subst h;simp
   .cases hs:aJ6 ts (m+(aAg t.op-1)) with
    | none=>rw [hs] at h;cases h
    | some q =>
     rw [hs] at h;injection h with h;subst h
     have:=ih _ _ hs;simp;omega
theorem aXy (es:List Term) (k:Nat) (m:Int) (hk:k<=es.length):aD2 es k m = -1∨(k<aD2 es k m/\aD2 es k m<=es.length):=by
 unfold aD2;cases h:aJ6 (es.drop k) m with
 | none=>left;rfl
 | some n =>
  right
  have:=aTo _ _ _ h;simp at this
  simp;omega
theorem aSw (es:List Term) (p:Int):endF es p = -1∨(0<=p/\p<es.length/\p<endF es p/\endF es p<=es.length):=by
 unfold endF;split
 .left;rfl
 .rename_i h
  have:=aXy es p.toNat 1 (by omega)
  omega
def aN0 (es:List Term):Nat->Int->Int
 | 0,p=>p
 | n+1,p=>aN0 es n (endF es p)
def opAt (es:List Term) (p:Int):Int:=(es.getD p.toNat default).op
theorem aU8 {es:List Term} {k:Nat} (h:k<es.length):opAt es (k:Int)=es[k].op:=by
 unfold opAt;rw [List.getD_eq_getElem?_getD];simp [h]
def aDb (es:List Term) (p k:Int):Int :=
 if endF es p<0∨k<0∨aAg (opAt es p)<=k then -1 else aN0 es k.toNat (p+1)
def aAc (op:Int):Bool:=decide (20<=op/\op<=29)
def aDf (l:List Int):Int:=l.foldl max 0
theorem aQw (l:List Int) (a:Int):a<=l.foldl max a:=by
 induction l generalizing a with
 | nil=>exact Int.le_refl _
 | cons x l ih=>exact Int.le_trans (Int.le_max_left a x) (ih _)
theorem aQx (l:List Int) (a b:Int) (ha:a<=b) (h:∀ x∈l,x<=b):l.foldl max a<=b:=by
 induction l generalizing a with
 | nil=>exact ha
 | cons x l ih=>exact ih _ (Int.max_le.2 ⟨ha,h x (by simp)⟩) (fun y hy=>h y (by simp [hy]))
theorem aJd (l:List Int):0<=aDf l:=aQw l 0
theorem aT0 (l:List Int) (b:Int) (hb:0<=b) (h:∀ x∈l,x<=b):aDf l<=b:=aQx l 0 b hb h
def lev (num:Int->Int->Int):List Term->List Int
 | []=>[]
 | t :: ts=>(lev num ts).take ((lev num ts).length-(aAg t.op).toNat)++[num t.op (aDf ((lev num ts).drop ((lev num ts).length-(aAg t.op).toNat)))]
def aFw (l:List Term) (m:Int):Prop:=(l=[]/\m=0)∨(1<=m/\aJ6 l m=some l.length)
theorem aFw.cons {t:Term} {ts:List Term} {m:Int} (h:aFw (t :: ts) m):1<=m/\0<=aAg t.op/\aFw ts (m+(aAg t.op-1)):=by
 rcases h with ⟨h,_⟩ | ⟨hm,h⟩
 .cases h
 .simp only [aJ6] at h
  split at h
  .cases h
  .rename_i ha
   refine ⟨hm,by omega,?_⟩
   split at h
   .rename_i h0
    injection h with h
    left
    exact ⟨List.eq_nil_of_length_eq_zero (by simpa using h.symm),h0⟩
   .rename_i h0
    right
    refine ⟨by omega,?_⟩
    cases hs:aJ6 ts (m+(aAg t.op-1)) with
    | none=>rw [hs] at h;cases h
    | some q=>rw [hs] at h;injection h with h;simp at h;rw [h]
theorem aFw.lev_length (num:Int->Int->Int) (l:List Term):∀ m,aFw l m->((lev num l).length:Int)=m:=by
 induction l with
 | nil =>
  intro m h
  rcases h with ⟨_,h⟩ | ⟨_,h⟩
  .simp [lev,h]
  .simp [aJ6] at h
 | cons t ts ih =>
  intro m h
  obtain ⟨h1,h2,h3⟩:=h.cons;have:=ih _ h3;simp only [lev,List.length_append,List.length_take,List.length_singleton]
  omega
theorem aFj {es:List Term} (h:endF es 0=es.length):aFw es 1:=by
 unfold endF at h;split at h
 .omega
 .right
  refine ⟨by omega,?_⟩
  unfold aD2 at h;simp only [Int.toNat_zero,List.drop_zero] at h
  cases hs:aJ6 es 1 with
  | none=>rw [hs] at h;simp at h
  | some n=>rw [hs] at h;simp at h;rw [show n=es.length by omega]
theorem aFw.drop {es:List Term} (h:aFw es 1):∀ i,i<=es.length->∃ m,aFw (es.drop i) m:=by
 intro i
 induction i with
 | zero=>intro _;exact ⟨1,by simpa using h⟩
 | succ i ih =>
  intro hi
  obtain ⟨m,hm⟩:=ih (by omega)
  rw [List.drop_eq_getElem_cons (by omega)] at hm
  exact ⟨_,hm.cons.2.2⟩
theorem bA2 (num:Int->Int->Int) {es:List Term} (h:aFw es 1) {i:Nat} (hi:i<es.length) :
  0<=aAg es[i].op/\aAg es[i].op<=(lev num (es.drop (i+1))).length:=by
 obtain ⟨m,hm⟩:=h.drop i (by omega)
 rw [List.drop_eq_getElem_cons hi] at hm;obtain ⟨h1,h2,h3⟩:=hm.cons;have:=h3.lev_length num;exact ⟨h2,by omega⟩
theorem aR5 (num:Int->Int->Int) (hn:∀ op g,0<=g->0<=num op g/\num op g<=g+1) (l:List Term):(lev num l).length<=l.length/\∀ x∈lev num l,0<=x/\x<=l.length:=by
 induction l with
 | nil=>simp [lev]
 | cons t ts ih =>
  obtain ⟨ih1,ih2⟩:=ih;refine ⟨by simp only [lev,List.length_append,List.length_take,List.length_cons,List.length_nil];omega,fun x hx=>?_⟩
  simp only [lev,List.mem_append,List.mem_singleton] at hx
  rcases hx with hx | hx
  .have:=ih2 x (List.mem_of_mem_take hx)
   simp;omega
  .have g1:=aJd ((lev num ts).drop ((lev num ts).length-(aAg t.op).toNat))
   have g2:=aT0 ((lev num ts).drop ((lev num ts).length-(aAg t.op).toNat)) ts.length (by omega) (fun y hy=>(ih2 y (List.mem_of_mem_drop hy)).2)
   have:=hn t.op _ g1;rw [hx];simp;omega
def aDp (num:Int->Int->Int) (es:List Term):Int:=if endF es 0=es.length then (lev num es).headD 0 else 0
def aCj (_ g:Int):Int:=g+1
def aCz (op g:Int):Int:=if aAc op then g+1 else g
theorem aMm (op g:Int) (h:0<=g):0<=aCj op g/\aCj op g<=g+1:=by unfold aCj;omega
theorem aOq (op g:Int) (h:0<=g):0<=aCz op g/\aCz op g<=g+1:=by unfold aCz;split <;> omega
def aDh (es:List Term):Int:=aDp aCj es
def aHp (es:List Term):Int:=aDp aCz es
def aFx (t:Term) (vars:Int):Bool :=
 if t.op=1 then decide (0<=t.arg/\t.arg<=1073741824) else if t.op=5∨t.op=12 then decide (0<=t.arg/\t.arg<vars) else decide (t.arg=0)
def aW4 (es:List Term):Bool:=decide (0<es.length/\endF es 0=es.length)
def aB2 (es:List Term) (vars:Int):Bool :=
 decide (es.length<=200)&&(endF es 0==es.length)&&es.all (aFx · vars)&&decide (aDh es<=24)&&decide (aHp es<=2)
def aXq:List (Int × Bool)->List (Int × Bool)
 | []=>[]
 | (c,b) :: r=>if c-1=0 then aXq r else (c-1,b) :: r
def aF2:List (Int × Bool)->List (Int × Bool)
 | []=>[]
 | (c,b) :: r=>if c=0 then aXq r else (c,b) :: r
def aFk (s:List (Int × Bool)):Int:=(s.filter (·.2)).length
def aLx:List Term->List (Int × Bool)->Int->Int->Int × Int
 | [],_,d,n=>(d,n)
 | t :: ts,s,d,n=>aLx ts (aF2 ((aAg t.op,aAc t.op) :: s)) (max d (((aAg t.op,aAc t.op) :: s).length:Nat)) (max n (aFk ((aAg t.op,aAc t.op) :: s)))
def aUn (s:List (Int × Bool)):Prop:=∀ x∈s,1<=x.1/\x.1<=3
theorem aUn.tail {x:Int × Bool} {s:List (Int × Bool)} (h:aUn (x :: s)):aUn s:=fun y hy=>h y (by simp [hy])
theorem aNg {s:List (Int × Bool)} (h:aUn s):aUn (aXq s)/\(aXq s).length<=s.length:=by
 induction s with
 | nil=>exact ⟨h,Nat.le_refl _⟩
 | cons x s ih =>
  obtain ⟨c,b⟩:=x;have hc:=h (c,b) (by simp)
  simp only [aXq]
  split
  .exact ⟨(ih h.tail).1,by have:=(ih h.tail).2;simp;omega⟩
  .refine ⟨fun y hy=>?_,by simp⟩
   rcases List.mem_cons.1 hy with e | e
   .subst e;simp at hc ⊢;omega
   .exact h y (by simp [e])
theorem aOr {c:Int} {b:Bool} {s:List (Int × Bool)} (h:aUn s) (h0:0<=c) (h3:c<=3):aUn (aF2 ((c,b) :: s))/\(aF2 ((c,b) :: s)).length<=s.length+1:=by
 simp only [aF2]
 split
 .exact ⟨(aNg h).1,by have:=(aNg h).2;omega⟩
 .refine ⟨fun y hy=>?_,by simp⟩
  rcases List.mem_cons.1 hy with e | e
  .subst e;simp;omega
  .exact h y e
theorem aVa (s:List (Int × Bool)):0<=aFk s/\aFk s<=s.length:=by
 unfold aFk;have:=List.length_filter_le (fun x:Int × Bool=>x.2) s;omega
def bA0 (l:List Bool):Int:=(l.filter id).length
theorem aQn (s:List (Int × Bool)):bA0 ((s.map (·.2)).reverse)=aFk s:=by
 unfold bA0 aFk;rw [List.filter_reverse,List.length_reverse,List.filter_map,List.length_map];rfl
theorem aQm (b:Bool) (l:List Bool):bA0 (b :: l)=(if b then 1 else 0)+bA0 l:=by
 cases b
 .simp [bA0]
 .simp [bA0];omega
theorem aVh (b:Bool) (c:Int) (b':Bool) (r:List (Int × Bool)):aF2 ((0,b) :: (c,b') :: r)=aF2 ((c-1,b') :: r):=by
 simp [aF2,aXq]
theorem aO7 (b:Bool):aF2 [(0,b)]=[]:=by simp [aF2,aXq]
theorem aRe (c:Int) (b:Bool) (r:List (Int × Bool)) (h:c≠0):aF2 ((c,b) :: r)=(c,b) :: r:=by simp [aF2,h]
def bAd:List (Int × Bool)->Prop
 | []=>True
 | (c,_) :: r=>0<=c/\c<=3/\aUn r
end Go.Proofs.YtdcjnhoabbdanaaGreatDoor

