/- Merged. -/

set_option linter.unusedSimpArgs false
set_option linter.unnecessarySimpa false
set_option linter.unusedVariables false
set_option maxRecDepth 100000

namespace Go.Proofs.YtmoebklkkjbigaaGreatDoor
structure Term where
 op:Int
 arg:Int
instance:Inhabited Term:=⟨⟨0,0⟩⟩
def aB1 (op:Int):Int :=
 if op<1∨43<op then -1 else if op<=17 then 0 else if op<=29 then 1 else if op<=42 then 2 else 3
theorem bC6 (op:Int) : -1<=aB1 op/\aB1 op<=3:=by unfold aB1;repeat' split <;> omega
def aLq:List Term->Int->Option Nat
 | [],_=>none
 | t :: ts,m=>if aB1 t.op<0 then none else if m+(aB1 t.op-1)=0 then some 1 else (aLq ts (m+(aB1 t.op-1))).map (·+1)
def aEg (es:List Term) (k:Nat) (m:Int):Int :=
 match aLq (es.drop k) m with
 | none => -1
 | some n=>k+n
theorem bBj {es:List Term} {k:Nat} {m:Int} (h:es.length<=k):aEg es k m = -1:=by
 unfold aEg;rw [List.drop_eq_nil_of_le h];rfl
theorem bFz {es:List Term} {k:Nat} {m:Int} (h:k<es.length) (ha:aB1 es[k].op<0):aEg es k m = -1:=by
 unfold aEg;rw [List.drop_eq_getElem_cons h];simp only [aLq,if_pos ha]
theorem bG0 {es:List Term} {k:Nat} {m:Int} (h:k<es.length) (ha:0<=aB1 es[k].op) (hm:m+(aB1 es[k].op-1)=0):aEg es k m=k+1:=by
 unfold aEg;rw [List.drop_eq_getElem_cons h];simp only [aLq];rw [if_neg (by omega),if_pos hm];rfl
theorem bBk {es:List Term} {k:Nat} {m:Int} (h:k<es.length) (ha:0<=aB1 es[k].op) (hm:m+(aB1 es[k].op-1)≠0):aEg es k m=aEg es (k+1) (m+(aB1 es[k].op-1)):=by
 unfold aEg;rw [List.drop_eq_getElem_cons h];simp only [aLq];rw [if_neg (by omega),if_neg hm]
 cases aLq (es.drop (k+1)) (m+(aB1 es[k].op-1)) with
 | none=>rfl
 | some n=>simp;omega
def endF (es:List Term) (p:Int):Int:=if p<0∨es.length<=p then -1 else aEg es p.toNat 1
theorem bBl (l:List Term) (m:Int) (n:Nat) (h:aLq l m=some n):1<=n/\n<=l.length:=by
 induction l generalizing m n with
 | nil=>simp [aLq] at h
 | cons t ts ih =>
  simp only [aLq] at h
  split at h
  .cases h
  .split at h
   .injection h with h;subst h;simp
   .cases hs:aLq ts (m+(aB1 t.op-1)) with
    | none=>rw [hs] at h;cases h
    | some q =>
     rw [hs] at h;injection h with h;subst h
     have:=ih _ _ hs;simp;omega
theorem bJk (es:List Term) (k:Nat) (m:Int) (hk:k<=es.length):aEg es k m = -1∨(k<aEg es k m/\aEg es k m<=es.length):=by
 unfold aEg;cases h:aLq (es.drop k) m with
 | none=>left;rfl
 | some n =>
  right
  have:=bBl _ _ _ h;simp at this
  simp;omega
theorem bNr (es:List Term) (p:Int):endF es p = -1∨(0<=p/\p<es.length/\p<endF es p/\endF es p<=es.length):=by
 unfold endF;split
 .left;rfl
 .rename_i h
  have:=bJk es p.toNat 1 (by omega)
  omega
def aAo (op:Int):Bool:=decide (20<=op/\op<=29)
def aFc (l:List Int):Int:=l.foldl max 0
theorem aXi (l:List Int) (a:Int):a<=l.foldl max a:=by
 induction l generalizing a with
 | nil=>exact Int.le_refl _
 | cons x l ih=>exact Int.le_trans (Int.le_max_left a x) (ih _)
theorem aXj (l:List Int) (a b:Int) (ha:a<=b) (h:∀ x∈l,x<=b):l.foldl max a<=b:=by
 induction l generalizing a with
 | nil=>exact ha
 | cons x l ih=>exact ih _ (Int.max_le.2 ⟨ha,h x (by simp)⟩) (fun y hy=>h y (by simp [hy]))
theorem aLh (l:List Int):0<=aFc l:=aXi l 0
theorem bAe (l:List Int) (b:Int) (hb:0<=b) (h:∀ x∈l,x<=b):aFc l<=b:=aXj l 0 b hb h
def lev (num:Int->Int->Int):List Term->List Int
 | []=>[]
 | t :: ts=>(lev num ts).take ((lev num ts).length-(aB1 t.op).toNat)++[num t.op (aFc ((lev num ts).drop ((lev num ts).length-(aB1 t.op).toNat)))]
def aHc (l:List Term) (m:Int):Prop:=(l=[]/\m=0)∨(1<=m/\aLq l m=some l.length)
theorem aHc.cons {t:Term} {ts:List Term} {m:Int} (h:aHc (t :: ts) m):1<=m/\0<=aB1 t.op/\aHc ts (m+(aB1 t.op-1)):=by
 rcases h with ⟨h,_⟩ | ⟨hm,h⟩
 .cases h
 .simp only [aLq] at h
  split at h
  .cases h
  .rename_i ha
   refine ⟨hm,by omega,?_⟩
   split at h
   .rename_i h0
    injection h with h
    left
    exact ⟨List.eq_nil_of_length_eq_zero (by simpa using h.symm),h0⟩
   .rename_i h0
    right
    refine ⟨by omega,?_⟩
    cases hs:aLq ts (m+(aB1 t.op-1)) with
    | none=>rw [hs] at h;cases h
    | some q=>rw [hs] at h;injection h with h;simp at h;rw [h]
theorem aHc.lev_length (num:Int->Int->Int) (l:List Term):∀ m,aHc l m->((lev num l).length:Int)=m:=by
 induction l with
 | nil =>
  intro m h
  rcases h with ⟨_,h⟩ | ⟨_,h⟩
  .simp [lev,h]
  .simp [aLq] at h
 | cons t ts ih =>
  intro m h
  obtain ⟨h1,h2,h3⟩:=h.cons;have:=ih _ h3;simp only [lev,List.length_append,List.length_take,List.length_singleton]
  omega
theorem aQq {es:List Term} (h:endF es 0=es.length):aHc es 1:=by
 unfold endF at h;split at h
 .omega
 .right
  refine ⟨by omega,?_⟩
  unfold aEg at h;simp only [Int.toNat_zero,List.drop_zero] at h
  cases hs:aLq es 1 with
  | none=>rw [hs] at h;simp at h
  | some n=>rw [hs] at h;simp at h;rw [show n=es.length by omega]
theorem aHc.drop {es:List Term} (h:aHc es 1):∀ i,i<=es.length->∃ m,aHc (es.drop i) m:=by
 intro i
 induction i with
 | zero=>intro _;exact ⟨1,by simpa using h⟩
 | succ i ih =>
  intro hi
  obtain ⟨m,hm⟩:=ih (by omega)
  rw [List.drop_eq_getElem_cons (by omega)] at hm
  exact ⟨_,hm.cons.2.2⟩
theorem bPi (num:Int->Int->Int) {es:List Term} (h:aHc es 1) {i:Nat} (hi:i<es.length) :
  0<=aB1 es[i].op/\aB1 es[i].op<=(lev num (es.drop (i+1))).length:=by
 obtain ⟨m,hm⟩:=h.drop i (by omega)
 rw [List.drop_eq_getElem_cons hi] at hm;obtain ⟨h1,h2,h3⟩:=hm.cons;have:=h3.lev_length num;exact ⟨h2,by omega⟩
theorem bI4 (num:Int->Int->Int) (hn:∀ op g,0<=g->0<=num op g/\num op g<=g+1) (l:List Term):(lev num l).length<=l.length/\∀ x∈lev num l,0<=x/\x<=l.length:=by
 induction l with
 | nil=>simp [lev]
 | cons t ts ih =>
  obtain ⟨ih1,ih2⟩:=ih;refine ⟨by simp only [lev,List.length_append,List.length_take,List.length_cons,List.length_nil];omega,fun x hx=>?_⟩
  simp only [lev,List.mem_append,List.mem_singleton] at hx
  rcases hx with hx | hx
  .have:=ih2 x (List.mem_of_mem_take hx)
   simp;omega
  .have g1:=aLh ((lev num ts).drop ((lev num ts).length-(aB1 t.op).toNat))
   have g2:=bAe ((lev num ts).drop ((lev num ts).length-(aB1 t.op).toNat)) ts.length (by omega) (fun y hy=>(ih2 y (List.mem_of_mem_drop hy)).2)
   have:=hn t.op _ g1;rw [hx];simp;omega
def aGp (num:Int->Int->Int) (es:List Term):Int:=if endF es 0=es.length then (lev num es).headD 0 else 0
def aG8 (_ g:Int):Int:=g+1
def aGq (op g:Int):Int:=if aAo op then g+1 else g
theorem bA7 (op g:Int) (h:0<=g):0<=aG8 op g/\aG8 op g<=g+1:=by unfold aG8;omega
theorem bF9 (op g:Int) (h:0<=g):0<=aGq op g/\aGq op g<=g+1:=by unfold aGq;split <;> omega
def aKv (es:List Term):Int:=aGp aG8 es
def bAw (es:List Term):Int:=aGp aGq es
def aM3 (t:Term) (vars:Int):Bool :=
 if t.op=1 then decide (0<=t.arg/\t.arg<=1073741824) else if t.op=5∨t.op=12 then decide (0<=t.arg/\t.arg<vars) else decide (t.arg=0)
def aD0 (es:List Term) (vars:Int):Bool :=
 decide (es.length<=200)&&(endF es 0==es.length)&&es.all (aM3 · vars)&&decide (aKv es<=24)&&decide (bAw es<=2)
end Go.Proofs.YtmoebklkkjbigaaGreatDoor

