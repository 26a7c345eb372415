/- Merged. -/

set_option linter.unusedSimpArgs false
set_option linter.unnecessarySimpa false
set_option linter.unusedVariables false
set_option maxRecDepth 100000

namespace Go.Proofs.YtmoebklkkjbigaaGreatDoor
structure Term where
 op:Int
 arg:Int
instance:Inhabited Term:=⟨⟨0,0⟩⟩
def aB2 (op:Int):Int :=
 if op<1∨43<op then -1 else if op<=17 then 0 else if op<=29 then 1 else if op<=42 then 2 else 3
theorem bC7 (op:Int) : -1<=aB2 op/\aB2 op<=3:=by unfold aB2;repeat' split <;> omega
def aLv:List Term->Int->Option Nat
 | [],_=>none
 | t :: ts,m=>if aB2 t.op<0 then none else if m+(aB2 t.op-1)=0 then some 1 else (aLv ts (m+(aB2 t.op-1))).map (·+1)
def aEh (es:List Term) (k:Nat) (m:Int):Int :=
 match aLv (es.drop k) m with
 | none => -1
 | some n=>k+n
theorem bBm {es:List Term} {k:Nat} {m:Int} (h:es.length<=k):aEh es k m = -1:=by
 unfold aEh;rw [List.drop_eq_nil_of_le h];rfl
theorem bG1 {es:List Term} {k:Nat} {m:Int} (h:k<es.length) (ha:aB2 es[k].op<0):aEh es k m = -1:=by
 unfold aEh;rw [List.drop_eq_getElem_cons h];simp only [aLv,if_pos ha]
theorem bG2 {es:List Term} {k:Nat} {m:Int} (h:k<es.length) (ha:0<=aB2 es[k].op) (hm:m+(aB2 es[k].op-1)=0):aEh es k m=k+1:=by
 unfold aEh;rw [List.drop_eq_getElem_cons h];simp only [aLv];rw [if_neg (by omega),if_pos hm];rfl
theorem bBn {es:List Term} {k:Nat} {m:Int} (h:k<es.length) (ha:0<=aB2 es[k].op) (hm:m+(aB2 es[k].op-1)≠0):aEh es k m=aEh es (k+1) (m+(aB2 es[k].op-1)):=by
 unfold aEh;rw [List.drop_eq_getElem_cons h];simp only [aLv];rw [if_neg (by omega),if_neg hm]
 cases aLv (es.drop (k+1)) (m+(aB2 es[k].op-1)) with
 | none=>rfl
 | some n=>simp;omega
def endF (es:List Term) (p:Int):Int:=if p<0∨es.length<=p then -1 else aEh es p.toNat 1
theorem bBo (l:List Term) (m:Int) (n:Nat) (h:aLv l m=some n):1<=n/\n<=l.length:=by
 induction l generalizing m n with
 | nil=>simp [aLv] at h
 | cons t ts ih =>
  simp only [aLv] at h
  split at h
  .cases h
  .split at h
   .injection h with h;subst h;simp
   .cases hs:aLv ts (m+(aB2 t.op-1)) with
    | none=>rw [hs] at h;cases h
    | some q =>
     rw [hs] at h;injection h with h;subst h
     have:=ih _ _ hs;simp;omega
theorem bJo (es:List Term) (k:Nat) (m:Int) (hk:k<=es.length):aEh es k m = -1∨(k<aEh es k m/\aEh es k m<=es.length):=by
 unfold aEh;cases h:aLv (es.drop k) m with
 | none=>left;rfl
 | some n =>
  right
  have:=bBo _ _ _ h;simp at this
  simp;omega
theorem bNx (es:List Term) (p:Int):endF es p = -1∨(0<=p/\p<es.length/\p<endF es p/\endF es p<=es.length):=by
 unfold endF;split
 .left;rfl
 .rename_i h
  have:=bJo es p.toNat 1 (by omega)
  omega
def aAl (op:Int):Bool:=decide (20<=op/\op<=29)
def aFd (l:List Int):Int:=l.foldl max 0
theorem aXl (l:List Int) (a:Int):a<=l.foldl max a:=by
 induction l generalizing a with
 | nil=>exact Int.le_refl _
 | cons x l ih=>exact Int.le_trans (Int.le_max_left a x) (ih _)
theorem aXm (l:List Int) (a b:Int) (ha:a<=b) (h:∀ x∈l,x<=b):l.foldl max a<=b:=by
 induction l generalizing a with
 | nil=>exact ha
 | cons x l ih=>exact ih _ (Int.max_le.2 ⟨ha,h x (by simp)⟩) (fun y hy=>h y (by simp [hy]))
theorem aLm (l:List Int):0<=aFd l:=aXl l 0
theorem bAd (l:List Int) (b:Int) (hb:0<=b) (h:∀ x∈l,x<=b):aFd l<=b:=aXm l 0 b hb h
def lev (num:Int->Int->Int):List Term->List Int
 | []=>[]
 | t :: ts=>(lev num ts).take ((lev num ts).length-(aB2 t.op).toNat)++[num t.op (aFd ((lev num ts).drop ((lev num ts).length-(aB2 t.op).toNat)))]
def aHr (l:List Term) (m:Int):Prop:=(l=[]/\m=0)∨(1<=m/\aLv l m=some l.length)
theorem aHr.cons {t:Term} {ts:List Term} {m:Int} (h:aHr (t :: ts) m):1<=m/\0<=aB2 t.op/\aHr ts (m+(aB2 t.op-1)):=by
 rcases h with ⟨h,_⟩ | ⟨hm,h⟩
 .cases h
 .simp only [aLv] at h
  split at h
  .cases h
  .rename_i ha
   refine ⟨hm,by omega,?_⟩
   split at h
   .rename_i h0
    injection h with h
    left
    exact ⟨List.eq_nil_of_length_eq_zero (by simpa using h.symm),h0⟩
   .rename_i h0
    right
    refine ⟨by omega,?_⟩
    cases hs:aLv ts (m+(aB2 t.op-1)) with
    | none=>rw [hs] at h;cases h
    | some q=>rw [hs] at h;injection h with h;simp at h;rw [h]
theorem aHr.lev_length (num:Int->Int->Int) (l:List Term):∀ m,aHr l m->((lev num l).length:Int)=m:=by
 induction l with
 | nil =>
  intro m h
  rcases h with ⟨_,h⟩ | ⟨_,h⟩
  .simp [lev,h]
  .simp [aLv] at h
 | cons t ts ih =>
  intro m h
  obtain ⟨h1,h2,h3⟩:=h.cons;have:=ih _ h3;simp only [lev,List.length_append,List.length_take,List.length_singleton]
  omega
theorem aQv {es:List Term} (h:endF es 0=es.length):aHr es 1:=by
 unfold endF at h;split at h
 .omega
 .right
  refine ⟨by omega,?_⟩
  unfold aEh at h;simp only [Int.toNat_zero,List.drop_zero] at h
  cases hs:aLv es 1 with
  | none=>rw [hs] at h;simp at h
  | some n=>rw [hs] at h;simp at h;rw [show n=es.length by omega]
theorem aHr.drop {es:List Term} (h:aHr es 1):∀ i,i<=es.length->∃ m,aHr (es.drop i) m:=by
 intro i
 induction i with
 | zero=>intro _;exact ⟨1,by simpa using h⟩
 | succ i ih =>
  intro hi
  obtain ⟨m,hm⟩:=ih (by omega)
  rw [List.drop_eq_getElem_cons (by omega)] at hm
  exact ⟨_,hm.cons.2.2⟩
theorem bPl (num:Int->Int->Int) {es:List Term} (h:aHr es 1) {i:Nat} (hi:i<es.length) :
  0<=aB2 es[i].op/\aB2 es[i].op<=(lev num (es.drop (i+1))).length:=by
 obtain ⟨m,hm⟩:=h.drop i (by omega)
 rw [List.drop_eq_getElem_cons hi] at hm;obtain ⟨h1,h2,h3⟩:=hm.cons;have:=h3.lev_length num;exact ⟨h2,by omega⟩
theorem bIb (num:Int->Int->Int) (hn:∀ op g,0<=g->0<=num op g/\num op g<=g+1) (l:List Term):(lev num l).length<=l.length/\∀ x∈lev num l,0<=x/\x<=l.length:=by
 induction l with
 | nil=>simp [lev]
 | cons t ts ih =>
  obtain ⟨ih1,ih2⟩:=ih;refine ⟨by simp only [lev,List.length_append,List.length_take,List.length_cons,List.length_nil];omega,fun x hx=>?_⟩
  simp only [lev,List.mem_append,List.mem_singleton] at hx
  rcases hx with hx | hx
  .have:=ih2 x (List.mem_of_mem_take hx)
   simp;omega
  .have g1:=aLm ((lev num ts).drop ((lev num ts).length-(aB2 t.op).toNat))
   have g2:=bAd ((lev num ts).drop ((lev num ts).length-(aB2 t.op).toNat)) ts.length (by omega) (fun y hy=>(ih2 y (List.mem_of_mem_drop hy)).2)
   have:=hn t.op _ g1;rw [hx];simp;omega
def aGy (num:Int->Int->Int) (es:List Term):Int:=if endF es 0=es.length then (lev num es).headD 0 else 0
def aGf (_ g:Int):Int:=g+1
def aGz (op g:Int):Int:=if aAl op then g+1 else g
theorem bA5 (op g:Int) (h:0<=g):0<=aGf op g/\aGf op g<=g+1:=by unfold aGf;omega
theorem bFa (op g:Int) (h:0<=g):0<=aGz op g/\aGz op g<=g+1:=by unfold aGz;split <;> omega
def aL5 (es:List Term):Int:=aGy aGf es
def bAv (es:List Term):Int:=aGy aGz es
def aM3 (t:Term) (vars:Int):Bool :=
 if t.op=1 then decide (0<=t.arg/\t.arg<=1073741824) else if t.op=5∨t.op=12 then decide (0<=t.arg/\t.arg<vars) else decide (t.arg=0)
def aD4 (es:List Term) (vars:Int):Bool :=
 decide (es.length<=200)&&(endF es 0==es.length)&&es.all (aM3 · vars)&&decide (aL5 es<=24)&&decide (bAv es<=2)
end Go.Proofs.YtmoebklkkjbigaaGreatDoor

