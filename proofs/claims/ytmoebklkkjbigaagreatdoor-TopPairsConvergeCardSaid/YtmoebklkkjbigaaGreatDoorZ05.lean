/- Merged. -/
import Derived.OneCell
import Derived.Test.YtmoebklkkjbigaaGreatDoorZ03
set_option linter.unusedSimpArgs false
set_option linter.unnecessarySimpa false
set_option linter.unusedVariables false
set_option maxRecDepth 100000
open Go.Proofs.Tryz

namespace Go.Proofs.YtmoebklkkjbigaaGreatDoor
theorem aUi (l:List Int) (a b:Int):l.foldl max (max a b)=max a (l.foldl max b):=by
 induction l generalizing b with
 | nil=>rfl
 | cons x l ih=>simp only [List.foldl_cons];rw [Int.max_assoc];exact ih _
theorem aXo (x:Int) (l:List Int):aFd (l++[x])=max (aFd l) x:=by
 unfold aFd;rw [List.foldl_append];rfl
theorem bEt (x:Int) (l:List Int):aFd (x :: l)=max x (aFd l):=by
 have h:=aUi l x 0;unfold aFd;rw [List.foldl_cons,Int.max_comm 0 x];exact h
theorem aXn (l:List Int):aFd l.reverse=aFd l:=by
 induction l with
 | nil=>rfl
 | cons x l ih=>rw [List.reverse_cons,aXo,ih,bEt,Int.max_comm]
def rl (num:Int->Int->Int):List Term->List Int
 | []=>[]
 | t :: ts=>num t.op (aFd ((rl num ts).take (aB2 t.op).toNat)) :: (rl num ts).drop (aB2 t.op).toNat
theorem aY2 (num:Int->Int->Int) (l:List Term):∀ m,aHr l m->lev num l=(rl num l).reverse:=by
 induction l with
 | nil=>intro m _;rfl
 | cons t ts ih =>
  intro m h
  obtain ⟨h1,h2,h3⟩:=h.cons;have hlen:=h3.lev_length num;have e:=ih _ h3;rw [e,List.length_reverse] at hlen;simp only [lev,rl]
  rw [e,List.length_reverse,List.reverse_cons,List.take_reverse,List.drop_reverse,aXn];have hsub:(rl num ts).length-((rl num ts).length-(aB2 t.op).toNat)=(aB2 t.op).toNat:=by omega
  rw [hsub]
theorem aRt (num:Int->Int->Int) (l:List Term) (m:Int) (h:aHr l m):((rl num l).length:Int)=m:=by
 have:=h.lev_length num;rw [aY2 num l m h,List.length_reverse] at this;exact this
def wt (om:Bool->Int) (s:List (Int × Bool)):Int:=(s.map fun x=>om x.2).sum
def fin (d:Int) (pl ds:List Int):Int:=(List.zipWith (·+·) pl ds).foldl max d
theorem bMr (l:List Term):∀ (m1 m2:Int),1<=m1->1<=m2->aLv l (m1+m2)=(match aLv l m1 with | none=>none | some n=>(aLv (l.drop n) m2).map (n+·)):=by
 induction l with
 | nil=>intro m1 m2 _ _;rfl
 | cons t ts ih =>
  intro m1 m2 h1 h2
  simp only [aLv]
  by_cases ha:aB2 t.op<0
  .simp only [if_pos ha]
  .simp only [if_neg ha]
   rw [if_neg (by omega)]
   by_cases h0:m1+(aB2 t.op-1)=0
   .rw [if_pos h0]
    simp only [List.drop_succ_cons,List.drop_zero]
    rw [show m1+m2+(aB2 t.op-1)=m2 by omega]
    congr 1;funext x;omega
   .rw [if_neg h0,show m1+m2+(aB2 t.op-1)=(m1+(aB2 t.op-1))+m2 by omega,ih _ _ (by omega) h2]
    cases aLv ts (m1+(aB2 t.op-1)) with
    | none=>rfl
    | some n =>
     simp only [Option.map_some,List.drop_succ_cons,Option.map_map]
     congr 1;funext x;simp;omega
theorem bLg (es:List Term) (k:Nat) (h:k<es.length):endF es (k:Int)=aEh es k 1:=by
 unfold endF;rw [if_neg (by omega),Int.toNat_natCast]
theorem aRw (l r:List Term):∀ (m:Int) (n:Nat),aLv l m=some n->aLv (l++r) m=some n:=by
 induction l with
 | nil=>intro m n h;simp [aLv] at h
 | cons t ts ih =>
  intro m n h
  simp only [aLv] at h
  split at h
  .cases h
  .rename_i ha
   split at h
   .rename_i h0
    simp only [List.cons_append,aLv,if_neg ha,if_pos h0];exact h
   .rename_i h0
    cases hs:aLv ts (m+(aB2 t.op-1)) with
    | none=>rw [hs] at h;cases h
    | some q =>
     rw [hs] at h;simp only [List.cons_append,aLv,if_neg ha,if_neg h0,ih _ _ hs];exact h
theorem bCk {p:List Term} (h:aHr p 1):endF p 0=p.length:=by
 rcases h with ⟨_,h⟩ | ⟨_,h⟩
 .omega
 .have:=bBo _ _ _ h
  unfold endF aEh;rw [if_neg (by omega)]
  simp only [Int.toNat_zero,List.drop_zero,h]
  simp
theorem aHr.pos {p:List Term} (h:aHr p 1):0<p.length:=by
 rcases h with ⟨_,h⟩ | ⟨_,h⟩
 .omega
 .exact (bBo _ _ _ h).1
theorem aHr.add {p q:List Term} {m1 m2:Int} (hp:aHr p m1) (hq:aHr q m2) (h1:1<=m1) (h2:1<=m2):aHr (p++q) (m1+m2):=by
 rcases hp with ⟨_,h⟩ | ⟨_,hp⟩
 .omega
 .rcases hq with ⟨_,h⟩ | ⟨_,hq⟩
  .omega
  .right
   refine ⟨by omega,?_⟩
   rw [bMr _ _ _ h1 h2,aRw p q _ _ hp];simp only [List.drop_left,hq,Option.map_some,List.length_append]
theorem aHr.mk {t:Term} {ts:List Term} (h:aHr ts (aB2 t.op)) (h1:1<=aB2 t.op):aHr (t :: ts) 1:=by
 rcases h with ⟨_,h⟩ | ⟨_,h⟩
 .omega
 .right
  refine ⟨by omega,?_⟩
  simp only [aLv]
  rw [if_neg (by omega),if_neg (by omega),show 1+(aB2 t.op-1)=aB2 t.op by omega,h]
  rfl
theorem aIa (num:Int->Int->Int) (p r:List Term):∀ m,aHr p m->rl num (p++r)=rl num p++rl num r:=by
 induction p with
 | nil=>intro m _;rfl
 | cons t ts ih =>
  intro m h
  obtain ⟨h1,h2,h3⟩:=h.cons;have hl:=aRt num ts _ h3;simp only [List.cons_append,rl]
  rw [ih _ h3,List.take_append_of_le_length (by omega),List.drop_append_of_le_length (by omega)]
theorem aCq (num:Int->Int->Int) {p:List Term} (h:aHr p 1):rl num p=[aGy num p]:=by
 have hl:=aRt num p 1 h;obtain ⟨x,hx⟩:∃ x,rl num p=[x]:=List.length_eq_one_iff.1 (by omega)
 have hlev:=aY2 num p 1 h;unfold aGy;rw [if_pos (bCk h),hlev,hx];rfl
theorem aZc (es:List Term) (vars:Int):aD4 es vars=true↔es.length<=200/\aHr es 1/\(∀ t∈es,aM3 t vars=true)/\aL5 es<=24/\bAv es<=2:=by
 unfold aD4;simp only [Bool.and_eq_true,decide_eq_true_eq,beq_iff_eq,List.all_eq_true]
 constructor
 .rintro ⟨⟨⟨⟨a,b⟩,c⟩,d⟩,e⟩
  exact ⟨a,aQv b,c,d,e⟩
 .rintro ⟨a,b,c,d,e⟩
  exact ⟨⟨⟨⟨a,bCk b⟩,c⟩,d⟩,e⟩
theorem aFk (num:Int->Int->Int) {t:Term} {ts:List Term} (h:aHr ts (aB2 t.op)) (h1:1<=aB2 t.op):aGy num (t :: ts)=num t.op (aFd (rl num ts)):=by
 have hs:=aCq num (aHr.mk h h1);have hl:=aRt num ts _ h;simp only [rl] at hs
 injection hs with h2 _
 rw [<- h2,List.take_of_length_le (by omega)]
inductive Ex where
 | leaf (t:Term)
 | un (t:Term) (a:Ex)
 | bin (t:Term) (a b:Ex)
 | tri (t:Term) (a b c:Ex)
def Ex.terms:Ex->List Term
 | .leaf t=>[t]
 | .un t a=>t :: a.terms
 | .bin t a b=>t :: (a.terms++b.terms)
 | .tri t a b c=>t :: (a.terms++(b.terms++c.terms))
def Ex.len (x:Ex):Nat:=x.terms.length
def Ex.ok:Ex->Prop
 | .leaf t=>aB2 t.op=0
 | .un t a=>aB2 t.op=1/\a.ok
 | .bin t a b=>aB2 t.op=2/\a.ok/\b.ok
 | .tri t a b c=>aB2 t.op=3/\a.ok/\b.ok/\c.ok
theorem Ex.pos (x:Ex):0<x.len:=by cases x <;> simp [Ex.len,Ex.terms]
theorem Ex.full {x:Ex} (h:x.ok):aHr x.terms 1:=by
 induction x with
 | leaf t =>
  simp only [Ex.ok] at h
  right
  refine ⟨by omega,?_⟩
  simp [Ex.terms,aLv,h]
 | un t a ih =>
  obtain ⟨h1,h2⟩:=h;exact aHr.mk (by rw [h1];exact ih h2) (by omega)
 | bin t a b iha ihb =>
  obtain ⟨h1,h2,h3⟩:=h;exact aHr.mk (by rw [h1];exact aHr.add (m1:=1) (m2:=1) (iha h2) (ihb h3) (by omega) (by omega)) (by omega)
 | tri t a b c iha ihb ihc =>
  obtain ⟨h1,h2,h3,h4⟩:=h;exact aHr.mk (by rw [h1];exact aHr.add (m1:=1) (m2:=2) (iha h2) (aHr.add (m1:=1) (m2:=1) (ihb h3) (ihc h4) (by omega) (by omega)) (by omega) (by omega)) (by omega)
theorem parse (l:List Term):∀ m,aHr l m->∃ xs:List Ex,(∀ x∈xs,x.ok)/\xs.flatMap Ex.terms=l/\(xs.length:Int)=m:=by
 induction l with
 | nil =>
  intro m h
  rcases h with ⟨_,h⟩ | ⟨_,h⟩
  .exact ⟨[],fun _ h=>by simp at h,rfl,by simp [h]⟩
  .simp [aLv] at h
 | cons t ts ih =>
  intro m h
  obtain ⟨h1,h2,h3⟩:=h.cons;obtain ⟨xs,hok,hfl,hlen⟩:=ih _ h3;have h4:=(bC7 t.op).2
  rcases (show aB2 t.op=0∨aB2 t.op=1∨aB2 t.op=2∨aB2 t.op=3 by omega) with ha | ha | ha | ha
  .refine ⟨.leaf t :: xs,?_,by simp [Ex.terms,hfl],by simp;omega⟩
   intro x hx
   rcases List.mem_cons.1 hx with e | e
   .subst e;exact ha
   .exact hok x e
  .match xs,hok,hfl,hlen with
   | [],_,_,hlen=>simp at hlen;omega
   | a :: xs,hok,hfl,hlen =>
    refine ⟨.un t a :: xs,?_,by simp [Ex.terms,<- hfl],by simp at hlen ⊢;omega⟩
    intro x hx
    rcases List.mem_cons.1 hx with e | e
    .subst e;exact ⟨ha,hok a (by simp)⟩
    .exact hok x (by simp [e])
  .match xs,hok,hfl,hlen with
   | [],_,_,hlen=>simp at hlen;omega
   | [a],_,_,hlen=>simp at hlen;omega
   | a :: b :: xs,hok,hfl,hlen =>
    refine ⟨.bin t a b :: xs,?_,by simp [Ex.terms,<- hfl],by simp at hlen ⊢;omega⟩
    intro x hx
    rcases List.mem_cons.1 hx with e | e
    .subst e;exact ⟨ha,hok a (by simp),hok b (by simp)⟩
    .exact hok x (by simp [e])
  .match xs,hok,hfl,hlen with
   | [],_,_,hlen=>simp at hlen;omega
   | [a],_,_,hlen=>simp at hlen;omega
   | [a,b],_,_,hlen=>simp at hlen;omega
   | a :: b :: c :: xs,hok,hfl,hlen =>
    refine ⟨.tri t a b c :: xs,?_,by simp [Ex.terms,<- hfl],by simp at hlen ⊢;omega⟩
    intro x hx
    rcases List.mem_cons.1 hx with e | e
    .subst e;exact ⟨ha,hok a (by simp),hok b (by simp),hok c (by simp)⟩
    .exact hok x (by simp [e])
theorem bPq {l:List Term} (h:aHr l 1):∃ x:Ex,x.ok/\x.terms=l:=by
 obtain ⟨xs,h1,h2,h3⟩:=parse l 1 h;obtain ⟨x,rfl⟩:∃ x,xs=[x]:=List.length_eq_one_iff.1 (by omega)
 exact ⟨x,h1 x (by simp),by simpa using h2⟩
def Ex.At (es:List Term) (k:Nat) (x:Ex):Prop:=x.ok/\∃ r,es.drop k=x.terms++r
theorem At.whole {es:List Term} {x:Ex} (h:x.ok) (he:x.terms=es):x.At es 0:=⟨h,[],by simp [he]⟩
theorem aHc {es r:List Term} {k n:Nat} {p:List Term} (h:es.drop k=p++r) (hn:p.length=n):es.drop (k+n)=r:=by
 rw [<- List.drop_drop,h,<- hn,List.drop_left]
theorem At.bound {es:List Term} {k:Nat} {x:Ex} (h:x.At es k):k+x.len<=es.length:=by
 obtain ⟨_,r,hr⟩:=h;have:=congrArg List.length hr;have hp:=x.pos;simp only [List.length_drop,List.length_append] at this
 unfold Ex.len at *;omega
theorem At.lt {es:List Term} {k:Nat} {x:Ex} (h:x.At es k):k<es.length:=by
 have:=At.bound h;have:=x.pos;omega
theorem aMd {es r:List Term} {k:Nat} {t:Term} (h:es.drop k=t :: r):es[k]?=some t/\es.drop (k+1)=r:=by
 refine ⟨?_,?_⟩
 .have:=congrArg (·[0]?) h
  simpa using this
 .exact aHc (p:=[t]) h rfl
theorem At.leaf {es:List Term} {k:Nat} {t:Term} (h:(Ex.leaf t).At es k):es[k]?=some t/\aB2 t.op=0:=by
 obtain ⟨h1,r,hr⟩:=h;exact ⟨(aMd hr).1,h1⟩
theorem At.un {es:List Term} {k:Nat} {t:Term} {a:Ex} (h:(Ex.un t a).At es k):es[k]?=some t/\aB2 t.op=1/\a.At es (k+1):=by
 obtain ⟨⟨h1,h2⟩,r,hr⟩:=h;obtain ⟨g1,g2⟩:=aMd hr;exact ⟨g1,h1,h2,r,g2⟩
theorem At.bin {es:List Term} {k:Nat} {t:Term} {a b:Ex} (h:(Ex.bin t a b).At es k):es[k]?=some t/\aB2 t.op=2/\a.At es (k+1)/\b.At es (k+1+a.len):=by
 obtain ⟨⟨h1,h2,h3⟩,r,hr⟩:=h;obtain ⟨g1,g2⟩:=aMd (r:=_++r) hr;rw [List.append_assoc] at g2;exact ⟨g1,h1,⟨h2,_,g2⟩,h3,r,aHc g2 rfl⟩
theorem At.tri {es:List Term} {k:Nat} {t:Term} {a b c:Ex} (h:(Ex.tri t a b c).At es k):es[k]?=some t/\aB2 t.op=3/\a.At es (k+1)/\b.At es (k+1+a.len)/\c.At es (k+1+a.len+b.len):=by
 obtain ⟨⟨h1,h2,h3,h4⟩,r,hr⟩:=h;obtain ⟨g1,g2⟩:=aMd (r:=_++r) hr;rw [List.append_assoc] at g2;have g3:=aHc g2 rfl;rw [List.append_assoc] at g3;exact ⟨g1,h1,⟨h2,_,g2⟩,⟨h3,_,g3⟩,h4,r,aHc g3 rfl⟩
theorem At.endF {es:List Term} {k:Nat} {x:Ex} (h:x.At es k):endF es (k:Int)=((k+x.len:Nat):Int):=by
 have hlt:=At.lt h;obtain ⟨hok,r,hr⟩:=h;rw [bLg es k hlt];unfold aEh
 rcases Ex.full hok with ⟨_,h⟩ | ⟨_,h⟩
 .omega
 .rw [hr,aRw _ r _ _ h];simp [Ex.len]
def Ex.depth:Ex->Int
 | .leaf _=>1
 | .un _ a=>a.depth+1
 | .bin _ a b=>max a.depth b.depth+1
 | .tri _ a b c=>max a.depth (max b.depth c.depth)+1
def Ex.nest:Ex->Int
 | .leaf _=>0
 | .un t a=>if aAl t.op then a.nest+1 else a.nest
 | .bin _ a b=>max a.nest b.nest
 | .tri _ a b c=>max a.nest (max b.nest c.nest)
theorem Ex.depth_pos (x:Ex):1<=x.depth:=by
 induction x <;> simp only [Ex.depth] <;> omega
theorem Ex.nest_pos (x:Ex):0<=x.nest:=by
 induction x with
 | leaf t=>simp [Ex.nest]
 | un t a ih=>simp only [Ex.nest];split <;> omega
 | bin t a b iha ihb=>simp only [Ex.nest];omega
 | tri t a b c iha ihb ihc=>simp only [Ex.nest];omega
theorem bH4 {op:Int} (h:aAl op=true):aB2 op=1:=by
 unfold aAl at h;have:20<=op/\op<=29:=by simpa using h
 unfold aB2;rw [if_neg (by omega),if_neg (by omega),if_pos (by omega)]
theorem aJi {op:Int} (h:aB2 op≠1):aAl op=false:=by
 cases hb:aAl op with
 | false=>rfl
 | true=>exact absurd (bH4 hb) h
theorem aR5 (num:Int->Int->Int) {t:Term} (h:aB2 t.op=0):aGy num [t]=num t.op 0:=by
 have hF:aHr [t] 1:=Ex.full (x := .leaf t) h;have:=aCq num hF;simp only [rl] at this
 injection this with h1 _
 rw [<- h1,h];rfl
theorem Ex.levels_depth {x:Ex} (h:x.ok):aL5 x.terms=x.depth:=by
 unfold aL5
 induction x with
 | leaf t=>simp only [Ex.terms];rw [aR5 _ h];rfl
 | un t a ih =>
  obtain ⟨h1,h2⟩:=h;have hp:=a.depth_pos;simp only [Ex.terms]
  rw [aFk _ (by rw [h1];exact Ex.full h2) (by omega),aCq _ (Ex.full h2),ih h2]
  simp [aFd,aGf,Ex.depth];omega
 | bin t a b iha ihb =>
  obtain ⟨h1,h2,h3⟩:=h;have hp:=a.depth_pos;have hq:=b.depth_pos;simp only [Ex.terms]
  rw [aFk _ (by rw [h1];exact aHr.add (m1:=1) (m2:=1) (Ex.full h2) (Ex.full h3) (by omega) (by omega)) (by omega),aIa _ _ _ 1 (Ex.full h2),aCq _ (Ex.full h2),aCq _ (Ex.full h3),iha h2,ihb h3]
  simp [aFd,aGf,Ex.depth];omega
 | tri t a b c iha ihb ihc =>
  obtain ⟨h1,h2,h3,h4⟩:=h;have hp:=a.depth_pos;have hq:=b.depth_pos;have hr:=c.depth_pos;simp only [Ex.terms]
  rw [aFk _ (by rw [h1];exact aHr.add (m1:=1) (m2:=2) (Ex.full h2) (aHr.add (m1:=1) (m2:=1) (Ex.full h3) (Ex.full h4) (by omega) (by omega)) (by omega) (by omega)) (by omega),aIa _ _ _ 1 (Ex.full h2),aIa _ _ _ 1 (Ex.full h3),aCq _ (Ex.full h2),aCq _ (Ex.full h3),aCq _ (Ex.full h4),iha h2,ihb h3,ihc h4]
  simp [aFd,aGf,Ex.depth];omega
theorem Ex.levels_nest {x:Ex} (h:x.ok):bAv x.terms=x.nest:=by
 unfold bAv
 induction x with
 | leaf t =>
  simp only [Ex.terms];rw [aR5 _ h]
  have:=aJi (op:=t.op) (by rw [h];omega)
  simp [aGz,this,Ex.nest]
 | un t a ih =>
  obtain ⟨h1,h2⟩:=h;have hp:=a.nest_pos;simp only [Ex.terms]
  rw [aFk _ (by rw [h1];exact Ex.full h2) (by omega),aCq _ (Ex.full h2),ih h2]
  have:aFd [a.nest]=a.nest:=by simp [aFd];omega
  rw [this];simp [aGz,Ex.nest]
 | bin t a b iha ihb =>
  obtain ⟨h1,h2,h3⟩:=h;have hp:=a.nest_pos;have hq:=b.nest_pos;have hag:=aJi (op:=t.op) (by rw [h1];omega)
  simp only [Ex.terms]
  rw [aFk _ (by rw [h1];exact aHr.add (m1:=1) (m2:=1) (Ex.full h2) (Ex.full h3) (by omega) (by omega)) (by omega),aIa _ _ _ 1 (Ex.full h2),aCq _ (Ex.full h2),aCq _ (Ex.full h3),iha h2,ihb h3]
  simp [aFd,aGz,hag,Ex.nest];omega
 | tri t a b c iha ihb ihc =>
  obtain ⟨h1,h2,h3,h4⟩:=h;have hp:=a.nest_pos;have hq:=b.nest_pos;have hr:=c.nest_pos;have hag:=aJi (op:=t.op) (by rw [h1];omega)
  simp only [Ex.terms]
  rw [aFk _ (by rw [h1];exact aHr.add (m1:=1) (m2:=2) (Ex.full h2) (aHr.add (m1:=1) (m2:=1) (Ex.full h3) (Ex.full h4) (by omega) (by omega)) (by omega) (by omega)) (by omega),aIa _ _ _ 1 (Ex.full h2),aIa _ _ _ 1 (Ex.full h3),aCq _ (Ex.full h2),aCq _ (Ex.full h3),aCq _ (Ex.full h4),iha h2,ihb h3,ihc h4]
  simp [aFd,aGz,hag,Ex.nest];omega
theorem bGj {es:List Term} {vars:Int} (h:aD4 es vars=true):∃ x:Ex,x.ok/\x.terms=es/\es.length<=200/\(∀ t∈es,aM3 t vars=true)/\x.depth<=24/\x.nest<=2:=by
 obtain ⟨h1,h2,h3,h4,h5⟩:=(aZc es vars).1 h;obtain ⟨x,hx,rfl⟩:=bPq h2;exact ⟨x,hx,rfl,h1,h3,by rw [<- Ex.levels_depth hx];exact h4,by rw [<- Ex.levels_nest hx];exact h5⟩
structure Link where
 «to»:Int
 weight:Int
instance:Inhabited Link:=⟨⟨0,0⟩⟩
structure Graph where
 ids:List Int
 ports:List (List Link)
structure Var where
 name:ByteArray
 kind:Int
 lo:Int
 hi:Int
 perNode:Int
 perID:Int
instance:Inhabited Var:=⟨⟨ByteArray.empty,0,0,0,0,0⟩⟩
structure SetT where
 var:Int
 value:List Term
instance:Inhabited SetT:=⟨⟨0,[]⟩⟩
structure Rule where
 name:ByteArray
 guard:List Term
 sets:List SetT
instance:Inhabited Rule:=⟨⟨ByteArray.empty,[],[]⟩⟩
structure Prg where
 name:ByteArray
 vars:List Var
 rules:List Rule
abbrev aA2:=List (List Int)
def aK9:List Term->List Ex
 | []=>[]
 | t :: ts =>
  let s:=aK9 ts
  if aB2 t.op=0 then .leaf t :: s
  else if aB2 t.op=1 then (match s with | a :: s => .un t a :: s | []=>[])
  else if aB2 t.op=2 then (match s with | a :: b :: s => .bin t a b :: s | _=>[])
  else (match s with | a :: b :: c :: s => .tri t a b c :: s | _=>[])
def aBf (es:List Term):Ex:=(aK9 es).headD (.leaf default)
theorem aVz {x:Ex} (h:x.ok) (r:List Term):aK9 (x.terms++r)=x :: aK9 r:=by
 induction x generalizing r with
 | leaf t=>simp only [Ex.ok] at h;simp [Ex.terms,aK9,h]
 | un t a ih=>obtain ⟨h1,h2⟩:=h;simp [Ex.terms,aK9,h1,ih h2]
 | bin t a b iha ihb=>obtain ⟨h1,h2,h3⟩:=h;simp [Ex.terms,aK9,h1,iha h2,ihb h3]
 | tri t a b c iha ihb ihc=>obtain ⟨h1,h2,h3,h4⟩:=h;simp [Ex.terms,aK9,h1,iha h2,ihb h3,ihc h4]
theorem aZ8 {x:Ex} (h:x.ok):aBf x.terms=x:=by
 have:=aVz h [];rw [List.append_nil] at this;simp [aBf,this]
theorem bK3 {es:List Term} {x:Ex} (h:x.ok) (he:x.terms=es):aBf es=x:=by rw [<- he];exact aZ8 h
theorem aKg {es:List Term} {vars:Int} (h:aD4 es vars=true):(aBf es).ok/\(aBf es).terms=es/\es.length<=200/\(∀ t∈es,aM3 t vars=true)/\(aBf es).depth<=24/\(aBf es).nest<=2:=by
 obtain ⟨x,h1,h2,h3,h4,h5,h6⟩:=bGj h;rw [bK3 h1 h2];exact ⟨h1,h2,h3,h4,h5,h6⟩
def aHe (k:Int):Bool:=k==1||k==2||k==3
def aFh (op:Int):Bool:=decide (11<=op/\op<=17)
def bAj (kinds:List Int) (t:Term):Int :=
 if t.op=2∨t.op=3∨t.op=10∨t.op=15 then 2
 else if t.op=4∨t.op=11∨t.op=17 then 3
 else if t.op=5∨t.op=12 then kinds.getD t.arg.toNat 0
 else 1
def ifK (b:Bool) (k:Int):Int:=if b then k else 0
def aOo (op a:Int):Int :=
 if op=19∨op=20∨op=21 then ifK (a==2) 2
 else if op=22 then ifK (a==2) 1
 else if op=23 then ifK (a==2) 3
 else ifK (a==1) 1
def aNo (op a b:Int):Int :=
 if op=35∨op=36 then ifK (a==b&&a != 0) 2
 else if op=41∨op=42 then ifK (a==2&&b==2) 2
 else if 37<=op/\op<=40 then ifK (a==1&&b==1) 2
 else ifK (a==1&&b==1) 1
def aD2 (kinds:List Int):Bool->Ex->Int
 | bound,.leaf t=>if aFh t.op && !bound then 0 else bAj kinds t
 | bound,.un t a=>aOo t.op (aD2 kinds (bound||aAl t.op) a)
 | bound,.bin t a b=>aNo t.op (aD2 kinds bound a) (aD2 kinds bound b)
 | bound,.tri _ a b c=>ifK (aD2 kinds bound a==2&&aD2 kinds bound b==aD2 kinds bound c) (aD2 kinds bound b)
def ofF (es:List Term) (kinds:List Int) (bound:Bool):Int × Int :=
 if 6<kinds.length then (0,7)
 else if kinds.all aHe=false then (0,7)
 else if aD4 es kinds.length=false then (0,7)
 else if aD2 kinds bound (aBf es)=0 then (0,6)
 else (aD2 kinds bound (aBf es),0)
def aDu (p:Prg):List Int:=p.vars.map Var.kind
def aCx (ls:List Link) (u:Int):Int:=match ls.findIdx? (fun l=>l.to==u) with | some i=>(i:Int) | none => -1
theorem aRp {ls:List Link} {u:Int} {j:Nat} (h:j<ls.length) (ha:(ls.take j).all (fun l => !(l.to==u))=true) (hj:(ls[j].to==u)=true):aCx ls u=(j:Int):=by
 unfold aCx
 have:ls.findIdx? (fun l=>l.to==u)=some j:=by
  rw [List.findIdx?_eq_some_iff_getElem];refine ⟨h,hj,fun k hk=>?_⟩
  have:=List.all_eq_true.1 ha ls[k] (by rw [List.mem_take_iff_getElem];exact ⟨k,by omega,rfl⟩)
  simpa using this
 rw [this]
theorem aTb {ls:List Link} {u:Int} (ha:ls.all (fun l => !(l.to==u))=true):aCx ls u = -1:=by
 unfold aCx
 have:ls.findIdx? (fun l=>l.to==u)=none:=by
  rw [List.findIdx?_eq_none_iff];intro x hx
  have:=List.all_eq_true.1 ha x hx;simpa using this
 rw [this]
theorem bD2:∀ (n:Nat) (l:List Int),l.Nodup->(∀ x∈l,0<=x/\x<(n:Int))->l.length<=n
 | 0,l,_,h=>by
  cases l with
  | nil=>simp
  | cons x l=>have:=h x (by simp);omega
 | n+1,l,hn,h=>by
  have h1:=bD2 n (l.erase (n:Int)) (hn.erase _) (fun x hx=>by
   have h2:=h x (List.mem_of_mem_erase hx)
   have h3:x≠(n:Int):=by
    rintro rfl;exact (List.Nodup.not_mem_erase hn) hx
   omega)
  have h4:l.length<=(l.erase (n:Int)).length+1:=by
   rw [List.length_erase];split <;> omega
  omega
def aMm (n v:Nat) (l:Link):Bool:=decide (0<=l.to/\l.to<(n:Int)/\l.to≠(v:Int)/\1<=l.weight/\l.weight<=15)
def aDe (n v:Nat) (ls:List Link):Bool:=ls.all (aMm n v)&&decide ((ls.map Link.to).Nodup)
def aHb (g:Graph) (v:Nat) (l:Link):Bool:=(g.ports.getD l.to.toNat []).any fun k=>k.to==(v:Int)&&k.weight==l.weight
def aSd (ids:List Int):Bool:=ids.all (fun i=>decide (0<=i/\i<=255))&&decide ids.Nodup
def aF2 (g:Graph):Bool :=
 decide (1<=g.ports.length/\g.ports.length<=24/\g.ids.length=g.ports.length)&&aSd g.ids
  && (List.range g.ports.length).all (fun v=>aDe g.ports.length v (g.ports.getD v []))
  && (List.range g.ports.length).all (fun v=>(g.ports.getD v []).all (aHb g v))
structure GOK (g:Graph):Prop where
 pos:1<=g.ports.length
 le:g.ports.length<=24
 ids:g.ids.length=g.ports.length
 idr:∀ i∈g.ids,0<=i/\i<=255
 idn:g.ids.Nodup
 links:∀ v,(h:v<g.ports.length)->aDe g.ports.length v g.ports[v]=true
 back:∀ v,(h:v<g.ports.length)->∀ l∈g.ports[v],aHb g v l=true
theorem aA7 {α:Type} {l:List α} {k:Nat} {d:α} (h:k<l.length):l.getD k d=l[k]:=by simp [List.getD_eq_getElem?_getD,h]
theorem aCa (g:Graph):aF2 g=true↔GOK g:=by
 unfold aF2 aSd;simp only [Bool.and_eq_true,decide_eq_true_eq,List.all_eq_true,List.mem_range]
 constructor
 .rintro ⟨⟨⟨⟨h1,h2,h3⟩,h4,h5⟩,h6⟩,h7⟩
  exact ⟨h1,h2,h3,h4,h5,fun v hv=>by have:=h6 v hv;rwa [aA7 hv] at this,fun v hv l hl=>by have:=h7 v hv;rw [aA7 hv] at this;exact this l hl⟩
 .rintro ⟨h1,h2,h3,h4,h5,h6,h7⟩
  exact ⟨⟨⟨⟨h1,h2,h3⟩,h4,h5⟩,fun v hv=>by rw [aA7 hv];exact h6 v hv⟩,fun v hv=>by rw [aA7 hv];exact h7 v hv⟩
theorem aAu {n v:Nat} {ls:List Link}:aDe n v ls=true↔(∀ l∈ls,aMm n v l=true)/\(ls.map Link.to).Nodup:=by
 unfold aDe;simp only [Bool.and_eq_true,decide_eq_true_eq,List.all_eq_true]
theorem aB3 {n v:Nat} {l:Link}:aMm n v l=true↔0<=l.to/\l.to<(n:Int)/\l.to≠(v:Int)/\1<=l.weight/\l.weight<=15:=by
 unfold aMm;simp only [decide_eq_true_eq]
theorem aCt {n v:Nat} {ls:List Link} (hv:v<n) (h:aDe n v ls=true):ls.length<n:=by
 obtain ⟨h1,h2⟩:=aAu.1 h
 have:=bD2 n ((v:Int) :: ls.map Link.to) (by
  rw [List.nodup_cons];refine ⟨?_,h2⟩
  intro hm
  obtain ⟨l,hl,he⟩:=List.mem_map.1 hm;exact (aB3.1 (h1 l hl)).2.2.1 he) (by
  intro x hx
  rcases List.mem_cons.1 hx with rfl | hx
  .omega
  .obtain ⟨l,hl,rfl⟩:=List.mem_map.1 hx
   have:=aB3.1 (h1 l hl)
   omega)
 simp at this
 omega
theorem aF6 {l:List Int} {k:Nat} (h:k<l.length) (hn:(l.take k).Nodup) (hne:∀ j (hj:j<k),l[j]≠l[k]):(l.take (k+1)).Nodup:=by
 rw [List.take_succ_eq_append_getElem h,List.nodup_append];refine ⟨hn,by simp,?_⟩
 intro a ha b hb
 simp at hb
 subst hb;rw [List.mem_take_iff_getElem] at ha;obtain ⟨j,hj,rfl⟩:=ha;exact hne j (by omega)
theorem aG3 {l:List Int} {j k:Nat} (hj:j<k) (hk:k<l.length) (he:l[j]=l[k]):¬ l.Nodup:=by
 intro hn
 have:=(List.nodup_iff_pairwise_ne.1 hn);rw [List.pairwise_iff_getElem] at this;exact this j k (by omega) hk hj he
theorem aTc {ls:List Link} {u:Int} (h:0<=aCx ls u):∃ k:Nat,∃ hk:k<ls.length,aCx ls u=(k:Int)/\ls[k].to=u:=by
 unfold aCx at *;cases hf:ls.findIdx? (fun l=>l.to==u) with
 | none=>rw [hf] at h;simp at h
 | some k =>
  rw [List.findIdx?_eq_some_iff_getElem] at hf;obtain ⟨hk,h1,_⟩:=hf;exact ⟨k,hk,rfl,by simpa using h1⟩
theorem aYw {ls:List Link} {u:Int} (h:aCx ls u<0):∀ l∈ls,l.to≠u:=by
 unfold aCx at *;cases hf:ls.findIdx? (fun l=>l.to==u) with
 | none =>
  rw [List.findIdx?_eq_none_iff] at hf;intro l hl
  simpa using hf l hl
 | some k=>rw [hf] at h;simp at h;omega
theorem aRq (ls:List Link) (u:Int) : -1<=aCx ls u/\aCx ls u<ls.length:=by
 unfold aCx;cases hf:ls.findIdx? (fun l=>l.to==u) with
 | none=>simp;omega
 | some k =>
  rw [List.findIdx?_eq_some_iff_getElem] at hf;obtain ⟨hk,_⟩:=hf;simp;omega
theorem aZu {ls:List Link} {v:Nat} {x:Int} (hn:(ls.map Link.to).Nodup) (k:Nat) (hk:k<ls.length) (ht:ls[k].to=(v:Int)):(ls.any fun k=>k.to==(v:Int)&&k.weight==x)=(ls[k].weight==x):=by
 rw [Bool.eq_iff_iff,List.any_eq_true];constructor
 .rintro ⟨l,hl,hh⟩
  simp at hh
  obtain ⟨h1,h2⟩:=hh;obtain ⟨j,hj,rfl⟩:=List.getElem_of_mem hl
  have:j=k:=by
   rcases Nat.lt_trichotomy j k with h | h | h
   .exact absurd hn (aG3 (k:=k) h (by simpa using hk) (by simp [h1,ht]))
   .exact h
   .exact absurd hn (aG3 (k:=j) h (by simpa using hj) (by simp [h1,ht]))
  subst this;simpa using h2
 .intro h
  exact ⟨ls[k],List.getElem_mem hk,by simp [ht];simpa using h⟩
theorem bH9 {ls:List Link} {v:Nat} {x:Int} (h:aCx ls v<0):(ls.any fun k=>k.to==(v:Int)&&k.weight==x)=false:=by
 rw [List.any_eq_false];intro l hl
 have:=aYw h l hl;simp [this]
open Go.RowKit
def Blk (w:World) (B:Nat) (cs:Array Value) (t:TypeId):Prop:=w.heap[B]?=some (.cells cs t (0,0))
theorem Blk.cell {w:World} {B:Nat} {cs:Array Value} {t:TypeId} (h:Blk w B cs t) (i:Nat) {v:Value} (hv:cs[i]?=some v):w.cell? ⟨B,i,none⟩=some v:=by
 unfold Blk at h;simp [World.cell?,h,hv]
theorem Blk.frozen {w:World} {B:Nat} {cs:Array Value} {t:TypeId} (h:Blk w B cs t) (i:Nat):w.frozen? ⟨B,i,none⟩=false:=by
 unfold Blk at h;simp [World.frozen?,h]
theorem Blk.lt {w:World} {B:Nat} {cs:Array Value} {t:TypeId} (h:Blk w B cs t):B<w.heap.size:=lt_of_block h
theorem Blk.alloc {w:World} {B:Nat} {cs:Array Value} {t:TypeId} (h:Blk w B cs t) (o:Obj):Blk (w.alloc o) B cs t:=by
 unfold Blk at *;rw [Below.heap_alloc _ _ _ (lt_of_block h)];exact h
theorem Blk.new (w:World) (cs:Array Value) (t:TypeId):Blk (w.alloc (.cells cs t (0,0))) w.heap.size cs t:=heap_alloc_new w _
theorem Blk.drew {w:World} {B:Nat} {cs:Array Value} {t:TypeId} (h:Blk w B cs t):Blk w.drew B cs t:=h
theorem Blk.drewN {w:World} {B:Nat} {cs:Array Value} {t:TypeId} (h:Blk w B cs t) (k:Nat):Blk (w.drewN k) B cs t:=h
theorem Blk.set {w:World} {B:Nat} {cs:Array Value} {t:TypeId} (h:Blk w B cs t) (i:Nat) (v:Value):Blk (w.setCell ⟨B,i,none⟩ v) B (cs.setIfInBounds i v) t:=by
 unfold Blk at *;have hlt:=lt_of_block h;have h':w.heap[B] = .cells cs t (0,0):=by simpa [Array.getElem?_eq_getElem hlt] using h
 show (w.heap.modify B _)[B]?=_
 rw [Array.getElem?_eq_getElem (by simpa using hlt),Array.getElem_modify_self,h']
 rfl
theorem Blk.other {w:World} {B:Nat} {cs:Array Value} {t:TypeId} (h:Blk w B cs t) {a:Addr} (ha:B≠a.block) (v:Value):Blk (w.setCell a v) B cs t:=by
 unfold Blk at *;rw [Below.heap_setCell _ _ _ _ ha];exact h
theorem Blk.keep {w w':World} {B:Nat} {cs:Array Value} {t:TypeId} (h:Blk w B cs t) (k:Bel w w'):Blk w' B cs t:=by
 unfold Blk at *;rw [k.block B (lt_of_block h)];exact h
theorem Blk.grown {w w':World} {B:Nat} {cs:Array Value} {t:TypeId} (h:Blk w B cs t) {row:Option Nat} (hg:w.grownBy w' row) (hr:some B≠row):Blk w' B cs t:=by
 unfold Blk at *;rw [hg.block B (lt_of_block h) hr];exact h
theorem Blk.apart {w:World} {B:Nat} {cs:Array Value} {t e:TypeId} {base size n:Nat} {v:Value} {xs:List Value} (h:Blk w B cs t) (ho:w.ownsRow base e size v n xs) (hne:t≠e):some B≠v.ownBlock:=by
 rcases ho.2 with ⟨rfl,_⟩ | ⟨g,cap,cur,rfl,_,hg,_⟩
 .simp [Value.ownBlock]
 .simp only [Value.ownBlock]
  intro he
  injection he with he
  subst he;unfold Blk at h;rw [h] at hg;injection hg with hg
  injection hg with _ ht
  exact hne ht
theorem bIv {w:World} {base:Nat} {e:TypeId} {size g n c:Nat} {xs:List Value} (h:w.ownsRow base e size (.slice (some ⟨g,0,none⟩) n c) n xs):∃ cs,Blk w g cs e:=by
 rcases h.2 with ⟨hv,_⟩ | ⟨g',cap,cur,hv,_,hg,_⟩
 .cases hv
 .injection hv with hA _ _
  injection hA with hA
  injection hA with hA
  subst hA;exact ⟨cur,hg⟩
theorem aB9 {w:World} {base base':Nat} {e:TypeId} {size:Nat} {v:Value} {n:Nat} {xs:List Value} (h:w.ownsRow base e size v n xs) (hb:base'<=base):w.ownsRow base' e size v n xs:=by
 refine ⟨h.1,?_⟩
 rcases h.2 with hn | ⟨g,cap,cur,hv,hg,rest⟩
 .exact .inl hn
 .exact .inr ⟨g,cap,cur,hv,Nat.le_trans hb hg,rest⟩
def aGd {α:Type} (size:Nat) (E:World->Nat->Nat->α->Prop) (w:World) (b o:Nat) (xs:List α):Prop :=
 ∃ A c,w.cell? ⟨b,o,none⟩=some (.slice A xs.length c)/\aAc size E w A xs.length xs/\xs.length<=c/\c<=maxLen
theorem aGd.keeps {α:Type} {size:Nat} {E:World->Nat->Nat->α->Prop} (hE:aNi E):aNi (aGd size E):=by
 intro w w' b o x k hb ⟨A,c,h1,h2,h3,h4⟩
 exact ⟨A,c,(k.cell hb).trans h1,h2.keep hE k,h3,h4⟩
def aQ5 (w:World) (b o:Nat) (l:Link):Prop:=w.cell? ⟨b,o,none⟩=some (.int .i64 l.to)/\w.cell? ⟨b,o+1,none⟩=some (.int .i64 l.weight)
theorem aQ5.keeps:aNi aQ5:=fun _ _ _ _ _ k hb h=>⟨(k.cell hb).trans h.1,(k.cell hb).trans h.2⟩
def aHx:=aAc 2 aQ5
def aHy:=aAc 1 (aGd 2 aQ5)
def aQ9:=aAc 1 (aGd 1 aJd)
theorem aHx.keep {w w':World} {A:Option Addr} {n:Nat} {xs:List Link} (h:aHx w A n xs) (k:Bel w w'):aHx w' A n xs:=aAc.keep aQ5.keeps h k
theorem aHy.keep {w w':World} {A:Option Addr} {n:Nat} {xs:List (List Link)} (h:aHy w A n xs) (k:Bel w w'):aHy w' A n xs:=aAc.keep (aGd.keeps aQ5.keeps) h k
theorem aQ9.keep {w w':World} {A:Option Addr} {n:Nat} {xs:List (List Int)} (h:aQ9 w A n xs) (k:Bel w w'):aQ9 w' A n xs:=aAc.keep (aGd.keeps aJd.keeps) h k
theorem aHx.at_ {w:World} {A:Option Addr} {n:Nat} {xs:List Link} (h:aHx w A n xs) (k:Nat) (hk:k<xs.length) :
  ∃ b o,A=some ⟨b,o,none⟩/\b<w.heap.size/\w.cell? ⟨b,o+k*2,none⟩=some (.int .i64 xs[k].to)/\w.cell? ⟨b,o+k*2+1,none⟩=some (.int .i64 xs[k].weight):=aAc.at_ h k hk
theorem RowsAt.at_ {α:Type} {size:Nat} {E:World->Nat->Nat->α->Prop} {w:World} {A:Option Addr} {n:Nat} {xs:List (List α)} (h:aAc 1 (aGd size E) w A n xs) (k:Nat) (hk:k<xs.length) :
  ∃ b o R c,A=some ⟨b,o,none⟩/\b<w.heap.size/\w.cell? ⟨b,o+k,none⟩=some (.slice R xs[k].length c)/\aAc size E w R xs[k].length xs[k]/\xs[k].length<=c/\c<=maxLen:=by
 obtain ⟨b,o,e,hb,R,c,h1,h2,h3,h4⟩:=aAc.at_ h k hk;exact ⟨b,o,R,c,e,hb,by rw [Nat.mul_one] at h1;exact h1,h2,h3,h4⟩
theorem aHy.at_ {w:World} {A:Option Addr} {n:Nat} {xs:List (List Link)} (h:aHy w A n xs) (k:Nat) (hk:k<xs.length) :
  ∃ b o R c,A=some ⟨b,o,none⟩/\b<w.heap.size/\w.cell? ⟨b,o+k,none⟩=some (.slice R xs[k].length c)/\aHx w R xs[k].length xs[k]/\xs[k].length<=c/\c<=maxLen:=RowsAt.at_ h k hk
theorem aQ9.at_ {w:World} {A:Option Addr} {n:Nat} {xs:List (List Int)} (h:aQ9 w A n xs) (k:Nat) (hk:k<xs.length) :
  ∃ b o R c,A=some ⟨b,o,none⟩/\b<w.heap.size/\w.cell? ⟨b,o+k,none⟩=some (.slice R xs[k].length c)/\aCy w R xs[k].length xs[k]/\xs[k].length<=c/\c<=maxLen:=RowsAt.at_ h k hk
def aB7 (w:World) (v:Value) (g:Graph):Prop :=
 ∃ A c A2 c2,v = .agg #[.slice A g.ids.length c,.slice A2 g.ports.length c2]/\aCy w A g.ids.length g.ids/\g.ids.length<=c/\c<=maxLen/\aHy w A2 g.ports.length g.ports/\g.ports.length<=c2/\c2<=maxLen
theorem aB7.keep {w w':World} {v:Value} {g:Graph} (h:aB7 w v g) (k:Bel w w'):aB7 w' v g:=by
 obtain ⟨A,c,A2,c2,e,h1,h2,h3,h4,h5,h6⟩:=h;exact ⟨A,c,A2,c2,e,h1.keep k,h2,h3,h4.keep k,h5,h6⟩
def bGv (w:World) (b o:Nat) (x:Var):Prop :=
 w.cell? ⟨b,o,none⟩=some (.string x.name)/\w.cell? ⟨b,o+1,none⟩=some (.int .i64 x.kind)/\w.cell? ⟨b,o+2,none⟩=some (.int .i64 x.lo)/\w.cell? ⟨b,o+3,none⟩=some (.int .i64 x.hi)/\w.cell? ⟨b,o+4,none⟩=some (.int .i64 x.perNode)/\w.cell? ⟨b,o+5,none⟩=some (.int .i64 x.perID)
theorem bGv.keeps:aNi bGv:=fun _ _ _ _ _ k hb h=>⟨(k.cell hb).trans h.1,(k.cell hb).trans h.2.1,(k.cell hb).trans h.2.2.1,(k.cell hb).trans h.2.2.2.1,(k.cell hb).trans h.2.2.2.2.1,(k.cell hb).trans h.2.2.2.2.2⟩
def aNj:=aAc 6 bGv
theorem aNj.keep {w w':World} {A:Option Addr} {n:Nat} {xs:List Var} (h:aNj w A n xs) (k:Bel w w'):aNj w' A n xs:=aAc.keep bGv.keeps h k
theorem aNj.at_ {w:World} {A:Option Addr} {n:Nat} {xs:List Var} (h:aNj w A n xs) (k:Nat) (hk:k<xs.length) :
  ∃ b o,A=some ⟨b,o,none⟩/\b<w.heap.size/\bGv w b (o+k*6) xs[k]:=aAc.at_ h k hk
def bDz (w:World) (b o:Nat) (x:SetT):Prop:=w.cell? ⟨b,o,none⟩=some (.int .i64 x.var)/\aGd 2 aH9 w b (o+1) x.value
theorem bDz.keeps:aNi bDz:=fun _ _ _ _ _ k hb h=>⟨(k.cell hb).trans h.1,aGd.keeps aH9.keeps _ _ _ _ _ k hb h.2⟩
def aQa:=aAc 2 bDz
theorem aQa.keep {w w':World} {A:Option Addr} {n:Nat} {xs:List SetT} (h:aQa w A n xs) (k:Bel w w'):aQa w' A n xs:=aAc.keep bDz.keeps h k
theorem aQa.at_ {w:World} {A:Option Addr} {n:Nat} {xs:List SetT} (h:aQa w A n xs) (k:Nat) (hk:k<xs.length) :
  ∃ b o R c,A=some ⟨b,o,none⟩/\b<w.heap.size/\w.cell? ⟨b,o+k*2,none⟩=some (.int .i64 xs[k].var)/\w.cell? ⟨b,o+k*2+1,none⟩=some (.slice R xs[k].value.length c)/\aCd w R xs[k].value.length xs[k].value/\xs[k].value.length<=c/\c<=maxLen:=by
 obtain ⟨b,o,e,hb,h1,R,c,h2,h3,h4,h5⟩:=aAc.at_ h k hk;exact ⟨b,o,R,c,e,hb,h1,h2,h3,h4,h5⟩
def bBy (w:World) (b o:Nat) (x:Rule):Prop:=w.cell? ⟨b,o,none⟩=some (.string x.name)/\aGd 2 aH9 w b (o+1) x.guard/\aGd 2 bDz w b (o+2) x.sets
theorem bBy.keeps:aNi bBy:=fun _ _ _ _ _ k hb h=>⟨(k.cell hb).trans h.1,aGd.keeps aH9.keeps _ _ _ _ _ k hb h.2.1,aGd.keeps bDz.keeps _ _ _ _ _ k hb h.2.2⟩
def aJg:=aAc 3 bBy
theorem aJg.keep {w w':World} {A:Option Addr} {n:Nat} {xs:List Rule} (h:aJg w A n xs) (k:Bel w w'):aJg w' A n xs:=aAc.keep bBy.keeps h k
def bDy (w:World) (v:Value) (r:Rule):Prop :=
 ∃ G c S c2,v = .agg #[.string r.name,.slice G r.guard.length c,.slice S r.sets.length c2]/\aCd w G r.guard.length r.guard/\r.guard.length<=c/\c<=maxLen/\aQa w S r.sets.length r.sets/\r.sets.length<=c2/\c2<=maxLen
theorem bDy.keep {w w':World} {v:Value} {g:Rule} (h:bDy w v g) (k:Bel w w'):bDy w' v g:=by
 obtain ⟨A,c,A2,c2,e,h1,h2,h3,h4,h5,h6⟩:=h;exact ⟨A,c,A2,c2,e,h1.keep k,h2,h3,h4.keep k,h5,h6⟩
theorem aJg.at_ {w:World} {A:Option Addr} {n:Nat} {xs:List Rule} (h:aJg w A n xs) (k:Nat) (hk:k<xs.length) :
  ∃ b o G c S c2,A=some ⟨b,o,none⟩/\b<w.heap.size/\w.cell? ⟨b,o+k*3,none⟩=some (.string xs[k].name)/\w.cell? ⟨b,o+k*3+1,none⟩=some (.slice G xs[k].guard.length c)/\w.cell? ⟨b,o+k*3+2,none⟩=some (.slice S xs[k].sets.length c2)
   /\ aCd w G xs[k].guard.length xs[k].guard/\xs[k].guard.length<=c/\c<=maxLen/\aQa w S xs[k].sets.length xs[k].sets/\xs[k].sets.length<=c2/\c2<=maxLen:=by
 obtain ⟨b,o,e,hb,h1,⟨G,c,h2,h3,h4,h5⟩,S,c2,h6,h7,h8,h9⟩:=aAc.at_ h k hk;exact ⟨b,o,G,c,S,c2,e,hb,h1,h2,h6,h3,h4,h5,h7,h8,h9⟩
def aKy (w:World) (v:Value) (p:Prg):Prop :=
 ∃ A c A2 c2,v = .agg #[.string p.name,.slice A p.vars.length c,.slice A2 p.rules.length c2]/\aNj w A p.vars.length p.vars/\p.vars.length<=c/\c<=maxLen/\aJg w A2 p.rules.length p.rules/\p.rules.length<=c2/\c2<=maxLen
theorem aKy.keep {w w':World} {v:Value} {p:Prg} (h:aKy w v p) (k:Bel w w'):aKy w' v p:=by
 obtain ⟨A,c,A2,c2,e,h1,h2,h3,h4,h5,h6⟩:=h;exact ⟨A,c,A2,c2,e,h1.keep k,h2,h3,h4.keep k,h5,h6⟩
def aD7 (w:World) (v:Value) (c:aA2):Prop:=∃ A k,v = .slice A c.length k/\aQ9 w A c.length c/\c.length<=k/\k<=maxLen
theorem aD7.keep {w w':World} {v:Value} {c:aA2} (h:aD7 w v c) (k:Bel w w'):aD7 w' v c:=by
 obtain ⟨A,n,e,h1,h2,h3⟩:=h;exact ⟨A,n,e,h1.keep k,h2,h3⟩
theorem aAo {α:Type} {f:α->Bool} {l:List α} {k:Nat} (h:k<l.length) (ha:(l.take k).all f=true) (hk:f l[k]=true):(l.take (k+1)).all f=true:=by
 rw [List.take_succ_eq_append_getElem h,List.all_append,ha];simp [hk]
theorem aCk {α:Type} {f:α->Bool} {l:List α} {k:Nat} (h:k<l.length) (hk:f l[k]=false):l.all f=false:=by
 rw [List.all_eq_false];exact ⟨l[k],List.getElem_mem h,by simp [hk]⟩
theorem aC3 {α:Type} {f:α->Bool} {l:List α} {k:Nat} (h:l.length<=k) (ha:(l.take k).all f=true):l.all f=true:=by rwa [List.take_of_length_le h] at ha
def aI4 (c:aA2):Bool:=decide (c.length<=30)&&c.all fun r=>decide (r.length<=10)
def aC7 (g:Graph):Bool:=decide (g.ids.length<=30)&&decide (g.ports.length<=30)&&g.ports.all fun r=>decide (r.length<=30)
theorem aBl (v:Value) (g:Graph) (w:World) (h:aB7 w v g) :
  Calls prog 6 #[v] w fun e w'=>e = .returned (.bool (aC7 g))/\Bel w w':=by
 obtain ⟨A,k,A2,k2,rfl,_,_,_,hr,_,_⟩:=h;have H:=aA0 hr;clear hr
 by_cases hl:g.ids.length<=30/\g.ports.length<=30
 .obtain ⟨hl1,hl2⟩:=hl
  go_enter func6,ntmps6;go_wp2
  go_loopg [3] g.ports.length (fun m i wr=>∃ j:Nat,j<=g.ports.length/\m=g.ports.length-j/\Hid ((g.ports.take j).all (fun r=>decide (r.length<=30))=true)/\i = .int .i64 j/\w.alloc (.cells #[.slice A g.ids.length k,.slice A2 g.ports.length k2] 25)=wr)
  case atStart=>exact ⟨0,by omega,rfl,rfl,rfl,rfl⟩
  case round =>
   obtain ⟨j,hj,rfl,HK,rfl,rfl⟩:=hrel
   by_cases hlt:j<g.ports.length
   .obtain ⟨b,o,R,c1,rfl,hb,hc1,_,_,_⟩:=H.out.at_ j hlt
    go_wp2
    .go_ret
     exact ⟨aA1 (by unfold aC7;rw [aCk hlt (by simp;omega)];simp),(Bel.refl _).alloc _⟩
    .go_roundg (g.ports.length-(j+1))
     case rel=>exact ⟨j+1,by omega,rfl,aAo hlt HK.out (by simp;omega),by go_num,rfl⟩
     case measure=>omega
   .go_wp2
    go_ret;exact ⟨aA1 (by unfold aC7;rw [aC3 (by omega) HK.out];simp [hl1,hl2]),(Bel.refl _).alloc _⟩
 .have hf:Hid (aC7 g=false):=by
   show aC7 g=false
   unfold aC7;rw [Bool.eq_false_iff];intro h;simp at h;omega
  by_cases h1:30<g.ids.length
  .go_enter func6,ntmps6
   go_wp2;go_ret;exact ⟨aA1 hf.out.symm,(Bel.refl _).alloc _⟩
  .have h2:30<g.ports.length:=by omega
   clear hl;go_enter func6,ntmps6;go_wp2;go_ret;exact ⟨aA1 hf.out.symm,(Bel.refl _).alloc _⟩
theorem aAp {w wr:World} {cs:Array Value} {t:TypeId} (h:Bel (w.alloc (.cells cs t)) wr) (i:Nat) {v:Value} (hv:cs[i]?=some v):wr.cell? ⟨w.heap.size,i,none⟩=some v :=
 (h.cell (by simp)).trans ((Blk.new w cs t).cell i hv)
theorem aDh {w wr:World} {cs:Array Value} {t:TypeId} (h:Bel (w.alloc (.cells cs t)) wr):w.heap.size<wr.heap.size:=by
 have:=h.size;simp at this;omega
theorem aA5 {w wr:World} {o:Obj} (h:Bel (w.alloc o) wr):Bel w wr:=((Bel.refl w).alloc o).trans h
theorem bL5 {w wr:World} {cs ds:Array Value} {t u:TypeId} (h:Bel ((w.alloc (.cells cs t)).alloc (.cells ds u)) wr) :
  (∀ i v,cs[i]?=some v->wr.cell? ⟨w.heap.size,i,none⟩=some v)/\(∀ i v,ds[i]?=some v->wr.cell? ⟨w.heap.size+1,i,none⟩=some v)/\w.heap.size+1<wr.heap.size:=by
 refine ⟨fun i v hv=>?_,fun i v hv=>?_,?_⟩
 .exact (h.cell (by simp;omega)).trans (((Blk.new w cs t).alloc _).cell i hv)
 .have:=aAp h i hv
  simpa using this
 .have:=aDh h
  simpa using this
theorem aDk {w wr:World} {a b c d e:Value} {t u:TypeId} (h:Bel ((w.alloc (.cells #[a,b,c] t)).alloc (.cells #[d,e] u)) wr) :
  wr.cell? ⟨w.heap.size,0,none⟩=some a/\wr.cell? ⟨w.heap.size,1,none⟩=some b/\wr.cell? ⟨w.heap.size,2,none⟩=some c/\wr.cell? ⟨w.heap.size+1,0,none⟩=some d/\wr.cell? ⟨w.heap.size+1,1,none⟩=some e/\w.heap.size+1<wr.heap.size:=by
 obtain ⟨h1,h2,h3⟩:=bL5 h;exact ⟨h1 0 _ rfl,h1 1 _ rfl,h1 2 _ rfl,h2 0 _ rfl,h2 1 _ rfl,h3⟩
theorem aA3 {w wr:World} {o o2:Obj} (h:Bel ((w.alloc o).alloc o2) wr):Bel w wr:=aA5 (aA5 h)
def aP6 (r:Rule):Bool:=decide (r.name.size<=40)&&decide (r.sets.length<=10)&&decide (r.guard.length<=250)&&r.sets.all fun s=>decide (s.value.length<=250)
def aCi (p:Prg):Bool:=decide (p.name.size<=40)&&decide (p.vars.length<=10)&&decide (p.rules.length<=16)&&p.vars.all (fun x=>decide (x.name.size<=40))&&p.rules.all aP6
def inB (v lo hi:Int):Bool:=decide (lo<=v/\v<=hi)
theorem aKp {v lo hi:Int} (h1:lo<=v) (h2:v<=hi):inB v lo hi=true:=by unfold inB;simp [h1,h2]
theorem aQy {v lo hi:Int} (h:v<lo∨hi<v):inB v lo hi=false:=by unfold inB;simp;omega
theorem aQz {v lo hi:Int}:inB v lo hi=true↔lo<=v/\v<=hi:=by unfold inB;simp
theorem aDt (v lo hi:Int) (w:World):Calls prog 21 #[.int .i64 v,.int .i64 lo,.int .i64 hi] w fun e w'=>e = .returned (.bool (inB v lo hi))/\w=w':=by
 go_enter func21,ntmps21;go_wp2
 all_goals (go_ret;refine ⟨aA1 ?_,rfl⟩;unfold inB;rw [Bool.eq_iff_iff];simp) <;> omega
theorem aIg (v lo hi:Int) (w:World):Calls prog 113 #[.int .i64 v,.int .i64 lo,.int .i64 hi] w fun e w'=>e = .returned (.bool (inB v lo hi))/\w=w':=by
 go_enter func113,ntmps113;go_wp2
 all_goals (go_ret;refine ⟨aA1 ?_,rfl⟩;unfold inB;rw [Bool.eq_iff_iff];simp) <;> omega
theorem bFq (v:Value) (g:Graph) (i:Nat) (u:Int) (w:World) (h:aB7 w v g) (hi:i<g.ports.length) :
  Calls prog 23 #[v,.int .i64 i,.int .i64 u] w fun e w'=>e = .returned (.int .i64 (aCx g.ports[i] u))/\Bel w w':=by
 obtain ⟨A,k,A2,k2,rfl,_,_,_,hr,_,hm⟩:=h;obtain ⟨b,o,R,c1,rfl,hb,hc1,hL,hn,hm2⟩:=hr.at_ i hi;have H:=aA0 hL;clear hL hr;unfold maxLen at hm hm2;go_enter func23,ntmps23;go_wp2
 go_loopg [7] g.ports[i].length (fun m x wr=>∃ j:Nat,j<=g.ports[i].length/\m=g.ports[i].length-j/\Hid ((g.ports[i].take j).all (fun l => !(l.to==u))=true)/\x = .int .i64 j/\w.alloc (.cells #[.slice A g.ids.length k,.slice (some ⟨b,o,none⟩) g.ports.length k2] 25)=wr)
 case atStart=>exact ⟨0,by omega,rfl,rfl,rfl,rfl⟩
 case round =>
  obtain ⟨j,hj,rfl,HK,rfl,rfl⟩:=hrel
  by_cases hlt:j<g.ports[i].length
  .obtain ⟨b',o',rfl,hb',hl1,hl2⟩:=H.out.at_ j hlt
   by_cases he:(g.ports[i][j].to==u)=true
   .go_wp2
    go_ret;exact ⟨aA9 (aRp hlt HK.out he).symm,(Bel.refl _).alloc _⟩
   .have he':(g.ports[i][j].to==u)=false:=by simpa using he
    clear he;go_wp2
    go_roundg (g.ports[i].length-(j+1))
    case rel=>exact ⟨j+1,by omega,rfl,aAo hlt HK.out (by simp [he']),by go_num,rfl⟩
    case measure=>omega
  .go_wp2
   go_ret;exact ⟨aA9 (aTb (aC3 (by omega) HK.out)).symm,(Bel.refl _).alloc _⟩
theorem bFr (v:Value) (g:Graph) (i:Nat) (u:Int) (w:World) (h:aB7 w v g) (hi:i<g.ports.length) :
  Calls prog 153 #[v,.int .i64 i,.int .i64 u] w fun e w'=>e = .returned (.int .i64 (aCx g.ports[i] u))/\Bel w w':=by
 obtain ⟨A,k,A2,k2,rfl,_,_,_,hr,_,hm⟩:=h;obtain ⟨b,o,R,c1,rfl,hb,hc1,hL,hn,hm2⟩:=hr.at_ i hi;have H:=aA0 (fun w' (k:Bel w w')=>aHx.keep hL k);clear hL hr;unfold maxLen at hm hm2;go_enter func153,ntmps153;go_wp2
 go_loopg [7,8,15] g.ports[i].length (fun m _x _y z wr=>∃ j:Nat,j<=g.ports[i].length/\m=g.ports[i].length-j/\Hid ((g.ports[i].take j).all (fun l => !(l.to==u))=true)/\z = .int .i64 j/\Bel w wr)
 case atStart=>exact ⟨0,by omega,rfl,rfl,rfl,(Bel.refl w).alloc _⟩
 case round =>
  obtain ⟨j,hj,rfl,HK,rfl,HB⟩:=hrel
  by_cases hlt:j<g.ports[i].length
  .obtain ⟨b',o',rfl,hb',hl1,hl2⟩:=(H.out _ HB).at_ j hlt
   have HB2:=HB.alloc (.cells #[.int .i64 g.ports[i][j].to,.int .i64 g.ports[i][j].weight] 64)
   by_cases he:(g.ports[i][j].to==u)=true
   .go_wp2
    go_ret;exact ⟨aA9 (aRp hlt HK.out he).symm,HB2⟩
   .have he':(g.ports[i][j].to==u)=false:=by simpa using he
    clear he;go_wp2
    go_roundg (g.ports[i].length-(j+1))
    case rel=>exact ⟨j+1,by omega,rfl,aAo hlt HK.out (by simp [he']),by go_num,HB2⟩
    case measure=>omega
  .go_wp2
   go_ret;exact ⟨aA9 (aTb (aC3 (by omega) HK.out)).symm,HB⟩
end Go.Proofs.YtmoebklkkjbigaaGreatDoor

