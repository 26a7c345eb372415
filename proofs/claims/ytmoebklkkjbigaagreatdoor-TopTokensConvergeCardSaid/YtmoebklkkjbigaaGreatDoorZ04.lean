/- Merged. -/
import Derived.Test.YtmoebklkkjbigaaGreatDoorZ01
import Derived.Test.YtmoebklkkjbigaaGreatDoorZ03
import Derived.OneCell
set_option linter.unusedSimpArgs false
set_option linter.unnecessarySimpa false
set_option linter.unusedVariables false
set_option maxRecDepth 100000
set_option maxHeartbeats 400000
open Go.Proofs.Tryz

namespace Go.Proofs.YtmoebklkkjbigaaGreatDoor
theorem aUf (l:List Int) (a b:Int):l.foldl max (max a b)=max a (l.foldl max b):=by
 induction l generalizing b with
 | nil=>rfl
 | cons x l ih=>simp only [List.foldl_cons];rw [Int.max_assoc];exact ih _
theorem aXl (x:Int) (l:List Int):aFc (l++[x])=max (aFc l) x:=by
 unfold aFc;rw [List.foldl_append];rfl
theorem bEt (x:Int) (l:List Int):aFc (x :: l)=max x (aFc l):=by
 have h:=aUf l x 0;unfold aFc;rw [List.foldl_cons,Int.max_comm 0 x];exact h
theorem aXk (l:List Int):aFc l.reverse=aFc l:=by
 induction l with
 | nil=>rfl
 | cons x l ih=>rw [List.reverse_cons,aXl,ih,bEt,Int.max_comm]
def rl (num:Int->Int->Int):List Term->List Int
 | []=>[]
 | t :: ts=>num t.op (aFc ((rl num ts).take (aB1 t.op).toNat)) :: (rl num ts).drop (aB1 t.op).toNat
theorem aXz (num:Int->Int->Int) (l:List Term):∀ m,aHc l m->lev num l=(rl num l).reverse:=by
 induction l with
 | nil=>intro m _;rfl
 | cons t ts ih =>
  intro m h
  obtain ⟨h1,h2,h3⟩:=h.cons;have hlen:=h3.lev_length num;have e:=ih _ h3;rw [e,List.length_reverse] at hlen;simp only [lev,rl]
  rw [e,List.length_reverse,List.reverse_cons,List.take_reverse,List.drop_reverse,aXk];have hsub:(rl num ts).length-((rl num ts).length-(aB1 t.op).toNat)=(aB1 t.op).toNat:=by omega
  rw [hsub]
theorem aRp (num:Int->Int->Int) (l:List Term) (m:Int) (h:aHc l m):((rl num l).length:Int)=m:=by
 have:=h.lev_length num;rw [aXz num l m h,List.length_reverse] at this;exact this
def wt (om:Bool->Int) (s:List (Int × Bool)):Int:=(s.map fun x=>om x.2).sum
def fin (d:Int) (pl ds:List Int):Int:=(List.zipWith (·+·) pl ds).foldl max d
theorem bMl (l:List Term):∀ (m1 m2:Int),1<=m1->1<=m2->aLq l (m1+m2)=(match aLq l m1 with | none=>none | some n=>(aLq (l.drop n) m2).map (n+·)):=by
 induction l with
 | nil=>intro m1 m2 _ _;rfl
 | cons t ts ih =>
  intro m1 m2 h1 h2
  simp only [aLq]
  by_cases ha:aB1 t.op<0
  .simp only [if_pos ha]
  .simp only [if_neg ha]
   rw [if_neg (by omega)]
   by_cases h0:m1+(aB1 t.op-1)=0
   .rw [if_pos h0]
    simp only [List.drop_succ_cons,List.drop_zero]
    rw [show m1+m2+(aB1 t.op-1)=m2 by omega]
    congr 1;funext x;omega
   .rw [if_neg h0,show m1+m2+(aB1 t.op-1)=(m1+(aB1 t.op-1))+m2 by omega,ih _ _ (by omega) h2]
    cases aLq ts (m1+(aB1 t.op-1)) with
    | none=>rfl
    | some n =>
     simp only [Option.map_some,List.drop_succ_cons,Option.map_map]
     congr 1;funext x;simp;omega
theorem bLd (es:List Term) (k:Nat) (h:k<es.length):endF es (k:Int)=aEg es k 1:=by
 unfold endF;rw [if_neg (by omega),Int.toNat_natCast]
theorem aRt (l r:List Term):∀ (m:Int) (n:Nat),aLq l m=some n->aLq (l++r) m=some n:=by
 induction l with
 | nil=>intro m n h;simp [aLq] at h
 | cons t ts ih =>
  intro m n h
  simp only [aLq] at h
  split at h
  .cases h
  .rename_i ha
   split at h
   .rename_i h0
    simp only [List.cons_append,aLq,if_neg ha,if_pos h0];exact h
   .rename_i h0
    cases hs:aLq ts (m+(aB1 t.op-1)) with
    | none=>rw [hs] at h;cases h
    | some q =>
     rw [hs] at h;simp only [List.cons_append,aLq,if_neg ha,if_neg h0,ih _ _ hs];exact h
theorem bCj {p:List Term} (h:aHc p 1):endF p 0=p.length:=by
 rcases h with ⟨_,h⟩ | ⟨_,h⟩
 .omega
 .have:=bBl _ _ _ h
  unfold endF aEg;rw [if_neg (by omega)]
  simp only [Int.toNat_zero,List.drop_zero,h]
  simp
theorem aHc.pos {p:List Term} (h:aHc p 1):0<p.length:=by
 rcases h with ⟨_,h⟩ | ⟨_,h⟩
 .omega
 .exact (bBl _ _ _ h).1
theorem aHc.add {p q:List Term} {m1 m2:Int} (hp:aHc p m1) (hq:aHc q m2) (h1:1<=m1) (h2:1<=m2):aHc (p++q) (m1+m2):=by
 rcases hp with ⟨_,h⟩ | ⟨_,hp⟩
 .omega
 .rcases hq with ⟨_,h⟩ | ⟨_,hq⟩
  .omega
  .right
   refine ⟨by omega,?_⟩
   rw [bMl _ _ _ h1 h2,aRt p q _ _ hp];simp only [List.drop_left,hq,Option.map_some,List.length_append]
theorem aHc.mk {t:Term} {ts:List Term} (h:aHc ts (aB1 t.op)) (h1:1<=aB1 t.op):aHc (t :: ts) 1:=by
 rcases h with ⟨_,h⟩ | ⟨_,h⟩
 .omega
 .right
  refine ⟨by omega,?_⟩
  simp only [aLq]
  rw [if_neg (by omega),if_neg (by omega),show 1+(aB1 t.op-1)=aB1 t.op by omega,h]
  rfl
theorem aHu (num:Int->Int->Int) (p r:List Term):∀ m,aHc p m->rl num (p++r)=rl num p++rl num r:=by
 induction p with
 | nil=>intro m _;rfl
 | cons t ts ih =>
  intro m h
  obtain ⟨h1,h2,h3⟩:=h.cons;have hl:=aRp num ts _ h3;simp only [List.cons_append,rl]
  rw [ih _ h3,List.take_append_of_le_length (by omega),List.drop_append_of_le_length (by omega)]
theorem aCm (num:Int->Int->Int) {p:List Term} (h:aHc p 1):rl num p=[aGp num p]:=by
 have hl:=aRp num p 1 h;obtain ⟨x,hx⟩:∃ x,rl num p=[x]:=List.length_eq_one_iff.1 (by omega)
 have hlev:=aXz num p 1 h;unfold aGp;rw [if_pos (bCj h),hlev,hx];rfl
theorem aZa (es:List Term) (vars:Int):aD0 es vars=true↔es.length<=200/\aHc es 1/\(∀ t∈es,aM3 t vars=true)/\aKv es<=24/\bAw es<=2:=by
 unfold aD0;simp only [Bool.and_eq_true,decide_eq_true_eq,beq_iff_eq,List.all_eq_true]
 constructor
 .rintro ⟨⟨⟨⟨a,b⟩,c⟩,d⟩,e⟩
  exact ⟨a,aQq b,c,d,e⟩
 .rintro ⟨a,b,c,d,e⟩
  exact ⟨⟨⟨⟨a,bCj b⟩,c⟩,d⟩,e⟩
theorem aFj (num:Int->Int->Int) {t:Term} {ts:List Term} (h:aHc ts (aB1 t.op)) (h1:1<=aB1 t.op):aGp num (t :: ts)=num t.op (aFc (rl num ts)):=by
 have hs:=aCm num (aHc.mk h h1);have hl:=aRp num ts _ h;simp only [rl] at hs
 injection hs with h2 _
 rw [<- h2,List.take_of_length_le (by omega)]
inductive Ex where
 | leaf (t:Term)
 | un (t:Term) (a:Ex)
 | bin (t:Term) (a b:Ex)
 | tri (t:Term) (a b c:Ex)
def Ex.terms:Ex->List Term
 | .leaf t=>[t]
 | .un t a=>t :: a.terms
 | .bin t a b=>t :: (a.terms++b.terms)
 | .tri t a b c=>t :: (a.terms++(b.terms++c.terms))
def Ex.len (x:Ex):Nat:=x.terms.length
def Ex.ok:Ex->Prop
 | .leaf t=>aB1 t.op=0
 | .un t a=>aB1 t.op=1/\a.ok
 | .bin t a b=>aB1 t.op=2/\a.ok/\b.ok
 | .tri t a b c=>aB1 t.op=3/\a.ok/\b.ok/\c.ok
theorem Ex.pos (x:Ex):0<x.len:=by cases x <;> simp [Ex.len,Ex.terms]
theorem Ex.full {x:Ex} (h:x.ok):aHc x.terms 1:=by
 induction x with
 | leaf t =>
  simp only [Ex.ok] at h
  right
  refine ⟨by omega,?_⟩
  simp [Ex.terms,aLq,h]
 | un t a ih =>
  obtain ⟨h1,h2⟩:=h;exact aHc.mk (by rw [h1];exact ih h2) (by omega)
 | bin t a b iha ihb =>
  obtain ⟨h1,h2,h3⟩:=h;exact aHc.mk (by rw [h1];exact aHc.add (m1:=1) (m2:=1) (iha h2) (ihb h3) (by omega) (by omega)) (by omega)
 | tri t a b c iha ihb ihc =>
  obtain ⟨h1,h2,h3,h4⟩:=h;exact aHc.mk (by rw [h1];exact aHc.add (m1:=1) (m2:=2) (iha h2) (aHc.add (m1:=1) (m2:=1) (ihb h3) (ihc h4) (by omega) (by omega)) (by omega) (by omega)) (by omega)
theorem parse (l:List Term):∀ m,aHc l m->∃ xs:List Ex,(∀ x∈xs,x.ok)/\xs.flatMap Ex.terms=l/\(xs.length:Int)=m:=by
 induction l with
 | nil =>
  intro m h
  rcases h with ⟨_,h⟩ | ⟨_,h⟩
  .exact ⟨[],fun _ h=>by simp at h,rfl,by simp [h]⟩
  .simp [aLq] at h
 | cons t ts ih =>
  intro m h
  obtain ⟨h1,h2,h3⟩:=h.cons;obtain ⟨xs,hok,hfl,hlen⟩:=ih _ h3;have h4:=(bC6 t.op).2
  rcases (show aB1 t.op=0∨aB1 t.op=1∨aB1 t.op=2∨aB1 t.op=3 by omega) with ha | ha | ha | ha
  .refine ⟨.leaf t :: xs,?_,by simp [Ex.terms,hfl],by simp;omega⟩
   intro x hx
   rcases List.mem_cons.1 hx with e | e
   .subst e;exact ha
   .exact hok x e
  .match xs,hok,hfl,hlen with
   | [],_,_,hlen=>simp at hlen;omega
   | a :: xs,hok,hfl,hlen =>
    refine ⟨.un t a :: xs,?_,by simp [Ex.terms,<- hfl],by simp at hlen ⊢;omega⟩
    intro x hx
    rcases List.mem_cons.1 hx with e | e
    .subst e;exact ⟨ha,hok a (by simp)⟩
    .exact hok x (by simp [e])
  .match xs,hok,hfl,hlen with
   | [],_,_,hlen=>simp at hlen;omega
   | [a],_,_,hlen=>simp at hlen;omega
   | a :: b :: xs,hok,hfl,hlen =>
    refine ⟨.bin t a b :: xs,?_,by simp [Ex.terms,<- hfl],by simp at hlen ⊢;omega⟩
    intro x hx
    rcases List.mem_cons.1 hx with e | e
    .subst e;exact ⟨ha,hok a (by simp),hok b (by simp)⟩
    .exact hok x (by simp [e])
  .match xs,hok,hfl,hlen with
   | [],_,_,hlen=>simp at hlen;omega
   | [a],_,_,hlen=>simp at hlen;omega
   | [a,b],_,_,hlen=>simp at hlen;omega
   | a :: b :: c :: xs,hok,hfl,hlen =>
    refine ⟨.tri t a b c :: xs,?_,by simp [Ex.terms,<- hfl],by simp at hlen ⊢;omega⟩
    intro x hx
    rcases List.mem_cons.1 hx with e | e
    .subst e;exact ⟨ha,hok a (by simp),hok b (by simp),hok c (by simp)⟩
    .exact hok x (by simp [e])
theorem bPp {l:List Term} (h:aHc l 1):∃ x:Ex,x.ok/\x.terms=l:=by
 obtain ⟨xs,h1,h2,h3⟩:=parse l 1 h;obtain ⟨x,rfl⟩:∃ x,xs=[x]:=List.length_eq_one_iff.1 (by omega)
 exact ⟨x,h1 x (by simp),by simpa using h2⟩
def Ex.At (es:List Term) (k:Nat) (x:Ex):Prop:=x.ok/\∃ r,es.drop k=x.terms++r
theorem At.whole {es:List Term} {x:Ex} (h:x.ok) (he:x.terms=es):x.At es 0:=⟨h,[],by simp [he]⟩
theorem aH0 {es r:List Term} {k n:Nat} {p:List Term} (h:es.drop k=p++r) (hn:p.length=n):es.drop (k+n)=r:=by
 rw [<- List.drop_drop,h,<- hn,List.drop_left]
theorem At.bound {es:List Term} {k:Nat} {x:Ex} (h:x.At es k):k+x.len<=es.length:=by
 obtain ⟨_,r,hr⟩:=h;have:=congrArg List.length hr;have hp:=x.pos;simp only [List.length_drop,List.length_append] at this
 unfold Ex.len at *;omega
theorem At.lt {es:List Term} {k:Nat} {x:Ex} (h:x.At es k):k<es.length:=by
 have:=At.bound h;have:=x.pos;omega
theorem aMc {es r:List Term} {k:Nat} {t:Term} (h:es.drop k=t :: r):es[k]?=some t/\es.drop (k+1)=r:=by
 refine ⟨?_,?_⟩
 .have:=congrArg (·[0]?) h
  simpa using this
 .exact aH0 (p:=[t]) h rfl
theorem At.leaf {es:List Term} {k:Nat} {t:Term} (h:(Ex.leaf t).At es k):es[k]?=some t/\aB1 t.op=0:=by
 obtain ⟨h1,r,hr⟩:=h;exact ⟨(aMc hr).1,h1⟩
theorem At.un {es:List Term} {k:Nat} {t:Term} {a:Ex} (h:(Ex.un t a).At es k):es[k]?=some t/\aB1 t.op=1/\a.At es (k+1):=by
 obtain ⟨⟨h1,h2⟩,r,hr⟩:=h;obtain ⟨g1,g2⟩:=aMc hr;exact ⟨g1,h1,h2,r,g2⟩
theorem At.bin {es:List Term} {k:Nat} {t:Term} {a b:Ex} (h:(Ex.bin t a b).At es k):es[k]?=some t/\aB1 t.op=2/\a.At es (k+1)/\b.At es (k+1+a.len):=by
 obtain ⟨⟨h1,h2,h3⟩,r,hr⟩:=h;obtain ⟨g1,g2⟩:=aMc (r:=_++r) hr;rw [List.append_assoc] at g2;exact ⟨g1,h1,⟨h2,_,g2⟩,h3,r,aH0 g2 rfl⟩
theorem At.tri {es:List Term} {k:Nat} {t:Term} {a b c:Ex} (h:(Ex.tri t a b c).At es k):es[k]?=some t/\aB1 t.op=3/\a.At es (k+1)/\b.At es (k+1+a.len)/\c.At es (k+1+a.len+b.len):=by
 obtain ⟨⟨h1,h2,h3,h4⟩,r,hr⟩:=h;obtain ⟨g1,g2⟩:=aMc (r:=_++r) hr;rw [List.append_assoc] at g2;have g3:=aH0 g2 rfl;rw [List.append_assoc] at g3;exact ⟨g1,h1,⟨h2,_,g2⟩,⟨h3,_,g3⟩,h4,r,aH0 g3 rfl⟩
theorem At.endF {es:List Term} {k:Nat} {x:Ex} (h:x.At es k):endF es (k:Int)=((k+x.len:Nat):Int):=by
 have hlt:=At.lt h;obtain ⟨hok,r,hr⟩:=h;rw [bLd es k hlt];unfold aEg
 rcases Ex.full hok with ⟨_,h⟩ | ⟨_,h⟩
 .omega
 .rw [hr,aRt _ r _ _ h];simp [Ex.len]
def Ex.depth:Ex->Int
 | .leaf _=>1
 | .un _ a=>a.depth+1
 | .bin _ a b=>max a.depth b.depth+1
 | .tri _ a b c=>max a.depth (max b.depth c.depth)+1
def Ex.nest:Ex->Int
 | .leaf _=>0
 | .un t a=>if aAo t.op then a.nest+1 else a.nest
 | .bin _ a b=>max a.nest b.nest
 | .tri _ a b c=>max a.nest (max b.nest c.nest)
theorem Ex.depth_pos (x:Ex):1<=x.depth:=by
 induction x <;> simp only [Ex.depth] <;> omega
theorem Ex.nest_pos (x:Ex):0<=x.nest:=by
 induction x with
 | leaf t=>simp [Ex.nest]
 | un t a ih=>simp only [Ex.nest];split <;> omega
 | bin t a b iha ihb=>simp only [Ex.nest];omega
 | tri t a b c iha ihb ihc=>simp only [Ex.nest];omega
theorem bH1 {op:Int} (h:aAo op=true):aB1 op=1:=by
 unfold aAo at h;have:20<=op/\op<=29:=by simpa using h
 unfold aB1;rw [if_neg (by omega),if_neg (by omega),if_pos (by omega)]
theorem aJa {op:Int} (h:aB1 op≠1):aAo op=false:=by
 cases hb:aAo op with
 | false=>rfl
 | true=>exact absurd (bH1 hb) h
theorem aR1 (num:Int->Int->Int) {t:Term} (h:aB1 t.op=0):aGp num [t]=num t.op 0:=by
 have hF:aHc [t] 1:=Ex.full (x := .leaf t) h;have:=aCm num hF;simp only [rl] at this
 injection this with h1 _
 rw [<- h1,h];rfl
theorem Ex.levels_depth {x:Ex} (h:x.ok):aKv x.terms=x.depth:=by
 unfold aKv
 induction x with
 | leaf t=>simp only [Ex.terms];rw [aR1 _ h];rfl
 | un t a ih =>
  obtain ⟨h1,h2⟩:=h;have hp:=a.depth_pos;simp only [Ex.terms]
  rw [aFj _ (by rw [h1];exact Ex.full h2) (by omega),aCm _ (Ex.full h2),ih h2]
  simp [aFc,aG8,Ex.depth];omega
 | bin t a b iha ihb =>
  obtain ⟨h1,h2,h3⟩:=h;have hp:=a.depth_pos;have hq:=b.depth_pos;simp only [Ex.terms]
  rw [aFj _ (by rw [h1];exact aHc.add (m1:=1) (m2:=1) (Ex.full h2) (Ex.full h3) (by omega) (by omega)) (by omega),aHu _ _ _ 1 (Ex.full h2),aCm _ (Ex.full h2),aCm _ (Ex.full h3),iha h2,ihb h3]
  simp [aFc,aG8,Ex.depth];omega
 | tri t a b c iha ihb ihc =>
  obtain ⟨h1,h2,h3,h4⟩:=h;have hp:=a.depth_pos;have hq:=b.depth_pos;have hr:=c.depth_pos;simp only [Ex.terms]
  rw [aFj _ (by rw [h1];exact aHc.add (m1:=1) (m2:=2) (Ex.full h2) (aHc.add (m1:=1) (m2:=1) (Ex.full h3) (Ex.full h4) (by omega) (by omega)) (by omega) (by omega)) (by omega),aHu _ _ _ 1 (Ex.full h2),aHu _ _ _ 1 (Ex.full h3),aCm _ (Ex.full h2),aCm _ (Ex.full h3),aCm _ (Ex.full h4),iha h2,ihb h3,ihc h4]
  simp [aFc,aG8,Ex.depth];omega
theorem Ex.levels_nest {x:Ex} (h:x.ok):bAw x.terms=x.nest:=by
 unfold bAw
 induction x with
 | leaf t =>
  simp only [Ex.terms];rw [aR1 _ h]
  have:=aJa (op:=t.op) (by rw [h];omega)
  simp [aGq,this,Ex.nest]
 | un t a ih =>
  obtain ⟨h1,h2⟩:=h;have hp:=a.nest_pos;simp only [Ex.terms]
  rw [aFj _ (by rw [h1];exact Ex.full h2) (by omega),aCm _ (Ex.full h2),ih h2]
  have:aFc [a.nest]=a.nest:=by simp [aFc];omega
  rw [this];simp [aGq,Ex.nest]
 | bin t a b iha ihb =>
  obtain ⟨h1,h2,h3⟩:=h;have hp:=a.nest_pos;have hq:=b.nest_pos;have hag:=aJa (op:=t.op) (by rw [h1];omega)
  simp only [Ex.terms]
  rw [aFj _ (by rw [h1];exact aHc.add (m1:=1) (m2:=1) (Ex.full h2) (Ex.full h3) (by omega) (by omega)) (by omega),aHu _ _ _ 1 (Ex.full h2),aCm _ (Ex.full h2),aCm _ (Ex.full h3),iha h2,ihb h3]
  simp [aFc,aGq,hag,Ex.nest];omega
 | tri t a b c iha ihb ihc =>
  obtain ⟨h1,h2,h3,h4⟩:=h;have hp:=a.nest_pos;have hq:=b.nest_pos;have hr:=c.nest_pos;have hag:=aJa (op:=t.op) (by rw [h1];omega)
  simp only [Ex.terms]
  rw [aFj _ (by rw [h1];exact aHc.add (m1:=1) (m2:=2) (Ex.full h2) (aHc.add (m1:=1) (m2:=1) (Ex.full h3) (Ex.full h4) (by omega) (by omega)) (by omega) (by omega)) (by omega),aHu _ _ _ 1 (Ex.full h2),aHu _ _ _ 1 (Ex.full h3),aCm _ (Ex.full h2),aCm _ (Ex.full h3),aCm _ (Ex.full h4),iha h2,ihb h3,ihc h4]
  simp [aFc,aGq,hag,Ex.nest];omega
theorem bGg {es:List Term} {vars:Int} (h:aD0 es vars=true):∃ x:Ex,x.ok/\x.terms=es/\es.length<=200/\(∀ t∈es,aM3 t vars=true)/\x.depth<=24/\x.nest<=2:=by
 obtain ⟨h1,h2,h3,h4,h5⟩:=(aZa es vars).1 h;obtain ⟨x,hx,rfl⟩:=bPp h2;exact ⟨x,hx,rfl,h1,h3,by rw [<- Ex.levels_depth hx];exact h4,by rw [<- Ex.levels_nest hx];exact h5⟩
structure Link where
 «to»:Int
 weight:Int
instance:Inhabited Link:=⟨⟨0,0⟩⟩
structure Graph where
 ids:List Int
 ports:List (List Link)
structure Var where
 name:ByteArray
 kind:Int
 lo:Int
 hi:Int
 perNode:Int
 perID:Int
instance:Inhabited Var:=⟨⟨ByteArray.empty,0,0,0,0,0⟩⟩
structure SetT where
 var:Int
 value:List Term
instance:Inhabited SetT:=⟨⟨0,[]⟩⟩
structure Rule where
 name:ByteArray
 guard:List Term
 sets:List SetT
instance:Inhabited Rule:=⟨⟨ByteArray.empty,[],[]⟩⟩
structure Prg where
 name:ByteArray
 vars:List Var
 rules:List Rule
abbrev aA3:=List (List Int)
def aJx:List Term->List Ex
 | []=>[]
 | t :: ts =>
  let s:=aJx ts
  if aB1 t.op=0 then .leaf t :: s
  else if aB1 t.op=1 then (match s with | a :: s => .un t a :: s | []=>[])
  else if aB1 t.op=2 then (match s with | a :: b :: s => .bin t a b :: s | _=>[])
  else (match s with | a :: b :: c :: s => .tri t a b c :: s | _=>[])
def aB9 (es:List Term):Ex:=(aJx es).headD (.leaf default)
theorem aVx {x:Ex} (h:x.ok) (r:List Term):aJx (x.terms++r)=x :: aJx r:=by
 induction x generalizing r with
 | leaf t=>simp only [Ex.ok] at h;simp [Ex.terms,aJx,h]
 | un t a ih=>obtain ⟨h1,h2⟩:=h;simp [Ex.terms,aJx,h1,ih h2]
 | bin t a b iha ihb=>obtain ⟨h1,h2,h3⟩:=h;simp [Ex.terms,aJx,h1,iha h2,ihb h3]
 | tri t a b c iha ihb ihc=>obtain ⟨h1,h2,h3,h4⟩:=h;simp [Ex.terms,aJx,h1,iha h2,ihb h3,ihc h4]
theorem aZ7 {x:Ex} (h:x.ok):aB9 x.terms=x:=by
 have:=aVx h [];rw [List.append_nil] at this;simp [aB9,this]
theorem bK1 {es:List Term} {x:Ex} (h:x.ok) (he:x.terms=es):aB9 es=x:=by rw [<- he];exact aZ7 h
theorem aK1 {es:List Term} {vars:Int} (h:aD0 es vars=true):(aB9 es).ok/\(aB9 es).terms=es/\es.length<=200/\(∀ t∈es,aM3 t vars=true)/\(aB9 es).depth<=24/\(aB9 es).nest<=2:=by
 obtain ⟨x,h1,h2,h3,h4,h5,h6⟩:=bGg h;rw [bK1 h1 h2];exact ⟨h1,h2,h3,h4,h5,h6⟩
def aH1 (k:Int):Bool:=k==1||k==2||k==3
def aG6 (op:Int):Bool:=decide (11<=op/\op<=17)
def bAl (kinds:List Int) (t:Term):Int :=
 if t.op=2∨t.op=3∨t.op=10∨t.op=15 then 2
 else if t.op=4∨t.op=11∨t.op=17 then 3
 else if t.op=5∨t.op=12 then kinds.getD t.arg.toNat 0
 else 1
def ifK (b:Bool) (k:Int):Int:=if b then k else 0
def aOh (op a:Int):Int :=
 if op=19∨op=20∨op=21 then ifK (a==2) 2
 else if op=22 then ifK (a==2) 1
 else if op=23 then ifK (a==2) 3
 else ifK (a==1) 1
def aNm (op a b:Int):Int :=
 if op=35∨op=36 then ifK (a==b&&a != 0) 2
 else if op=41∨op=42 then ifK (a==2&&b==2) 2
 else if 37<=op/\op<=40 then ifK (a==1&&b==1) 2
 else ifK (a==1&&b==1) 1
def aCx (kinds:List Int):Bool->Ex->Int
 | bound,.leaf t=>if aG6 t.op && !bound then 0 else bAl kinds t
 | bound,.un t a=>aOh t.op (aCx kinds (bound||aAo t.op) a)
 | bound,.bin t a b=>aNm t.op (aCx kinds bound a) (aCx kinds bound b)
 | bound,.tri _ a b c=>ifK (aCx kinds bound a==2&&aCx kinds bound b==aCx kinds bound c) (aCx kinds bound b)
def ofF (es:List Term) (kinds:List Int) (bound:Bool):Int × Int :=
 if 6<kinds.length then (0,7)
 else if kinds.all aH1=false then (0,7)
 else if aD0 es kinds.length=false then (0,7)
 else if aCx kinds bound (aB9 es)=0 then (0,6)
 else (aCx kinds bound (aB9 es),0)
def aDp (p:Prg):List Int:=p.vars.map Var.kind
def aEv (ls:List Link) (u:Int):Int:=match ls.findIdx? (fun l=>l.to==u) with | some i=>(i:Int) | none => -1
theorem aRl {ls:List Link} {u:Int} {j:Nat} (h:j<ls.length) (ha:(ls.take j).all (fun l => !(l.to==u))=true) (hj:(ls[j].to==u)=true):aEv ls u=(j:Int):=by
 unfold aEv
 have:ls.findIdx? (fun l=>l.to==u)=some j:=by
  rw [List.findIdx?_eq_some_iff_getElem];refine ⟨h,hj,fun k hk=>?_⟩
  have:=List.all_eq_true.1 ha ls[k] (by rw [List.mem_take_iff_getElem];exact ⟨k,by omega,rfl⟩)
  simpa using this
 rw [this]
theorem aT4 {ls:List Link} {u:Int} (ha:ls.all (fun l => !(l.to==u))=true):aEv ls u = -1:=by
 unfold aEv
 have:ls.findIdx? (fun l=>l.to==u)=none:=by
  rw [List.findIdx?_eq_none_iff];intro x hx
  have:=List.all_eq_true.1 ha x hx;simpa using this
 rw [this]
theorem bCz:∀ (n:Nat) (l:List Int),l.Nodup->(∀ x∈l,0<=x/\x<(n:Int))->l.length<=n
 | 0,l,_,h=>by
  cases l with
  | nil=>simp
  | cons x l=>have:=h x (by simp);omega
 | n+1,l,hn,h=>by
  have h1:=bCz n (l.erase (n:Int)) (hn.erase _) (fun x hx=>by
   have h2:=h x (List.mem_of_mem_erase hx)
   have h3:x≠(n:Int):=by
    rintro rfl;exact (List.Nodup.not_mem_erase hn) hx
   omega)
  have h4:l.length<=(l.erase (n:Int)).length+1:=by
   rw [List.length_erase];split <;> omega
  omega
def aMm (n v:Nat) (l:Link):Bool:=decide (0<=l.to/\l.to<(n:Int)/\l.to≠(v:Int)/\1<=l.weight/\l.weight<=15)
def aD8 (n v:Nat) (ls:List Link):Bool:=ls.all (aMm n v)&&decide ((ls.map Link.to).Nodup)
def aGz (g:Graph) (v:Nat) (l:Link):Bool:=(g.ports.getD l.to.toNat []).any fun k=>k.to==(v:Int)&&k.weight==l.weight
def aS9 (ids:List Int):Bool:=ids.all (fun i=>decide (0<=i/\i<=255))&&decide ids.Nodup
def aG5 (g:Graph):Bool :=
 decide (1<=g.ports.length/\g.ports.length<=24/\g.ids.length=g.ports.length)&&aS9 g.ids
  && (List.range g.ports.length).all (fun v=>aD8 g.ports.length v (g.ports.getD v []))
  && (List.range g.ports.length).all (fun v=>(g.ports.getD v []).all (aGz g v))
structure GOK (g:Graph):Prop where
 pos:1<=g.ports.length
 le:g.ports.length<=24
 ids:g.ids.length=g.ports.length
 idr:∀ i∈g.ids,0<=i/\i<=255
 idn:g.ids.Nodup
 links:∀ v,(h:v<g.ports.length)->aD8 g.ports.length v g.ports[v]=true
 back:∀ v,(h:v<g.ports.length)->∀ l∈g.ports[v],aGz g v l=true
theorem aA8 {α:Type} {l:List α} {k:Nat} {d:α} (h:k<l.length):l.getD k d=l[k]:=by simp [List.getD_eq_getElem?_getD,h]
theorem aE6 (g:Graph):aG5 g=true↔GOK g:=by
 unfold aG5 aS9;simp only [Bool.and_eq_true,decide_eq_true_eq,List.all_eq_true,List.mem_range]
 constructor
 .rintro ⟨⟨⟨⟨h1,h2,h3⟩,h4,h5⟩,h6⟩,h7⟩
  exact ⟨h1,h2,h3,h4,h5,fun v hv=>by have:=h6 v hv;rwa [aA8 hv] at this,fun v hv l hl=>by have:=h7 v hv;rw [aA8 hv] at this;exact this l hl⟩
 .rintro ⟨h1,h2,h3,h4,h5,h6,h7⟩
  exact ⟨⟨⟨⟨h1,h2,h3⟩,h4,h5⟩,fun v hv=>by rw [aA8 hv];exact h6 v hv⟩,fun v hv=>by rw [aA8 hv];exact h7 v hv⟩
theorem aBa {n v:Nat} {ls:List Link}:aD8 n v ls=true↔(∀ l∈ls,aMm n v l=true)/\(ls.map Link.to).Nodup:=by
 unfold aD8;simp only [Bool.and_eq_true,decide_eq_true_eq,List.all_eq_true]
theorem aBg {n v:Nat} {l:Link}:aMm n v l=true↔0<=l.to/\l.to<(n:Int)/\l.to≠(v:Int)/\1<=l.weight/\l.weight<=15:=by
 unfold aMm;simp only [decide_eq_true_eq]
theorem aDv {n v:Nat} {ls:List Link} (hv:v<n) (h:aD8 n v ls=true):ls.length<n:=by
 obtain ⟨h1,h2⟩:=aBa.1 h
 have:=bCz n ((v:Int) :: ls.map Link.to) (by
  rw [List.nodup_cons];refine ⟨?_,h2⟩
  intro hm
  obtain ⟨l,hl,he⟩:=List.mem_map.1 hm;exact (aBg.1 (h1 l hl)).2.2.1 he) (by
  intro x hx
  rcases List.mem_cons.1 hx with rfl | hx
  .omega
  .obtain ⟨l,hl,rfl⟩:=List.mem_map.1 hx
   have:=aBg.1 (h1 l hl)
   omega)
 simp at this
 omega
theorem aF4 {l:List Int} {k:Nat} (h:k<l.length) (hn:(l.take k).Nodup) (hne:∀ j (hj:j<k),l[j]≠l[k]):(l.take (k+1)).Nodup:=by
 rw [List.take_succ_eq_append_getElem h,List.nodup_append];refine ⟨hn,by simp,?_⟩
 intro a ha b hb
 simp at hb
 subst hb;rw [List.mem_take_iff_getElem] at ha;obtain ⟨j,hj,rfl⟩:=ha;exact hne j (by omega)
theorem aFw {l:List Int} {j k:Nat} (hj:j<k) (hk:k<l.length) (he:l[j]=l[k]):¬ l.Nodup:=by
 intro hn
 have:=(List.nodup_iff_pairwise_ne.1 hn);rw [List.pairwise_iff_getElem] at this;exact this j k (by omega) hk hj he
theorem aRm (ls:List Link) (u:Int) : -1<=aEv ls u/\aEv ls u<ls.length:=by
 unfold aEv;cases hf:ls.findIdx? (fun l=>l.to==u) with
 | none=>simp;omega
 | some k =>
  rw [List.findIdx?_eq_some_iff_getElem] at hf;obtain ⟨hk,_⟩:=hf;simp;omega
open Go.RowKit
def aGy (w:World) (b o:Nat) (t:Term):Prop:=w.cell? ⟨b,o,none⟩=some (.int .i64 t.op)/\w.cell? ⟨b,o+1,none⟩=some (.int .i64 t.arg)
theorem aGy.keeps:aNg aGy:=fun _ _ _ _ _ k hb h=>⟨(k.cell hb).trans h.1,(k.cell hb).trans h.2⟩
def aCa:=aAc 2 aGy
theorem aCa.keep {w w':World} {A:Option Addr} {n:Nat} {es:List Term} (h:aCa w A n es) (k:Bel w w'):aCa w' A n es:=aAc.keep aGy.keeps h k
theorem aCa.at_ {w:World} {A:Option Addr} {n:Nat} {es:List Term} (h:aCa w A n es) (k:Nat) (hk:k<es.length) :
  ∃ b o,A=some ⟨b,o,none⟩/\b<w.heap.size/\w.cell? ⟨b,o+k*2,none⟩=some (.int .i64 es[k].op)/\w.cell? ⟨b,o+k*2+1,none⟩=some (.int .i64 es[k].arg):=aAc.at_ h k hk
def aBo (t:Term):List Value:=[.int .i64 t.op,.int .i64 t.arg]
theorem aHa (es:List Term) (i:Nat) (t:Term) (h:es[i]?=some t):(es.flatMap aBo)[i*2]?=some (.int .i64 t.op)/\(es.flatMap aBo)[i*2+1]?=some (.int .i64 t.arg):=by
 induction es generalizing i with
 | nil=>simp at h
 | cons x es ih =>
  cases i with
  | zero=>simp at h;subst h;simp [aBo]
  | succ i =>
   have:=ih i (by simpa using h)
   have e:(i+1)*2=i*2+1+1:=by omega
   rw [e];simpa [aBo] using this
theorem aG3 (es:List Term):(es.flatMap aBo).length=es.length*2:=by
 induction es with
 | nil=>rfl
 | cons x es ih=>simp [ih,aBo];omega
theorem aW0 (es:List Term):∀ u∈es.flatMap aBo,u.oneCell'=true:=by
 intro u hu
 simp only [List.mem_flatMap,aBo] at hu
 obtain ⟨t,_,h⟩:=hu;simp at h
 rcases h with h | h <;> subst h <;> rfl
theorem aRg {w:World} {base:Nat} {e:TypeId} {A:Option Addr} {n c:Nat} {es:List Term} (h:w.ownsRow base e 2 (.slice A n c) n (es.flatMap aBo)):aCa w A n es:=by
 refine ⟨by have:=h.1;rw [aG3] at this;omega,fun i x hx=>?_⟩
 obtain ⟨h1,h2⟩:=aHa es i x hx;obtain ⟨g,e1,_,e3,e4,_⟩:=aAj h h1;obtain ⟨g',e1',_,_,e4',_⟩:=aAj h h2;rw [e1] at e1';injection e1' with e1'
 injection e1' with e1'
 subst e1';exact ⟨g,0,e1,e3,by simpa using e4,by simpa using e4'⟩
theorem aCa.cells {w:World} {A:Option Addr} {n:Nat} {es:List Term} (h:aCa w A n es):aW7 w 2 A n (es.flatMap aBo):=by
 refine ⟨by rw [aG3,h.1],fun j u hu=>?_⟩
 have hlt:j<es.length*2:=by
  have:=(List.getElem?_eq_some_iff.1 hu).1;rw [aG3] at this;exact this
 have hi:j / 2<es.length:=by omega
 obtain ⟨b,o,rfl,_,h1,h2⟩:=h.at_ (j / 2) hi;obtain ⟨g1,g2⟩:=aHa es (j / 2) es[j / 2] (List.getElem?_eq_getElem hi);refine ⟨b,o,rfl,?_⟩
 rcases Nat.mod_two_eq_zero_or_one j with hm | hm
 .have e:j=j / 2*2:=by omega
  rw [<- e] at h1 g1;rw [g1] at hu;rw [h1];exact hu
 .have e:j=j / 2*2+1:=by omega
  have e2:o+j / 2*2+1=o+j:=by omega
  rw [<- e] at g2;rw [e2] at h2;rw [g2] at hu;rw [h2];exact hu
def bPj (k n:Int):Int:=k % n
theorem bIa (k n:Int):bPj k n=(k.tmod n) % n:=by
 have h:=Int.mul_tdiv_add_tmod k n;unfold bPj;generalize k.tmod n=r at *;rw [<- h,Int.add_comm,Int.add_mul_emod_self_left]
theorem aUv (k n:Int) (w:World) (h1:1<=n) (h2:n<=1000000) :
  Calls prog 16 #[.int .i64 k,.int .i64 n] w fun e w'=>e = .returned (.int .i64 (bPj k n))/\w=w':=by
 have hz:(n==0)=false:=by simp;omega
 go_enter func16,ntmps16;have t1:=Int.tmod_lt_of_pos k (show 0<n by omega)
 have t2:=Int.lt_tmod_of_pos k (show 0<n by omega)
 have t3:=aA0 (bIa k n);go_wp2
 .go_ret
  refine ⟨aA9 ?_,rfl⟩
  have hneg:k.tmod n<0:=by assumption
  rw [t3.out,<- Int.add_emod_right,Int.emod_eq_of_lt (by omega) (by omega)]
 .go_ret
  refine ⟨aA9 ?_,rfl⟩
  have hneg:0<=k.tmod n:=by assumption
  rw [t3.out,Int.emod_eq_of_lt (by omega) (by omega)]
theorem aJb (op:Int) (w:World) :
  Calls prog 168 #[.int .i64 op] w fun e w'=>e = .returned (.int .i64 (aB1 op))/\w=w':=by
 go_enter func168,ntmps168;go_wp2
 all_goals (go_ret;refine ⟨aA9 ?_,rfl⟩;unfold aB1;repeat' split) <;> omega
theorem aI5 (op:Int) (w:World) :
  Calls prog 172 #[.int .i64 op] w fun e w'=>e = .returned (.bool (aAo op))/\w=w':=by
 go_enter func172,ntmps172;go_wp2
 all_goals (go_ret;refine ⟨aA1 ?_,rfl⟩;unfold aAo;rw [Bool.eq_iff_iff];simp) <;> omega
theorem aQm (A:Option Addr) (n c:Nat) (es:List Term) (p:Int) (w:World) (h:aCa w A n es) (hl:n<=1000000) :
  Calls prog 144 #[.slice A n c,.int .i64 p] w fun e w'=>e = .returned (.int .i64 (endF es p))/\w=w':=by
 obtain rfl:=h.1;have H:=aA0 h;clear h
 by_cases hp:p<0∨es.length<=p
 .have hfin:endF es p = -1:=by unfold endF;rw [if_pos hp]
  rw [hfin];clear hfin;go_enter func144,ntmps144
  rcases hp with hp | hp
  .go_wp2
   go_ret;exact ⟨rfl,rfl⟩
  .have h0:0<=p:=by omega
   go_wp2;go_ret;exact ⟨rfl,rfl⟩
 .have h1:0<=p:=by omega
  have h2:p<es.length:=by omega
  have hfin:endF es p=aEg es p.toNat 1:=by unfold endF;rw [if_neg hp]
  rw [hfin];clear hfin hp;obtain ⟨q,rfl⟩:=Int.eq_ofNat_of_zero_le h1;rw [Int.toNat_natCast];generalize hT:aEg es q 1=T;have hd1:decide ((q:Int)<0)=false:=by simp
  have hd2:decide (es.length<=q)=false:=by simp;omega
  have HT:=aA0 hT;clear hT;go_enter func144,ntmps144;go_wp2
  go_loopg [1,5] (es.length-q) (fun g a m wr=>∃ (k:Nat) (z:Int),k<=es.length/\g=es.length-k/\1<=z/\z<=1+2*k/\Hid (aEg es k z=T)/\a = .int .i64 k/\m = .int .i64 z/\w=wr)
  case atStart=>exact ⟨q,1,by omega,rfl,by omega,by omega,HT,rfl,rfl,rfl⟩
  case round =>
   obtain ⟨k,z,hk,rfl,hz1,hz2,HK,rfl,rfl,rfl⟩:=hrel
   by_cases hlt:k<es.length
   .obtain ⟨b,o,rfl,hb,hc1,hc2⟩:=H.out.at_ k hlt
    have ha:=bC6 es[k].op;obtain ⟨ha1,ha2⟩:=ha
    go_wp2_with (go_at_call 168;refine (aJb _ _).mono ?_;rintro e w' ⟨rfl,rfl⟩)
    .go_ret
     exact ⟨aA9 (by rw [<- HK.out,bFz hlt (by assumption)]),rfl⟩
    .have hh:(z+(aB1 es[k].op-1)==0)=true:=by assumption
     go_ret;refine ⟨aA9 ?_,rfl⟩
     rw [<- HK.out,bG0 hlt (by assumption) (by simpa using hh)]
    .have hh:(z+(aB1 es[k].op-1)==0)=false:=by assumption
     have hh':z+(aB1 es[k].op-1)≠0:=by simpa using hh
     go_roundg (es.length-(k+1))
     case rel=>exact ⟨k+1,z+(aB1 es[k].op-1),by omega,rfl,by omega,by omega,by have:=HK.out;rw [bBk hlt (by assumption) hh'] at this;exact this,by go_num,rfl,rfl⟩
     case measure=>omega
   .go_wp2
    go_ret;exact ⟨aA9 (by rw [<- HK.out,bBj (by omega)]),rfl⟩
def Blk (w:World) (B:Nat) (cs:Array Value) (t:TypeId):Prop:=w.heap[B]?=some (.cells cs t (0,0))
theorem Blk.cell {w:World} {B:Nat} {cs:Array Value} {t:TypeId} (h:Blk w B cs t) (i:Nat) {v:Value} (hv:cs[i]?=some v):w.cell? ⟨B,i,none⟩=some v:=by
 unfold Blk at h;simp [World.cell?,h,hv]
theorem Blk.frozen {w:World} {B:Nat} {cs:Array Value} {t:TypeId} (h:Blk w B cs t) (i:Nat):w.frozen? ⟨B,i,none⟩=false:=by
 unfold Blk at h;simp [World.frozen?,h]
theorem Blk.lt {w:World} {B:Nat} {cs:Array Value} {t:TypeId} (h:Blk w B cs t):B<w.heap.size:=lt_of_block h
theorem Blk.alloc {w:World} {B:Nat} {cs:Array Value} {t:TypeId} (h:Blk w B cs t) (o:Obj):Blk (w.alloc o) B cs t:=by
 unfold Blk at *;rw [Below.heap_alloc _ _ _ (lt_of_block h)];exact h
theorem Blk.new (w:World) (cs:Array Value) (t:TypeId):Blk (w.alloc (.cells cs t (0,0))) w.heap.size cs t:=heap_alloc_new w _
theorem Blk.drew {w:World} {B:Nat} {cs:Array Value} {t:TypeId} (h:Blk w B cs t):Blk w.drew B cs t:=h
theorem Blk.drewN {w:World} {B:Nat} {cs:Array Value} {t:TypeId} (h:Blk w B cs t) (k:Nat):Blk (w.drewN k) B cs t:=h
theorem Blk.set {w:World} {B:Nat} {cs:Array Value} {t:TypeId} (h:Blk w B cs t) (i:Nat) (v:Value):Blk (w.setCell ⟨B,i,none⟩ v) B (cs.setIfInBounds i v) t:=by
 unfold Blk at *;have hlt:=lt_of_block h;have h':w.heap[B] = .cells cs t (0,0):=by simpa [Array.getElem?_eq_getElem hlt] using h
 show (w.heap.modify B _)[B]?=_
 rw [Array.getElem?_eq_getElem (by simpa using hlt),Array.getElem_modify_self,h']
 rfl
theorem Blk.other {w:World} {B:Nat} {cs:Array Value} {t:TypeId} (h:Blk w B cs t) {a:Addr} (ha:B≠a.block) (v:Value):Blk (w.setCell a v) B cs t:=by
 unfold Blk at *;rw [Below.heap_setCell _ _ _ _ ha];exact h
theorem Blk.keep {w w':World} {B:Nat} {cs:Array Value} {t:TypeId} (h:Blk w B cs t) (k:Bel w w'):Blk w' B cs t:=by
 unfold Blk at *;rw [k.block B (lt_of_block h)];exact h
theorem Blk.grown {w w':World} {B:Nat} {cs:Array Value} {t:TypeId} (h:Blk w B cs t) {row:Option Nat} (hg:w.grownBy w' row) (hr:some B≠row):Blk w' B cs t:=by
 unfold Blk at *;rw [hg.block B (lt_of_block h) hr];exact h
theorem Blk.apart {w:World} {B:Nat} {cs:Array Value} {t e:TypeId} {base size n:Nat} {v:Value} {xs:List Value} (h:Blk w B cs t) (ho:w.ownsRow base e size v n xs) (hne:t≠e):some B≠v.ownBlock:=by
 rcases ho.2 with ⟨rfl,_⟩ | ⟨g,cap,cur,rfl,_,hg,_⟩
 .simp [Value.ownBlock]
 .simp only [Value.ownBlock]
  intro he
  injection he with he
  subst he;unfold Blk at h;rw [h] at hg;injection hg with hg
  injection hg with _ ht
  exact hne ht
theorem bIs {w:World} {base:Nat} {e:TypeId} {size g n c:Nat} {xs:List Value} (h:w.ownsRow base e size (.slice (some ⟨g,0,none⟩) n c) n xs):∃ cs,Blk w g cs e:=by
 rcases h.2 with ⟨hv,_⟩ | ⟨g',cap,cur,hv,_,hg,_⟩
 .cases hv
 .injection hv with hA _ _
  injection hA with hA
  injection hA with hA
  subst hA;exact ⟨cur,hg⟩
theorem aAu {w:World} {base base':Nat} {e:TypeId} {size:Nat} {v:Value} {n:Nat} {xs:List Value} (h:w.ownsRow base e size v n xs) (hb:base'<=base):w.ownsRow base' e size v n xs:=by
 refine ⟨h.1,?_⟩
 rcases h.2 with hn | ⟨g,cap,cur,hv,hg,rest⟩
 .exact .inl hn
 .exact .inr ⟨g,cap,cur,hv,Nat.le_trans hb hg,rest⟩
def aG7 {α:Type} (size:Nat) (E:World->Nat->Nat->α->Prop) (w:World) (b o:Nat) (xs:List α):Prop :=
 ∃ A c,w.cell? ⟨b,o,none⟩=some (.slice A xs.length c)/\aAc size E w A xs.length xs/\xs.length<=c/\c<=maxLen
theorem aG7.keeps {α:Type} {size:Nat} {E:World->Nat->Nat->α->Prop} (hE:aNg E):aNg (aG7 size E):=by
 intro w w' b o x k hb ⟨A,c,h1,h2,h3,h4⟩
 exact ⟨A,c,(k.cell hb).trans h1,h2.keep hE k,h3,h4⟩
def aQ1 (w:World) (b o:Nat) (l:Link):Prop:=w.cell? ⟨b,o,none⟩=some (.int .i64 l.to)/\w.cell? ⟨b,o+1,none⟩=some (.int .i64 l.weight)
theorem aQ1.keeps:aNg aQ1:=fun _ _ _ _ _ k hb h=>⟨(k.cell hb).trans h.1,(k.cell hb).trans h.2⟩
def aHj:=aAc 2 aQ1
def aHk:=aAc 1 (aG7 2 aQ1)
def aQ5:=aAc 1 (aG7 1 aJ4)
theorem aHj.keep {w w':World} {A:Option Addr} {n:Nat} {xs:List Link} (h:aHj w A n xs) (k:Bel w w'):aHj w' A n xs:=aAc.keep aQ1.keeps h k
theorem aHk.keep {w w':World} {A:Option Addr} {n:Nat} {xs:List (List Link)} (h:aHk w A n xs) (k:Bel w w'):aHk w' A n xs:=aAc.keep (aG7.keeps aQ1.keeps) h k
theorem aQ5.keep {w w':World} {A:Option Addr} {n:Nat} {xs:List (List Int)} (h:aQ5 w A n xs) (k:Bel w w'):aQ5 w' A n xs:=aAc.keep (aG7.keeps aJ4.keeps) h k
theorem aHj.at_ {w:World} {A:Option Addr} {n:Nat} {xs:List Link} (h:aHj w A n xs) (k:Nat) (hk:k<xs.length) :
  ∃ b o,A=some ⟨b,o,none⟩/\b<w.heap.size/\w.cell? ⟨b,o+k*2,none⟩=some (.int .i64 xs[k].to)/\w.cell? ⟨b,o+k*2+1,none⟩=some (.int .i64 xs[k].weight):=aAc.at_ h k hk
theorem RowsAt.at_ {α:Type} {size:Nat} {E:World->Nat->Nat->α->Prop} {w:World} {A:Option Addr} {n:Nat} {xs:List (List α)} (h:aAc 1 (aG7 size E) w A n xs) (k:Nat) (hk:k<xs.length) :
  ∃ b o R c,A=some ⟨b,o,none⟩/\b<w.heap.size/\w.cell? ⟨b,o+k,none⟩=some (.slice R xs[k].length c)/\aAc size E w R xs[k].length xs[k]/\xs[k].length<=c/\c<=maxLen:=by
 obtain ⟨b,o,e,hb,R,c,h1,h2,h3,h4⟩:=aAc.at_ h k hk;exact ⟨b,o,R,c,e,hb,by rw [Nat.mul_one] at h1;exact h1,h2,h3,h4⟩
theorem aHk.at_ {w:World} {A:Option Addr} {n:Nat} {xs:List (List Link)} (h:aHk w A n xs) (k:Nat) (hk:k<xs.length) :
  ∃ b o R c,A=some ⟨b,o,none⟩/\b<w.heap.size/\w.cell? ⟨b,o+k,none⟩=some (.slice R xs[k].length c)/\aHj w R xs[k].length xs[k]/\xs[k].length<=c/\c<=maxLen:=RowsAt.at_ h k hk
theorem aQ5.at_ {w:World} {A:Option Addr} {n:Nat} {xs:List (List Int)} (h:aQ5 w A n xs) (k:Nat) (hk:k<xs.length) :
  ∃ b o R c,A=some ⟨b,o,none⟩/\b<w.heap.size/\w.cell? ⟨b,o+k,none⟩=some (.slice R xs[k].length c)/\aCr w R xs[k].length xs[k]/\xs[k].length<=c/\c<=maxLen:=RowsAt.at_ h k hk
def aB2 (w:World) (v:Value) (g:Graph):Prop :=
 ∃ A c A2 c2,v = .agg #[.slice A g.ids.length c,.slice A2 g.ports.length c2]/\aCr w A g.ids.length g.ids/\g.ids.length<=c/\c<=maxLen/\aHk w A2 g.ports.length g.ports/\g.ports.length<=c2/\c2<=maxLen
theorem aB2.keep {w w':World} {v:Value} {g:Graph} (h:aB2 w v g) (k:Bel w w'):aB2 w' v g:=by
 obtain ⟨A,c,A2,c2,e,h1,h2,h3,h4,h5,h6⟩:=h;exact ⟨A,c,A2,c2,e,h1.keep k,h2,h3,h4.keep k,h5,h6⟩
def bGu (w:World) (b o:Nat) (x:Var):Prop :=
 w.cell? ⟨b,o,none⟩=some (.string x.name)/\w.cell? ⟨b,o+1,none⟩=some (.int .i64 x.kind)/\w.cell? ⟨b,o+2,none⟩=some (.int .i64 x.lo)/\w.cell? ⟨b,o+3,none⟩=some (.int .i64 x.hi)/\w.cell? ⟨b,o+4,none⟩=some (.int .i64 x.perNode)/\w.cell? ⟨b,o+5,none⟩=some (.int .i64 x.perID)
theorem bGu.keeps:aNg bGu:=fun _ _ _ _ _ k hb h=>⟨(k.cell hb).trans h.1,(k.cell hb).trans h.2.1,(k.cell hb).trans h.2.2.1,(k.cell hb).trans h.2.2.2.1,(k.cell hb).trans h.2.2.2.2.1,(k.cell hb).trans h.2.2.2.2.2⟩
def aNh:=aAc 6 bGu
theorem aNh.keep {w w':World} {A:Option Addr} {n:Nat} {xs:List Var} (h:aNh w A n xs) (k:Bel w w'):aNh w' A n xs:=aAc.keep bGu.keeps h k
theorem aNh.at_ {w:World} {A:Option Addr} {n:Nat} {xs:List Var} (h:aNh w A n xs) (k:Nat) (hk:k<xs.length) :
  ∃ b o,A=some ⟨b,o,none⟩/\b<w.heap.size/\bGu w b (o+k*6) xs[k]:=aAc.at_ h k hk
def bDx (w:World) (b o:Nat) (x:SetT):Prop:=w.cell? ⟨b,o,none⟩=some (.int .i64 x.var)/\aG7 2 aGy w b (o+1) x.value
theorem bDx.keeps:aNg bDx:=fun _ _ _ _ _ k hb h=>⟨(k.cell hb).trans h.1,aG7.keeps aGy.keeps _ _ _ _ _ k hb h.2⟩
def aQ6:=aAc 2 bDx
theorem aQ6.keep {w w':World} {A:Option Addr} {n:Nat} {xs:List SetT} (h:aQ6 w A n xs) (k:Bel w w'):aQ6 w' A n xs:=aAc.keep bDx.keeps h k
theorem aQ6.at_ {w:World} {A:Option Addr} {n:Nat} {xs:List SetT} (h:aQ6 w A n xs) (k:Nat) (hk:k<xs.length) :
  ∃ b o R c,A=some ⟨b,o,none⟩/\b<w.heap.size/\w.cell? ⟨b,o+k*2,none⟩=some (.int .i64 xs[k].var)/\w.cell? ⟨b,o+k*2+1,none⟩=some (.slice R xs[k].value.length c)/\aCa w R xs[k].value.length xs[k].value/\xs[k].value.length<=c/\c<=maxLen:=by
 obtain ⟨b,o,e,hb,h1,R,c,h2,h3,h4,h5⟩:=aAc.at_ h k hk;exact ⟨b,o,R,c,e,hb,h1,h2,h3,h4,h5⟩
def bBx (w:World) (b o:Nat) (x:Rule):Prop:=w.cell? ⟨b,o,none⟩=some (.string x.name)/\aG7 2 aGy w b (o+1) x.guard/\aG7 2 bDx w b (o+2) x.sets
theorem bBx.keeps:aNg bBx:=fun _ _ _ _ _ k hb h=>⟨(k.cell hb).trans h.1,aG7.keeps aGy.keeps _ _ _ _ _ k hb h.2.1,aG7.keeps bDx.keeps _ _ _ _ _ k hb h.2.2⟩
def aJ7:=aAc 3 bBx
theorem aJ7.keep {w w':World} {A:Option Addr} {n:Nat} {xs:List Rule} (h:aJ7 w A n xs) (k:Bel w w'):aJ7 w' A n xs:=aAc.keep bBx.keeps h k
def bDw (w:World) (v:Value) (r:Rule):Prop :=
 ∃ G c S c2,v = .agg #[.string r.name,.slice G r.guard.length c,.slice S r.sets.length c2]/\aCa w G r.guard.length r.guard/\r.guard.length<=c/\c<=maxLen/\aQ6 w S r.sets.length r.sets/\r.sets.length<=c2/\c2<=maxLen
theorem bDw.keep {w w':World} {v:Value} {g:Rule} (h:bDw w v g) (k:Bel w w'):bDw w' v g:=by
 obtain ⟨A,c,A2,c2,e,h1,h2,h3,h4,h5,h6⟩:=h;exact ⟨A,c,A2,c2,e,h1.keep k,h2,h3,h4.keep k,h5,h6⟩
theorem aJ7.at_ {w:World} {A:Option Addr} {n:Nat} {xs:List Rule} (h:aJ7 w A n xs) (k:Nat) (hk:k<xs.length) :
  ∃ b o G c S c2,A=some ⟨b,o,none⟩/\b<w.heap.size/\w.cell? ⟨b,o+k*3,none⟩=some (.string xs[k].name)/\w.cell? ⟨b,o+k*3+1,none⟩=some (.slice G xs[k].guard.length c)/\w.cell? ⟨b,o+k*3+2,none⟩=some (.slice S xs[k].sets.length c2)
   /\ aCa w G xs[k].guard.length xs[k].guard/\xs[k].guard.length<=c/\c<=maxLen/\aQ6 w S xs[k].sets.length xs[k].sets/\xs[k].sets.length<=c2/\c2<=maxLen:=by
 obtain ⟨b,o,e,hb,h1,⟨G,c,h2,h3,h4,h5⟩,S,c2,h6,h7,h8,h9⟩:=aAc.at_ h k hk;exact ⟨b,o,G,c,S,c2,e,hb,h1,h2,h6,h3,h4,h5,h7,h8,h9⟩
def aK5 (w:World) (v:Value) (p:Prg):Prop :=
 ∃ A c A2 c2,v = .agg #[.string p.name,.slice A p.vars.length c,.slice A2 p.rules.length c2]/\aNh w A p.vars.length p.vars/\p.vars.length<=c/\c<=maxLen/\aJ7 w A2 p.rules.length p.rules/\p.rules.length<=c2/\c2<=maxLen
theorem aK5.keep {w w':World} {v:Value} {p:Prg} (h:aK5 w v p) (k:Bel w w'):aK5 w' v p:=by
 obtain ⟨A,c,A2,c2,e,h1,h2,h3,h4,h5,h6⟩:=h;exact ⟨A,c,A2,c2,e,h1.keep k,h2,h3,h4.keep k,h5,h6⟩
def aD2 (w:World) (v:Value) (c:aA3):Prop:=∃ A k,v = .slice A c.length k/\aQ5 w A c.length c/\c.length<=k/\k<=maxLen
theorem aD2.keep {w w':World} {v:Value} {c:aA3} (h:aD2 w v c) (k:Bel w w'):aD2 w' v c:=by
 obtain ⟨A,n,e,h1,h2,h3⟩:=h;exact ⟨A,n,e,h1.keep k,h2,h3⟩
theorem aAp {α:Type} {f:α->Bool} {l:List α} {k:Nat} (h:k<l.length) (ha:(l.take k).all f=true) (hk:f l[k]=true):(l.take (k+1)).all f=true:=by
 rw [List.take_succ_eq_append_getElem h,List.all_append,ha];simp [hk]
theorem aCh {α:Type} {f:α->Bool} {l:List α} {k:Nat} (h:k<l.length) (hk:f l[k]=false):l.all f=false:=by
 rw [List.all_eq_false];exact ⟨l[k],List.getElem_mem h,by simp [hk]⟩
theorem aC1 {α:Type} {f:α->Bool} {l:List α} {k:Nat} (h:l.length<=k) (ha:(l.take k).all f=true):l.all f=true:=by rwa [List.take_of_length_le h] at ha
def aHq (c:aA3):Bool:=decide (c.length<=30)&&c.all fun r=>decide (r.length<=10)
def aBt (g:Graph):Bool:=decide (g.ids.length<=30)&&decide (g.ports.length<=30)&&g.ports.all fun r=>decide (r.length<=30)
theorem aAq {w wr:World} {cs:Array Value} {t:TypeId} (h:Bel (w.alloc (.cells cs t)) wr) (i:Nat) {v:Value} (hv:cs[i]?=some v):wr.cell? ⟨w.heap.size,i,none⟩=some v :=
 (h.cell (by simp)).trans ((Blk.new w cs t).cell i hv)
theorem aDd {w wr:World} {cs:Array Value} {t:TypeId} (h:Bel (w.alloc (.cells cs t)) wr):w.heap.size<wr.heap.size:=by
 have:=h.size;simp at this;omega
theorem aA6 {w wr:World} {o:Obj} (h:Bel (w.alloc o) wr):Bel w wr:=((Bel.refl w).alloc o).trans h
theorem bL2 {w wr:World} {cs ds:Array Value} {t u:TypeId} (h:Bel ((w.alloc (.cells cs t)).alloc (.cells ds u)) wr) :
  (∀ i v,cs[i]?=some v->wr.cell? ⟨w.heap.size,i,none⟩=some v)/\(∀ i v,ds[i]?=some v->wr.cell? ⟨w.heap.size+1,i,none⟩=some v)/\w.heap.size+1<wr.heap.size:=by
 refine ⟨fun i v hv=>?_,fun i v hv=>?_,?_⟩
 .exact (h.cell (by simp;omega)).trans (((Blk.new w cs t).alloc _).cell i hv)
 .have:=aAq h i hv
  simpa using this
 .have:=aDd h
  simpa using this
theorem aDh {w wr:World} {a b c d e:Value} {t u:TypeId} (h:Bel ((w.alloc (.cells #[a,b,c] t)).alloc (.cells #[d,e] u)) wr) :
  wr.cell? ⟨w.heap.size,0,none⟩=some a/\wr.cell? ⟨w.heap.size,1,none⟩=some b/\wr.cell? ⟨w.heap.size,2,none⟩=some c/\wr.cell? ⟨w.heap.size+1,0,none⟩=some d/\wr.cell? ⟨w.heap.size+1,1,none⟩=some e/\w.heap.size+1<wr.heap.size:=by
 obtain ⟨h1,h2,h3⟩:=bL2 h;exact ⟨h1 0 _ rfl,h1 1 _ rfl,h1 2 _ rfl,h2 0 _ rfl,h2 1 _ rfl,h3⟩
theorem aA2 {w wr:World} {o o2:Obj} (h:Bel ((w.alloc o).alloc o2) wr):Bel w wr:=aA6 (aA6 h)
def aOz (r:Rule):Bool:=decide (r.name.size<=40)&&decide (r.sets.length<=10)&&decide (r.guard.length<=250)&&r.sets.all fun s=>decide (s.value.length<=250)
def aCc (p:Prg):Bool:=decide (p.name.size<=40)&&decide (p.vars.length<=10)&&decide (p.rules.length<=16)&&p.vars.all (fun x=>decide (x.name.size<=40))&&p.rules.all aOz
def inB (v lo hi:Int):Bool:=decide (lo<=v/\v<=hi)
theorem aKb {v lo hi:Int} (h1:lo<=v) (h2:v<=hi):inB v lo hi=true:=by unfold inB;simp [h1,h2]
theorem aQt {v lo hi:Int} (h:v<lo∨hi<v):inB v lo hi=false:=by unfold inB;simp;omega
theorem aQu {v lo hi:Int}:inB v lo hi=true↔lo<=v/\v<=hi:=by unfold inB;simp
theorem aDo (v lo hi:Int) (w:World):Calls prog 21 #[.int .i64 v,.int .i64 lo,.int .i64 hi] w fun e w'=>e = .returned (.bool (inB v lo hi))/\w=w':=by
 go_enter func21,ntmps21;go_wp2
 all_goals (go_ret;refine ⟨aA1 ?_,rfl⟩;unfold inB;rw [Bool.eq_iff_iff];simp) <;> omega
theorem aI2 (v lo hi:Int) (w:World):Calls prog 113 #[.int .i64 v,.int .i64 lo,.int .i64 hi] w fun e w'=>e = .returned (.bool (inB v lo hi))/\w=w':=by
 go_enter func113,ntmps113;go_wp2
 all_goals (go_ret;refine ⟨aA1 ?_,rfl⟩;unfold inB;rw [Bool.eq_iff_iff];simp) <;> omega
theorem bFp (v:Value) (g:Graph) (i:Nat) (u:Int) (w:World) (h:aB2 w v g) (hi:i<g.ports.length) :
  Calls prog 153 #[v,.int .i64 i,.int .i64 u] w fun e w'=>e = .returned (.int .i64 (aEv g.ports[i] u))/\Bel w w':=by
 obtain ⟨A,k,A2,k2,rfl,_,_,_,hr,_,hm⟩:=h;obtain ⟨b,o,R,c1,rfl,hb,hc1,hL,hn,hm2⟩:=hr.at_ i hi;have H:=aA0 (fun w' (k:Bel w w')=>aHj.keep hL k);clear hL hr;unfold maxLen at hm hm2;go_enter func153,ntmps153;go_wp2
 go_loopg [7,8,15] g.ports[i].length (fun m _x _y z wr=>∃ j:Nat,j<=g.ports[i].length/\m=g.ports[i].length-j/\Hid ((g.ports[i].take j).all (fun l => !(l.to==u))=true)/\z = .int .i64 j/\Bel w wr)
 case atStart=>exact ⟨0,by omega,rfl,rfl,rfl,(Bel.refl w).alloc _⟩
 case round =>
  obtain ⟨j,hj,rfl,HK,rfl,HB⟩:=hrel
  by_cases hlt:j<g.ports[i].length
  .obtain ⟨b',o',rfl,hb',hl1,hl2⟩:=(H.out _ HB).at_ j hlt
   have HB2:=HB.alloc (.cells #[.int .i64 g.ports[i][j].to,.int .i64 g.ports[i][j].weight] 64)
   by_cases he:(g.ports[i][j].to==u)=true
   .go_wp2
    go_ret;exact ⟨aA9 (aRl hlt HK.out he).symm,HB2⟩
   .have he':(g.ports[i][j].to==u)=false:=by simpa using he
    clear he;go_wp2
    go_roundg (g.ports[i].length-(j+1))
    case rel=>exact ⟨j+1,by omega,rfl,aAp hlt HK.out (by simp [he']),by go_num,HB2⟩
    case measure=>omega
  .go_wp2
   go_ret;exact ⟨aA9 (aT4 (aC1 (by omega) HK.out)).symm,HB⟩
theorem aOs (t:Term) (vars:Int) (w:World) :
  Calls prog 145 #[.agg #[.int .i64 t.op,.int .i64 t.arg],.int .i64 vars] w fun e w'=>e = .returned (.bool (aM3 t vars))/\Bel w w':=by
 obtain ⟨op,arg⟩:=t;go_enter func145,ntmps145;go_wp2
 all_goals
  go_ret;refine ⟨aA1 ?_,(Bel.refl _).alloc _⟩
  simp only [beq_iff_eq,beq_eq_false_iff_ne,ne_eq] at *
  unfold aM3;rw [Bool.eq_iff_iff];simp only []
  repeat' split
  all_goals first | omega | (simp;done) | (simp;omega)
theorem aX0 (op g:Int) (w:World) (h0:0<=g) (h1:g<=1000000) :
  Calls prog 170 #[.int .i64 op,.int .i64 g] w fun e w'=>e = .returned (.int .i64 (aG8 op g))/\w=w':=by
 go_enter func170,ntmps170;go_wp2;go_ret;exact ⟨rfl,rfl⟩
theorem bAx (op g:Int) (w:World) (h0:0<=g) (h1:g<=1000000) :
  Calls prog 171 #[.int .i64 op,.int .i64 g] w fun e w'=>e = .returned (.int .i64 (aGq op g))/\w=w':=by
 unfold aGq;cases ha:aAo op with
 | true =>
  go_enter func171,ntmps171
  go_wp2_with (go_at_call 172;refine (aI5 _ _).mono ?_;rintro e w' ⟨rfl,rfl⟩)
  go_ret;exact ⟨rfl,rfl⟩
 | false =>
  go_enter func171,ntmps171
  go_wp2_with (go_at_call 172;refine (aI5 _ _).mono ?_;rintro e w' ⟨rfl,rfl⟩)
  go_ret;exact ⟨rfl,rfl⟩
end Go.Proofs.YtmoebklkkjbigaaGreatDoor

