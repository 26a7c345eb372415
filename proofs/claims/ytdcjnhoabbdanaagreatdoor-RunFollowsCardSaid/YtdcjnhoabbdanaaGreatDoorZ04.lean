/- Merged. -/
import Derived.OneCell
import Derived.Test.YtdcjnhoabbdanaaGreatDoorZ03
set_option linter.unusedSimpArgs false
set_option linter.unnecessarySimpa false
set_option linter.unusedVariables false
set_option maxRecDepth 100000
set_option maxHeartbeats 1000000
open Go.Proofs.Tryz

namespace Go.Proofs.YtdcjnhoabbdanaaGreatDoor
theorem aPp (l:List Int) (a b:Int):l.foldl max (max a b)=max a (l.foldl max b):=by
 induction l generalizing b with
 | nil=>rfl
 | cons x l ih=>simp only [List.foldl_cons];rw [Int.max_assoc];exact ih _
theorem aR0 (x:Int) (l:List Int):aDf (l++[x])=max (aDf l) x:=by
 unfold aDf;rw [List.foldl_append];rfl
theorem aV5 (x:Int) (l:List Int):aDf (x :: l)=max x (aDf l):=by
 have h:=aPp l x 0;unfold aDf;rw [List.foldl_cons,Int.max_comm 0 x];exact h
theorem aQz (l:List Int):aDf l.reverse=aDf l:=by
 induction l with
 | nil=>rfl
 | cons x l ih=>rw [List.reverse_cons,aR0,ih,aV5,Int.max_comm]
def rl (num:Int->Int->Int):List Term->List Int
 | []=>[]
 | t :: ts=>num t.op (aDf ((rl num ts).take (aAg t.op).toNat)) :: (rl num ts).drop (aAg t.op).toNat
theorem aN2 (num:Int->Int->Int) (l:List Term):∀ m,aFw l m->lev num l=(rl num l).reverse:=by
 induction l with
 | nil=>intro m _;rfl
 | cons t ts ih =>
  intro m h
  obtain ⟨h1,h2,h3⟩:=h.cons;have hlen:=h3.lev_length num;have e:=ih _ h3;rw [e,List.length_reverse] at hlen;simp only [lev,rl]
  rw [e,List.length_reverse,List.reverse_cons,List.take_reverse,List.drop_reverse,aQz];have hsub:(rl num ts).length-((rl num ts).length-(aAg t.op).toNat)=(aAg t.op).toNat:=by omega
  rw [hsub]
theorem aGp (num:Int->Int->Int) (l:List Term) (m:Int) (h:aFw l m):((rl num l).length:Int)=m:=by
 have:=h.lev_length num;rw [aN2 num l m h,List.length_reverse] at this;exact this
def wt (om:Bool->Int) (s:List (Int × Bool)):Int:=(s.map fun x=>om x.2).sum
def aD0 (om:Bool->Int):List (Int × Bool)->List Int
 | []=>[]
 | (c,b) :: r=>List.replicate (c-1).toNat (wt om ((c,b) :: r))++aD0 om r
def aSe (om:Bool->Int) (s:List (Int × Bool)) (more:Bool):List Int:=if more then wt om s :: aD0 om s else []
def fin (d:Int) (pl ds:List Int):Int:=(List.zipWith (·+·) pl ds).foldl max d
theorem aNy (om:Bool->Int) (c:Int) (b:Bool) (s:List (Int × Bool)):wt om ((c,b) :: s)=om b+wt om s:=by simp [wt]
theorem aTj (s:List (Int × Bool)) (h:aUn s):∃ more,∀ om,aD0 om s=aSe om (aXq s) more:=by
 induction s with
 | nil=>exact ⟨false,fun om=>rfl⟩
 | cons x r ih =>
  obtain ⟨c,b⟩:=x;have hc:=h (c,b) (by simp)
  simp only at hc
  by_cases h1:c-1=0
  .obtain ⟨more,hm⟩:=ih h.tail
   refine ⟨more,fun om=>?_⟩
   simp only [aD0,aXq,if_pos h1]
   rw [h1];exact hm om
  .refine ⟨true,fun om=>?_⟩
   simp only [aD0,aXq,if_neg h1,aSe,if_true]
   have e:(c-1).toNat=(c-1-1).toNat+1:=by omega
   rw [e,List.replicate_succ,List.cons_append,aNy,aNy]
theorem aIl (om:Bool->Int) (a:Int) (b:Bool) (s:List (Int × Bool)) (ha:1<=a):aSe om ((a,b) :: s) true=List.replicate a.toNat (wt om ((a,b) :: s))++aD0 om s:=by
 simp only [aSe,if_true,aD0]
 have e:a.toNat=(a-1).toNat+1:=by omega
 rw [e,List.replicate_succ,List.cons_append]
theorem aPo (l:List Int) (d c x:Int):(l.map (c+·)).foldl max (max d (c+x))=max d (c+l.foldl max x):=by
 induction l generalizing x with
 | nil=>rfl
 | cons y l ih =>
  simp only [List.map_cons,List.foldl_cons]
  rw [Int.max_assoc,show max (c+x) (c+y)=c+max x y by omega]
  exact ih _
theorem aZ3 (d p de:Int) (pl R:List Int) (a:Nat) (h:a<=R.length) :
  fin d (p :: pl) ((aDf (R.take a)+de) :: R.drop a)=fin (max d (p+de)) (List.replicate a (p+de)++pl) R:=by
 unfold fin
 have hz:List.zipWith (·+·) (List.replicate a (p+de)++pl) R=(R.take a).map ((p+de)+·)++List.zipWith (·+·) pl (R.drop a):=by
  have hR:=(List.take_append_drop a R).symm;have hl:(List.replicate a (p+de)).length=(R.take a).length:=by rw [List.length_replicate,List.length_take];omega
  have e:List.zipWith (·+·) (List.replicate a (p+de)++pl) R=List.zipWith (·+·) (List.replicate a (p+de)++pl) (R.take a++R.drop a):=by rw [List.take_append_drop]
  rw [e,List.zipWith_append hl]
  congr 1
  generalize hQ:R.take a=Q at *;have:Q.length=a:=by rw [<- hl,List.length_replicate]
  clear hQ hR e hl h;subst this
  induction Q with
  | nil=>rfl
  | cons y Q ih=>simp only [List.length_cons,List.replicate_succ,List.zipWith_cons_cons,List.map_cons,ih]
 rw [hz,List.foldl_append];simp only [List.zipWith_cons_cons,List.foldl_cons]
 have:=aPo (R.take a) d (p+de) 0;rw [Int.add_zero] at this;rw [this]
 congr 1
 unfold aDf;omega
def omD (_:Bool):Int:=1
def omN (b:Bool):Int:=if b then 1 else 0
theorem bBi (s:List (Int × Bool)):wt omD s=s.length:=by
 induction s with
 | nil=>rfl
 | cons x s ih=>obtain ⟨c,b⟩:=x;rw [aNy,ih];simp [omD];omega
theorem bBj (s:List (Int × Bool)):wt omN s=aFk s:=by
 induction s with
 | nil=>rfl
 | cons x s ih =>
  obtain ⟨c,b⟩:=x;rw [aNy,ih];unfold aFk omN;cases b
  .simp
  .simp;omega
theorem aSt (op g:Int):aCj op g=g+omD (aAc op):=rfl
theorem aVe (op g:Int):aCz op g=g+omN (aAc op):=by unfold aCz omN;split <;> simp
theorem aUj (num:Int->Int->Int) (om:Bool->Int) (hnum:∀ op g,num op g=g+om (aAc op)) (d:Int) (t:Term) (ts:List Term) (s:List (Int × Bool)) (hl:(aAg t.op).toNat<=(rl num ts).length) :
  fin d (aSe om s true) (rl num (t :: ts))=fin (max d (wt om ((aAg t.op,aAc t.op) :: s))) (List.replicate (aAg t.op).toNat (wt om ((aAg t.op,aAc t.op) :: s))++aD0 om s) (rl num ts):=by
 simp only [rl,aSe,if_true]
 rw [hnum,aZ3 _ _ _ _ _ _ hl,aNy,Int.add_comm (om _) (wt om s)]
theorem aVq (ts:List Term):∀ (s:List (Int × Bool)) (d n:Int) (more:Bool),aUn s->aFw ts (aSe omD s more).length->aFw ts (aSe omN s more).length ->
  aLx ts s d n=(fin d (aSe omD s more) (rl aCj ts),fin n (aSe omN s more) (rl aCz ts)):=by
 induction ts with
 | nil =>
  intro s d n more _ h _
  cases more with
  | false=>rfl
  | true =>
   rcases h with ⟨_,h⟩ | ⟨_,h⟩
   .simp [aSe] at h;omega
   .simp [aJ6] at h
 | cons t ts ih =>
  intro s d n more hw hD hN
  cases more with
  | false=>have:=hD.cons.1;simp [aSe] at this
  | true =>
   obtain ⟨_,h0,hD2⟩:=hD.cons;obtain ⟨_,_,hN2⟩:=hN.cons;have lD:=aGp aCj ts _ hD2;have lN:=aGp aCz ts _ hN2;have eD:((aSe omD s true).length:Int)=1+(aD0 omD s).length:=by simp [aSe];omega
   have eN:((aSe omN s true).length:Int)=1+(aD0 omN s).length:=by simp [aSe];omega
   rw [aUj aCj omD aSt d t ts s (by omega),aUj aCz omN aVe n t ts s (by omega)]
   simp only [aLx]
   rw [<- bBj,<- bBi]
   rcases Int.lt_or_eq_of_le h0 with ha | ha
   .have hne:aF2 ((aAg t.op,aAc t.op) :: s)=(aAg t.op,aAc t.op) :: s:=aRe _ _ _ (by omega)
    rw [hne,<- aIl omD _ _ _ (by omega),<- aIl omN _ _ _ (by omega)]
    refine ih _ _ _ _ ?_ ?_ ?_
    .have:=aOr (b:=aAc t.op) hw h0 (aGw t.op).2
     rw [hne] at this;exact this.1
    .rw [aIl _ _ _ _ (by omega),List.length_append,List.length_replicate]
     rw [eD] at hD2;have:(((aAg t.op).toNat+(aD0 omD s).length:Nat):Int)=1+(aD0 omD s).length+(aAg t.op-1):=by omega
     rw [this];exact hD2
    .rw [aIl _ _ _ _ (by omega),List.length_append,List.length_replicate]
     rw [eN] at hN2;have:(((aAg t.op).toNat+(aD0 omN s).length:Nat):Int)=1+(aD0 omN s).length+(aAg t.op-1):=by omega
     rw [this];exact hN2
   .have hne:aF2 ((aAg t.op,aAc t.op) :: s)=aXq s:=by simp [aF2,<- ha]
    obtain ⟨more,hm⟩:=aTj s hw;rw [hne,<- ha];simp only [Int.toNat_zero,List.replicate_zero,List.nil_append]
    rw [hm omD,hm omN];refine ih _ _ _ _ (aNg hw).1 ?_ ?_
    .rw [<- hm omD];rw [eD,<- ha] at hD2
     have:(1+((aD0 omD s).length:Int)+(0-1))=(aD0 omD s).length:=by omega
     rw [this] at hD2;exact hD2
    .rw [<- hm omN];rw [eN,<- ha] at hN2
     have:(1+((aD0 omN s).length:Int)+(0-1))=(aD0 omN s).length:=by omega
     rw [this] at hN2;exact hN2
theorem aN3 (num:Int->Int->Int) (hn:∀ op g,0<=g->0<=num op g/\num op g<=g+1) (es:List Term) (h:endF es 0=es.length):fin 0 [0] (rl num es)=aDp num es:=by
 have hF:=aFj h;have hl:=aGp num es 1 hF;obtain ⟨x,hx⟩:∃ x,rl num es=[x]:=List.length_eq_one_iff.1 (by omega)
 have hlev:=aN2 num es 1 hF;unfold aDp;rw [if_pos h,hlev,hx];have hb:=(aR5 num hn es).2 x (by rw [hlev,hx];simp)
 simp [fin];omega
theorem aUf (es:List Term) (h:endF es 0=es.length):aLx es [] 0 0=(aDh es,aHp es):=by
 have hF:=aFj h;rw [aVq es [] 0 0 true (fun _ h=>by simp at h) hF hF]
 show (fin 0 [0] (rl aCj es),fin 0 [0] (rl aCz es))=_
 rw [aN3 aCj aMm es h,aN3 aCz aOq es h];rfl
theorem aL0 (es:List Term):aW4 es=(endF es 0==es.length):=by
 unfold aW4;rw [Bool.eq_iff_iff];simp
 intro h
 have:=aSw es 0;omega
theorem aL7 (es:List Term) (h:endF es 0=es.length):∀ t∈es,0<=aAg t.op:=by
 intro t ht
 obtain ⟨i,hi,rfl⟩:=List.getElem_of_mem ht;exact (bA2 aCj (aFj h) hi).1
theorem aZr (l:List Term):∀ (m1 m2:Int),1<=m1->1<=m2->aJ6 l (m1+m2)=(match aJ6 l m1 with | none=>none | some n=>(aJ6 (l.drop n) m2).map (n+·)):=by
 induction l with
 | nil=>intro m1 m2 _ _;rfl
 | cons t ts ih =>
  intro m1 m2 h1 h2
  simp only [aJ6]
  by_cases ha:aAg t.op<0
  .simp only [if_pos ha]
  .simp only [if_neg ha]
   rw [if_neg (by omega)]
   by_cases h0:m1+(aAg t.op-1)=0
   .rw [if_pos h0]
    simp only [List.drop_succ_cons,List.drop_zero]
    rw [show m1+m2+(aAg t.op-1)=m2 by omega]
    congr 1;funext x;omega
   .rw [if_neg h0,show m1+m2+(aAg t.op-1)=(m1+(aAg t.op-1))+m2 by omega,ih _ _ (by omega) h2]
    cases aJ6 ts (m1+(aAg t.op-1)) with
    | none=>rfl
    | some n =>
     simp only [Option.map_some,List.drop_succ_cons,Option.map_map]
     congr 1;funext x;simp;omega
theorem aYw (es:List Term) (k:Nat) (h:k<es.length):endF es (k:Int)=aD2 es k 1:=by
 unfold endF;rw [if_neg (by omega),Int.toNat_natCast]
theorem aNv (l r:List Term):∀ (m:Int) (n:Nat),aJ6 l m=some n->aJ6 (l++r) m=some n:=by
 induction l with
 | nil=>intro m n h;simp [aJ6] at h
 | cons t ts ih =>
  intro m n h
  simp only [aJ6] at h
  split at h
  .cases h
  .rename_i ha
   split at h
   .rename_i h0
    simp only [List.cons_append,aJ6,if_neg ha,if_pos h0];exact h
   .rename_i h0
    cases hs:aJ6 ts (m+(aAg t.op-1)) with
    | none=>rw [hs] at h;cases h
    | some q =>
     rw [hs] at h;simp only [List.cons_append,aJ6,if_neg ha,if_neg h0,ih _ _ hs];exact h
theorem aTy {p:List Term} (h:aFw p 1):endF p 0=p.length:=by
 rcases h with ⟨_,h⟩ | ⟨_,h⟩
 .omega
 .have:=aTo _ _ _ h
  unfold endF aD2;rw [if_neg (by omega)]
  simp only [Int.toNat_zero,List.drop_zero,h]
  simp
theorem aFw.pos {p:List Term} (h:aFw p 1):0<p.length:=by
 rcases h with ⟨_,h⟩ | ⟨_,h⟩
 .omega
 .exact (aTo _ _ _ h).1
theorem aFw.add {p q:List Term} {m1 m2:Int} (hp:aFw p m1) (hq:aFw q m2) (h1:1<=m1) (h2:1<=m2):aFw (p++q) (m1+m2):=by
 rcases hp with ⟨_,h⟩ | ⟨_,hp⟩
 .omega
 .rcases hq with ⟨_,h⟩ | ⟨_,hq⟩
  .omega
  .right
   refine ⟨by omega,?_⟩
   rw [aZr _ _ _ h1 h2,aNv p q _ _ hp];simp only [List.drop_left,hq,Option.map_some,List.length_append]
theorem aFw.mk {t:Term} {ts:List Term} (h:aFw ts (aAg t.op)) (h1:1<=aAg t.op):aFw (t :: ts) 1:=by
 rcases h with ⟨_,h⟩ | ⟨_,h⟩
 .omega
 .right
  refine ⟨by omega,?_⟩
  simp only [aJ6]
  rw [if_neg (by omega),if_neg (by omega),show 1+(aAg t.op-1)=aAg t.op by omega,h]
  rfl
theorem aGo (num:Int->Int->Int) (p r:List Term):∀ m,aFw p m->rl num (p++r)=rl num p++rl num r:=by
 induction p with
 | nil=>intro m _;rfl
 | cons t ts ih =>
  intro m h
  obtain ⟨h1,h2,h3⟩:=h.cons;have hl:=aGp num ts _ h3;simp only [List.cons_append,rl]
  rw [ih _ h3,List.take_append_of_le_length (by omega),List.drop_append_of_le_length (by omega)]
theorem aCe (num:Int->Int->Int) {p:List Term} (h:aFw p 1):rl num p=[aDp num p]:=by
 have hl:=aGp num p 1 h;obtain ⟨x,hx⟩:∃ x,rl num p=[x]:=List.length_eq_one_iff.1 (by omega)
 have hlev:=aN2 num p 1 h;unfold aDp;rw [if_pos (aTy h),hlev,hx];rfl
theorem aSb (es:List Term) (vars:Int):aB2 es vars=true↔es.length<=200/\aFw es 1/\(∀ t∈es,aFx t vars=true)/\aDh es<=24/\aHp es<=2:=by
 unfold aB2;simp only [Bool.and_eq_true,decide_eq_true_eq,beq_iff_eq,List.all_eq_true]
 constructor
 .rintro ⟨⟨⟨⟨a,b⟩,c⟩,d⟩,e⟩
  exact ⟨a,aFj b,c,d,e⟩
 .rintro ⟨a,b,c,d,e⟩
  exact ⟨⟨⟨⟨a,aTy b⟩,c⟩,d⟩,e⟩
theorem aEf (num:Int->Int->Int) {t:Term} {ts:List Term} (h:aFw ts (aAg t.op)) (h1:1<=aAg t.op):aDp num (t :: ts)=num t.op (aDf (rl num ts)):=by
 have hs:=aCe num (aFw.mk h h1);have hl:=aGp num ts _ h;simp only [rl] at hs
 injection hs with h2 _
 rw [<- h2,List.take_of_length_le (by omega)]
inductive Ex where
 | leaf (t:Term)
 | un (t:Term) (a:Ex)
 | bin (t:Term) (a b:Ex)
 | tri (t:Term) (a b c:Ex)
def Ex.terms:Ex->List Term
 | .leaf t=>[t]
 | .un t a=>t :: a.terms
 | .bin t a b=>t :: (a.terms++b.terms)
 | .tri t a b c=>t :: (a.terms++(b.terms++c.terms))
def Ex.len (x:Ex):Nat:=x.terms.length
def Ex.ok:Ex->Prop
 | .leaf t=>aAg t.op=0
 | .un t a=>aAg t.op=1/\a.ok
 | .bin t a b=>aAg t.op=2/\a.ok/\b.ok
 | .tri t a b c=>aAg t.op=3/\a.ok/\b.ok/\c.ok
theorem Ex.pos (x:Ex):0<x.len:=by cases x <;> simp [Ex.len,Ex.terms]
theorem Ex.full {x:Ex} (h:x.ok):aFw x.terms 1:=by
 induction x with
 | leaf t =>
  simp only [Ex.ok] at h
  right
  refine ⟨by omega,?_⟩
  simp [Ex.terms,aJ6,h]
 | un t a ih =>
  obtain ⟨h1,h2⟩:=h;exact aFw.mk (by rw [h1];exact ih h2) (by omega)
 | bin t a b iha ihb =>
  obtain ⟨h1,h2,h3⟩:=h;exact aFw.mk (by rw [h1];exact aFw.add (m1:=1) (m2:=1) (iha h2) (ihb h3) (by omega) (by omega)) (by omega)
 | tri t a b c iha ihb ihc =>
  obtain ⟨h1,h2,h3,h4⟩:=h;exact aFw.mk (by rw [h1];exact aFw.add (m1:=1) (m2:=2) (iha h2) (aFw.add (m1:=1) (m2:=1) (ihb h3) (ihc h4) (by omega) (by omega)) (by omega) (by omega)) (by omega)
theorem parse (l:List Term):∀ m,aFw l m->∃ xs:List Ex,(∀ x∈xs,x.ok)/\xs.flatMap Ex.terms=l/\(xs.length:Int)=m:=by
 induction l with
 | nil =>
  intro m h
  rcases h with ⟨_,h⟩ | ⟨_,h⟩
  .exact ⟨[],fun _ h=>by simp at h,rfl,by simp [h]⟩
  .simp [aJ6] at h
 | cons t ts ih =>
  intro m h
  obtain ⟨h1,h2,h3⟩:=h.cons;obtain ⟨xs,hok,hfl,hlen⟩:=ih _ h3;have h4:=(aGw t.op).2
  rcases (show aAg t.op=0∨aAg t.op=1∨aAg t.op=2∨aAg t.op=3 by omega) with ha | ha | ha | ha
  .refine ⟨.leaf t :: xs,?_,by simp [Ex.terms,hfl],by simp;omega⟩
   intro x hx
   rcases List.mem_cons.1 hx with e | e
   .subst e;exact ha
   .exact hok x e
  .match xs,hok,hfl,hlen with
   | [],_,_,hlen=>simp at hlen;omega
   | a :: xs,hok,hfl,hlen =>
    refine ⟨.un t a :: xs,?_,by simp [Ex.terms,<- hfl],by simp at hlen ⊢;omega⟩
    intro x hx
    rcases List.mem_cons.1 hx with e | e
    .subst e;exact ⟨ha,hok a (by simp)⟩
    .exact hok x (by simp [e])
  .match xs,hok,hfl,hlen with
   | [],_,_,hlen=>simp at hlen;omega
   | [a],_,_,hlen=>simp at hlen;omega
   | a :: b :: xs,hok,hfl,hlen =>
    refine ⟨.bin t a b :: xs,?_,by simp [Ex.terms,<- hfl],by simp at hlen ⊢;omega⟩
    intro x hx
    rcases List.mem_cons.1 hx with e | e
    .subst e;exact ⟨ha,hok a (by simp),hok b (by simp)⟩
    .exact hok x (by simp [e])
  .match xs,hok,hfl,hlen with
   | [],_,_,hlen=>simp at hlen;omega
   | [a],_,_,hlen=>simp at hlen;omega
   | [a,b],_,_,hlen=>simp at hlen;omega
   | a :: b :: c :: xs,hok,hfl,hlen =>
    refine ⟨.tri t a b c :: xs,?_,by simp [Ex.terms,<- hfl],by simp at hlen ⊢;omega⟩
    intro x hx
    rcases List.mem_cons.1 hx with e | e
    .subst e;exact ⟨ha,hok a (by simp),hok b (by simp),hok c (by simp)⟩
    .exact hok x (by simp [e])
theorem bBg {l:List Term} (h:aFw l 1):∃ x:Ex,x.ok/\x.terms=l:=by
 obtain ⟨xs,h1,h2,h3⟩:=parse l 1 h;obtain ⟨x,rfl⟩:∃ x,xs=[x]:=List.length_eq_one_iff.1 (by omega)
 exact ⟨x,h1 x (by simp),by simpa using h2⟩
def Ex.At (es:List Term) (k:Nat) (x:Ex):Prop:=x.ok/\∃ r,es.drop k=x.terms++r
theorem At.whole {es:List Term} {x:Ex} (h:x.ok) (he:x.terms=es):x.At es 0:=⟨h,[],by simp [he]⟩
theorem aG1 {es r:List Term} {k n:Nat} {p:List Term} (h:es.drop k=p++r) (hn:p.length=n):es.drop (k+n)=r:=by
 rw [<- List.drop_drop,h,<- hn,List.drop_left]
theorem At.bound {es:List Term} {k:Nat} {x:Ex} (h:x.At es k):k+x.len<=es.length:=by
 obtain ⟨_,r,hr⟩:=h;have:=congrArg List.length hr;have hp:=x.pos;simp only [List.length_drop,List.length_append] at this
 unfold Ex.len at *;omega
theorem At.lt {es:List Term} {k:Nat} {x:Ex} (h:x.At es k):k<es.length:=by
 have:=At.bound h;have:=x.pos;omega
theorem aJx {es r:List Term} {k:Nat} {t:Term} (h:es.drop k=t :: r):es[k]?=some t/\es.drop (k+1)=r:=by
 refine ⟨?_,?_⟩
 .have:=congrArg (·[0]?) h
  simpa using this
 .exact aG1 (p:=[t]) h rfl
theorem At.leaf {es:List Term} {k:Nat} {t:Term} (h:(Ex.leaf t).At es k):es[k]?=some t/\aAg t.op=0:=by
 obtain ⟨h1,r,hr⟩:=h;exact ⟨(aJx hr).1,h1⟩
theorem At.un {es:List Term} {k:Nat} {t:Term} {a:Ex} (h:(Ex.un t a).At es k):es[k]?=some t/\aAg t.op=1/\a.At es (k+1):=by
 obtain ⟨⟨h1,h2⟩,r,hr⟩:=h;obtain ⟨g1,g2⟩:=aJx hr;exact ⟨g1,h1,h2,r,g2⟩
theorem At.bin {es:List Term} {k:Nat} {t:Term} {a b:Ex} (h:(Ex.bin t a b).At es k):es[k]?=some t/\aAg t.op=2/\a.At es (k+1)/\b.At es (k+1+a.len):=by
 obtain ⟨⟨h1,h2,h3⟩,r,hr⟩:=h;obtain ⟨g1,g2⟩:=aJx (r:=_++r) hr;rw [List.append_assoc] at g2;exact ⟨g1,h1,⟨h2,_,g2⟩,h3,r,aG1 g2 rfl⟩
theorem At.tri {es:List Term} {k:Nat} {t:Term} {a b c:Ex} (h:(Ex.tri t a b c).At es k):es[k]?=some t/\aAg t.op=3/\a.At es (k+1)/\b.At es (k+1+a.len)/\c.At es (k+1+a.len+b.len):=by
 obtain ⟨⟨h1,h2,h3,h4⟩,r,hr⟩:=h;obtain ⟨g1,g2⟩:=aJx (r:=_++r) hr;rw [List.append_assoc] at g2;have g3:=aG1 g2 rfl;rw [List.append_assoc] at g3;exact ⟨g1,h1,⟨h2,_,g2⟩,⟨h3,_,g3⟩,h4,r,aG1 g3 rfl⟩
theorem At.endF {es:List Term} {k:Nat} {x:Ex} (h:x.At es k):endF es (k:Int)=((k+x.len:Nat):Int):=by
 have hlt:=At.lt h;obtain ⟨hok,r,hr⟩:=h;rw [aYw es k hlt];unfold aD2
 rcases Ex.full hok with ⟨_,h⟩ | ⟨_,h⟩
 .omega
 .rw [hr,aNv _ r _ _ h];simp [Ex.len]
theorem aRg {es:List Term} {k:Nat} {t:Term} (h:es[k]?=some t):opAt es (k:Int)=t.op:=by
 obtain ⟨h1,h2⟩:=List.getElem?_eq_some_iff.1 h;rw [aU8 h1,h2]
theorem At.operand1 {es:List Term} {k:Nat} {x a:Ex} {t:Term} (h:x.At es k) (ht:es[k]?=some t) (har:2<=aAg t.op) (ha:a.At es (k+1)):aDb es (k:Int) 1=((k+1+a.len:Nat):Int):=by
 unfold aDb;rw [At.endF h,aRg ht,if_neg (by omega)]
 show Go.Proofs.YtdcjnhoabbdanaaGreatDoor.endF es ((k:Int)+1)=_
 rw [show (k:Int)+1=((k+1:Nat):Int) by omega,At.endF ha]
theorem At.operand2 {es:List Term} {k:Nat} {x a b:Ex} {t:Term} (h:x.At es k) (ht:es[k]?=some t) (har:3<=aAg t.op) (ha:a.At es (k+1)) (hb:b.At es (k+1+a.len)):aDb es (k:Int) 2=((k+1+a.len+b.len:Nat):Int):=by
 unfold aDb;rw [At.endF h,aRg ht,if_neg (by omega)]
 show Go.Proofs.YtdcjnhoabbdanaaGreatDoor.endF es (Go.Proofs.YtdcjnhoabbdanaaGreatDoor.endF es ((k:Int)+1))=_
 rw [show (k:Int)+1=((k+1:Nat):Int) by omega,At.endF ha,At.endF hb]
def Ex.depth:Ex->Int
 | .leaf _=>1
 | .un _ a=>a.depth+1
 | .bin _ a b=>max a.depth b.depth+1
 | .tri _ a b c=>max a.depth (max b.depth c.depth)+1
def Ex.nest:Ex->Int
 | .leaf _=>0
 | .un t a=>if aAc t.op then a.nest+1 else a.nest
 | .bin _ a b=>max a.nest b.nest
 | .tri _ a b c=>max a.nest (max b.nest c.nest)
theorem Ex.depth_pos (x:Ex):1<=x.depth:=by
 induction x <;> simp only [Ex.depth] <;> omega
theorem Ex.nest_pos (x:Ex):0<=x.nest:=by
 induction x with
 | leaf t=>simp [Ex.nest]
 | un t a ih=>simp only [Ex.nest];split <;> omega
 | bin t a b iha ihb=>simp only [Ex.nest];omega
 | tri t a b c iha ihb ihc=>simp only [Ex.nest];omega
theorem aWe {op:Int} (h:aAc op=true):aAg op=1:=by
 unfold aAc at h;have:20<=op/\op<=29:=by simpa using h
 unfold aAg;rw [if_neg (by omega),if_neg (by omega),if_pos (by omega)]
theorem aHt {op:Int} (h:aAg op≠1):aAc op=false:=by
 cases hb:aAc op with
 | false=>rfl
 | true=>exact absurd (aWe hb) h
theorem aN4 (num:Int->Int->Int) {t:Term} (h:aAg t.op=0):aDp num [t]=num t.op 0:=by
 have hF:aFw [t] 1:=Ex.full (x := .leaf t) h;have:=aCe num hF;simp only [rl] at this
 injection this with h1 _
 rw [<- h1,h];rfl
theorem Ex.levels_depth {x:Ex} (h:x.ok):aDh x.terms=x.depth:=by
 unfold aDh
 induction x with
 | leaf t=>simp only [Ex.terms];rw [aN4 _ h];rfl
 | un t a ih =>
  obtain ⟨h1,h2⟩:=h;have hp:=a.depth_pos;simp only [Ex.terms]
  rw [aEf _ (by rw [h1];exact Ex.full h2) (by omega),aCe _ (Ex.full h2),ih h2]
  simp [aDf,aCj,Ex.depth];omega
 | bin t a b iha ihb =>
  obtain ⟨h1,h2,h3⟩:=h;have hp:=a.depth_pos;have hq:=b.depth_pos;simp only [Ex.terms]
  rw [aEf _ (by rw [h1];exact aFw.add (m1:=1) (m2:=1) (Ex.full h2) (Ex.full h3) (by omega) (by omega)) (by omega),aGo _ _ _ 1 (Ex.full h2),aCe _ (Ex.full h2),aCe _ (Ex.full h3),iha h2,ihb h3]
  simp [aDf,aCj,Ex.depth];omega
 | tri t a b c iha ihb ihc =>
  obtain ⟨h1,h2,h3,h4⟩:=h;have hp:=a.depth_pos;have hq:=b.depth_pos;have hr:=c.depth_pos;simp only [Ex.terms]
  rw [aEf _ (by rw [h1];exact aFw.add (m1:=1) (m2:=2) (Ex.full h2) (aFw.add (m1:=1) (m2:=1) (Ex.full h3) (Ex.full h4) (by omega) (by omega)) (by omega) (by omega)) (by omega),aGo _ _ _ 1 (Ex.full h2),aGo _ _ _ 1 (Ex.full h3),aCe _ (Ex.full h2),aCe _ (Ex.full h3),aCe _ (Ex.full h4),iha h2,ihb h3,ihc h4]
  simp [aDf,aCj,Ex.depth];omega
theorem Ex.levels_nest {x:Ex} (h:x.ok):aHp x.terms=x.nest:=by
 unfold aHp
 induction x with
 | leaf t =>
  simp only [Ex.terms];rw [aN4 _ h]
  have:=aHt (op:=t.op) (by rw [h];omega)
  simp [aCz,this,Ex.nest]
 | un t a ih =>
  obtain ⟨h1,h2⟩:=h;have hp:=a.nest_pos;simp only [Ex.terms]
  rw [aEf _ (by rw [h1];exact Ex.full h2) (by omega),aCe _ (Ex.full h2),ih h2]
  have:aDf [a.nest]=a.nest:=by simp [aDf];omega
  rw [this];simp [aCz,Ex.nest]
 | bin t a b iha ihb =>
  obtain ⟨h1,h2,h3⟩:=h;have hp:=a.nest_pos;have hq:=b.nest_pos;have hag:=aHt (op:=t.op) (by rw [h1];omega)
  simp only [Ex.terms]
  rw [aEf _ (by rw [h1];exact aFw.add (m1:=1) (m2:=1) (Ex.full h2) (Ex.full h3) (by omega) (by omega)) (by omega),aGo _ _ _ 1 (Ex.full h2),aCe _ (Ex.full h2),aCe _ (Ex.full h3),iha h2,ihb h3]
  simp [aDf,aCz,hag,Ex.nest];omega
 | tri t a b c iha ihb ihc =>
  obtain ⟨h1,h2,h3,h4⟩:=h;have hp:=a.nest_pos;have hq:=b.nest_pos;have hr:=c.nest_pos;have hag:=aHt (op:=t.op) (by rw [h1];omega)
  simp only [Ex.terms]
  rw [aEf _ (by rw [h1];exact aFw.add (m1:=1) (m2:=2) (Ex.full h2) (aFw.add (m1:=1) (m2:=1) (Ex.full h3) (Ex.full h4) (by omega) (by omega)) (by omega) (by omega)) (by omega),aGo _ _ _ 1 (Ex.full h2),aGo _ _ _ 1 (Ex.full h3),aCe _ (Ex.full h2),aCe _ (Ex.full h3),aCe _ (Ex.full h4),iha h2,ihb h3,ihc h4]
  simp [aDf,aCz,hag,Ex.nest];omega
theorem aVz {es:List Term} {vars:Int} (h:aB2 es vars=true):∃ x:Ex,x.ok/\x.terms=es/\es.length<=200/\(∀ t∈es,aFx t vars=true)/\x.depth<=24/\x.nest<=2:=by
 obtain ⟨h1,h2,h3,h4,h5⟩:=(aSb es vars).1 h;obtain ⟨x,hx,rfl⟩:=bBg h2;exact ⟨x,hx,rfl,h1,h3,by rw [<- Ex.levels_depth hx];exact h4,by rw [<- Ex.levels_nest hx];exact h5⟩
structure Link where
 «to»:Int
 weight:Int
instance:Inhabited Link:=⟨⟨0,0⟩⟩
structure Graph where
 ids:List Int
 ports:List (List Link)
structure Var where
 name:ByteArray
 kind:Int
 lo:Int
 hi:Int
 perNode:Int
 perID:Int
instance:Inhabited Var:=⟨⟨ByteArray.empty,0,0,0,0,0⟩⟩
structure SetT where
 var:Int
 value:List Term
instance:Inhabited SetT:=⟨⟨0,[]⟩⟩
structure Rule where
 name:ByteArray
 guard:List Term
 sets:List SetT
instance:Inhabited Rule:=⟨⟨ByteArray.empty,[],[]⟩⟩
structure Prg where
 name:ByteArray
 vars:List Var
 rules:List Rule
abbrev aA7:=List (List Int)
def aIe:List Term->List Ex
 | []=>[]
 | t :: ts =>
  let s:=aIe ts
  if aAg t.op=0 then .leaf t :: s
  else if aAg t.op=1 then (match s with | a :: s => .un t a :: s | []=>[])
  else if aAg t.op=2 then (match s with | a :: b :: s => .bin t a b :: s | _=>[])
  else (match s with | a :: b :: c :: s => .tri t a b c :: s | _=>[])
def aAt (es:List Term):Ex:=(aIe es).headD (.leaf default)
theorem aQd {x:Ex} (h:x.ok) (r:List Term):aIe (x.terms++r)=x :: aIe r:=by
 induction x generalizing r with
 | leaf t=>simp only [Ex.ok] at h;simp [Ex.terms,aIe,h]
 | un t a ih=>obtain ⟨h1,h2⟩:=h;simp [Ex.terms,aIe,h1,ih h2]
 | bin t a b iha ihb=>obtain ⟨h1,h2,h3⟩:=h;simp [Ex.terms,aIe,h1,iha h2,ihb h3]
 | tri t a b c iha ihb ihc=>obtain ⟨h1,h2,h3,h4⟩:=h;simp [Ex.terms,aIe,h1,iha h2,ihb h3,ihc h4]
theorem aS8 {x:Ex} (h:x.ok):aAt x.terms=x:=by
 have:=aQd h [];rw [List.append_nil] at this;simp [aAt,this]
theorem aY9 {es:List Term} {x:Ex} (h:x.ok) (he:x.terms=es):aAt es=x:=by rw [<- he];exact aS8 h
theorem aEy {es:List Term} {vars:Int} (h:aB2 es vars=true):(aAt es).ok/\(aAt es).terms=es/\es.length<=200/\(∀ t∈es,aFx t vars=true)/\(aAt es).depth<=24/\(aAt es).nest<=2:=by
 obtain ⟨x,h1,h2,h3,h4,h5,h6⟩:=aVz h;rw [aY9 h1 h2];exact ⟨h1,h2,h3,h4,h5,h6⟩
def aDy (k:Int):Bool:=k==1||k==2||k==3
def aCw (op:Int):Bool:=decide (11<=op/\op<=17)
def aO5 (kinds:List Int) (t:Term):Int :=
 if t.op=2∨t.op=3∨t.op=10∨t.op=15 then 2
 else if t.op=4∨t.op=11∨t.op=17 then 3
 else if t.op=5∨t.op=12 then kinds.getD t.arg.toNat 0
 else 1
def ifK (b:Bool) (k:Int):Int:=if b then k else 0
def aGi (op a:Int):Int :=
 if op=19∨op=20∨op=21 then ifK (a==2) 2
 else if op=22 then ifK (a==2) 1
 else if op=23 then ifK (a==2) 3
 else ifK (a==1) 1
def aHx (op a b:Int):Int :=
 if op=35∨op=36 then ifK (a==b&&a != 0) 2
 else if op=41∨op=42 then ifK (a==2&&b==2) 2
 else if 37<=op/\op<=40 then ifK (a==1&&b==1) 2
 else ifK (a==1&&b==1) 1
def aB4 (kinds:List Int):Bool->Ex->Int
 | bound,.leaf t=>if aCw t.op && !bound then 0 else aO5 kinds t
 | bound,.un t a=>aGi t.op (aB4 kinds (bound||aAc t.op) a)
 | bound,.bin t a b=>aHx t.op (aB4 kinds bound a) (aB4 kinds bound b)
 | bound,.tri _ a b c=>ifK (aB4 kinds bound a==2&&aB4 kinds bound b==aB4 kinds bound c) (aB4 kinds bound b)
def ofF (es:List Term) (kinds:List Int) (bound:Bool):Int × Int :=
 if 6<kinds.length then (0,7)
 else if kinds.all aDy=false then (0,7)
 else if aB2 es kinds.length=false then (0,7)
 else if aB4 kinds bound (aAt es)=0 then (0,6)
 else (aB4 kinds bound (aAt es),0)
def aBo (p:Prg):List Int:=p.vars.map Var.kind
open Go.RowKit
def Blk (w:World) (B:Nat) (cs:Array Value) (t:TypeId):Prop:=w.heap[B]?=some (.cells cs t (0,0))
theorem Blk.cell {w:World} {B:Nat} {cs:Array Value} {t:TypeId} (h:Blk w B cs t) (i:Nat) {v:Value} (hv:cs[i]?=some v):w.cell? ⟨B,i,none⟩=some v:=by
 unfold Blk at h;simp [World.cell?,h,hv]
theorem Blk.frozen {w:World} {B:Nat} {cs:Array Value} {t:TypeId} (h:Blk w B cs t) (i:Nat):w.frozen? ⟨B,i,none⟩=false:=by
 unfold Blk at h;simp [World.frozen?,h]
theorem Blk.lt {w:World} {B:Nat} {cs:Array Value} {t:TypeId} (h:Blk w B cs t):B<w.heap.size:=lt_of_block h
theorem Blk.alloc {w:World} {B:Nat} {cs:Array Value} {t:TypeId} (h:Blk w B cs t) (o:Obj):Blk (w.alloc o) B cs t:=by
 unfold Blk at *;rw [Below.heap_alloc _ _ _ (lt_of_block h)];exact h
theorem Blk.new (w:World) (cs:Array Value) (t:TypeId):Blk (w.alloc (.cells cs t (0,0))) w.heap.size cs t:=heap_alloc_new w _
theorem Blk.drew {w:World} {B:Nat} {cs:Array Value} {t:TypeId} (h:Blk w B cs t):Blk w.drew B cs t:=h
theorem Blk.drewN {w:World} {B:Nat} {cs:Array Value} {t:TypeId} (h:Blk w B cs t) (k:Nat):Blk (w.drewN k) B cs t:=h
theorem Blk.set {w:World} {B:Nat} {cs:Array Value} {t:TypeId} (h:Blk w B cs t) (i:Nat) (v:Value):Blk (w.setCell ⟨B,i,none⟩ v) B (cs.setIfInBounds i v) t:=by
 unfold Blk at *;have hlt:=lt_of_block h;have h':w.heap[B] = .cells cs t (0,0):=by simpa [Array.getElem?_eq_getElem hlt] using h
 show (w.heap.modify B _)[B]?=_
 rw [Array.getElem?_eq_getElem (by simpa using hlt),Array.getElem_modify_self,h']
 rfl
theorem Blk.other {w:World} {B:Nat} {cs:Array Value} {t:TypeId} (h:Blk w B cs t) {a:Addr} (ha:B≠a.block) (v:Value):Blk (w.setCell a v) B cs t:=by
 unfold Blk at *;rw [Below.heap_setCell _ _ _ _ ha];exact h
theorem Blk.keep {w w':World} {B:Nat} {cs:Array Value} {t:TypeId} (h:Blk w B cs t) (k:Bel w w'):Blk w' B cs t:=by
 unfold Blk at *;rw [k.block B (lt_of_block h)];exact h
theorem Blk.grown {w w':World} {B:Nat} {cs:Array Value} {t:TypeId} (h:Blk w B cs t) {row:Option Nat} (hg:w.grownBy w' row) (hr:some B≠row):Blk w' B cs t:=by
 unfold Blk at *;rw [hg.block B (lt_of_block h) hr];exact h
theorem Blk.apart {w:World} {B:Nat} {cs:Array Value} {t e:TypeId} {base size n:Nat} {v:Value} {xs:List Value} (h:Blk w B cs t) (ho:w.ownsRow base e size v n xs) (hne:t≠e):some B≠v.ownBlock:=by
 rcases ho.2 with ⟨rfl,_⟩ | ⟨g,cap,cur,rfl,_,hg,_⟩
 .simp [Value.ownBlock]
 .simp only [Value.ownBlock]
  intro he
  injection he with he
  subst he;unfold Blk at h;rw [h] at hg;injection hg with hg
  injection hg with _ ht
  exact hne ht
theorem aRl {w:World} {base base':Nat} {e:TypeId} {size:Nat} {v:Value} {n:Nat} {xs:List Value} (h:w.ownsRow base e size v n xs) (hb:base'<=base):w.ownsRow base' e size v n xs:=by
 refine ⟨h.1,?_⟩
 rcases h.2 with hn | ⟨g,cap,cur,hv,hg,rest⟩
 .exact .inl hn
 .exact .inr ⟨g,cap,cur,hv,Nat.le_trans hb hg,rest⟩
def aIr {α:Type} (size:Nat) (E:World->Nat->Nat->α->Prop) (w:World) (b o:Nat) (xs:List α):Prop :=
 ∃ A c,w.cell? ⟨b,o,none⟩=some (.slice A xs.length c)/\aAf size E w A xs.length xs/\xs.length<=c/\c<=maxLen
theorem aIr.keeps {α:Type} {size:Nat} {E:World->Nat->Nat->α->Prop} (hE:aLv E):aLv (aIr size E):=by
 intro w w' b o x k hb ⟨A,c,h1,h2,h3,h4⟩
 exact ⟨A,c,(k.cell hb).trans h1,h2.keep hE k,h3,h4⟩
def aMa (w:World) (b o:Nat) (l:Link):Prop:=w.cell? ⟨b,o,none⟩=some (.int .i64 l.to)/\w.cell? ⟨b,o+1,none⟩=some (.int .i64 l.weight)
theorem aMa.keeps:aLv aMa:=fun _ _ _ _ _ k hb h=>⟨(k.cell hb).trans h.1,(k.cell hb).trans h.2⟩
def aGj:=aAf 2 aMa
def aF3:=aAf 1 (aIr 2 aMa)
def aPb:=aAf 1 (aIr 1 aHn)
theorem aGj.keep {w w':World} {A:Option Addr} {n:Nat} {xs:List Link} (h:aGj w A n xs) (k:Bel w w'):aGj w' A n xs:=aAf.keep aMa.keeps h k
theorem aF3.keep {w w':World} {A:Option Addr} {n:Nat} {xs:List (List Link)} (h:aF3 w A n xs) (k:Bel w w'):aF3 w' A n xs:=aAf.keep (aIr.keeps aMa.keeps) h k
theorem aPb.keep {w w':World} {A:Option Addr} {n:Nat} {xs:List (List Int)} (h:aPb w A n xs) (k:Bel w w'):aPb w' A n xs:=aAf.keep (aIr.keeps aHn.keeps) h k
theorem aGj.at_ {w:World} {A:Option Addr} {n:Nat} {xs:List Link} (h:aGj w A n xs) (k:Nat) (hk:k<xs.length) :
  ∃ b o,A=some ⟨b,o,none⟩/\b<w.heap.size/\w.cell? ⟨b,o+k*2,none⟩=some (.int .i64 xs[k].to)/\w.cell? ⟨b,o+k*2+1,none⟩=some (.int .i64 xs[k].weight):=aAf.at_ h k hk
theorem RowsAt.at_ {α:Type} {size:Nat} {E:World->Nat->Nat->α->Prop} {w:World} {A:Option Addr} {n:Nat} {xs:List (List α)} (h:aAf 1 (aIr size E) w A n xs) (k:Nat) (hk:k<xs.length) :
  ∃ b o R c,A=some ⟨b,o,none⟩/\b<w.heap.size/\w.cell? ⟨b,o+k,none⟩=some (.slice R xs[k].length c)/\aAf size E w R xs[k].length xs[k]/\xs[k].length<=c/\c<=maxLen:=by
 obtain ⟨b,o,e,hb,R,c,h1,h2,h3,h4⟩:=aAf.at_ h k hk;exact ⟨b,o,R,c,e,hb,by rw [Nat.mul_one] at h1;exact h1,h2,h3,h4⟩
theorem aF3.at_ {w:World} {A:Option Addr} {n:Nat} {xs:List (List Link)} (h:aF3 w A n xs) (k:Nat) (hk:k<xs.length) :
  ∃ b o R c,A=some ⟨b,o,none⟩/\b<w.heap.size/\w.cell? ⟨b,o+k,none⟩=some (.slice R xs[k].length c)/\aGj w R xs[k].length xs[k]/\xs[k].length<=c/\c<=maxLen:=RowsAt.at_ h k hk
theorem aPb.at_ {w:World} {A:Option Addr} {n:Nat} {xs:List (List Int)} (h:aPb w A n xs) (k:Nat) (hk:k<xs.length) :
  ∃ b o R c,A=some ⟨b,o,none⟩/\b<w.heap.size/\w.cell? ⟨b,o+k,none⟩=some (.slice R xs[k].length c)/\aBr w R xs[k].length xs[k]/\xs[k].length<=c/\c<=maxLen:=RowsAt.at_ h k hk
def aAn (w:World) (v:Value) (g:Graph):Prop :=
 ∃ A c A2 c2,v = .agg #[.slice A g.ids.length c,.slice A2 g.ports.length c2]/\aBr w A g.ids.length g.ids/\g.ids.length<=c/\c<=maxLen/\aF3 w A2 g.ports.length g.ports/\g.ports.length<=c2/\c2<=maxLen
theorem aAn.keep {w w':World} {v:Value} {g:Graph} (h:aAn w v g) (k:Bel w w'):aAn w' v g:=by
 obtain ⟨A,c,A2,c2,e,h1,h2,h3,h4,h5,h6⟩:=h;exact ⟨A,c,A2,c2,e,h1.keep k,h2,h3,h4.keep k,h5,h6⟩
def aUm (w:World) (b o:Nat) (x:Var):Prop :=
 w.cell? ⟨b,o,none⟩=some (.string x.name)/\w.cell? ⟨b,o+1,none⟩=some (.int .i64 x.kind)/\w.cell? ⟨b,o+2,none⟩=some (.int .i64 x.lo)/\w.cell? ⟨b,o+3,none⟩=some (.int .i64 x.hi)/\w.cell? ⟨b,o+4,none⟩=some (.int .i64 x.perNode)/\w.cell? ⟨b,o+5,none⟩=some (.int .i64 x.perID)
theorem aUm.keeps:aLv aUm:=fun _ _ _ _ _ k hb h=>⟨(k.cell hb).trans h.1,(k.cell hb).trans h.2.1,(k.cell hb).trans h.2.2.1,(k.cell hb).trans h.2.2.2.1,(k.cell hb).trans h.2.2.2.2.1,(k.cell hb).trans h.2.2.2.2.2⟩
def aHs:=aAf 6 aUm
theorem aHs.keep {w w':World} {A:Option Addr} {n:Nat} {xs:List Var} (h:aHs w A n xs) (k:Bel w w'):aHs w' A n xs:=aAf.keep aUm.keeps h k
theorem aHs.at_ {w:World} {A:Option Addr} {n:Nat} {xs:List Var} (h:aHs w A n xs) (k:Nat) (hk:k<xs.length) :
  ∃ b o,A=some ⟨b,o,none⟩/\b<w.heap.size/\aUm w b (o+k*6) xs[k]:=aAf.at_ h k hk
def aSh (w:World) (b o:Nat) (x:SetT):Prop:=w.cell? ⟨b,o,none⟩=some (.int .i64 x.var)/\aIr 2 aIv w b (o+1) x.value
theorem aSh.keeps:aLv aSh:=fun _ _ _ _ _ k hb h=>⟨(k.cell hb).trans h.1,aIr.keeps aIv.keeps _ _ _ _ _ k hb h.2⟩
def aKm:=aAf 2 aSh
theorem aKm.keep {w w':World} {A:Option Addr} {n:Nat} {xs:List SetT} (h:aKm w A n xs) (k:Bel w w'):aKm w' A n xs:=aAf.keep aSh.keeps h k
theorem aKm.at_ {w:World} {A:Option Addr} {n:Nat} {xs:List SetT} (h:aKm w A n xs) (k:Nat) (hk:k<xs.length) :
  ∃ b o R c,A=some ⟨b,o,none⟩/\b<w.heap.size/\w.cell? ⟨b,o+k*2,none⟩=some (.int .i64 xs[k].var)/\w.cell? ⟨b,o+k*2+1,none⟩=some (.slice R xs[k].value.length c)/\aB0 w R xs[k].value.length xs[k].value/\xs[k].value.length<=c/\c<=maxLen:=by
 obtain ⟨b,o,e,hb,h1,R,c,h2,h3,h4,h5⟩:=aAf.at_ h k hk;exact ⟨b,o,R,c,e,hb,h1,h2,h3,h4,h5⟩
def aQi (w:World) (b o:Nat) (x:Rule):Prop:=w.cell? ⟨b,o,none⟩=some (.string x.name)/\aIr 2 aIv w b (o+1) x.guard/\aIr 2 aSh w b (o+2) x.sets
theorem aQi.keeps:aLv aQi:=fun _ _ _ _ _ k hb h=>⟨(k.cell hb).trans h.1,aIr.keeps aIv.keeps _ _ _ _ _ k hb h.2.1,aIr.keeps aSh.keeps _ _ _ _ _ k hb h.2.2⟩
def aFe:=aAf 3 aQi
theorem aFe.keep {w w':World} {A:Option Addr} {n:Nat} {xs:List Rule} (h:aFe w A n xs) (k:Bel w w'):aFe w' A n xs:=aAf.keep aQi.keeps h k
def aQj (w:World) (v:Value) (r:Rule):Prop :=
 ∃ G c S c2,v = .agg #[.string r.name,.slice G r.guard.length c,.slice S r.sets.length c2]/\aB0 w G r.guard.length r.guard/\r.guard.length<=c/\c<=maxLen/\aKm w S r.sets.length r.sets/\r.sets.length<=c2/\c2<=maxLen
theorem aQj.keep {w w':World} {v:Value} {g:Rule} (h:aQj w v g) (k:Bel w w'):aQj w' v g:=by
 obtain ⟨A,c,A2,c2,e,h1,h2,h3,h4,h5,h6⟩:=h;exact ⟨A,c,A2,c2,e,h1.keep k,h2,h3,h4.keep k,h5,h6⟩
theorem aFe.at_ {w:World} {A:Option Addr} {n:Nat} {xs:List Rule} (h:aFe w A n xs) (k:Nat) (hk:k<xs.length) :
  ∃ b o G c S c2,A=some ⟨b,o,none⟩/\b<w.heap.size/\w.cell? ⟨b,o+k*3,none⟩=some (.string xs[k].name)/\w.cell? ⟨b,o+k*3+1,none⟩=some (.slice G xs[k].guard.length c)/\w.cell? ⟨b,o+k*3+2,none⟩=some (.slice S xs[k].sets.length c2)
   /\ aB0 w G xs[k].guard.length xs[k].guard/\xs[k].guard.length<=c/\c<=maxLen/\aKm w S xs[k].sets.length xs[k].sets/\xs[k].sets.length<=c2/\c2<=maxLen:=by
 obtain ⟨b,o,e,hb,h1,⟨G,c,h2,h3,h4,h5⟩,S,c2,h6,h7,h8,h9⟩:=aAf.at_ h k hk;exact ⟨b,o,G,c,S,c2,e,hb,h1,h2,h6,h3,h4,h5,h7,h8,h9⟩
def aEm (w:World) (v:Value) (p:Prg):Prop :=
 ∃ A c A2 c2,v = .agg #[.string p.name,.slice A p.vars.length c,.slice A2 p.rules.length c2]/\aHs w A p.vars.length p.vars/\p.vars.length<=c/\c<=maxLen/\aFe w A2 p.rules.length p.rules/\p.rules.length<=c2/\c2<=maxLen
theorem aEm.keep {w w':World} {v:Value} {p:Prg} (h:aEm w v p) (k:Bel w w'):aEm w' v p:=by
 obtain ⟨A,c,A2,c2,e,h1,h2,h3,h4,h5,h6⟩:=h;exact ⟨A,c,A2,c2,e,h1.keep k,h2,h3,h4.keep k,h5,h6⟩
def aAy (w:World) (v:Value) (c:aA7):Prop:=∃ A k,v = .slice A c.length k/\aPb w A c.length c/\c.length<=k/\k<=maxLen
theorem aAy.keep {w w':World} {v:Value} {c:aA7} (h:aAy w v c) (k:Bel w w'):aAy w' v c:=by
 obtain ⟨A,n,e,h1,h2,h3⟩:=h;exact ⟨A,n,e,h1.keep k,h2,h3⟩
theorem aAb {α:Type} {f:α->Bool} {l:List α} {k:Nat} (h:k<l.length) (ha:(l.take k).all f=true) (hk:f l[k]=true):(l.take (k+1)).all f=true:=by
 rw [List.take_succ_eq_append_getElem h,List.all_append,ha];simp [hk]
theorem aAo {α:Type} {f:α->Bool} {l:List α} {k:Nat} (h:k<l.length) (hk:f l[k]=false):l.all f=false:=by
 rw [List.all_eq_false];exact ⟨l[k],List.getElem_mem h,by simp [hk]⟩
theorem aAq {α:Type} {f:α->Bool} {l:List α} {k:Nat} (h:l.length<=k) (ha:(l.take k).all f=true):l.all f=true:=by rwa [List.take_of_length_le h] at ha
def aBl (c:aA7):Bool:=decide (c.length<=30)&&c.all fun r=>decide (r.length<=10)
theorem aFn (v:Value) (c:aA7) (w:World) (h:aAy w v c) :
  Calls prog 31 #[v] w fun e w'=>e = .returned (.bool (aBl c))/\w=w':=by
 obtain ⟨A,k,rfl,hr,_,_⟩:=h;have H:=aA0 hr;clear hr
 by_cases hl:c.length<=30
 .go_enter func31,ntmps31
  go_wp2
  go_loopg [3] c.length (fun g i wr=>∃ j:Nat,j<=c.length/\g=c.length-j/\Hid ((c.take j).all (fun r=>decide (r.length<=10))=true)/\i = .int .i64 j/\w=wr)
  case atStart=>exact ⟨0,by omega,rfl,rfl,rfl,rfl⟩
  case round =>
   obtain ⟨j,hj,rfl,HK,rfl,rfl⟩:=hrel
   by_cases hlt:j<c.length
   .obtain ⟨b,o,R,c1,rfl,hb,hc1,_,_,_⟩:=H.out.at_ j hlt
    go_wp2
    .go_ret
     exact ⟨aA2 (by unfold aBl;rw [aAo hlt (by simp;omega)];simp),rfl⟩
    .go_roundg (c.length-(j+1))
     case rel=>exact ⟨j+1,by omega,rfl,aAb hlt HK.out (by simp;omega),by go_num,rfl⟩
     case measure=>omega
   .go_wp2
    go_ret;exact ⟨aA2 (by unfold aBl;rw [aAq (by omega) HK.out];simp [hl]),rfl⟩
 .go_enter func31,ntmps31
  go_wp2;go_ret;exact ⟨aA2 (by unfold aBl;simp [hl]),rfl⟩
def aB3 (g:Graph):Bool:=decide (g.ids.length<=30)&&decide (g.ports.length<=30)&&g.ports.all fun r=>decide (r.length<=30)
theorem aJ1 (v:Value) (g:Graph) (w:World) (h:aAn w v g) :
  Calls prog 57 #[v] w fun e w'=>e = .returned (.bool (aB3 g))/\Bel w w':=by
 obtain ⟨A,k,A2,k2,rfl,_,_,_,hr,_,_⟩:=h;have H:=aA0 hr;clear hr
 by_cases hl:g.ids.length<=30/\g.ports.length<=30
 .obtain ⟨hl1,hl2⟩:=hl
  go_enter func57,ntmps57;go_wp2
  go_loopg [3] g.ports.length (fun m i wr=>∃ j:Nat,j<=g.ports.length/\m=g.ports.length-j/\Hid ((g.ports.take j).all (fun r=>decide (r.length<=30))=true)/\i = .int .i64 j/\w.alloc (.cells #[.slice A g.ids.length k,.slice A2 g.ports.length k2] 29)=wr)
  case atStart=>exact ⟨0,by omega,rfl,rfl,rfl,rfl⟩
  case round =>
   obtain ⟨j,hj,rfl,HK,rfl,rfl⟩:=hrel
   by_cases hlt:j<g.ports.length
   .obtain ⟨b,o,R,c1,rfl,hb,hc1,_,_,_⟩:=H.out.at_ j hlt
    go_wp2
    .go_ret
     exact ⟨aA2 (by unfold aB3;rw [aAo hlt (by simp;omega)];simp),(Bel.refl _).alloc _⟩
    .go_roundg (g.ports.length-(j+1))
     case rel=>exact ⟨j+1,by omega,rfl,aAb hlt HK.out (by simp;omega),by go_num,rfl⟩
     case measure=>omega
   .go_wp2
    go_ret;exact ⟨aA2 (by unfold aB3;rw [aAq (by omega) HK.out];simp [hl1,hl2]),(Bel.refl _).alloc _⟩
 .have hf:Hid (aB3 g=false):=by
   show aB3 g=false
   unfold aB3;rw [Bool.eq_false_iff];intro h;simp at h;omega
  by_cases h1:30<g.ids.length
  .go_enter func57,ntmps57
   go_wp2;go_ret;exact ⟨aA2 hf.out.symm,(Bel.refl _).alloc _⟩
  .have h2:30<g.ports.length:=by omega
   clear hl;go_enter func57,ntmps57;go_wp2;go_ret;exact ⟨aA2 hf.out.symm,(Bel.refl _).alloc _⟩
def aDl (g:Graph):Nat:=(g.ports.map List.length).foldl max 1
theorem aPs (l:List Nat) (a b:Nat) (ha:a<=b) (h:∀ x∈l,x<=b):l.foldl max a<=b:=by
 induction l generalizing a with
 | nil=>exact ha
 | cons x l ih=>exact ih _ (Nat.max_le.2 ⟨ha,h x (by simp)⟩) (fun y hy=>h y (by simp [hy]))
theorem aPr (l:List Nat) (a:Nat):a<=l.foldl max a:=by
 induction l generalizing a with
 | nil=>exact Nat.le_refl _
 | cons x l ih=>exact Nat.le_trans (Nat.le_max_left a x) (ih _)
theorem aZ6 (a b:Nat):∃ m:Nat,(if a<b then (b:Int) else (a:Int))=(m:Int)/\m=max a b:=⟨max a b,by split <;> omega,rfl⟩
theorem aMl (v:Value) (g:Graph) (w:World) (h:aAn w v g) :
  Calls prog 33 #[v] w fun e w'=>e = .returned (.int .i64 (aDl g:Nat))/\Bel w w':=by
 obtain ⟨A,k,A2,k2,rfl,_,_,_,hr,_,hm⟩:=h;have hmx:g.ports.length<=9223372036854775807:=by unfold maxLen at hm;omega
 have H:=aA0 hr;clear hr;go_enter func33,ntmps33;go_wp2
 go_loopg [3,4] g.ports.length (fun m d i wr=>∃ j:Nat,j<=g.ports.length/\m=g.ports.length-j/\d = .int .i64 ((((g.ports.take j).map List.length).foldl max 1:Nat):Int)/\i = .int .i64 j/\w.alloc (.cells #[.slice A g.ids.length k,.slice A2 g.ports.length k2] 29)=wr)
 case atStart=>exact ⟨0,by omega,rfl,rfl,rfl,rfl⟩
 case round =>
  obtain ⟨j,hj,rfl,rfl,rfl,rfl⟩:=hrel
  by_cases hlt:j<g.ports.length
  .obtain ⟨b,o,R,c1,rfl,hb,hc1,_,_,_⟩:=H.out.at_ j hlt
   have hs:((g.ports.take (j+1)).map List.length).foldl max 1=max (((g.ports.take j).map List.length).foldl max 1) g.ports[j].length:=by
    rw [List.take_succ_eq_append_getElem hlt,List.map_append,List.foldl_append];rfl
   have HS:=aA0 hs;clear hs;generalize ((g.ports.take j).map List.length).foldl max 1=D at *;obtain ⟨m,hm1,hm2⟩:=aZ6 D g.ports[j].length;have HM:=aA0 hm2;clear hm2;go_wp2
   go_roundg (g.ports.length-(j+1))
   case rel=>exact ⟨j+1,by omega,rfl,by rw [HS.out,<- HM.out],by go_num,rfl⟩
   case measure=>omega
  .go_wp2
   go_ret;exact ⟨aA5 (by unfold aDl;rw [List.take_of_length_le (by omega)]),(Bel.refl _).alloc _⟩
theorem aA9 {w wr:World} {cs:Array Value} {t:TypeId} (h:Bel (w.alloc (.cells cs t)) wr) (i:Nat) {v:Value} (hv:cs[i]?=some v):wr.cell? ⟨w.heap.size,i,none⟩=some v :=
 (h.cell (by simp)).trans ((Blk.new w cs t).cell i hv)
theorem aAx {w wr:World} {cs:Array Value} {t:TypeId} (h:Bel (w.alloc (.cells cs t)) wr):w.heap.size<wr.heap.size:=by
 have:=h.size;simp at this;omega
theorem aA4 {w wr:World} {o:Obj} (h:Bel (w.alloc o) wr):Bel w wr:=((Bel.refl w).alloc o).trans h
theorem box2 {w wr:World} {cs ds:Array Value} {t u:TypeId} (h:Bel ((w.alloc (.cells cs t)).alloc (.cells ds u)) wr) :
  (∀ i v,cs[i]?=some v->wr.cell? ⟨w.heap.size,i,none⟩=some v)/\(∀ i v,ds[i]?=some v->wr.cell? ⟨w.heap.size+1,i,none⟩=some v)/\w.heap.size+1<wr.heap.size:=by
 refine ⟨fun i v hv=>?_,fun i v hv=>?_,?_⟩
 .exact (h.cell (by simp;omega)).trans (((Blk.new w cs t).alloc _).cell i hv)
 .have:=aA9 h i hv
  simpa using this
 .have:=aAx h
  simpa using this
theorem aAi {w wr:World} {a b c d e:Value} {t u:TypeId} (h:Bel ((w.alloc (.cells #[a,b,c] t)).alloc (.cells #[d,e] u)) wr) :
  wr.cell? ⟨w.heap.size,0,none⟩=some a/\wr.cell? ⟨w.heap.size,1,none⟩=some b/\wr.cell? ⟨w.heap.size,2,none⟩=some c/\wr.cell? ⟨w.heap.size+1,0,none⟩=some d/\wr.cell? ⟨w.heap.size+1,1,none⟩=some e/\w.heap.size+1<wr.heap.size:=by
 obtain ⟨h1,h2,h3⟩:=box2 h;exact ⟨h1 0 _ rfl,h1 1 _ rfl,h1 2 _ rfl,h2 0 _ rfl,h2 1 _ rfl,h3⟩
theorem aA1 {w wr:World} {o o2:Obj} (h:Bel ((w.alloc o).alloc o2) wr):Bel w wr:=aA4 (aA4 h)
def aF4 (r:Rule):Bool:=decide (r.name.size<=40)&&decide (r.sets.length<=10)&&decide (r.guard.length<=250)&&r.sets.all fun s=>decide (s.value.length<=250)
def aAw (p:Prg):Bool:=decide (p.name.size<=40)&&decide (p.vars.length<=10)&&decide (p.rules.length<=16)&&p.vars.all (fun x=>decide (x.name.size<=40))&&p.rules.all aF4
theorem aF1 (v:Value) (p:Prg) (w:World) (h:aEm w v p) :
  Calls prog 56 #[v] w fun e w'=>e = .returned (.bool (aAw p))/\Bel w w':=by
 obtain ⟨A,k,A2,k2,rfl,hv,_,_,hr,_,_⟩:=h;have HV:=aA0 hv;clear hv;have HR:=aA0 (fun w' (k:Bel w w')=>hr.keep k);clear hr
 by_cases hl:p.name.size<=40/\p.vars.length<=10/\p.rules.length<=16
 .obtain ⟨hl1,hl2,hl3⟩:=hl
  go_enter func56,ntmps56;go_wp2
  go_loopg [3] p.vars.length (fun m i wr=>∃ j:Nat,j<=p.vars.length/\m=p.vars.length-j/\Hid ((p.vars.take j).all (fun x=>decide (x.name.size<=40))=true)/\i = .int .i64 j/\w.alloc (.cells #[.string p.name,.slice A p.vars.length k,.slice A2 p.rules.length k2] 25)=wr)
  case atStart=>exact ⟨0,by omega,rfl,rfl,rfl,rfl⟩
  case round =>
   obtain ⟨j,hj,rfl,HK,rfl,rfl⟩:=hrel
   by_cases hlt:j<p.vars.length
   .obtain ⟨b,o,rfl,hb,hc1,_⟩:=HV.out.at_ j hlt
    go_wp2
    .go_ret
     exact ⟨aA2 (by unfold aAw;rw [aAo hlt (by simp;omega)];simp),(Bel.refl _).alloc _⟩
    .go_roundg (p.vars.length-(j+1))
     case rel=>exact ⟨j+1,by omega,rfl,aAb hlt HK.out (by simp;omega),by go_num,rfl⟩
     case measure=>omega
   .have HVA:=aA0 (aAq (by omega) HK.out);clear HK HV
    go_wp2
    go_loopg [4] p.rules.length (fun m i wr=>∃ j:Nat,j<=p.rules.length/\m=p.rules.length-j/\Hid ((p.rules.take j).all aF4=true)/\i = .int .i64 j/\Bel (w.alloc (.cells #[.string p.name,.slice A p.vars.length k,.slice A2 p.rules.length k2] 25)) wr)
    case atStart=>exact ⟨0,by omega,rfl,rfl,rfl,Bel.refl _⟩
    case round =>
     obtain ⟨i,hi,rfl,HK,rfl,HB⟩:=hrel;have b1:=aA9 HB 2 rfl;have b0:=aAx HB
     by_cases hlt:i<p.rules.length
     .obtain ⟨b,o,G,c,S,c2,rfl,hb,hc1,hc2,hc3,_,_,_,hS,_,_⟩:=(HR.out _ (aA4 HB)).at_ i hlt
      have HS:=aA0 hS;clear hS;have HB2:=HB.alloc (.cells #[.string p.rules[i].name,.slice G p.rules[i].guard.length c,.slice S p.rules[i].sets.length c2] 93)
      by_cases hl:p.rules[i].name.size<=40/\p.rules[i].sets.length<=10/\p.rules[i].guard.length<=250
      .obtain ⟨hq1,hq2,hq3⟩:=hl
       have hd3:decide (p.rules[i].guard.length<=250)=true:=by simpa using hq3
       go_wp2_with (go_at_call 80;refine (aI0 _ _ _ _).mono ?_;rintro e w' ⟨rfl,rfl⟩)
       go_loopg [6] p.rules[i].sets.length (fun m x ws=>∃ j:Nat,j<=p.rules[i].sets.length/\m=p.rules[i].sets.length-j/\Hid ((p.rules[i].sets.take j).all (fun s=>decide (s.value.length<=250))=true)/\x = .int .i64 j/\wr.alloc (.cells #[.string p.rules[i].name,.slice G p.rules[i].guard.length c,.slice S p.rules[i].sets.length c2] 93)=ws)
       case atStart=>exact ⟨0,by omega,rfl,rfl,rfl,rfl⟩
       case round =>
        obtain ⟨q,hq,rfl,HQ,rfl,rfl⟩:=hrel
        by_cases hlt2:q<p.rules[i].sets.length
        .obtain ⟨b',o',R,c',rfl,hb',hs1,hs2,_,_,_⟩:=HS.out.at_ q hlt2
         by_cases hle:p.rules[i].sets[q].value.length<=250
         .have hd4:decide (p.rules[i].sets[q].value.length<=250)=true:=by simpa using hle
          go_wp2_with (go_at_call 80;refine (aI0 _ _ _ _).mono ?_;rintro e w' ⟨rfl,rfl⟩)
          go_roundg (p.rules[i].sets.length-(q+1))
          case rel=>exact ⟨q+1,by omega,rfl,aAb hlt2 HQ.out (by simp;omega),by go_num,rfl⟩
          case measure=>omega
         .have hd4:decide (p.rules[i].sets[q].value.length<=250)=false:=by simpa using hle
          go_wp2_with (go_at_call 80;refine (aI0 _ _ _ _).mono ?_;rintro e w' ⟨rfl,rfl⟩)
          go_ret;exact ⟨aA2 (by unfold aAw;rw [aAo hlt (by unfold aF4;rw [aAo hlt2 hd4];simp)];simp),aA4 HB2⟩
        .go_wp2
         go_roundg (p.rules.length-(i+1))
         case rel=>exact ⟨i+1,by omega,rfl,aAb hlt HK.out (by unfold aF4;rw [aAq (by omega) HQ.out];simp [hq1,hq2,hq3]),by go_num,HB2⟩
         case measure=>omega
      .have hf:Hid (aAw p=false):=by
        show aAw p=false
        unfold aAw;rw [aAo hlt (by unfold aF4;rw [Bool.eq_false_iff];intro h;simp at h;omega)];simp
       by_cases hq:250<p.rules[i].guard.length
       .have hd3:decide (p.rules[i].guard.length<=250)=false:=by simpa using hq
        go_wp2_with (go_at_call 80;refine (aI0 _ _ _ _).mono ?_;rintro e w' ⟨rfl,rfl⟩)
        all_goals (go_ret;exact ⟨aA2 hf.out.symm,aA4 HB2⟩)
       .have hd3:decide (p.rules[i].guard.length<=250)=true:=by simpa using hq
        go_wp2_with (go_at_call 80;refine (aI0 _ _ _ _).mono ?_;rintro e w' ⟨rfl,rfl⟩)
        all_goals first
         | (go_ret;exact ⟨aA2 hf.out.symm,aA4 HB2⟩)
         | omega
     .go_wp2
      go_ret;exact ⟨aA2 (by unfold aAw;rw [HVA.out,aAq (by omega) HK.out];simp [hl1,hl2,hl3]),aA4 HB⟩
 .have hf:Hid (aAw p=false):=by
   show aAw p=false
   unfold aAw;rw [Bool.eq_false_iff];intro h;simp at h;omega
  go_enter func56,ntmps56;go_wp2
  all_goals first
   | (go_ret;exact ⟨aA2 hf.out.symm,(Bel.refl _).alloc _⟩)
   | omega
end Go.Proofs.YtdcjnhoabbdanaaGreatDoor

