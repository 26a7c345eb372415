/- Merged. -/
import Derived.Test.YtmoebklkkjbigaaGreatDoorZ10
import Derived.DeepKeys4
import Derived.Maps.RangeWalk
set_option linter.unusedSimpArgs false
set_option linter.unnecessarySimpa false
set_option linter.unusedVariables false
set_option maxRecDepth 100000
open Go.Proofs.Tryz

namespace Go.Proofs.YtmoebklkkjbigaaGreatDoor
def aEu (g:Graph) (c:aA3) (v:Nat) (e:List Term):Bool:=aBd g c v (-1) (aB9 e) != 0
def aAm (rs:List Rule) (g:Graph) (c:aA3) (v:Nat):Int:=match rs.findIdx? (fun r=>aEu g c v r.guard) with | some i=>(i:Int) | none => -1
theorem aXe {rs:List Rule} {g:Graph} {c:aA3} {v j:Nat} (h:j<rs.length) (ha:(rs.take j).all (fun r => !(aEu g c v r.guard))=true) (hj:aEu g c v rs[j].guard=true):aAm rs g c v=(j:Int):=by
 unfold aAm
 have:rs.findIdx? (fun r=>aEu g c v r.guard)=some j:=by
  rw [List.findIdx?_eq_some_iff_getElem];refine ⟨h,hj,fun k hk=>?_⟩
  have:=List.all_eq_true.1 ha rs[k] (by rw [List.mem_take_iff_getElem];exact ⟨k,by omega,rfl⟩)
  simpa using this
 rw [this]
theorem bAa {rs:List Rule} {g:Graph} {c:aA3} {v:Nat} (ha:rs.all (fun r => !(aEu g c v r.guard))=true):aAm rs g c v = -1:=by
 unfold aAm
 have:rs.findIdx? (fun r=>aEu g c v r.guard)=none:=by
  rw [List.findIdx?_eq_none_iff];intro x hx
  have:=List.all_eq_true.1 ha x hx;simpa using this
 rw [this]
theorem aOv (rs:List Rule) (g:Graph) (c:aA3) (v:Nat) :
  (aAm rs g c v = -1/\∀ r∈rs,aEu g c v r.guard=false) ∨
  ∃ k:Nat,∃ hk:k<rs.length,aAm rs g c v=(k:Int)/\aEu g c v rs[k].guard=true/\∀ i (hi:i<k),aEu g c v rs[i].guard=false:=by
 unfold aAm;cases hf:rs.findIdx? (fun r=>aEu g c v r.guard) with
 | none =>
  left
  rw [List.findIdx?_eq_none_iff] at hf;exact ⟨rfl,fun r hr=>by simpa using hf r hr⟩
 | some k =>
  right
  rw [List.findIdx?_eq_some_iff_getElem] at hf;obtain ⟨hk,h1,h2⟩:=hf;exact ⟨k,hk,rfl,h1,fun i hi=>by simpa using h2 i hi⟩
theorem aOw (rs:List Rule) (g:Graph) (c:aA3) (v:Nat) : -1<=aAm rs g c v/\aAm rs g c v<rs.length:=by
 rcases aOv rs g c v with ⟨h,_⟩ | ⟨k,hk,h,_⟩ <;> omega
def aIq (kind:Int) (b:Int × Int) (x:Int):Int:=if b.1<=x/\x<=b.2 then x else if kind=3 then -1 else if x<b.1 then b.1 else b.2
def bGh (p:Prg) (x:Int):Var:=p.vars.getD x.toNat default
def aJv (p:Prg) (g:Graph) (c:aA3) (v:Nat) (t:SetT):Int:=aIq (bGh p t.var).kind (aAw (bGh p t.var) g v) (aBd g c v (-1) (aB9 t.value))
def aDx (p:Prg) (g:Graph) (c:aA3) (v:Nat) (l:List SetT):List Int:=l.foldl (fun s t=>s.set t.var.toNat (aJv p g c v t)) (c.getD v [])
def bDb (p:Prg) (k:Int):Rule:=p.rules.getD k.toNat default
def aHh (p:Prg) (g:Graph) (c:aA3) (v:Nat):List Int:=aDx p g c v (bDb p (aAm p.rules g c v)).sets
def aAe (p:Prg) (g:Graph) (c:aA3):Nat:=aHv c.length fun v=>decide (0<=aAm p.rules g c v)
def aAf (p:Prg) (g:Graph) (c:aA3) (S:Nat):aA3:=(List.range c.length).map fun v=>if S.testBit v then aHh p g c v else c.getD v []
def bDm (p:Prg) (g:Graph) (c:aA3) (S:Nat):aA3 × Int :=
 if aC4 p g c≠0 then ([],aC4 p g c) else if S=0∨aBj S (aAe p g c)=false then ([],11) else (aAf p g c S,0)
theorem aUy (p:Prg) (g:Graph) (c:aA3) (v:Nat) (l:List SetT):(aDx p g c v l).length=(c.getD v []).length:=by
 unfold aDx
 suffices ∀ s:List Int,(l.foldl (fun s t=>s.set t.var.toNat (aJv p g c v t)) s).length=s.length from this _
 induction l with
 | nil=>intro s;rfl
 | cons t l ih=>intro s;rw [List.foldl_cons,ih];simp
theorem bAs (p:Prg) (g:Graph) (c:aA3) (v:Nat) (l:List SetT) (j:Nat) (h:j<l.length):aDx p g c v (l.take (j+1))=(aDx p g c v (l.take j)).set l[j].var.toNat (aJv p g c v l[j]):=by
 unfold aDx;rw [List.take_succ_eq_append_getElem h,List.foldl_append];rfl
theorem aLg {p:Prg} {g:Graph} (hf:aCw p g=0) {x:Var} (hx:x∈p.vars) (v:Nat):(aAw x g v).1<=(aAw x g v).2/\(x.kind=3->(aAw x g v).1 = -1):=by
 obtain ⟨h1,h2,h3⟩:=aAt hf;have h4:=List.all_eq_true.1 h3 x hx;have h5:=aGe (List.all_eq_true.1 (aCj h1).1 x hx);unfold aNp at h4;have h4:=of_decide_eq_true h4;unfold aAw at h4 ⊢
 rcases h5 with h | h | h
 .rw [if_pos h.1];simp;omega
 .rw [if_neg (by omega),if_pos h.1];simp;omega
 .have hk:=h.1
  rw [if_neg (by omega),if_neg (by omega)] at h4 ⊢
  dsimp only at h4 ⊢;omega
theorem aWn {kind:Int} {b:Int × Int} (h:b.1<=b.2) (hk:kind=3->b.1 = -1) (x:Int):b.1<=aIq kind b x/\aIq kind b x<=b.2:=by
 unfold aIq;split
 .assumption
 split
 .have:=hk (by assumption);omega
 split <;> omega
theorem bDf {p:Prg} (hc:aC6 p=0) {r:Rule} (hr:r∈p.rules) {s:SetT} (hs:s∈r.sets):(aB9 s.value).ok/\(aB9 s.value).terms=s.value/\(∀ t∈s.value,aM3 t p.vars.length=true)/\aC2 false (aB9 s.value)/\0<=s.var/\s.var<=(p.vars.length:Int)-1:=by
 obtain ⟨h1,_,h3,_,_,h6,h7⟩:=aCj hc;obtain ⟨hv,hval⟩:=(h6 r hr).sets s hs;obtain ⟨t1,t2,_,t4,_,_⟩:=aK1 hval;refine ⟨t1,t2,t4,aSw (kinds:=aDp p) (b:=false) ?_,hv.1,hv.2⟩
 have h8:=h7 r hr;unfold aFg at h8;simp only [Bool.and_eq_true,List.all_eq_true,beq_iff_eq] at h8
 rw [h8.2 s hs];obtain ⟨x,hx⟩:=Int.eq_ofNat_of_zero_le hv.1;rw [hx,Int.toNat_natCast,aA8 (by rw [aF2];omega)]
 have:=aR0 h1;have hk:=List.all_eq_true.1 this _ (List.getElem_mem (show x<(aDp p).length by rw [aF2];omega))
 unfold aH1 at hk;simp at hk
 omega
theorem aMb {p:Prg} {g:Graph} {c:aA3} (hm:aC4 p g c=0) {v:Nat} (hv:v<c.length):aFz (aJ3 p g v) (c.getD v [])=true:=by
 obtain ⟨_,h2⟩:=aBy hm;obtain ⟨h3,h4⟩:=aDe.1 h2;have:=h4 v hv (by omega)
 rw [aJy] at this
 rwa [aA8 hv]
theorem aP1 {p:Prg} {g:Graph} {c d:aA3} (hm:aC4 p g c=0) (hl:d.length=c.length) (h:∀ v,v<d.length->aFz (aJ3 p g v) (d.getD v [])=true):aC4 p g d=0:=by
 obtain ⟨h1,h2⟩:=aBy hm
 have h3:aNj (aAb p g) d=true:=by
  rw [aDe];refine ⟨by rw [hl];exact (aDe.1 h2).1,fun v a b=>?_⟩
  rw [aJy];have:=h v a
  rwa [aA8 a] at this
 unfold aC4;rw [if_neg (by simpa using h1),h3];simp
theorem aBx {p:Prg} {g:Graph} {c:aA3} (hm:aC4 p g c=0):c.length=g.ports.length:=by
 obtain ⟨h1,h2⟩:=aBy hm;rw [(aDe.1 h2).1,aAr,(aAt h1).2.1.ids]
theorem bOi {p:Prg} {g:Graph} {c:aA3} (hm:aC4 p g c=0) {v:Nat} (hv:v<c.length):(c.getD v []).length=p.vars.length:=by
 rw [(aCz.1 (aMb hm hv)).1,aE1]
theorem bMt {p:Prg} {x:Int} (h0:0<=x) (h1:x<=(p.vars.length:Int)-1):∃ i:Nat,∃ hi:i<p.vars.length,x=(i:Int)/\x.toNat=i/\bGh p x=p.vars[i]:=by
 obtain ⟨i,rfl⟩:=Int.eq_ofNat_of_zero_le h0;exact ⟨i,by omega,rfl,Int.toNat_natCast i,by unfold bGh;rw [Int.toNat_natCast];exact aA8 (by omega)⟩
theorem bAt {p:Prg} {g:Graph} {c:aA3} (hm:aC4 p g c=0) {v:Nat} (hv:v<c.length) {l:List SetT} (hl:∀ s∈l,0<=s.var/\s.var<=(p.vars.length:Int)-1):aFz (aJ3 p g v) (aDx p g c v l)=true:=by
 have hf:=(aBy hm).1;unfold aDx
 suffices ∀ s:List Int,aFz (aJ3 p g v) s=true->aFz (aJ3 p g v) (l.foldl (fun s t=>s.set t.var.toNat (aJv p g c v t)) s)=true from this _ (aMb hm hv)
 induction l with
 | nil=>intro s h;exact h
 | cons t l ih =>
  intro s h
  rw [List.foldl_cons];refine ih (fun s hs=>hl s (by simp [hs])) _ ?_
  obtain ⟨h0,h1⟩:=hl t (by simp)
  obtain ⟨i,hi,_,ei,ev⟩:=bMt h0 h1;rw [ei];obtain ⟨a1,a2⟩:=aCz.1 h;rw [aCz];refine ⟨by simpa using a1,fun k b1 b2=>?_⟩
  by_cases hk:i=k
  .subst hk
   rw [List.getElem_set_self,bBh];unfold aJv;rw [ev];obtain ⟨q1,q2⟩:=aLg hf (List.getElem_mem hi) v;exact aWn q1 q2 _
  .rw [List.getElem_set_ne hk]
   exact a2 k (by simpa using b1) b2
theorem bJh {p:Prg} (hc:aC6 p=0) {k:Nat} (hk:k<p.rules.length):∀ s∈p.rules[k].sets,0<=s.var/\s.var<=(p.vars.length:Int)-1:=fun s hs=>by
 obtain ⟨_,_,_,_,h5,h6⟩:=bDf hc (List.getElem_mem hk) hs;exact ⟨h5,h6⟩
theorem aRq {p:Prg} {k:Nat} (hk:k<p.rules.length):bDb p (k:Int)=p.rules[k]:=by
 unfold bDb;rw [Int.toNat_natCast];exact aA8 hk
theorem aSz {p:Prg} {g:Graph} {c:aA3} (hm:aC4 p g c=0) {v:Nat} (hv:v<c.length) (hen:0<=aAm p.rules g c v):aFz (aJ3 p g v) (aHh p g c v)=true:=by
 rcases aOv p.rules g c v with ⟨h,_⟩ | ⟨k,hk,h,_⟩
 .omega
 .unfold aHh
  rw [h,aRq hk];exact bAt hm hv (bJh (aAt (aBy hm).1).1 hk)
theorem aDb (p:Prg) (g:Graph) (c:aA3) (S:Nat):(aAf p g c S).length=c.length:=by simp [aAf]
theorem aN7 (p:Prg) (g:Graph) (c:aA3) (S:Nat) {v:Nat} (hv:v<c.length):(aAf p g c S).getD v []=if S.testBit v then aHh p g c v else c.getD v []:=by
 rw [aA8 (by rw [aDb];exact hv)]
 simp [aAf]
theorem aDs {p:Prg} {g:Graph} {c:aA3} {v:Nat}:(aAe p g c).testBit v=(decide (v<c.length)&&decide (0<=aAm p.rules g c v)):=aIg _ _ _
theorem aKn {p:Prg} {g:Graph} {c:aA3} (hm:aC4 p g c=0) {S:Nat} (hS:∀ v,v<c.length->S.testBit v=true->0<=aAm p.rules g c v):aC4 p g (aAf p g c S)=0:=by
 refine aP1 hm (aDb _ _ _ _) fun v hv=>?_
 rw [aDb] at hv;rw [aN7 p g c S hv];cases hb:S.testBit v with
 | true=>exact aSz hm hv (hS v hv hb)
 | false=>exact aMb hm hv
def aZh (ls:List Link):Nat:=ls.foldl (fun s l=>s|||2 ^ l.to.toNat) 0
def aP2 (g:Graph) (v:Nat):Nat:=aZh (g.ports.getD v [])
theorem bIi (ls:List Link) (l:Link):aZh (ls++[l])=aZh ls|||2 ^ l.to.toNat:=by unfold aZh;rw [List.foldl_append];rfl
theorem aUz (ls:List Link) (u:Nat):∀ s:Nat,(ls.foldl (fun s l=>s|||2 ^ l.to.toNat) s).testBit u=(s.testBit u||ls.any fun l=>l.to.toNat==u):=by
 induction ls with
 | nil=>intro s;simp
 | cons l ls ih =>
  intro s
  rw [List.foldl_cons,ih,Nat.testBit_or,aIl,List.any_cons,Bool.or_assoc];rfl
theorem bCw (ls:List Link) (u:Nat):(aZh ls).testBit u=ls.any fun l=>l.to.toNat==u:=by
 unfold aZh;rw [aUz,Nat.zero_testBit,Bool.false_or]
theorem bIh {ls:List Link} (h:∀ l∈ls,l.to.toNat<32):aZh ls<4294967296:=by
 apply Nat.lt_pow_two_of_testBit (n:=32)
 intro i hi
 rw [bCw,List.any_eq_false];intro l hl
 have:=h l hl;simp;omega
theorem aUn {g:Graph} (hg:GOK g) {v:Nat} (hv:v<g.ports.length) {l:Link} (hl:l∈g.ports[v]):0<=l.to/\l.to<(g.ports.length:Int):=by
 obtain ⟨a1,a2,_⟩:=aBg.1 ((aBa.1 (hg.links v hv)).1 l hl);exact ⟨a1,a2⟩
theorem bAy {g:Graph} (hg:GOK g) (v:Nat):aP2 g v<4294967296:=by
 unfold aP2
 by_cases hv:v<g.ports.length
 .rw [aA8 hv]
  refine bIh fun l hl=>?_
  have:=aUn hg hv hl;have:=hg.le;omega
 .rw [List.getD_eq_getElem?_getD,List.getElem?_eq_none (by omega)];decide
theorem aKh {g:Graph} {v u:Nat} (hv:v<g.ports.length):(aP2 g v).testBit u=true↔∃ l∈g.ports[v],l.to.toNat=u:=by
 unfold aP2;rw [aA8 hv,bCw,List.any_eq_true];simp
theorem aOr {A B:Nat}:A&&&B=0↔∀ u,A.testBit u=true->B.testBit u=false:=by
 constructor
 .intro h u hA
  have:=Nat.testBit_and A B u;rw [h,Nat.zero_testBit,hA,Bool.true_and] at this;exact this.symm
 .intro h
  refine Nat.eq_of_testBit_eq fun u=>?_
  rw [Nat.testBit_and,Nat.zero_testBit];cases hA:A.testBit u with
  | false=>rfl
  | true=>rw [h u hA];rfl
def aL0 (g:Graph) (S:Nat):Bool:=(aAd S).all fun v=>aP2 g v&&&S==0
theorem bGj {S n:Nat} (hn:n<=32) (hS:S<4294967296):aBj S (aHv n fun _=>true)=true↔∀ v,S.testBit v=true->v<n:=by
 rw [aAi];constructor
 .intro h v hv
  have:=h v (aIp hS hv) hv;rw [aIg] at this;simpa using this
 .intro h v _ hv
  rw [aIg,decide_eq_true (h v hv)];rfl
theorem aKd {g:Graph} {S:Nat} (hS:S<4294967296):aL0 g S=true↔∀ v,S.testBit v=true->aP2 g v&&&S=0:=by
 unfold aL0;rw [List.all_eq_true];constructor
 .intro h v hv
  have:=h v (aC8.2 ⟨aIp hS hv,hv⟩);simpa using this
 .intro h v hv
  simpa using h v (aC8.1 hv).2
def aAk (g:Graph) (kind:Int) (E S:Nat):Bool :=
 if S=0 then false else if aBj S E=false then false
 else if kind=1 then (S&&&(S-1))==0
 else if kind=2 then aL0 g S
 else if kind=4 then S==E
 else true
def aB0 (g:Graph) (kind:Int) (E:Nat):List Nat × Int :=
 if E=0 then ([],0)
 else if kind=1 then ((aAd E).map (2 ^ ·),0)
 else if kind=4 then ([E],0)
 else if 10<(aAd E).length then ([],3)
 else ((aBc E (lsb E)).filter (aAk g kind E),0)
def aLi (g:Graph) (l:List Nat):Nat:=l.foldl (fun s v=>if aP2 g v&&&s=0 then s|||2 ^ v else s) 0
def aCl (g:Graph) (kind:Int) (E W:Nat):Nat :=
 let w:=if W&&&E=0 then lsb E else W&&&E
 if kind=1 then lsb w
 else if kind=2 then aLi g (aAd w)
 else if kind=4 then E
 else w
def aF1 (kind:Int):Bool:=decide (1<=kind)&&decide (kind<=4)
theorem aQv:∀ {bs:List (Int × Int)} {cs:List Int},inL bs cs↔cs.length=bs.length/\∀ i,(h1:i<cs.length)->(h2:i<bs.length)->bs[i].1<=cs[i]/\cs[i]<=bs[i].2
 | [],[]=>by simp [inL]
 | [],_ :: _=>by simp [inL]
 | _ :: _,[]=>by simp [inL]
 | b :: bs,c :: cs=>by
  have ih:=aQv (bs:=bs) (cs:=cs);constructor
  .rintro ⟨h1,h2,h3⟩
   obtain ⟨h4,h5⟩:=ih.1 h3;refine ⟨by simp [h4],fun i a1 a2=>?_⟩
   cases i with
   | zero=>exact ⟨h1,h2⟩
   | succ i=>exact h5 i (by simpa using a1) (by simpa using a2)
  .rintro ⟨h1,h2⟩
   have h0:=h2 0 (by simp) (by simp)
   refine ⟨h0.1,h0.2,ih.2 ⟨by simpa using h1,fun i a1 a2=>?_⟩⟩
   exact h2 (i+1) (by simpa using a1) (by simpa using a2)
theorem aQw:∀ {T:List (List (Int × Int))} {C:aA3},inN T C↔C.length=T.length/\∀ v,(h1:v<C.length)->(h2:v<T.length)->inL T[v] C[v]
 | [],[]=>by simp [inN]
 | [],_ :: _=>by simp [inN]
 | _ :: _,[]=>by simp [inN]
 | t :: T,c :: C=>by
  have ih:=aQw (T:=T) (C:=C);constructor
  .rintro ⟨h1,h3⟩
   obtain ⟨h4,h5⟩:=ih.1 h3;refine ⟨by simp [h4],fun i a1 a2=>?_⟩
   cases i with
   | zero=>exact h1
   | succ i=>exact h5 i (by simpa using a1) (by simpa using a2)
  .rintro ⟨h1,h2⟩
   have h0:=h2 0 (by simp) (by simp)
   refine ⟨h0,ih.2 ⟨by simpa using h1,fun i a1 a2=>?_⟩⟩
   exact h2 (i+1) (by simpa using a1) (by simpa using a2)
theorem bHe {T:List (List (Int × Int))} {C:aA3}:aNj T C=true↔inN T C:=by
 rw [aDe,aQw];constructor
 .rintro ⟨h1,h2⟩;exact ⟨h1,fun v a b=>aQv.2 (aCz.1 (h2 v a b))⟩
 .rintro ⟨h1,h2⟩;exact ⟨h1,fun v a b=>aCz.2 (aQv.1 (h2 v a b))⟩
theorem aR4 {p:Prg} {g:Graph} {c:aA3} (hm:aC4 p g c=0):inN (aAb p g) c:=bHe.1 (aBy hm).2
theorem bPf {p:Prg} {g:Graph} {c:aA3} (hf:aCw p g=0) (h:inN (aAb p g) c):aC4 p g c=0:=by
 unfold aC4;rw [if_neg (by simpa using hf),bHe.2 h];simp
theorem aPz {p:Prg} {g:Graph} (hf:aCw p g=0):okN (aAb p g):=by
 intro t ht
 unfold aAb at ht;obtain ⟨v,_,rfl⟩:=List.mem_map.1 ht;intro b hb
 unfold aJ3 at hb;obtain ⟨x,hx,rfl⟩:=List.mem_map.1 hb;exact (aLg hf hx v).1
def aDn (p:Prg) (g:Graph):Int:=aAz (aAb p g)
def aAl (p:Prg) (g:Graph) (k:Nat):aA3:=aQg (aAb p g) (k:Int)
def bB0 (p:Prg) (g:Graph) (c:aA3):Int:=aPc (aAb p g) c
def aD3 (p:Prg) (g:Graph):Int × Int:=if aCw p g≠0 then (0,aCw p g) else if 32768<aDn p g then (0,3) else (aDn p g,0)
theorem bDj {p:Prg} {g:Graph} (hf:aCw p g=0):0<aDn p g:=aGv (aPz hf)
theorem aDf {p:Prg} {g:Graph} (hf:aCw p g=0) {k:Nat} (hk:(k:Int)<aDn p g):aC4 p g (aAl p g k)=0:=bPf hf (aUa (aPz hf) (by omega) hk)
theorem aHs {p:Prg} {g:Graph} {c:aA3} (hm:aC4 p g c=0):0<=bB0 p g c/\bB0 p g c<aDn p g:=aO8 (aR4 hm)
theorem aWv {p:Prg} {g:Graph} {c:aA3} (hm:aC4 p g c=0):aAl p g (bB0 p g c).toNat=c:=by
 have h:=aHs hm;unfold aAl;rw [Int.toNat_of_nonneg h.1];exact aMa (aR4 hm)
theorem bIm {p:Prg} {g:Graph} (hf:aCw p g=0) {k:Nat} (hk:(k:Int)<aDn p g):bB0 p g (aAl p g k)=(k:Int):=aR9 (aPz hf) (by omega) hk
structure Spc where
 enabled:List Nat
 arcs:List (List (Nat × Int))
def aFf (p:Prg) (g:Graph) (kind:Int) (c:aA3):List (Nat × Int):=(aB0 g kind (aAe p g c)).1.map fun T=>(T,bB0 p g (aAf p g c T))
def bDl (p:Prg) (g:Graph) (kind:Int):Spc:=⟨(List.range (aDn p g).toNat).map fun k=>aAe p g (aAl p g k),(List.range (aDn p g).toNat).map fun k=>aFf p g kind (aAl p g k)⟩
def aHo (p:Prg) (g:Graph) (kind:Int):Spc × Int :=
 if (aD3 p g).2≠0/\(aD3 p g).2≠3 then (⟨[],[]⟩,(aD3 p g).2)
 else if aF1 kind=false then (⟨[],[]⟩,12)
 else if (aD3 p g).2≠0 then (⟨[],[]⟩,(aD3 p g).2)
 else (bDl p g kind,0)
theorem aYo {S:Nat} (hS:S<4294967296):∀ n s,S-s<n->s&&&S=s->s≠0->(aBc S s).length<=S-s+1:=by
 intro n
 induction n with
 | zero=>intro s h;omega
 | succ n ih =>
  intro s hn hs h0
  rw [aFs hS hs h0,List.length_cons]
  by_cases hl:s=S
  .subst hl;rw [aGk 32 s hS,aDk];simp
  .obtain ⟨h1,h2,_⟩:=aGl 32 S s hS hs hl
   have hle:=aCt h2;have:=ih _ (by omega) h2 (by omega)
   omega
theorem aJd {S n:Nat} (hn:n<=32) (hS:S<2 ^ n):(aAd S).length<=n:=by
 rw [aQl hn hS];exact Nat.le_trans (List.length_filter_le _ _) (by simp)
theorem aD6 {g:Graph} {kind:Int} {E:Nat} (hE:E<32):(aB0 g kind E).2=0/\(aB0 g kind E).1.length<=31/\(aAd E).length<=5:=by
 have h5:=aJd (S:=E) (n:=5) (by decide) hE
 unfold aB0
 by_cases h0:E=0
 .rw [if_pos h0];exact ⟨rfl,by simp,h5⟩
 rw [if_neg h0];split
 .exact ⟨rfl,by simp;omega,h5⟩
 split
 .exact ⟨rfl,by simp,h5⟩
 rw [if_neg (by omega)]
 refine ⟨rfl,?_,h5⟩
 have hlt:E<4294967296:=by omega
 have h1:=aYo hlt (E-lsb E+1) (lsb E) (by omega) aIc (aSy hlt h0)
 have h2:=List.length_filter_le (aAk g kind E) (aBc E (lsb E));have h3:=aCt (aIc (S:=E));have h4:=aSy hlt h0;show (List.filter _ _).length<=31
 omega
theorem aBh {g:Graph} {kind:Int} {E S:Nat} (h:aAk g kind E S=true):S≠0/\aBj S E=true:=by
 unfold aAk at h;split at h
 .cases h
 split at h
 .cases h
 .rename_i h1 h2
  exact ⟨h1,by simpa using h2⟩
theorem aGs {S E:Nat} (hS:S<4294967296) (hE:E<4294967296):S&&&E=S↔aBj S E=true:=by
 rw [aAi];constructor
 .intro h v _ hv
  have:=Nat.testBit_and S E v;rw [h,hv,Bool.true_and] at this;exact this.symm
 .intro h
  refine bCv (Nat.and_lt_two_pow (n:=32) S hE) hS fun v hv=>?_
  rw [Nat.testBit_and];cases hb:S.testBit v with
  | false=>rfl
  | true=>rw [h v hv hb];rfl
theorem bHh {v:Nat} (hv:v<32):aAd (2 ^ v)=[v]:=by
 have h:=aI8 (k:=v) (m:=0) (by have:=aLb hv;simpa using this)
 simpa [aLe] using h
theorem aDw {g:Graph} {kind:Int} {E S:Nat} (hE:E<4294967296) (hk:aF1 kind=true) (ho:(aB0 g kind E).2=0) (hS:S<4294967296) :
  S∈(aB0 g kind E).1↔aAk g kind E S=true:=by
 unfold aF1 at hk;simp at hk
 unfold aB0 at *
 by_cases h0:E=0
 .rw [if_pos h0]
  subst h0;constructor
  .intro h;cases h
  .intro h
   obtain ⟨h1,h2⟩:=aBh h
   exfalso
   apply h1
   refine bCv hS (by decide) fun v hv=>?_
   rw [Nat.zero_testBit];cases hb:S.testBit v with
   | false=>rfl
   | true=>have:=aAi.1 h2 v hv hb;rw [Nat.zero_testBit] at this;cases this
 rw [if_neg h0] at ho ⊢
 by_cases h1:kind=1
 .rw [if_pos h1]
  subst h1;constructor
  .intro h
   obtain ⟨v,hv,rfl⟩:=List.mem_map.1 h;obtain ⟨hv1,hv2⟩:=aC8.1 hv;unfold aAk;rw [if_neg (Nat.ne_of_gt (Nat.two_pow_pos v))]
   have hw:aBj (2 ^ v) E=true:=by
    rw [aAi];intro u _ hu;rw [aIl] at hu;obtain rfl:v=u:=by simpa using hu
    exact hv2
   rw [hw,if_neg (by decide),if_pos rfl,aOi hS (Nat.ne_of_gt (Nat.two_pow_pos v)),bHh hv1];rfl
  .intro h
   obtain ⟨h2,h3⟩:=aBh h;unfold aAk at h;rw [if_neg h2,h3,if_neg (by decide),if_pos rfl,aOi hS h2,decide_eq_true_eq] at h
   obtain ⟨k,m,e,hk,_,e2,e3⟩:=aE2 hS h2;rw [e3,List.length_cons] at h
   have hz:2 ^ k*(2*m)=0:=by
    refine (aFq ?_).1 (by omega)
    have:2 ^ k*(2*m)<=2 ^ k*(2*m+1):=Nat.mul_le_mul_left _ (by omega)
    omega
   have hS2:S=2 ^ k:=by rw [e,Nat.mul_add,hz];simp
   refine List.mem_map.2 ⟨k,aC8.2 ⟨hk,?_⟩,hS2.symm⟩
   refine aAi.1 h3 k hk ?_
   rw [hS2,aIl];simp
 rw [if_neg h1] at ho ⊢
 by_cases h4:kind=4
 .rw [if_pos h4]
  subst h4;rw [List.mem_singleton];constructor
  .rintro rfl
   unfold aAk;have hw:aBj S S=true:=by rw [aAi];intro _ _ h;exact h
   rw [if_neg h0,hw];simp
  .intro h
   obtain ⟨h2,h3⟩:=aBh h;unfold aAk at h;rw [if_neg h2,h3] at h;simpa using h
 rw [if_neg h4] at ho ⊢
 by_cases h10:10<(aAd E).length
 .rw [if_pos h10] at ho;cases ho
 rw [if_neg h10,List.mem_filter,aId hE (E-lsb E+1) _ (by omega) aIc (aSy hE h0)]
 constructor
 .rintro ⟨_,h⟩;exact h
 .intro h
  obtain ⟨h2,h3⟩:=aBh h;have hp:=(aGs hS hE).2 h3;refine ⟨⟨?_,hp⟩,h⟩
  obtain ⟨k,m,e,hk,e1,_,e3⟩:=aE2 hE h0;rw [e1];obtain ⟨k2,m2,e4,hk2,_,_,e5⟩:=aE2 hS h2;have hb:E.testBit k2=true:=aAi.1 h3 k2 hk2 (by rw [e4,aQc];simp)
  have hkk:k<=k2:=by
   rw [e,aQc] at hb
   rcases Nat.lt_or_ge k2 k with hlt | hge
   .rw [aM7 k m k2 (by omega)] at hb;simp at hb;omega
   .exact hge
  have h6:2 ^ k<=2 ^ k2:=Nat.pow_le_pow_right (by decide) hkk
  have h7:2 ^ k2*1<=2 ^ k2*(2*m2+1):=Nat.mul_le_mul_left _ (by omega)
  omega
theorem aZe {E n:Nat} (hn:n<=32) (hE:E<2 ^ n):aBj E (aHv n fun _=>true)=true:=by
 have h32:E<4294967296:=Nat.lt_of_lt_of_le hE (Nat.pow_le_pow_right (n:=2) (by decide) hn)
 rw [bGj hn h32];intro v hv
 rcases Nat.lt_or_ge v n with h | h
 .exact h
 .have e:2 ^ n<=2 ^ v:=Nat.pow_le_pow_right (by decide) h
  rw [Nat.testBit_lt_two_pow (Nat.lt_of_lt_of_le hE e)] at hv;cases hv
def aJw (T:List (List (Int × Int))):Prop:=∀ t∈T,∀ b∈t,-4096<=b.1/\b.1<=4096/\b.1<=b.2/\b.2<=80000
theorem aIj {p:Prg} {g:Graph} (hf:aCw p g=0):aJw (aAb p g):=by
 intro t ht b hb
 unfold aAb at ht;obtain ⟨v,hv,rfl⟩:=List.mem_map.1 ht;unfold aJ3 at hb;obtain ⟨x,hx,rfl⟩:=List.mem_map.1 hb;obtain ⟨h1,h2,h3⟩:=aAt hf;have hv':v<g.ports.length:=by rw [<- h2.ids];exact List.mem_range.1 hv
 obtain ⟨a1,a2,a3,a4⟩:=aJc (List.all_eq_true.1 (aCj h1).1 x hx) h2 hv';exact ⟨a1,a2,(aLg hf hx v).1,a4⟩
theorem aTk {p:Prg} {g:Graph} {v:Nat} (hv:v<(aAb p g).length):((aAb p g)[v]).length=p.vars.length:=by simp [aAb,aJ3]
theorem aJw.ok {T:List (List (Int × Int))} (h:aJw T):okN T:=fun t ht b hb=>(h t ht b hb).2.2.1
theorem aJw.width {T:List (List (Int × Int))} (h:aJw T) {v:Nat} (hv:v<T.length) {j:Nat} (hj:j<T[v].length):1<=T[v][j].2-T[v][j].1+1/\T[v][j].2-T[v][j].1+1<=90000:=by
 have:=h _ (List.getElem_mem hv) _ (List.getElem_mem hj);omega
theorem aJw.at_ {T:List (List (Int × Int))} (h:aJw T) {v:Nat} (hv:v<T.length) {j:Nat} (hj:j<T[v].length) : -4096<=T[v][j].1/\T[v][j].1<=4096/\T[v][j].1<=T[v][j].2/\T[v][j].2<=80000 :=
 h _ (List.getElem_mem hv) _ (List.getElem_mem hj)
def bNp (s:Int):Int × Int:=if 32768<s then (0,3) else (s,0)
theorem bBr {p:Prg} {g:Graph} (hf:aCw p g=0):aD3 p g=bNp (aDn p g):=by
 unfold aD3 bNp;rw [if_neg (by simpa using hf)]
theorem aVt {t:List (Int × Int)} {j:Nat} (hj:j<t.length):aB4 (t.drop j)=(t[j].2-t[j].1+1)*aB4 (t.drop (j+1)):=by
 rw [List.drop_eq_getElem_cons hj];rfl
theorem bDh {T:List (List (Int × Int))} {v:Nat} (hv:v<T.length):aAz (T.drop v)=aB4 T[v]*aAz (T.drop (v+1)):=by
 rw [List.drop_eq_getElem_cons hv];rfl
def Prod (T:List (List (Int × Int))) (v j:Nat) (r:Int):Prop:=1<=r/\r<=32768/\r*(aB4 ((T.getD v []).drop j)*aAz (T.drop (v+1)))=aAz T
def aTr (T:List (List (Int × Int))) (v:Nat) (r:Int):Prop:=1<=r/\r<=32768/\r*aAz (T.drop v)=aAz T
theorem aTr.start (T:List (List (Int × Int))):aTr T 0 1:=⟨by decide,by decide,by rw [List.drop_zero,Int.one_mul]⟩
theorem aTr.row {T:List (List (Int × Int))} {v:Nat} {r:Int} (h:aTr T v r) (hv:v<T.length):Prod T v 0 r:=by
 obtain ⟨h1,h2,h3⟩:=h;refine ⟨h1,h2,?_⟩
 rw [List.getD_eq_getElem?_getD,List.getElem?_eq_getElem hv,Option.getD_some,List.drop_zero,<- bDh hv];exact h3
theorem Prod.done {T:List (List (Int × Int))} {v:Nat} {r:Int} (hv:v<T.length) (h:Prod T v T[v].length r):aTr T (v+1) r:=by
 obtain ⟨h1,h2,h3⟩:=h;refine ⟨h1,h2,?_⟩
 rw [List.getD_eq_getElem?_getD,List.getElem?_eq_getElem hv,Option.getD_some,List.drop_length] at h3;rw [<- h3];show _=r*(1*_);rw [Int.one_mul]
theorem Prod.step {T:List (List (Int × Int))} {v j:Nat} {r:Int} (ho:okN T) (hv:v<T.length) (hj:j<T[v].length) (h:Prod T v j r) :
  (32768<r*(T[v][j].2-T[v][j].1+1)->32768<aAz T)/\(r*(T[v][j].2-T[v][j].1+1)<=32768->Prod T v (j+1) (r*(T[v][j].2-T[v][j].1+1))):=by
 obtain ⟨h1,h2,h3⟩:=h;have e:T.getD v []=T[v]:=by rw [List.getD_eq_getElem?_getD,List.getElem?_eq_getElem hv,Option.getD_some]
 rw [e,aVt hj,Int.mul_assoc,<- Int.mul_assoc r] at h3;have hok:okL T[v]:=ho _ (List.getElem_mem hv);have hb:=hok _ (List.getElem_mem hj);have hr:r<=r*(T[v][j].2-T[v][j].1+1):=bCu h1 (by omega)
 have h4:=aFy (bD0 hok (j+1));have h5:=aGv (bD1 ho (v+1));have h6:=Int.mul_pos h4 h5;have h7:=bCu (r:=r*(T[v][j].2-T[v][j].1+1)) (s:=aB4 (T[v].drop (j+1))*aAz (T.drop (v+1))) (by omega) (by omega)
 refine ⟨fun h=>by omega,fun h=>⟨by omega,h,by rw [e];exact h3⟩⟩
theorem aTr.end_ {T:List (List (Int × Int))} {r:Int} (h:aTr T T.length r):bNp (aAz T)=(r,0):=by
 obtain ⟨h1,h2,h3⟩:=h;rw [List.drop_length] at h3;have:r=aAz T:=by rw [<- h3];show r=r*1;rw [Int.mul_one]
 unfold bNp;rw [if_neg (by omega),this]
theorem bL6 {s:Int} (h:32768<s):bNp s=(0,3):=if_pos h
theorem bA1 {p:Prg} (h:aC6 p=0):1<=p.vars.length:=by
 unfold aC6 at h;split at h
 .cases h
 .omega
def aD9 (g:Graph) (v s:Nat):List Value:=(List.range g.ports.length).map fun u=>Value.int .u32 ((if u<v then aP2 g u else if u=v then s else 0:Nat):Int)
theorem aYg (g:Graph):aD9 g 0 0=List.replicate g.ports.length (.int .u32 0):=by
 apply List.ext_getElem
 .simp [aD9]
 .intro i h1 h2
  simp [aD9]
theorem bAz (g:Graph) {v:Nat} (_:v<g.ports.length) (s s':Nat):(aD9 g v s).set v (.int .u32 (s':Int))=aD9 g v s':=by
 apply List.ext_getElem
 .simp [aD9]
 .intro i h1 h2
  rw [List.getElem_set]
  by_cases h:v=i
  .subst h;rw [if_pos rfl];simp [aD9]
  .rw [if_neg h]
   simp only [aD9,List.getElem_map,List.getElem_range]
   by_cases hi:i<v
   .rw [if_pos hi,if_pos hi]
   .rw [if_neg hi,if_neg hi,if_neg (fun e=>h e.symm),if_neg (fun e=>h e.symm)]
theorem aYf (g:Graph) (v:Nat):aD9 g v (aP2 g v)=aD9 g (v+1) 0:=by
 unfold aD9;refine List.map_congr_left fun u _=>?_
 by_cases h:u<v
 .rw [if_pos h,if_pos (by omega)]
 .rw [if_neg h]
  by_cases h2:u=v
  .subst h2;rw [if_pos rfl,if_pos (by omega)]
  .rw [if_neg h2,if_neg (by omega)]
   split <;> rfl
theorem bFa (g:Graph) {v:Nat} (hv:v<g.ports.length) (s:Nat):(aD9 g v s)[v]?=some (.int .u32 (s:Int)):=by
 unfold aD9;rw [List.getElem?_map,List.getElem?_range hv];simp
theorem aYe (g:Graph) (s:Nat) {u:Nat} (hu:u<g.ports.length):(aD9 g g.ports.length s)[u]?=some (.int .u32 (aP2 g u:Int)):=by
 unfold aD9;rw [List.getElem?_map,List.getElem?_range hu];simp [hu]
theorem bIj {ls:List Link} {i:Nat} (hi:i<ls.length):aZh (ls.take (i+1))=aZh (ls.take i)|||2 ^ ls[i].to.toNat:=by
 rw [List.take_succ_eq_append_getElem hi,bIi]
open Go.RowKit Go.Maps
def pv (x:Nat × Nat):Value := .agg #[.int .i64 (x.1:Int),.int .u32 (x.2:Int)]
def sk (x:Nat × Nat):Lit := .string (keyBytes [.int .i64 (x.1:Int),.int .u32 (x.2:Int)])
def okP (x:Nat × Nat):Prop:=x.1<1000000/\x.2<4294967296
structure KeyP (P:Program) (k:TypeId):Prop where
 law:Keyed P k
 keyOf:∀ {x:Nat × Nat},okP x->Go.keyOf P k (pv x)=some (sk x)
theorem KeyP.inj {P:Program} {k:TypeId} (A:KeyP P k) {x y:Nat × Nat} (hx:okP x) (hy:okP y) (h:sk x=sk y):x=y:=by
 have h1:=A.keyOf hx;have h2:=A.keyOf hy;rw [h] at h1;have:=A.law.inj h1 h2;simp [pv] at this
 exact Prod.ext (by omega) (by omega)
def aNf (P:Program) (k e:TypeId) (w:World) (b n:Nat) (M:Nat × Nat->Int):Prop :=
 ∃ D:DataW Unit,w.ownsMap P k (plainElem P e) b n D/\IsMap D/\∀ x,okP x->D.atKey (sk x) (.lit (.int .i64 0)) = .lit (.int .i64 (M x))
theorem aNf.made (P:Program) (k e:TypeId) (w:World):aNf P k e (w.alloc (.map #[] 0)) w.heap.size 0 (fun _=>0) :=
 ⟨.map [],World.ownsMap_made w P k _,isMap_empty,fun x _=>by simp [DataW.atKey]⟩
theorem aNf.kept {P:Program} {k e:TypeId} {w w':World} {b n:Nat} {M:Nat × Nat->Int} {row:Option Nat} (h:aNf P k e w b n M) (hg:w.grownBy w' row) (hne:some b≠row):aNf P k e w' b n M:=by
 obtain ⟨D,h1,h2⟩:=h;exact ⟨D,h1.kept hg hne,h2⟩
theorem aNf.keep {P:Program} {k e:TypeId} {w w':World} {b n:Nat} {M:Nat × Nat->Int} (h:aNf P k e w b n M) (hb:Bel w w'):aNf P k e w' b n M:=h.kept (hb.grownBy none) (by simp)
theorem aNf.lt {P:Program} {k e:TypeId} {w:World} {b n:Nat} {M:Nat × Nat->Int} (h:aNf P k e w b n M):b<w.heap.size:=by
 obtain ⟨D,h1,_⟩:=h;exact h1.lt
theorem aNf.look {P:Program} {k e t:TypeId} (A:KeyP P k) (ht:P.underlying t=some (.map k e)) (he:P.underlying e=some (.int .i64)) {w:World} {b n:Nat} {M:Nat × Nat->Int} (h:aNf P k e w b n M) (hz:(zeroValue e).run P w = .ok (.int .i64 0) w) {x:Nat × Nat} (hx:okP x) :
  (Instr.lookup t (.map (some b)) (pv x) false).run P w = .ok (.int .i64 (M x)) w:=by
 obtain ⟨D,h1,_,h3⟩:=h;obtain ⟨c,hrun,hc,_⟩:=h1.lookup_int A.law ht he hz (A.keyOf hx);rw [h3 x hx] at hc;simp at hc
 rw [hrun,hc]
def bOf (M:Nat × Nat->Int) (x:Nat × Nat) (c:Int):Nat × Nat->Int:=fun y=>if y=x then c else M y
theorem aNf.put {P:Program} {k e:TypeId} (A:KeyP P k) {w':World} {b n:Nat} {D:DataW Unit} {M:Nat × Nat->Int} {x:Nat × Nat} {c:Int} (hx:okP x)
  (h2:IsMap D/\∀ x,okP x->D.atKey (sk x) (.lit (.int .i64 0)) = .lit (.int .i64 (M x)))
  (h:w'.ownsMap P k (plainElem P e) b n (D.put (sk x) (.lit (.int .i64 c)))):aNf P k e w' b n (bOf M x c):=by
 refine ⟨_,h,h2.1.put _ _,fun y hy=>?_⟩
 have hkl:WideAt.IsKeyLit (sk x):=trivial
 by_cases he:y=x
 .subst he
  rw [atKey_put_same h2.1 hkl];simp [bOf]
 .have hne:sk y≠sk x:=fun h=>he (A.inj hy hx h)
  rw [atKey_put_other hne];unfold bOf;rw [if_neg he];exact h2.2 y hy
theorem bM6:laidOutB prog=true:=by kernel_rfl
theorem bOc:(150:TypeId)<prog.types.size:=of_decide_eq_true (by kernel_rfl)
theorem bPn:prog.keyType 150=true:=by kernel_rfl
theorem bIw:prog.cellsOf 150=2:=by kernel_rfl
theorem bIv:prog.cellsOf 3=1:=by kernel_rfl
theorem bD6:prog.cellsOf 46=1:=by kernel_rfl
theorem bPo:∃ m,prog.types.size=m+1:=⟨_,rfl⟩
theorem aVc:Keyed prog 150:=Keyed.of_law (deep_law_laid bM6 (m:=2) (by omega) bOc (by kernel_rfl) (by rw [underlying150]))
theorem wf_i {x:Nat} (h:x<1000000):(Lit.int .i64 (x:Int)).wf=true:=by
 simp [Lit.wf,IntKind.min,IntKind.max,IntKind.signed,IntKind.bits];omega
theorem wf_u {x:Nat} (h:x<4294967296):(Lit.int .u32 (x:Int)).wf=true:=by
 simp [Lit.wf,IntKind.min,IntKind.max,IntKind.signed,IntKind.bits];omega
theorem pairKey:KeyP prog 150:=by
 refine ⟨aVc,fun {x} hx=>?_⟩
 have h1:=wf_i hx.1;have h2:=wf_u hx.2;obtain ⟨m,hm⟩:=bPo;unfold Go.keyOf pv;rw [underlying150];simp only []
 rw [bPn];simp only [Value.formed,underlying150,bIw,Bool.true_and]
 rw [hm];simp only [Program.keyLits,underlying150,underlying3,underlying46,bIv,bD6,bIw,Value.cells]
 simp [h1,h2,sk,bIv,bD6]
end Go.Proofs.YtmoebklkkjbigaaGreatDoor

