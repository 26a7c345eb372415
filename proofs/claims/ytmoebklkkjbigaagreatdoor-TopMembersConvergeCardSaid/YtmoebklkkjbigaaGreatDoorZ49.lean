/- Merged. -/
import Derived.Test.YtmoebklkkjbigaaGreatDoorZ37
import Derived.Test.YtmoebklkkjbigaaGreatDoorZ48
set_option linter.unusedSimpArgs false
set_option linter.unnecessarySimpa false
set_option linter.unusedVariables false
set_option maxRecDepth 100000

namespace Go.Proofs.YtmoebklkkjbigaaGreatDoor
theorem bL9 {g:Graph} (hg:GOK g):0<aWy g g.ports.length / 2↔∃ v u,u∈aI4 g v:=by
 have he:=bHg hg;have hsum:=aUb hg g.ports.length (Nat.le_refl _);constructor
 .intro h
  cases Classical.em (∃ v u,u∈aI4 g v) with
  | inl h=>exact h
  | inr hn =>
   exfalso
   have h0:aG0 g.ports.length (fun v=>aG0 g.ports.length (fun u=>if u∈aI4 g v then 1 else 0))=aG0 g.ports.length (fun _=>0):=by
    refine aOk fun v _=>?_
    have:aG0 g.ports.length (fun u=>if u∈aI4 g v then 1 else 0)=aG0 g.ports.length (fun _=>0):=aOk fun u _=>if_neg fun hu=>hn ⟨v,u,hu⟩
    rw [this,aI0];omega
   rw [aI0,hsum] at h0;omega
 .rintro ⟨v,u,hu⟩
  obtain ⟨h1,h2,_⟩:=aJ9 hg hu;have a1:=bJv (n:=g.ports.length) (j:=u) (d:=1) (f:=fun _=>0) (g:=fun u=>if u∈aI4 g v then 1 else 0) h1 (fun _ _=>Nat.zero_le _) (by simp [hu])
  rw [aI0] at a1;have a2:=bJv (n:=g.ports.length) (j:=v) (d:=1) (f:=fun _=>0) (g:=fun v=>aG0 g.ports.length (fun u=>if u∈aI4 g v then 1 else 0)) h2 (fun _ _=>Nat.zero_le _) (by omega)
  rw [aI0,hsum] at a2;omega
def bN6 (n:Nat) (x:Nat->Bool):aA3:=(List.range n).map fun v=>[aB6 (x v)]
theorem aVl (n:Nat) (x:Nat->Bool):(bN6 n x).length=n:=by simp [bN6]
theorem bJa {n v:Nat} (x:Nat->Bool) (h:v<n):(bN6 n x).getD v []=[aB6 (x v)]:=by simp [bN6,List.getD_eq_getElem?_getD,h]
theorem bMd {g:Graph} (hg:GOK g) (x:Nat->Bool):aC4 membersP g (bN6 g.ports.length x)=0:=by
 have hp:=Nat.two_pow_pos g.ports.length;have hm:aC4 membersP g (aAl membersP g 0)=0:=aDf (aJj ((aE6 g).2 hg)) (by rw [aH5 hg];omega)
 refine aP1 hm (by rw [aVl,aBx hm]) fun v hv=>?_
 rw [aVl] at hv;rw [aR6,bJa x hv];cases x v <;> decide
theorem bOg {n:Nat} {x:Nat->Bool} (h:∀ v,x v=true->v<n):inM (bN6 n x)=x:=by
 funext v
 by_cases hv:v<n
 .unfold inM aDc
  rw [bJa x hv];exact aCp (x v)
 .have hx:x v=false:=by
   cases hb:x v with
   | false=>rfl
   | true=>exact absurd (h v hb) hv
  rw [hx];cases hb:inM (bN6 n x) v with
  | false=>rfl
  | true=>have:=bAi hb;rw [aVl] at this;exact absurd this hv
theorem aY7 {g:Graph} (hg:GOK g) (h4:g.ports.length<=4) :
  ∃ s:Spc,aHo membersP g 3=(s,0)/\aCy s=true/\wfS s/\aCf s=true/\∀ o,OrdP s.arcs (aJ1 s) s.arcs.length o->((∃ k,k<s.arcs.length/\k ∉ o)↔0<aWy g g.ports.length / 2):=by
 have hle:=hg.le;have h16:2 ^ g.ports.length<=16:=Nat.le_trans (Nat.pow_le_pow_right (n:=2) (by decide) h4) (by decide)
 have hf:=aJj ((aE6 g).2 hg);have hn:=aH5 hg;have hk:aF1 3=true:=by decide
 generalize hN:2 ^ g.ports.length=N at *;have hlen:(aRx membersP g 3 N).arcs.length=N:=aE7 membersP g 3 N;have hmem:∀ k,k<N->aC4 membersP g (aAl membersP g k)=0:=fun k hkn=>aDf hf (by omega)
 refine ⟨aRx membersP g 3 N,aM9 hf hn (by omega) hk,aLr hf hn (by omega) (by omega),aVw hf hn hk (by omega),aIh hf hn hk (by omega),fun o ho=>?_⟩
 rw [bL9 hg];rw [hlen] at ho ⊢
 -- what a set of the daemon is
 have hset:∀ c,aC4 membersP g c=0->∀ T∈(aB0 g 3 (aAe membersP g c)).1,T≠0/\T<2 ^ g.ports.length/\∀ v,T.testBit v=true->v<c.length/\0<=aAm membersP.rules g c v:=by
  intro c hm T hT
  have h32:=aLf hm (by omega)
  have hlt:aAe membersP g c<4294967296:=by omega
  obtain ⟨h1,h2⟩:=aFt hlt hT;have hp:=aBh ((aDw hlt hk (aD6 h32).1 h1).1 hT)
  have hen:∀ v,T.testBit v=true->v<c.length/\0<=aAm membersP.rules g c v:=fun v hv=>by
   have:=aAi.1 h2 v (aIp h1 hv) hv;rw [aDs] at this;simpa using this
  refine ⟨hp.1,?_,hen⟩
  apply Nat.lt_pow_two_of_testBit
  intro i hi
  cases hb:T.testBit i with
  | false=>rfl
  | true=>have:=(hen i hb).1;rw [aBx hm] at this;omega
 constructor
 .rintro ⟨k,hkn,hko⟩
  cases Classical.em (∃ v u,u∈aI4 g v) with
  | inl h=>exact h
  | inr hno =>
   exfalso
   refine hko (ho.all (fun k=>(bOd g (aAl membersP g k):Int)) (fun k _=>by omega) (fun k hkn h=>?_) (fun k hkn _ a ha=>?_) k hkn)
   .rw [aW1 hkn] at h
    exact aPy hf hn hk (by omega) hkn (of_decide_eq_false h)
   .obtain ⟨T,hT,e1,e2,e3,e4,_⟩:=aM2 hf hn hk (by omega) hkn ha
    obtain ⟨t0,t1,t2⟩:=hset _ e4 T hT;refine ⟨e2,?_⟩
    have h1:=aR5 hg e4 t1 t2 (fun v u _ hu=>absurd ⟨v,u,hu⟩ hno);have h2:=bBa (Nat.lt_of_lt_of_le t1 (by rw [hN];omega)) t0
    rw [e3];omega
 .rintro ⟨v,u,hu⟩
  obtain ⟨hun,hvn,hvu⟩:=aJ9 hg hu;have hbit:∀ w,(2 ^ u|||2 ^ v).testBit w=(decide (u=w)||decide (v=w)):=fun w=>by rw [Nat.testBit_or,aIl,aIl]
  have hTlt:2 ^ u|||2 ^ v<4294967296:=Nat.or_lt_two_pow (n:=32) (Nat.pow_lt_pow_right (by decide) (by omega)) (Nat.pow_lt_pow_right (by decide) (by omega))
  have hT0:2 ^ u|||2 ^ v≠0:=fun h=>by have:=hbit u;rw [h] at this;simp at this
  -- where both are enabled, an arc turns both
  have hgo:∀ k,k<N->(∀ w,w=u∨w=v->inM (aAl membersP g k) w=nbM (aI4 g) (inM (aAl membersP g k)) w) ->
    (aJ1 (aRx membersP g 3 N)).getD k false=false/\∃ a∈aA7 (aRx membersP g 3 N).arcs k,toK a<N/\inM (aAl membersP g (toK a))=aDg (inM (aAl membersP g k)) (fun w=>(2 ^ u|||2 ^ v).testBit w):=by
   intro k hkn hw
   have hm:=hmem k hkn;have hl:=aBx hm;have h32:=aLf hm (by omega)
   have hlt:aAe membersP g (aAl membersP g k)<4294967296:=by omega
   have hen:∀ w,w=u∨w=v->(aAe membersP g (aAl membersP g k)).testBit w=true:=fun w hh=>aIe.2 ⟨by rcases hh with rfl | rfl <;> omega,hw w hh⟩
   have hsub:aBj (2 ^ u|||2 ^ v) (aAe membersP g (aAl membersP g k))=true:=aAi.2 fun w _ hb=>by
    rw [hbit] at hb;simp only [Bool.or_eq_true,decide_eq_true_eq] at hb
    exact hen w (by omega)
   have hmemT:2 ^ u|||2 ^ v∈(aB0 g 3 (aAe membersP g (aAl membersP g k))).1:=by
    rw [aDw hlt hk (aD6 h32).1 hTlt];unfold aAk;rw [if_neg hT0,hsub,if_neg (by decide),if_neg (by decide),if_neg (by decide),if_neg (by decide)]
   refine ⟨?_,?_⟩
   .rw [aW1 hkn]
    have:=hen u (.inl rfl);apply decide_eq_false
    intro h0
    rw [h0] at this;simp at this
   .have ha:((2 ^ u|||2 ^ v,bB0 membersP g (aAf membersP g (aAl membersP g k) (2 ^ u|||2 ^ v))):Nat × Int)∈aA7 (aRx membersP g 3 N).arcs k:=by
     show _∈aA7 (lsF membersP g 3 N) k
     rw [bCs hkn];exact List.mem_map.2 ⟨_,hmemT,rfl⟩
    refine ⟨_,ha,?_⟩
    obtain ⟨T,hT,e1,e2,e3,e4,_⟩:=aM2 hf hn hk (by omega) hkn ha
    dsimp only at e1;subst e1;exact ⟨e2,by rw [e3];exact aJk hm (hset _ hm _ hT).2.2⟩
  have hx:=ho.none (fun k=>k<N/\((∀ w,inM (aAl membersP g k) w=false)∨∀ w,inM (aAl membersP g k) w=(decide (u=w)||decide (v=w)))) (fun k hX=>by
   obtain ⟨hkn,hX⟩:=hX
   rcases hX with hX | hX
   .obtain ⟨h1,a,ha,h2,h3⟩:=hgo k hkn (fun w _=>by rw [hX w,aKg fun x _=>hX x])
    refine ⟨h1,a,ha,h2,.inr fun w=>?_⟩
    rw [h3];simp only [aDg,hbit,hX w]
    cases (decide (u=w)||decide (v=w)) <;> rfl
   .obtain ⟨h1,a,ha,h2,h3⟩:=hgo k hkn (fun w hw=>by
     rcases hw with rfl | rfl
     .rw [bId hvu (by rw [hX];simp),hX];simp
     .rw [bId hu (by rw [hX];simp),hX];simp)
    refine ⟨h1,a,ha,h2,.inl fun w=>?_⟩
    rw [h3];simp only [aDg,hbit,hX w]
    cases (decide (u=w)||decide (v=w)) <;> rfl)
  have hc:=bMd hg (fun _=>false);have hr:=aHs hc;rw [hn] at hr;have hin:=bOg (n:=g.ports.length) (x:=fun _=>false) (fun _ h=>by cases h)
  refine ⟨(bB0 membersP g (bN6 g.ports.length fun _=>false)).toNat,by omega,hx _ ⟨by omega,.inl fun w=>?_⟩⟩
  rw [aWv hc,hin]
end Go.Proofs.YtmoebklkkjbigaaGreatDoor

