/- Merged. -/
import Derived.Test.YtmoebklkkjbigaaGreatDoorZ36
set_option linter.unusedSimpArgs false
set_option linter.unnecessarySimpa false
set_option linter.unusedVariables false
set_option maxRecDepth 100000

namespace Go.Proofs.YtmoebklkkjbigaaGreatDoor
theorem bI2 {p:Prg} {g:Graph} {kind:Int} {n:Nat} (hf:aCw p g=0) (hn:aDn p g=(n:Int)) (h2:n<=700) (h4:g.ports.length<=4) (hkd:kind=1∨kind=2) (F:aA3->Int) {B:Int} (hB:B<=1000) (hF:∀ c,aC4 p g c=0->0<=F c/\F c<=B)
  (hs:∀ c,aC4 p g c=0->∀ T∈(aB0 g kind (aAe p g c)).1,(aN2 T:Int)+F (aAf p g c T)<=F c)
  (GG:aA3->Nat->Prop) (FR:aA3->Nat->Int) {R:Int} (r1:∀ c,aC4 p g c=0->GG c (aAe p g c))
  (r2:∀ c S,aC4 p g c=0->S<16->GG c S->∀ T∈(aB0 g kind (aAe p g c)).1,aAe p g (aAf p g c T)≠0->GG (aAf p g c T) (aEp S T (aAe p g (aAf p g c T))) /\
   (if aS8 S T (aAe p g (aAf p g c T)) then 1+FR (aAf p g c T) (aEp S T (aAe p g (aAf p g c T)))<=FR c S else FR (aAf p g c T) (aEp S T (aAe p g (aAf p g c T)))<=FR c S))
  (r3:∀ c S,1<=FR c S/\FR c S<=1000) (r4:∀ c,FR c (aAe p g c)<=R) :
  ∃ (s:Spc) (f:Nat->Int) (G:Nat->Nat->Prop) (fr:Nat->Nat->Int),aHo p g kind=(s,0)/\aCy s=true/\wfS s/\aCf s=true/\(∀ k,s.enabled.getD k 0<16)/\(∀ o,OrdP s.arcs (aJ1 s) s.arcs.length o->s.arcs.length<=o.length)/\CostP s.arcs (aJ1 s) s.arcs.length (fun x=>((aAd x.1).length:Int)) f/\(∀ k,k<s.arcs.length->f k<=B)/\RndP s.arcs s.enabled (aJ1 s) s.arcs.length G fr/\(∀ k,k<s.arcs.length->(aJ1 s).getD k false=false->fr k (s.enabled.getD k 0)<=R):=by
 obtain ⟨s,f,_,_,b1,b2,b3,b4,b5,b6,b7,b8,_,_⟩:=bLp hf hn h2 h4 hkd F hB hF hs;have hkb:aF1 kind=true:=by rcases hkd with rfl | rfl <;> decide
 have hb:=aM9 hf hn h2 hkb;obtain rfl:s=aRx p g kind n:=by rw [hb] at b1;exact (Prod.mk.inj b1).1.symm
 have hlen:(aRx p g kind n).arcs.length=n:=aE7 p g kind n;have hmem:∀ k,k<n->aC4 p g (aAl p g k)=0:=fun k hkn=>aDf hf (by omega)
 refine ⟨aRx p g kind n,f,fun k S=>GG (aAl p g k) S,fun k S=>FR (aAl p g k) S,b1,b2,b3,b4,b5,b6,b7,b8,⟨?_,?_,?_⟩,?_⟩
 .intro k hk _
  rw [hlen] at hk;show GG _ ((esF p g n).getD k 0)
  rw [bEf hk];exact r1 _ (hmem k hk)
 .intro k S hk hS _ hG a ha hta
  rw [hlen] at hk;obtain ⟨T,hT,e1,e2,e3,e4,_⟩:=aM2 hf hn hkb (by omega) hk ha
  have he:aAe p g (aAl p g (toK a))≠0:=by
   rw [aW1 e2] at hta;exact of_decide_eq_false hta
  rw [e3] at he;have h1:=r2 _ S e4 hS hG T hT he
  have h2:(aRx p g kind n).enabled.getD (toK a) 0=aAe p g (aAf p g (aAl p g k) T):=by
   show (esF p g n).getD (toK a) 0=_
   rw [bEf e2,e3]
  (try dsimp only)
  rw [e1,h2,e3];exact h1
 .intro k S _ _ _ _
  exact r3 _ _
 .intro k hk _
  rw [hlen] at hk;show FR _ ((esF p g n).getD k 0)<=_
  rw [bEf hk];exact r4 _
theorem aJk {g:Graph} {c:aA3} (hm:aC4 membersP g c=0) {T:Nat} (hT:∀ v,T.testBit v=true->v<c.length/\0<=aAm membersP.rules g c v):inM (aAf membersP g c T)=aDg (inM c) (fun u=>T.testBit u):=by
 funext v
 by_cases hv:v<c.length
 .exact aY9 hm hT v hv
 .have hb:T.testBit v=false:=by
   cases h:T.testBit v with
   | false=>rfl
   | true=>exact absurd (hT v h).1 hv
  have h1:aDc (aAf membersP g c T) v=aDc c v:=by
   unfold aDc;rw [List.getD_eq_getElem?_getD (l:=aAf membersP g c T),List.getD_eq_getElem?_getD (l:=c),List.getElem?_eq_none (by rw [aDb];omega),List.getElem?_eq_none (by omega)]
  unfold aDg inM;rw [h1];simp [hb]
theorem bAi {c:aA3} {v:Nat} (h:inM c v=true):v<c.length:=by
 by_cases hv:v<c.length
 .exact hv
 .unfold inM aDc at h
  rw [List.getD_eq_getElem?_getD (l:=c),List.getElem?_eq_none (by omega)] at h
  simp at h
theorem aIe {g:Graph} {c:aA3} {v:Nat}:(aAe membersP g c).testBit v=true↔v<c.length/\inM c v=nbM (aI4 g) (inM c) v:=by
 rw [aDs,Bool.and_eq_true,decide_eq_true_iff,decide_eq_true_iff,aO0]
theorem aMo {g:Graph} {c:aA3} (hg:GOK g) {T:Nat} (hT:∀ v,T.testBit v=true->v<c.length/\0<=aAm membersP.rules g c v) (hi:∀ v u,T.testBit v=true->u∈aI4 g v->T.testBit u=false):StepM (aI4 g) (inM c) (fun v=>T.testBit v) :=
 ⟨fun _ _ h=>(aJ9 hg h).2.2,fun v h=>(aO0 g c v).1 (hT v h).2,hi⟩
def bOd (g:Graph) (c:aA3):Nat:=aG0 g.ports.length (aDr (aI4 g) (inM c))
theorem bOe (g:Graph) (c:aA3):bOd g c<=2*g.ports.length:=by
 have h:=bBm (n:=g.ports.length) (f:=aDr (aI4 g) (inM c)) (g:=fun _=>2) (fun i _=>bJ6 _ _ i);rw [aI0] at h;unfold bOd;omega
theorem aR5 {g:Graph} {c:aA3} (hg:GOK g) (hm:aC4 membersP g c=0) {T:Nat} (hT2:T<2 ^ g.ports.length) (hT:∀ v,T.testBit v=true->v<c.length/\0<=aAm membersP.rules g c v) (hi:∀ v u,T.testBit v=true->u∈aI4 g v->T.testBit u=false):aN2 T+bOd g (aAf membersP g c T)<=bOd g c:=by
 have hle:=hg.le;have h:=aMo hg hT hi;unfold bOd;rw [aJk hm hT,aRk (by omega) hT2,<- bDn]
 exact bBm fun v _=>by have:=h.pot v;(try dsimp only at this);(try dsimp only);omega
def aXy (g:Graph) (c:aA3) (v:Nat):Prop:=inM c v=true/\nbM (aI4 g) (inM c) v=true
def bDt (g:Graph) (c:aA3) (S:Nat):Prop:=(∀ v,¬ aXy g c v)/\∀ v,(aAe membersP g c).testBit v=true->S.testBit v=true
theorem aY6 {g:Graph} {c:aA3} (hg:GOK g) (hm:aC4 membersP g c=0) {S T:Nat} (hS:S<16) (hT:∀ v,T.testBit v=true->v<c.length/\0<=aAm membersP.rules g c v) (hi:∀ v u,T.testBit v=true->u∈aI4 g v->T.testBit u=false)
  (hG:∀ v,aXy g c v->S.testBit v=true) (he:aAe membersP g (aAf membersP g c T)≠0) :
  (∀ v,aXy g (aAf membersP g c T) v->(aEp S T (aAe membersP g (aAf membersP g c T))).testBit v=true) /\
  (aS8 S T (aAe membersP g (aAf membersP g c T))=true->bDt g (aAf membersP g c T) (aEp S T (aAe membersP g (aAf membersP g c T)))/\¬ bDt g c S) /\
  (bDt g c S->bDt g (aAf membersP g c T) (aEp S T (aAe membersP g (aAf membersP g c T)))):=by
 have h:=aMo hg hT hi;have hf:=aJk hm hT;have hS32:S<4294967296:=by omega
 have hlen:(aAf membersP g c T).length=c.length:=aDb _ _ _ _
 have hb':∀ v,(aAe membersP g (aAf membersP g c T)).testBit v=true↔v<c.length/\aDg (inM c) (fun u=>T.testBit u) v=nbM (aI4 g) (aDg (inM c) (fun u=>T.testBit u)) v:=fun v=>by
  rw [aIe,hlen,hf]
 have hlv:∀ v,aXy g (aAf membersP g c T) v->T.testBit v=false/\aXy g c v/\(aAe membersP g (aAf membersP g c T)).testBit v=true:=by
  intro v hv
  obtain ⟨v1,v2⟩:=hv;have v3:=bAi v1;rw [hlen] at v3;rw [hf] at v1 v2;obtain ⟨a1,a2,a3⟩:=h.leave v1 v2;exact ⟨a1,⟨a2,a3⟩,(hb' v).2 ⟨v3,by rw [v1,v2]⟩⟩
 have hnew:(∀ v,¬ aXy g c v)->∀ v,(aAe membersP g (aAf membersP g c T)).testBit v=true->T.testBit v=false/\(aAe membersP g c).testBit v=true:=by
  intro hc v hv
  obtain ⟨v1,v2⟩:=(hb' v).1 hv;obtain ⟨a1,a2⟩:=h.noNew hc v2;exact ⟨a1,aIe.2 ⟨v1,a2⟩⟩
 generalize hE:aAe membersP g (aAf membersP g c T)=E' at *
 have hand:∀ v,S.testBit v=true->T.testBit v=false->E'.testBit v=true->(aCg S T&&&E').testBit v=true:=by
  intro v v1 v2 v3
  rw [Nat.testBit_and,aQi hS32,v1,v2,v3];rfl
 have hno:∀ v,(aCg S T&&&E').testBit v=true->aCg S T&&&E'≠0:=by
  intro v hv h0
  rw [h0] at hv;simp at hv
 have haf:(∃ v,(aCg S T&&&E').testBit v=true)->aEp S T E'=aCg S T&&&E'/\aS8 S T E'=false:=by
  rintro ⟨v,hv⟩;have:=hno v hv;exact ⟨by unfold aEp;rw [if_neg this],by unfold aS8;simpa using this⟩
 have hbit:∃ v,E'.testBit v=true:=by
  cases Classical.em (∃ v,E'.testBit v=true) with
  | inl h=>exact h
  | inr hn =>
   exfalso;apply he
   apply Nat.eq_of_testBit_eq
   intro i
   cases hb:E'.testBit i with
   | false=>simp
   | true=>exact absurd ⟨i,hb⟩ hn
 refine ⟨?_,?_,?_⟩
 .intro v hv
  obtain ⟨a1,a2,a3⟩:=hlv v hv;have h1:=hand v (hG v a2) a1 a3;rw [(haf ⟨v,h1⟩).1];exact h1
 .intro hfull
  have h0:aCg S T&&&E'=0:=by unfold aS8 at hfull;exact of_decide_eq_true hfull
  have hcalm:∀ v,¬ aXy g (aAf membersP g c T) v:=by
   intro v hv
   obtain ⟨a1,a2,a3⟩:=hlv v hv;exact hno v (hand v (hG v a2) a1 a3) h0
  refine ⟨⟨hcalm,fun v hv=>?_⟩,fun hc=>?_⟩
  .rw [hE] at hv
   unfold aEp;rw [if_pos h0];exact hv
  .obtain ⟨v,hv⟩:=hbit
   obtain ⟨a1,a2⟩:=hnew hc.1 v hv;exact hno v (hand v (hc.2 v a2) a1 hv) h0
 .intro hc
  have hall:∀ v,E'.testBit v=true->(aCg S T&&&E').testBit v=true:=fun v hv=>by
   obtain ⟨a1,a2⟩:=hnew hc.1 v hv;exact hand v (hc.2 v a2) a1 hv
  obtain ⟨u,hu⟩:=hbit;rw [(haf ⟨u,hall u hu⟩).1];exact ⟨fun v hv=>hc.1 v (hlv v hv).2.1,fun v hv=>hall v (by rw [hE] at hv;exact hv)⟩
theorem aUs {g:Graph} (hg:GOK g) (h4:g.ports.length<=4) {kind:Int} (hk:kind=1∨kind=2) :
  ∃ (s:Spc) (f:Nat->Int) (G:Nat->Nat->Prop) (fr:Nat->Nat->Int),aHo membersP g kind=(s,0)/\aCy s=true/\wfS s/\aCf s=true/\(∀ k,s.enabled.getD k 0<16)/\(∀ o,OrdP s.arcs (aJ1 s) s.arcs.length o->s.arcs.length<=o.length)/\CostP s.arcs (aJ1 s) s.arcs.length (fun x=>((aAd x.1).length:Int)) f/\(∀ k,k<s.arcs.length->f k<=((2*g.ports.length:Nat):Int))/\RndP s.arcs s.enabled (aJ1 s) s.arcs.length G fr/\(∀ k,k<s.arcs.length->(aJ1 s).getD k false=false->fr k (s.enabled.getD k 0)<=2):=by
 classical
 have h16:2 ^ g.ports.length<=16:=Nat.le_trans (Nat.pow_le_pow_right (n:=2) (by decide) h4) (by decide)
 refine bI2 (aJj ((aE6 g).2 hg)) (aH5 hg) (by omega) h4 hk (fun c=>(bOd g c:Int)) (by omega) (fun c _=>⟨by omega,by have:=bOe g c;omega⟩) (fun c hm T hT=>?_)
  (fun c S=>∀ v,aXy g c v->S.testBit v=true) (fun c S=>if bDt g c S then 1 else 2) (fun c hm v hv=>?_) (fun c S hm hS hG T hT he=>?_) (fun c S=>by split <;> omega) (fun c=>by split <;> omega)
 .obtain ⟨a1,a2,a3,a4⟩:=aQx hm (by omega) hk hT
  have:=aR5 hg hm a2 a3 a4;omega
 .exact aIe.2 ⟨bAi hv.1,by rw [hv.1,hv.2]⟩
 .obtain ⟨a1,a2,a3,a4⟩:=aQx hm (by omega) hk hT
  obtain ⟨c1,c2,c3⟩:=aY6 hg hm hS a3 a4 hG he;refine ⟨c1,?_⟩
  cases hfl:aS8 S T (aAe membersP g (aAf membersP g c T)) with
  | true =>
   obtain ⟨d1,d2⟩:=c2 hfl;rw [if_pos rfl,if_pos d1,if_neg d2];decide
  | false =>
   rw [if_neg (by decide)]
   by_cases hc:bDt g c S
   .rw [if_pos hc,if_pos (c3 hc)];decide
   .rw [if_neg hc];split <;> decide
end Go.Proofs.YtmoebklkkjbigaaGreatDoor

