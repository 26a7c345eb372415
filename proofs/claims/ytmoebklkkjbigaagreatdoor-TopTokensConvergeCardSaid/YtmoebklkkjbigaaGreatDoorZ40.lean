/- Merged. -/
import Derived.Test.YtmoebklkkjbigaaGreatDoorZ38
set_option linter.unusedSimpArgs false
set_option linter.unnecessarySimpa false
set_option linter.unusedVariables false
set_option maxRecDepth 100000

namespace Go.Proofs.YtmoebklkkjbigaaGreatDoor
theorem bA2 {p:Prg} {g:Graph} {c:aA3} {kind:Int} (hm:aC4 p g c=0) (hk:aF1 kind=true) (h5:g.ports.length<=5) {T:Nat} (hT:T∈(aB0 g kind (aAe p g c)).1) :
  T≠0/\T<2 ^ g.ports.length/\∀ v,T.testBit v=true->v<c.length/\0<=aAm p.rules g c v:=by
 have h32:=aLf hm h5;have hlt:aAe p g c<4294967296:=by omega
 obtain ⟨h1,h2⟩:=aFt hlt hT;have hp:=aBh ((aDw hlt hk (aD6 h32).1 h1).1 hT)
 have hen:∀ v,T.testBit v=true->v<c.length/\0<=aAm p.rules g c v:=fun v hv=>by
  have:=aAi.1 h2 v (aIp h1 hv) hv;rw [aDs] at this;simpa using this
 refine ⟨hp.1,?_,hen⟩
 apply Nat.lt_pow_two_of_testBit
 intro i hi
 cases hb:T.testBit i with
 | false=>rfl
 | true=>have:=(hen i hb).1;rw [aBx hm] at this;omega
def aLu (s:Spc):List Bool:=s.enabled.map fun E=>decide ((aAd E).length=1)
theorem bIq {p:Prg} {g:Graph} {kind:Int} {n k:Nat} (hk:k<n):(aLu (aRx p g kind n)).getD k false=decide (aN2 (aAe p g (aAl p g k))=1):=by
 unfold aLu aRx esF aN2;simp [List.getD_eq_getElem?_getD,hk]
def TokL (p:Prg) (g:Graph) (kind B:Int):Prop :=
 ((aD3 p g).2=0->aDn p g<=700/\g.ports.length<=5) /\
 ∃ (s:Spc) (f:Nat->Int) (G:Nat->Nat->Prop) (fr:Nat->Nat->Int),aHo p g kind=(s,0)/\aCy s=true/\wfS s/\aCf s=true/\(∀ k,s.enabled.getD k 0<16)/\(∀ k,k<s.arcs.length->s.enabled.getD k 0≠0) /\
  (∀ k,k<s.arcs.length->(aLu s).getD k false=true->∀ a∈aA7 s.arcs k,(aLu s).getD (toK a) false=true) /\
  (∀ o,OrdP s.arcs (aLu s) s.arcs.length o->s.arcs.length<=o.length)/\CostP s.arcs (aLu s) s.arcs.length (fun _=>1) f/\CostP s.arcs (aLu s) s.arcs.length (fun x=>((aAd x.1).length:Int)) f/\(∀ k,k<s.arcs.length->f k<=B) /\
  RndP s.arcs s.enabled (aLu s) s.arcs.length G fr/\(∀ k,k<s.arcs.length->(aLu s).getD k false=false->fr k (s.enabled.getD k 0)<=B)
theorem bK0 {p:Prg} {g:Graph} {kind:Int} {n:Nat} (hf:aCw p g=0) (hn:aDn p g=(n:Int)) (h2:n<=700) (h4:g.ports.length<=4) (hk:aF1 kind=true) (F:aA3->Int) {B:Int} (hB:B<=1000) (hF:∀ c,aC4 p g c=0->0<=F c/\F c<=B) (h1:∀ c,aC4 p g c=0->aAe p g c≠0)
  (hs:∀ c,aC4 p g c=0->∀ T,T≠0->T<2 ^ g.ports.length->(∀ v,T.testBit v=true->v<c.length/\0<=aAm p.rules g c v)->(aN2 (aAe p g c)=1->aN2 (aAe p g (aAf p g c T))=1)/\(aN2 (aAe p g c)≠1->(aN2 T:Int)+F (aAf p g c T)<=F c)):TokL p g kind B:=by
 have h5:g.ports.length<=5:=by omega
 have hlen:(aRx p g kind n).arcs.length=n:=aE7 p g kind n;have hmem:∀ k,k<n->aC4 p g (aAl p g k)=0:=fun k hkn=>aDf hf (by omega)
 have hone:∀ k,k<n->(aLu (aRx p g kind n)).getD k false=false->aN2 (aAe p g (aAl p g k))≠1:=fun k hkn h=>by
  rw [bIq hkn] at h;exact of_decide_eq_false h
 have harc:∀ k,k<n->∀ a∈aA7 (lsF p g kind n) k,toK a<n/\1<=(aN2 a.1:Int)/\(aN2 (aAe p g (aAl p g k))=1->aN2 (aAe p g (aAl p g (toK a)))=1)/\(aN2 (aAe p g (aAl p g k))≠1->(aN2 a.1:Int)+F (aAl p g (toK a))<=F (aAl p g k)):=fun k hkn a ha=>by
  obtain ⟨T,hT,e1,e2,e3,e4,_⟩:=aM2 hf hn hk h5 hkn ha;obtain ⟨t0,t1,t2⟩:=bA2 e4 hk h5 hT;have h3:=bBa (Nat.lt_of_lt_of_le t1 (Nat.le_trans (Nat.pow_le_pow_right (n:=2) (by decide) h5) (by decide))) t0
  rw [e1,e3];exact ⟨e2,by omega,hs _ e4 T t0 t1 t2⟩
 have hbusy:∀ k,k<n->0<(aA7 (lsF p g kind n) k).length:=fun k hkn=>aPy hf hn hk h5 hkn (h1 _ (hmem k hkn))
 have hpos:∀ k,k<n->(aLu (aRx p g kind n)).getD k false=false->1<=F (aAl p g k):=fun k hkn h=>by
  obtain ⟨a,ha⟩:=List.exists_mem_of_length_pos (hbusy k hkn);obtain ⟨c1,c2,_,c4⟩:=harc k hkn a ha;have:=c4 (hone k hkn h);have:=(hF _ (hmem _ c1)).1;omega
 refine ⟨fun _=>⟨by rw [hn];omega,h5⟩,aRx p g kind n,fun k=>F (aAl p g k),fun _ _=>True,fun k _=>F (aAl p g k),aM9 hf hn h2 hk,aLr hf hn h2 h5,aVw hf hn hk h5,aIh hf hn hk h5,bPd hf hn h4,?_,?_,?_,?_,?_,?_,?_,?_⟩
 .intro k hkn
  rw [hlen] at hkn;show (esF p g n).getD k 0≠0
  rw [bEf hkn];exact h1 _ (hmem k hkn)
 .intro k hkn hk1 a ha
  rw [hlen] at hkn;rw [bIq hkn] at hk1;obtain ⟨c1,_,c3,_⟩:=harc k hkn a ha;rw [bIq c1];exact decide_eq_true (c3 (of_decide_eq_true hk1))
 .intro o ho
  rw [hlen] at ho ⊢;refine bCk (ho.all (fun k=>F (aAl p g k)) (fun k hkn=>(hF _ (hmem k hkn)).1) (fun k hkn _=>hbusy k hkn) (fun k hkn h a ha=>?_))
  obtain ⟨c1,c2,_,c4⟩:=harc k hkn a ha;have:=c4 (hone k hkn h);exact ⟨c1,by omega⟩
 .rw [hlen]
  refine ⟨fun k hkn h a ha=>?_,fun k hkn=>⟨(hF _ (hmem k hkn)).1,by have:=(hF _ (hmem k hkn)).2;omega⟩⟩
  obtain ⟨c1,c2,_,c4⟩:=harc k hkn a ha;have:=c4 (hone k hkn h);exact ⟨by omega,by omega⟩
 .rw [hlen]
  refine ⟨fun k hkn h a ha=>?_,fun k hkn=>⟨(hF _ (hmem k hkn)).1,by have:=(hF _ (hmem k hkn)).2;omega⟩⟩
  obtain ⟨c1,c2,_,c4⟩:=harc k hkn a ha;exact ⟨by omega,c4 (hone k hkn h)⟩
 .intro k hkn
  rw [hlen] at hkn;exact (hF _ (hmem k hkn)).2
 .rw [hlen]
  refine ⟨fun _ _ _=>trivial,fun k S hkn _ h _ a ha _=>⟨trivial,?_⟩,fun k S hkn _ h _=>⟨hpos k hkn h,by have:=(hF _ (hmem k hkn)).2;omega⟩⟩
  obtain ⟨c1,c2,_,c4⟩:=harc k hkn a ha;have:=c4 (hone k hkn h);split <;> omega
 .intro k hkn h
  rw [hlen] at hkn;exact (hF _ (hmem k hkn)).2
theorem aM5 (a b:Nat):((a:Int)==(b:Int))=(a==b):=by rw [Bool.eq_iff_iff];simp;omega
theorem aFp (a b:Nat):((a:Int) != (b:Int))=(a != b):=by unfold bne;rw [aM5]
theorem aMk (b:Bool):(if b=true then 1 else 0)=b.toNat:=by cases b <;> rfl
theorem aLs {n:Nat} {c:aA3} (hl:c.length=n) {v:Nat} (hv:v<n):(aAe tokensP (aBe n) c).testBit v=bOy n c v:=by
 rw [aDs,decide_eq_true (show v<c.length by omega),Bool.true_and,Bool.eq_iff_iff,decide_eq_true_iff,aF9 c hv]
theorem aLt {n:Nat} (hn:n<=4) {c:aA3} (hm:aC4 tokensP (aBe n) c=0) {T:Nat} (hT:∀ v,T.testBit v=true->v<c.length/\0<=aAm tokensP.rules (aBe n) c v) {v:Nat} (hv:v<n) :
  aDc (aAf tokensP (aBe n) c T) v=bif T.testBit v then (if v=0 then ((((aDc c v).toNat+1) % (n+1):Nat):Int) else aDc c ((v+n-1) % n)) else aDc c v:=by
 have hl:=aBx hm;rw [aF7] at hl;rw [aV8 (by omega)]
 cases hb:T.testBit v with
 | false=>rfl
 | true=>rw [if_pos rfl,cond_true];exact bBq hn hm hv ((aF9 c hv).1 (hT v hb).2)
def F3 (c:aA3):Nat:=fK3 (aDc c 0).toNat (aDc c 1).toNat (aDc c 2).toNat
def F4 (c:aA3):Nat:=fK4 (aDc c 0).toNat (aDc c 1).toNat (aDc c 2).toNat (aDc c 3).toNat
def C3 (c:aA3):Nat:=cK3 (aDc c 0).toNat (aDc c 1).toNat (aDc c 2).toNat
def C4 (c:aA3):Nat:=cK4 (aDc c 0).toNat (aDc c 1).toNat (aDc c 2).toNat (aDc c 3).toNat
theorem aBn {n:Nat} (hn:n<=4) {c:aA3} (hm:aC4 tokensP (aBe n) c=0) {v:Nat} (hv:v<n):∃ a:Nat,a<n+1/\aDc c v=(a:Int):=by
 obtain ⟨_,h2,h3⟩:=aOm hn hm hv;exact ⟨(aDc c v).toNat,by omega,by omega⟩
theorem pop3 {c:aA3} (hm:aC4 tokensP (aBe 3) c=0):aN2 (aAe tokensP (aBe 3) c)=C3 c:=by
 have hl:=aBx hm;rw [aF7] at hl;have hp:=aG9 hm;rw [aF7] at hp;rw [aRk (by decide) hp]
 simp only [aG0,aMk]
 rw [aLs hl (show 0<3 by decide),aLs hl (show 1<3 by decide),aLs hl (show 2<3 by decide)]
 obtain ⟨a,_,ea⟩:=aBn (by decide) hm (show 0<3 by decide)
 obtain ⟨b,_,eb⟩:=aBn (by decide) hm (show 1<3 by decide)
 obtain ⟨d,_,ed⟩:=aBn (by decide) hm (show 2<3 by decide)
 show 0+(aDc c 0==aDc c 2).toNat+(aDc c 1 != aDc c 0).toNat+(aDc c 2 != aDc c 1).toNat=_
 unfold C3 cK3;rw [ea,eb,ed,aM5,aFp,aFp];simp only [Int.toNat_natCast]
 omega
theorem pop4 {c:aA3} (hm:aC4 tokensP (aBe 4) c=0):aN2 (aAe tokensP (aBe 4) c)=C4 c:=by
 have hl:=aBx hm;rw [aF7] at hl;have hp:=aG9 hm;rw [aF7] at hp;rw [aRk (by decide) hp]
 simp only [aG0,aMk]
 rw [aLs hl (show 0<4 by decide),aLs hl (show 1<4 by decide),aLs hl (show 2<4 by decide),aLs hl (show 3<4 by decide)]
 obtain ⟨a,_,ea⟩:=aBn (by decide) hm (show 0<4 by decide)
 obtain ⟨b,_,eb⟩:=aBn (by decide) hm (show 1<4 by decide)
 obtain ⟨d,_,ed⟩:=aBn (by decide) hm (show 2<4 by decide)
 obtain ⟨e,_,ee⟩:=aBn (by decide) hm (show 3<4 by decide)
 show 0+(aDc c 0==aDc c 3).toNat+(aDc c 1 != aDc c 0).toNat+(aDc c 2 != aDc c 1).toNat+(aDc c 3 != aDc c 2).toNat=_
 unfold C4 cK4;rw [ea,eb,ed,ee,aM5,aFp,aFp,aFp];simp only [Int.toNat_natCast]
 omega
theorem aTm (p:Bool) (a b:Int):(bif p then a else b).toNat=bif p then a.toNat else b.toNat:=by cases p <;> rfl
theorem bPm {T n:Nat} (h0:T≠0) (h:T<2 ^ n):∃ v,v<n/\T.testBit v=true:=by
 cases Classical.em (∃ v,v<n/\T.testBit v=true) with
 | inl h=>exact h
 | inr hn =>
  exfalso;apply h0
  apply Nat.eq_of_testBit_eq
  intro i
  rw [Nat.zero_testBit];cases hb:T.testBit i with
  | false=>rfl
  | true =>
   by_cases hi:i<n
   .exact absurd ⟨i,hi,hb⟩ hn
   .rw [Nat.testBit_lt_two_pow (Nat.lt_of_lt_of_le h (Nat.pow_le_pow_right (by decide) (Nat.le_of_not_lt hi)))] at hb;cases hb
theorem tok3 {c:aA3} (hm:aC4 tokensP (aBe 3) c=0) {T:Nat} (h0:T≠0) (h8:T<2 ^ 3) (hT:∀ v,T.testBit v=true->v<c.length/\0<=aAm tokensP.rules (aBe 3) c v) :
  (C3 c=1->C3 (aAf tokensP (aBe 3) c T)=1)/\(C3 c≠1->aN2 T+F3 (aAf tokensP (aBe 3) c T)<=F3 c):=by
 obtain ⟨a,ha,ea⟩:=aBn (by decide) hm (show 0<3 by decide)
 obtain ⟨b,hb,eb⟩:=aBn (by decide) hm (show 1<3 by decide)
 obtain ⟨d,hd,ed⟩:=aBn (by decide) hm (show 2<3 by decide)
 have s0:=aLt (by decide) hm hT (show 0<3 by decide)
 have s1:=aLt (by decide) hm hT (show 1<3 by decide)
 have s2:=aLt (by decide) hm hT (show 2<3 by decide)
 rw [if_pos rfl,ea] at s0;rw [if_neg (by decide),show (1+3-1) % 3=0 from rfl,ea,eb] at s1
 rw [if_neg (by decide),show (2+3-1) % 3=1 from rfl,eb,ed] at s2
 have n0:T.testBit 0=true->(a==d)=true:=fun h=>by
  have:=(aF9 c (show 0<3 by decide)).1 (hT 0 h).2
  rw [<- aM5,<- ea,<- ed];exact this
 have n1:T.testBit 1=true->(b != a)=true:=fun h=>by
  have:=(aF9 c (show 1<3 by decide)).1 (hT 1 h).2
  rw [<- aFp,<- ea,<- eb];exact this
 have n2:T.testBit 2=true->(d != b)=true:=fun h=>by
  have:=(aF9 c (show 2<3 by decide)).1 (hT 2 h).2
  rw [<- aFp,<- eb,<- ed];exact this
 have hor:(T.testBit 0||T.testBit 1||T.testBit 2)=true:=by
  obtain ⟨v,hv,hvb⟩:=bPm h0 h8;have:v=0∨v=1∨v=2:=by omega
  rcases this with rfl | rfl | rfl <;> simp [hvb]
 have hp:aN2 T=(T.testBit 0).toNat+(T.testBit 1).toNat+(T.testBit 2).toNat:=by
  rw [aRk (by decide) h8]
  simp only [aG0,aMk];omega
 obtain ⟨_,_,hg⟩:=bO1 ha hb hd;have hg:=hg (T.testBit 0) (T.testBit 1) (T.testBit 2);unfold goK3 at hg;unfold C3 F3;rw [s0,s1,s2,ea,eb,ed,hp];simp only [aTm,Int.toNat_natCast]
 generalize T.testBit 0=p at *;generalize T.testBit 1=q at *;generalize T.testBit 2=r at *
 have hc:((p||q||r)&&(!p||a==d)&&(!q||b != a)&&(!r||d != b))=true:=by
  rw [hor,Bool.true_and];have m0:(!p||a==d)=true:=by cases p with | false=>rfl | true=>exact n0 rfl
  have m1:(!q||b != a)=true:=by cases q with | false=>rfl | true=>exact n1 rfl
  have m2:(!r||d != b)=true:=by cases r with | false=>rfl | true=>exact n2 rfl
  rw [m0,m1,m2];rfl
 rw [hc,cond_true] at hg;constructor
 .intro h
  rw [h] at hg;rw [show ((1:Nat)==1)=true from rfl,cond_true] at hg
  exact eq_of_beq hg
 .intro h
  rw [show (cK3 a b d==1)=false from by simpa using h,cond_false] at hg
  exact Nat.le_of_ble_eq_true hg
theorem tok4 {c:aA3} (hm:aC4 tokensP (aBe 4) c=0) {T:Nat} (h0:T≠0) (h8:T<2 ^ 4) (hT:∀ v,T.testBit v=true->v<c.length/\0<=aAm tokensP.rules (aBe 4) c v) :
  (C4 c=1->C4 (aAf tokensP (aBe 4) c T)=1)/\(C4 c≠1->aN2 T+F4 (aAf tokensP (aBe 4) c T)<=F4 c):=by
 obtain ⟨a,ha,ea⟩:=aBn (by decide) hm (show 0<4 by decide)
 obtain ⟨b,hb,eb⟩:=aBn (by decide) hm (show 1<4 by decide)
 obtain ⟨d,hd,ed⟩:=aBn (by decide) hm (show 2<4 by decide)
 obtain ⟨e,he,ee⟩:=aBn (by decide) hm (show 3<4 by decide)
 have s0:=aLt (by decide) hm hT (show 0<4 by decide)
 have s1:=aLt (by decide) hm hT (show 1<4 by decide)
 have s2:=aLt (by decide) hm hT (show 2<4 by decide)
 have s3:=aLt (by decide) hm hT (show 3<4 by decide)
 rw [if_pos rfl,ea] at s0;rw [if_neg (by decide),show (1+4-1) % 4=0 from rfl,ea,eb] at s1
 rw [if_neg (by decide),show (2+4-1) % 4=1 from rfl,eb,ed] at s2
 rw [if_neg (by decide),show (3+4-1) % 4=2 from rfl,ed,ee] at s3
 have n0:T.testBit 0=true->(a==e)=true:=fun h=>by
  have:=(aF9 c (show 0<4 by decide)).1 (hT 0 h).2
  rw [<- aM5,<- ea,<- ee];exact this
 have n1:T.testBit 1=true->(b != a)=true:=fun h=>by
  have:=(aF9 c (show 1<4 by decide)).1 (hT 1 h).2
  rw [<- aFp,<- ea,<- eb];exact this
 have n2:T.testBit 2=true->(d != b)=true:=fun h=>by
  have:=(aF9 c (show 2<4 by decide)).1 (hT 2 h).2
  rw [<- aFp,<- eb,<- ed];exact this
 have n3:T.testBit 3=true->(e != d)=true:=fun h=>by
  have:=(aF9 c (show 3<4 by decide)).1 (hT 3 h).2
  rw [<- aFp,<- ed,<- ee];exact this
 have hor:(T.testBit 0||T.testBit 1||T.testBit 2||T.testBit 3)=true:=by
  obtain ⟨v,hv,hvb⟩:=bPm h0 h8;have:v=0∨v=1∨v=2∨v=3:=by omega
  rcases this with rfl | rfl | rfl | rfl <;> simp [hvb]
 have hp:aN2 T=(T.testBit 0).toNat+(T.testBit 1).toNat+(T.testBit 2).toNat+(T.testBit 3).toNat:=by
  rw [aRk (by decide) h8]
  simp only [aG0,aMk];omega
 obtain ⟨_,_,hg⟩:=bO2 ha hb hd he;have hg:=hg (T.testBit 0) (T.testBit 1) (T.testBit 2) (T.testBit 3);unfold goK4 at hg;unfold C4 F4;rw [s0,s1,s2,s3,ea,eb,ed,ee,hp];simp only [aTm,Int.toNat_natCast]
 generalize T.testBit 0=p at *;generalize T.testBit 1=q at *;generalize T.testBit 2=r at *;generalize T.testBit 3=s at *
 have hc:((p||q||r||s)&&(!p||a==e)&&(!q||b != a)&&(!r||d != b)&&(!s||e != d))=true:=by
  rw [hor,Bool.true_and];have m0:(!p||a==e)=true:=by cases p with | false=>rfl | true=>exact n0 rfl
  have m1:(!q||b != a)=true:=by cases q with | false=>rfl | true=>exact n1 rfl
  have m2:(!r||d != b)=true:=by cases r with | false=>rfl | true=>exact n2 rfl
  have m3:(!s||e != d)=true:=by cases s with | false=>rfl | true=>exact n3 rfl
  rw [m0,m1,m2,m3];rfl
 rw [hc,cond_true] at hg;constructor
 .intro h
  rw [h] at hg;rw [show ((1:Nat)==1)=true from rfl,cond_true] at hg
  exact eq_of_beq hg
 .intro h
  rw [show (cK4 a b d e==1)=false from by simpa using h,cond_false] at hg
  exact Nat.le_of_ble_eq_true hg
theorem bBo {kind:Int} (hk:aF1 kind=true):TokL prK (aBe 3) kind 12:=by
 rw [bN5];refine bK0 (n:=64) aZ2 (by decide +kernel) (by decide) (by rw [aF7];decide) hk (fun c=>(F3 c:Int)) (by decide) (fun c hm=>⟨by omega,?_⟩) (fun c hm h=>?_) (fun c hm T h0 h8 hT=>?_)
 .obtain ⟨a,ha,ea⟩:=aBn (by decide) hm (show 0<3 by decide)
  obtain ⟨b,hb,eb⟩:=aBn (by decide) hm (show 1<3 by decide)
  obtain ⟨d,hd,ed⟩:=aBn (by decide) hm (show 2<3 by decide)
  have:=(bO1 ha hb hd).2.1;unfold F3;rw [ea,eb,ed];simp only [Int.toNat_natCast];omega
 .obtain ⟨a,ha,ea⟩:=aBn (by decide) hm (show 0<3 by decide)
  obtain ⟨b,hb,eb⟩:=aBn (by decide) hm (show 1<3 by decide)
  obtain ⟨d,hd,ed⟩:=aBn (by decide) hm (show 2<3 by decide)
  have h1:=(bO1 ha hb hd).1;have h2:=pop3 hm;rw [h] at h2;unfold C3 at h2;rw [ea,eb,ed] at h2;simp only [Int.toNat_natCast] at h2;have h3:aN2 0=0:=by decide
  omega
 .rw [aF7] at h8
  obtain ⟨h1,h2⟩:=tok3 hm h0 h8 hT;have hm2:=aKn hm (S:=T) (fun v hv hb=>(hT v hb).2);rw [pop3 hm,pop3 hm2];exact ⟨h1,fun h=>by have:=h2 h;omega⟩
theorem bBp {kind:Int} (hk:aF1 kind=true):TokL prK (aBe 4) kind 20:=by
 rw [bN5];refine bK0 (n:=625) aZ3 (by decide +kernel) (by decide) (by rw [aF7];decide) hk (fun c=>(F4 c:Int)) (by decide) (fun c hm=>⟨by omega,?_⟩) (fun c hm h=>?_) (fun c hm T h0 h8 hT=>?_)
 .obtain ⟨a,ha,ea⟩:=aBn (by decide) hm (show 0<4 by decide)
  obtain ⟨b,hb,eb⟩:=aBn (by decide) hm (show 1<4 by decide)
  obtain ⟨d,hd,ed⟩:=aBn (by decide) hm (show 2<4 by decide)
  obtain ⟨e,he,ee⟩:=aBn (by decide) hm (show 3<4 by decide)
  have:=(bO2 ha hb hd he).2.1;unfold F4;rw [ea,eb,ed,ee];simp only [Int.toNat_natCast];omega
 .obtain ⟨a,ha,ea⟩:=aBn (by decide) hm (show 0<4 by decide)
  obtain ⟨b,hb,eb⟩:=aBn (by decide) hm (show 1<4 by decide)
  obtain ⟨d,hd,ed⟩:=aBn (by decide) hm (show 2<4 by decide)
  obtain ⟨e,he,ee⟩:=aBn (by decide) hm (show 3<4 by decide)
  have h1:=(bO2 ha hb hd he).1;have h2:=pop4 hm;rw [h] at h2;unfold C4 at h2;rw [ea,eb,ed,ee] at h2;simp only [Int.toNat_natCast] at h2;have h3:aN2 0=0:=by decide
  omega
 .rw [aF7] at h8
  obtain ⟨h1,h2⟩:=tok4 hm h0 h8 hT;have hm2:=aKn hm (S:=T) (fun v hv hb=>(hT v hb).2);rw [pop4 hm,pop4 hm2];exact ⟨h1,fun h=>by have:=h2 h;omega⟩
end Go.Proofs.YtmoebklkkjbigaaGreatDoor

