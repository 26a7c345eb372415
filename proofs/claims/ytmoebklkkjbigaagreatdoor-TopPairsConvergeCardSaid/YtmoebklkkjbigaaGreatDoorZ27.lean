/- Merged. -/
import Derived.Test.YtmoebklkkjbigaaGreatDoorZ26
set_option linter.unusedSimpArgs false
set_option linter.unnecessarySimpa false
set_option linter.unusedVariables false
set_option maxRecDepth 100000

namespace Go.Proofs.YtmoebklkkjbigaaGreatDoor
theorem aSa {g:Graph} {kind:Int} {E:Nat} (hE:E<4294967296):(aAq g kind E).1.Pairwise (· < ·):=by
 unfold aAq;split
 .exact List.Pairwise.nil
 split
 .rw [List.pairwise_map]
  have h:(aAg E).Pairwise (· < ·):=List.pairwise_lt_range.filter _;exact h.imp fun h=>Nat.pow_lt_pow_right (by decide) h
 split
 .exact List.pairwise_singleton _ _
 split
 .exact List.Pairwise.nil
 .exact (aPk hE (E-lsb E+1) _ (by omega) aIq).filter _
theorem aXv {g:Graph} (hg:GOK g) {v:Nat} (hv:v<g.ports.length):aI2 g (2 ^ v)=true:=by
 have hle:=hg.le;rw [aFl (aLj (by omega))]
 intro u hu
 rw [aEp] at hu;obtain rfl:=of_decide_eq_true hu;rw [aHa];intro x hx
 rw [aEp];refine decide_eq_false fun e=>?_
 subst e;obtain ⟨l,hl,e⟩:=(aHi hv).1 hx;obtain ⟨a1,_,a3,_⟩:=aB3.1 ((aAu.1 (hg.links v hv)).1 l hl);omega
def aW8 (a b:Int):Bool:=a==b||b==3||(a==1&&b==2)
theorem bG7 {S:Nat} (hS:S<4294967296) (h0:S≠0) (h:(S&&&(S-1)==0)=true):∃ v,v<32/\S=2 ^ v:=by
 rw [aOp hS h0,decide_eq_true_iff] at h;obtain ⟨k,m,e,hk,_,_,e3⟩:=aDl hS h0;rw [e3,List.length_cons] at h
 have hz:2 ^ k*(2*m)=0:=by
  refine (aFs ?_).1 (by omega)
  have:2 ^ k*(2*m)<=2 ^ k*(2*m+1):=Nat.mul_le_mul_left _ (by omega)
  omega
 exact ⟨k,hk,by rw [e,Nat.mul_add,hz];simp⟩
theorem aLe {g:Graph} (hg:GOK g) {a b:Int} {E T:Nat} (hT:T<4294967296) (hE:E<2 ^ g.ports.length) (hab:aW8 a b=true) (h:aAj g a E T=true):aAj g b E T=true:=by
 unfold aW8 at hab;simp at hab
 obtain ⟨h0,hw⟩:=aBh h
 rcases hab with (rfl | rfl) | ⟨rfl,rfl⟩
 .exact h
 .unfold aAj
  rw [if_neg h0,hw];simp
 .unfold aAj at h ⊢
  rw [if_neg h0,hw,if_neg (by decide),if_pos rfl] at h
  rw [if_neg h0,hw,if_neg (by decide),if_neg (by decide),if_pos rfl]
  obtain ⟨v,hv,rfl⟩:=bG7 hT h0 h;have hb:=aAf.1 hw v hv (by rw [aEp];simp)
  refine aXv hg ?_
  rcases Nat.lt_or_ge v g.ports.length with h | h
  .exact h
  .have e:2 ^ g.ports.length<=2 ^ v:=Nat.pow_le_pow_right (by decide) h
   rw [Nat.testBit_lt_two_pow (Nat.lt_of_lt_of_le hE e)] at hb;cases hb
theorem bA2 {g:Graph} (hg:GOK g) {kind:Int} (hk:aGx kind=true) {E:Nat} (hE:E<2 ^ g.ports.length) (ho:(aAq g kind E).2=0):decide (E≠0)=decide (0<(aAq g kind E).1.length):=by
 have hle:=hg.le;have hlt:E<4294967296:=Nat.lt_of_lt_of_le hE (Nat.pow_le_pow_right (n:=2) (by decide) (show g.ports.length<=32 by omega))
 by_cases h0:E=0
 .subst h0
  unfold aAq;rw [if_pos rfl];rfl
 .rw [decide_eq_true h0]
  symm
  rw [decide_eq_true_iff]
  by_cases h4:kind=4
  .unfold aAq
   rw [if_neg h0,if_neg (by omega),if_pos h4];simp
  .obtain ⟨v,m,e,hv,e1,e2,e3⟩:=aDl hlt h0
   have hvE:v∈aAg E:=by rw [e3];exact List.mem_cons_self
   have hT:aAj g 1 E (2 ^ v)=true:=by
    have:=(aCu (g:=g) (kind:=1) hlt (by decide) (by unfold aAq;rw [if_neg h0,if_pos rfl]) (aLj hv)).1 (by unfold aAq;rw [if_neg h0,if_pos rfl];exact List.mem_map.2 ⟨v,hvE,rfl⟩)
    exact this
   have hw:aW8 1 kind=true:=by
    unfold aGx at hk;unfold aW8;simp at hk ⊢
    omega
   exact List.length_pos_of_mem ((aCu hlt hk ho (aLj hv)).2 (aLe hg (aLj hv) hE hw hT))
def esF (p:Prg) (g:Graph) (k:Nat):List Nat:=(List.range k).map fun u=>aAe p g (aAw p g u)
def lsF (p:Prg) (g:Graph) (kind:Int) (k:Nat):List (List (Nat × Int)):=(List.range k).map fun u=>aFg p g kind (aAw p g u)
theorem aGp (p:Prg) (g:Graph) (k:Nat):(esF p g k).length=k:=by simp [esF]
theorem aEx (p:Prg) (g:Graph) (kind:Int) (k:Nat):(lsF p g kind k).length=k:=by simp [lsF]
theorem bPg (p:Prg) (g:Graph) {k n:Nat} (h:k<n):(esF p g n)[k]'(by rw [aGp];exact h)=aAe p g (aAw p g k):=by simp [esF]
theorem bN9 (p:Prg) (g:Graph) (kind:Int) {k n:Nat} (h:k<n):(lsF p g kind n)[k]'(by rw [aEx];exact h)=aFg p g kind (aAw p g k):=by simp [lsF]
theorem aHd {p:Prg} {g:Graph} {c:aA2} (hm:aC0 p g c=0):aAe p g c<2 ^ g.ports.length:=by
 have:=aVs c.length fun v=>decide (0<=aAk p.rules g c v);rw [aBk hm] at this;unfold aAe;rw [aBk hm];exact this
theorem aJn {p:Prg} {g:Graph} {c:aA2} (hm:aC0 p g c=0) (h5:g.ports.length<=5):aAe p g c<32 :=
 Nat.lt_of_lt_of_le (aHd hm) (show 2 ^ g.ports.length<=2 ^ 5 from Nat.pow_le_pow_right (by decide) h5)
theorem aIj {p:Prg} {g:Graph} {c:aA2} {kind:Int} (hm:aC0 p g c=0) (hk:aGx kind=true) (h5:g.ports.length<=5) {T:Nat} (hT:T∈(aAq g kind (aAe p g c)).1) :
  T<4294967296/\bDp p g c T=(aAd p g c T,0)/\aC0 p g (aAd p g c T)=0:=by
 have h32:=aJn hm h5;have hE:aAe p g c<4294967296:=by omega
 obtain ⟨h1,h2⟩:=aFy hE hT;have h3:=aBh ((aCu hE hk (aCf h32).1 h1).1 hT);refine ⟨h1,aZ3 hm h3.1 h2,aN7 hm fun v hv hb=>?_⟩
 have h4:=aAf.1 h2 v (aGv h1 hb) hb;rw [aE0] at h4;simp at h4
 exact h4.2
theorem aWl {E:Nat} {n:Int} {f:Nat->Int}:∀ {L:List Nat} {b:Nat},L.Pairwise (· < ·)->(∀ T∈L,b<T/\aB1 T E=true/\0<=f T/\f T<n)->aKz E n b (L.map fun T=>(T,f T))=true
 | [],_,_,_=>rfl
 | a :: L,b,h1,h=>by
  obtain ⟨a1,a2⟩:=List.pairwise_cons.1 h1;obtain ⟨c1,c2,c3,c4⟩:=h a List.mem_cons_self;rw [List.map_cons];unfold aKz;rw [aWl a2 fun T hT=>⟨a1 T hT,(h T (List.mem_cons_of_mem _ hT)).2⟩];simp [c1,c2,c3,c4]
theorem aLw {p:Prg} {g:Graph} {kind:Int} {n:Nat} (hf:aD8 p g=0) (hn:aE7 p g=(n:Int)) (hk:aGx kind=true) (h5:g.ports.length<=5):aD5 ⟨esF p g n,lsF p g kind n⟩=true:=by
 have hsp:=bDl hf;have hg:=(aAm hf).2.1;unfold aD5;simp only [aGp,aEx,Bool.and_eq_true,decide_eq_true_eq,List.all_eq_true,List.mem_range]
 refine ⟨⟨by omega,trivial⟩,fun k hkn=>?_⟩
 have hm:aC0 p g (aAw p g k)=0:=aDz hf (by omega)
 rw [aA7 (show k<(esF p g n).length by rw [aGp];exact hkn),aA7 (show k<(lsF p g kind n).length by rw [aEx];exact hkn),bPg p g hkn,bN9 p g kind hkn]
 generalize aAw p g k=c at hm;have h32:=aJn hm h5;have hlt:aAe p g c<4294967296:=by omega
 have hle:=aHd hm;have hpos:=bA2 hg hk hle (aCf h32).1;unfold aBz aFg;rw [List.length_map,<- hpos,decide_eq_true (show aAe p g c<16777216 by omega)]
 simp only [beq_self_eq_true,Bool.true_and]
 refine aWl (aSa hlt) fun T hT=>?_
 obtain ⟨t1,_,t3⟩:=aIj hm hk h5 hT;have h3:=aBh ((aCu hlt hk (aCf h32).1 t1).1 hT);obtain ⟨r1,r2⟩:=aI7 t3;exact ⟨Nat.pos_of_ne_zero h3.1,h3.2,r1,by rw [<- hn];exact r2⟩
theorem bDo {p:Prg} {g:Graph} {kind:Int} {n:Nat} (hf:aD8 p g=0) (hn:aE7 p g=(n:Int)) (hk:aGx kind=true) (h5:g.ports.length<=5):wfS ⟨esF p g n,lsF p g kind n⟩:=by
 refine ⟨fun E hE=>?_,fun l hl x hx=>?_⟩
 .obtain ⟨k,hk2,rfl⟩:=List.mem_map.1 hE
  have hm:aC0 p g (aAw p g k)=0:=aDz hf (by have:=List.mem_range.1 hk2;omega)
  have:=aJn hm h5;omega
 .obtain ⟨k,hk2,rfl⟩:=List.mem_map.1 hl
  have hm:aC0 p g (aAw p g k)=0:=aDz hf (by have:=List.mem_range.1 hk2;omega)
  obtain ⟨T,hT,rfl⟩:=List.mem_map.1 hx;exact (aIj hm hk h5 hT).1
theorem bNr {p:Prg} {g:Graph} {kind:Int} {c:aA2} (hm:aC0 p g c=0) (h5:g.ports.length<=5):(aFg p g kind c).length<=31:=bC6 h5 (aBk hm)
theorem aRy {p:Prg} {g:Graph} {kind:Int} {n:Nat} (hf:aD8 p g=0) (hn:aE7 p g=(n:Int)) (h2:n<=700) (h5:g.ports.length<=5):aE3 ⟨esF p g n,lsF p g kind n⟩=true:=by
 unfold aE3;simp only [aGp,aEx,Bool.and_eq_true,decide_eq_true_eq,List.all_eq_true]
 refine ⟨⟨h2,h2⟩,fun l hl=>?_⟩
 obtain ⟨k,hk2,rfl⟩:=List.mem_map.1 hl;have hm:aC0 p g (aAw p g k)=0:=aDz hf (by have:=List.mem_range.1 hk2;omega)
 have:=bNr (kind:=kind) hm h5;omega
theorem bBp {p:Prg} {g:Graph} {c:aA2} (hm:aC0 p g c=0) (h5:g.ports.length<=5) {X P:Nat} (hX:X∈(aAq g 2 (aAe p g c)).1) (hP:P&&&X=P) (h0:P≠0) (h1:P≠X) :
  P∈(aAq g 2 (aAe p g c)).1/\aBq X P∈(aAq g 2 (aAe p g (aAd p g c P))).1/\aAd p g (aAd p g c P) (aBq X P)=aAd p g c X:=by
 have hf:=(aBr hm).1;have hc:=(aAm hf).1;have hg:=(aAm hf).2.1;have hle:=hg.le;have h32:=aJn hm h5;have hlt:aAe p g c<4294967296:=by omega
 obtain ⟨hX32,hXE⟩:=aFy hlt hX;have hXp:=(aCu hlt (by decide) (aCf h32).1 hX32).1 hX
 have hX0:=(aBh hXp).1
 have hXi:aI2 g X=true:=by
  unfold aAj at hXp;rw [if_neg hX0,hXE,if_neg (by decide),if_neg (by decide),if_pos rfl] at hXp
  exact hXp
 have hXn:=aPd hXE (aPc (by omega) (aHd hm))
 have hI:Indep g X:=bI2 hX32 (by rw [bF2 hg hX32 hXn];exact hXi)
 have hP32:P<4294967296:=Nat.lt_of_le_of_lt (aCo hP) hX32;have hPX:=(aFn hP32 hX32).1 hP;have hbit:∀ v,P.testBit v=true->X.testBit v=true:=fun v hv=>aAf.1 hPX v (aGv hP32 hv) hv
 have hen:∀ v,X.testBit v=true->0<=aAk p.rules g c v:=fun v hv=>by
  have:=aAf.1 hXE v (aGv hX32 hv) hv;rw [aE0] at this;simp at this
  exact this.2
 have hi2:∀ Q,Q<4294967296->(∀ v,Q.testBit v=true->X.testBit v=true)->aI2 g Q=true:=fun Q hQ hQX=>by
  rw [aFl hQ];intro v hv
  have h:=(aFl hX32).1 hXi v (hQX v hv);rw [aHa] at h ⊢;intro u hu
  have:=h u hu;cases hb:Q.testBit u with
  | false=>rfl
  | true=>rw [hQX u hb] at this;cases this
 have hD32:=aMc X P;have hDb:∀ v,(aBq X P).testBit v=(X.testBit v && !P.testBit v):=fun v=>aFz hX32 v;have hDX:∀ v,(aBq X P).testBit v=true->X.testBit v=true:=fun v hv=>by rw [hDb] at hv;simp at hv;exact hv.1
 have hcl:=aBk hm;have hmd:aC0 p g (aAd p g c P)=0:=aN7 hm fun v _ hv=>hen v (hbit v hv);have hd32:=aJn hmd h5;refine ⟨(aCu hlt (by decide) (aCf h32).1 hP32).2 ?_,(aCu (by omega) (by decide) (aCf hd32).1 hD32).2 ?_,?_⟩
 .unfold aAj
  rw [if_neg h0,aPd hPX hXE,if_neg (by decide),if_neg (by decide),if_pos rfl]
  exact hi2 P hP32 hbit
 .have hD0:aBq X P≠0:=fun h=>by
   have h2:=aGn (T:=P) hX32;rw [h] at h2
   exact h1 (aV1 hP32 hX32 fun v hv=>by
    cases hb:X.testBit v with
    | true=>exact aAf.1 h2.symm v hv hb
    | false =>
     cases hq:P.testBit v with
     | false=>rfl
     | true=>rw [hbit v hq] at hb;cases hb)
  have hDE:aB1 (aBq X P) (aAe p g (aAd p g c P))=true:=by
   rw [aAf];intro v hv hb
   have hXv:=hDX v hb;have hPv:P.testBit v=false:=by rw [hDb] at hb;simp at hb;exact hb.2
   have hin:=hI.node v hXv;have hag:=aTn (p:=p) hm hI hbit hXv hPv;rw [aE0,aBe,decide_eq_true (show v<c.length by omega),Bool.true_and,decide_eq_true_iff,<- aP1 hc hg hin hag]
   exact hen v hXv
  unfold aAj;rw [if_neg hD0,hDE,if_neg (by decide),if_neg (by decide),if_pos rfl]
  exact hi2 _ hD32 hDX
 .refine List.ext_getElem (by simp [aBe]) fun v h1 h2=>?_
  have hv:v<c.length:=by simpa [aBe] using h1
  rw [<- aA7 h1 (d:=[]),<- aA7 h2 (d:=[]),aFa _ _ _ _ (by rw [aBe];exact hv),aFa _ _ _ _ hv,aFa _ _ _ _ hv,hDb]
  cases hXv:X.testBit v with
  | false =>
   have hPv:P.testBit v=false:=by
    cases hq:P.testBit v with
    | false=>rfl
    | true=>rw [hbit v hq] at hXv;cases hXv
   rw [hPv];simp
  | true =>
   cases hPv:P.testBit v with
   | true=>simp
   | false =>
    have hin:=hI.node v hXv;have hag:=aTn (p:=p) hm hI hbit hXv hPv;simp only [Bool.not_false,Bool.and_true,if_true]
    exact (bAq hc hg hin hag (hen v hXv)).symm
structure Cnt where
 steps:Int
 moves:Int
 rounds:Int
 begun:Int
 pending:Nat
def aOz (E:Nat):Cnt:=⟨0,0,0,0,E⟩
def bGm (k:Cnt) (S A:Nat):Cnt :=
 if aBq k.pending S&&&A=0 then ⟨k.steps+1,k.moves+(aAg S).length,k.rounds+1,k.rounds+1,A⟩
 else ⟨k.steps+1,k.moves+(aAg S).length,k.rounds,k.rounds+1,aBq k.pending S&&&A⟩
structure OkK (k:Cnt) (n:Nat):Prop where
 steps:k.steps=(n:Int)
 moves1:(n:Int)<=k.moves
 moves2:k.moves<=24*(n:Int)
 rounds:0<=k.rounds
 begun1:k.rounds<=k.begun
 begun2:k.begun<=(n:Int)
 begun3:k.begun<=k.rounds+1
 pending:k.pending<16777216
theorem OkK.start {E:Nat} (h:E<16777216):OkK (aOz E) 0:=⟨rfl,Int.le_refl _,Int.le_refl _,Int.le_refl _,Int.le_refl _,Int.le_refl _,(by show (0:Int)<=0+1;decide),h⟩
theorem OkK.add {k:Cnt} {n S A:Nat} (h:OkK k n) (h0:S≠0) (hS:S<16777216) (hA:A<16777216):OkK (bGm k S A) (n+1):=by
 have hl:=aJm (S:=S) (n:=24) (by decide) hS
 have h1:1<=(aAg S).length:=by
  rcases Nat.eq_zero_or_pos (aAg S).length with h | h
  .exact absurd ((aFs (by omega)).1 h) h0
  .exact h
 obtain ⟨a1,a2,a3,a4,a5,a6,a7,a8⟩:=h;unfold bGm;split
 .exact ⟨by simp;omega,by simp;omega,by simp;omega,by simp;omega,by simp,by simp;omega,by simp;omega,hA⟩
 .refine ⟨by simp;omega,by simp;omega,by simp;omega,a4,by simp;omega,by simp;omega,by simp,Nat.lt_of_le_of_lt Nat.and_le_right hA⟩
structure Trc where
 chosen:List Nat
 enabled:List Nat
 last:aA2
 count:Cnt
def aDm (p:Prg) (g:Graph) (c:aA2):Trc:=⟨[],[aAe p g c],c,aOz (aAe p g c)⟩
def aJ7 (p:Prg) (g:Graph) (t:Trc) (S:Nat):Trc :=
 ⟨t.chosen++[S],t.enabled++[aAe p g (aAd p g t.last S)],aAd p g t.last S,bGm t.count S (aAe p g (aAd p g t.last S))⟩
structure OkT (p:Prg) (g:Graph) (t:Trc):Prop where
 mem:aC0 p g t.last=0
 len:t.enabled.length=t.chosen.length+1
 count:OkK t.count t.chosen.length
 now:t.enabled.getLast?=some (aAe p g t.last)
theorem aUf {p:Prg} {g:Graph} {c:aA2} (hm:aC0 p g c=0):aAe p g c<16777216:=by
 have hle:=(aAm (aBr hm).1).2.1.le;exact Nat.lt_of_lt_of_le (aHd hm) (show 2 ^ g.ports.length<=2 ^ 24 from Nat.pow_le_pow_right (by decide) hle)
theorem aTa {g:Graph} {kind:Int} {E S:Nat} (hS:S<4294967296) (hE:E<16777216) (h:aAj g kind E S=true):S≠0/\S<16777216:=by
 obtain ⟨h1,h2⟩:=aBh h;exact ⟨h1,Nat.lt_of_le_of_lt (aCo ((aFn hS (by omega)).2 h2)) hE⟩
theorem OkT.start {p:Prg} {g:Graph} {c:aA2} (hm:aC0 p g c=0):OkT p g (aDm p g c):=⟨hm,rfl,OkK.start (aUf hm),rfl⟩
theorem aZ4 {p:Prg} {g:Graph} {kind:Int} {c:aA2} {S:Nat} (hm:aC0 p g c=0) (hS:S<4294967296) (h:aAj g kind (aAe p g c) S=true) :
  aC0 p g (aAd p g c S)=0/\bDp p g c S=(aAd p g c S,0):=by
 obtain ⟨h1,h2⟩:=aBh h;refine ⟨aN7 hm fun v hv hb=>?_,aZ3 hm h1 h2⟩
 have h4:=aAf.1 h2 v (aGv hS hb) hb;rw [aE0] at h4;simp at h4
 exact h4.2
theorem OkT.next {p:Prg} {g:Graph} {kind:Int} {t:Trc} {S:Nat} (h:OkT p g t) (hS:S<4294967296) (hp:aAj g kind (aAe p g t.last) S=true):OkT p g (aJ7 p g t S):=by
 obtain ⟨h1,h2,h3,_⟩:=h;obtain ⟨hm,_⟩:=aZ4 h1 hS hp;obtain ⟨q1,q2⟩:=aTa hS (aUf h1) hp;refine ⟨hm,by simp [aJ7,h2],?_,by simp [aJ7]⟩
 have:=h3.add q1 q2 (aUf hm);simpa [aJ7] using this
def aZd (p:Prg) (g:Graph) (kind:Int) (ch:Nat->Nat->Nat) (gs:Nat->Nat->Bool):Nat->Nat->Trc->List Trc
 | 0,_,t=>[t]
 | n+1,i,t=>t :: (if gs i (aAe p g t.last)=true/\aAj g kind (aAe p g t.last) (ch i (aAe p g t.last))=true then aZd p g kind ch gs n (i+1) (aJ7 p g t (ch i (aAe p g t.last))) else [])
def aVp (p:Prg) (g:Graph) (kind:Int) (ch:Nat->Nat->Nat) (gs:Nat->Nat->Bool):Nat->Nat->Trc->Option Trc
 | 0,_,t=>some t
 | n+1,i,t=>if gs i (aAe p g t.last)=true then if aAj g kind (aAe p g t.last) (ch i (aAe p g t.last))=true then aVp p g kind ch gs n (i+1) (aJ7 p g t (ch i (aAe p g t.last))) else none else some t
variable {p:Prg} {g:Graph} {kind:Int} {ch:Nat->Nat->Nat} {gs:Nat->Nat->Bool}
theorem bJg {n i:Nat} {t:Trc} (h:gs i (aAe p g t.last)=false):aVp p g kind ch gs (n+1) i t=some t/\aZd p g kind ch gs (n+1) i t=[t]:=by
 unfold aVp aZd;rw [h];simp
theorem bMk {n i:Nat} {t:Trc} (h:gs i (aAe p g t.last)=true) (h2:aAj g kind (aAe p g t.last) (ch i (aAe p g t.last))=false):aVp p g kind ch gs (n+1) i t=none/\aZd p g kind ch gs (n+1) i t=[t]:=by
 unfold aVp aZd;rw [h,h2];simp
theorem bOm {n i:Nat} {t:Trc} (h:gs i (aAe p g t.last)=true) (h2:aAj g kind (aAe p g t.last) (ch i (aAe p g t.last))=true) :
  aVp p g kind ch gs (n+1) i t=aVp p g kind ch gs n (i+1) (aJ7 p g t (ch i (aAe p g t.last)))/\aZd p g kind ch gs (n+1) i t=t :: aZd p g kind ch gs n (i+1) (aJ7 p g t (ch i (aAe p g t.last))):=by
 constructor
 .conv=>lhs;unfold aVp
  rw [if_pos h,if_pos h2]
 .conv=>lhs;unfold aZd
  rw [if_pos ⟨h,h2⟩]
theorem bNq {E:Nat} (h:E<16777216):E&&&16777215=E:=by
 rw [show (16777215:Nat)=2 ^ 24-1 from rfl,Nat.and_two_pow_sub_one_eq_mod,Nat.mod_eq_of_lt h]
theorem bC9 {S n v:Nat} (hS:S<2 ^ n) (hv:S.testBit v=true):v<n:=by
 rcases Nat.lt_or_ge v n with h | h
 .exact h
 .rw [Nat.testBit_lt_two_pow (Nat.lt_of_lt_of_le hS (Nat.pow_le_pow_right (by decide) h))] at hv;cases hv
theorem bLd {S:Nat} (h:S<16777216):aBq S 16777215=0:=by
 have h1:(aBq S 16777215==0)=true:=by
  rw [aGn (by omega),aAf]
  intro v _ hv
  rw [show (16777215:Nat)=2 ^ 24-1 from rfl,Nat.testBit_two_pow_sub_one,decide_eq_true_iff]
  exact bC9 (n:=24) h hv
 simpa using h1
end Go.Proofs.YtmoebklkkjbigaaGreatDoor

