/- Merged. -/
import Derived.Test.YtmoebklkkjbigaaGreatDoorZ25
set_option linter.unusedSimpArgs false
set_option linter.unnecessarySimpa false
set_option linter.unusedVariables false
set_option maxRecDepth 100000

namespace Go.Proofs.YtmoebklkkjbigaaGreatDoor
theorem aS6 {g:Graph} {kind:Int} {E:Nat} (hE:E<4294967296):(aB0 g kind E).1.Pairwise (· < ·):=by
 unfold aB0;split
 .exact List.Pairwise.nil
 split
 .rw [List.pairwise_map]
  have h:(aAd E).Pairwise (· < ·):=List.pairwise_lt_range.filter _;exact h.imp fun h=>Nat.pow_lt_pow_right (by decide) h
 split
 .exact List.pairwise_singleton _ _
 split
 .exact List.Pairwise.nil
 .exact (aPf hE (E-lsb E+1) _ (by omega) aIc).filter _
theorem aXs {g:Graph} (hg:GOK g) {v:Nat} (hv:v<g.ports.length):aL0 g (2 ^ v)=true:=by
 have hle:=hg.le;rw [aKd (aLb (by omega))]
 intro u hu
 rw [aIl] at hu;obtain rfl:=of_decide_eq_true hu;rw [aOr];intro x hx
 rw [aIl];refine decide_eq_false fun e=>?_
 subst e;obtain ⟨l,hl,e⟩:=(aKh hv).1 hx;obtain ⟨a1,_,a3,_⟩:=aBg.1 ((aBa.1 (hg.links v hv)).1 l hl);omega
def aW4 (a b:Int):Bool:=a==b||b==3||(a==1&&b==2)
theorem bG5 {S:Nat} (hS:S<4294967296) (h0:S≠0) (h:(S&&&(S-1)==0)=true):∃ v,v<32/\S=2 ^ v:=by
 rw [aOi hS h0,decide_eq_true_iff] at h;obtain ⟨k,m,e,hk,_,_,e3⟩:=aE2 hS h0;rw [e3,List.length_cons] at h
 have hz:2 ^ k*(2*m)=0:=by
  refine (aFq ?_).1 (by omega)
  have:2 ^ k*(2*m)<=2 ^ k*(2*m+1):=Nat.mul_le_mul_left _ (by omega)
  omega
 exact ⟨k,hk,by rw [e,Nat.mul_add,hz];simp⟩
theorem aL5 {g:Graph} (hg:GOK g) {a b:Int} {E T:Nat} (hT:T<4294967296) (hE:E<2 ^ g.ports.length) (hab:aW4 a b=true) (h:aAk g a E T=true):aAk g b E T=true:=by
 unfold aW4 at hab;simp at hab
 obtain ⟨h0,hw⟩:=aBh h
 rcases hab with (rfl | rfl) | ⟨rfl,rfl⟩
 .exact h
 .unfold aAk
  rw [if_neg h0,hw];simp
 .unfold aAk at h ⊢
  rw [if_neg h0,hw,if_neg (by decide),if_pos rfl] at h
  rw [if_neg h0,hw,if_neg (by decide),if_neg (by decide),if_pos rfl]
  obtain ⟨v,hv,rfl⟩:=bG5 hT h0 h;have hb:=aAi.1 hw v hv (by rw [aIl];simp)
  refine aXs hg ?_
  rcases Nat.lt_or_ge v g.ports.length with h | h
  .exact h
  .have e:2 ^ g.ports.length<=2 ^ v:=Nat.pow_le_pow_right (by decide) h
   rw [Nat.testBit_lt_two_pow (Nat.lt_of_lt_of_le hE e)] at hb;cases hb
theorem bA4 {g:Graph} (hg:GOK g) {kind:Int} (hk:aF1 kind=true) {E:Nat} (hE:E<2 ^ g.ports.length) (ho:(aB0 g kind E).2=0):decide (E≠0)=decide (0<(aB0 g kind E).1.length):=by
 have hle:=hg.le;have hlt:E<4294967296:=Nat.lt_of_lt_of_le hE (Nat.pow_le_pow_right (n:=2) (by decide) (show g.ports.length<=32 by omega))
 by_cases h0:E=0
 .subst h0
  unfold aB0;rw [if_pos rfl];rfl
 .rw [decide_eq_true h0]
  symm
  rw [decide_eq_true_iff]
  by_cases h4:kind=4
  .unfold aB0
   rw [if_neg h0,if_neg (by omega),if_pos h4];simp
  .obtain ⟨v,m,e,hv,e1,e2,e3⟩:=aE2 hlt h0
   have hvE:v∈aAd E:=by rw [e3];exact List.mem_cons_self
   have hT:aAk g 1 E (2 ^ v)=true:=by
    have:=(aDw (g:=g) (kind:=1) hlt (by decide) (by unfold aB0;rw [if_neg h0,if_pos rfl]) (aLb hv)).1 (by unfold aB0;rw [if_neg h0,if_pos rfl];exact List.mem_map.2 ⟨v,hvE,rfl⟩)
    exact this
   have hw:aW4 1 kind=true:=by
    unfold aF1 at hk;unfold aW4;simp at hk ⊢
    omega
   exact List.length_pos_of_mem ((aDw hlt hk ho (aLb hv)).2 (aL5 hg (aLb hv) hE hw hT))
def esF (p:Prg) (g:Graph) (k:Nat):List Nat:=(List.range k).map fun u=>aAe p g (aAl p g u)
def lsF (p:Prg) (g:Graph) (kind:Int) (k:Nat):List (List (Nat × Int)):=(List.range k).map fun u=>aFf p g kind (aAl p g u)
theorem aGi (p:Prg) (g:Graph) (k:Nat):(esF p g k).length=k:=by simp [esF]
theorem aE7 (p:Prg) (g:Graph) (kind:Int) (k:Nat):(lsF p g kind k).length=k:=by simp [lsF]
theorem bPc (p:Prg) (g:Graph) {k n:Nat} (h:k<n):(esF p g n)[k]'(by rw [aGi];exact h)=aAe p g (aAl p g k):=by simp [esF]
theorem bN2 (p:Prg) (g:Graph) (kind:Int) {k n:Nat} (h:k<n):(lsF p g kind n)[k]'(by rw [aE7];exact h)=aFf p g kind (aAl p g k):=by simp [lsF]
theorem aG9 {p:Prg} {g:Graph} {c:aA3} (hm:aC4 p g c=0):aAe p g c<2 ^ g.ports.length:=by
 have:=aVq c.length fun v=>decide (0<=aAm p.rules g c v);rw [aBx hm] at this;unfold aAe;rw [aBx hm];exact this
theorem aLf {p:Prg} {g:Graph} {c:aA3} (hm:aC4 p g c=0) (h5:g.ports.length<=5):aAe p g c<32 :=
 Nat.lt_of_lt_of_le (aG9 hm) (show 2 ^ g.ports.length<=2 ^ 5 from Nat.pow_le_pow_right (by decide) h5)
theorem aLd {p:Prg} {g:Graph} {c:aA3} {kind:Int} (hm:aC4 p g c=0) (hk:aF1 kind=true) (h5:g.ports.length<=5) {T:Nat} (hT:T∈(aB0 g kind (aAe p g c)).1) :
  T<4294967296/\bDm p g c T=(aAf p g c T,0)/\aC4 p g (aAf p g c T)=0:=by
 have h32:=aLf hm h5;have hE:aAe p g c<4294967296:=by omega
 obtain ⟨h1,h2⟩:=aFt hE hT;have h3:=aBh ((aDw hE hk (aD6 h32).1 h1).1 hT);refine ⟨h1,aYz hm h3.1 h2,aKn hm fun v hv hb=>?_⟩
 have h4:=aAi.1 h2 v (aIp h1 hb) hb;rw [aDs] at h4;simp at h4
 exact h4.2
theorem aWg {E:Nat} {n:Int} {f:Nat->Int}:∀ {L:List Nat} {b:Nat},L.Pairwise (· < ·)->(∀ T∈L,b<T/\aBj T E=true/\0<=f T/\f T<n)->aKp E n b (L.map fun T=>(T,f T))=true
 | [],_,_,_=>rfl
 | a :: L,b,h1,h=>by
  obtain ⟨a1,a2⟩:=List.pairwise_cons.1 h1;obtain ⟨c1,c2,c3,c4⟩:=h a List.mem_cons_self;rw [List.map_cons];unfold aKp;rw [aWg a2 fun T hT=>⟨a1 T hT,(h T (List.mem_cons_of_mem _ hT)).2⟩];simp [c1,c2,c3,c4]
theorem aIh {p:Prg} {g:Graph} {kind:Int} {n:Nat} (hf:aCw p g=0) (hn:aDn p g=(n:Int)) (hk:aF1 kind=true) (h5:g.ports.length<=5):aCf ⟨esF p g n,lsF p g kind n⟩=true:=by
 have hsp:=bDj hf;have hg:=(aAt hf).2.1;unfold aCf;simp only [aGi,aE7,Bool.and_eq_true,decide_eq_true_eq,List.all_eq_true,List.mem_range]
 refine ⟨⟨by omega,trivial⟩,fun k hkn=>?_⟩
 have hm:aC4 p g (aAl p g k)=0:=aDf hf (by omega)
 rw [aA8 (show k<(esF p g n).length by rw [aGi];exact hkn),aA8 (show k<(lsF p g kind n).length by rw [aE7];exact hkn),bPc p g hkn,bN2 p g kind hkn]
 generalize aAl p g k=c at hm;have h32:=aLf hm h5;have hlt:aAe p g c<4294967296:=by omega
 have hle:=aG9 hm;have hpos:=bA4 hg hk hle (aD6 h32).1;unfold aBu aFf;rw [List.length_map,<- hpos,decide_eq_true (show aAe p g c<16777216 by omega)]
 simp only [beq_self_eq_true,Bool.true_and]
 refine aWg (aS6 hlt) fun T hT=>?_
 obtain ⟨t1,_,t3⟩:=aLd hm hk h5 hT;have h3:=aBh ((aDw hlt hk (aD6 h32).1 t1).1 hT);obtain ⟨r1,r2⟩:=aHs t3;exact ⟨Nat.pos_of_ne_zero h3.1,h3.2,r1,by rw [<- hn];exact r2⟩
theorem aVw {p:Prg} {g:Graph} {kind:Int} {n:Nat} (hf:aCw p g=0) (hn:aDn p g=(n:Int)) (hk:aF1 kind=true) (h5:g.ports.length<=5):wfS ⟨esF p g n,lsF p g kind n⟩:=by
 refine ⟨fun E hE=>?_,fun l hl x hx=>?_⟩
 .obtain ⟨k,hk2,rfl⟩:=List.mem_map.1 hE
  have hm:aC4 p g (aAl p g k)=0:=aDf hf (by have:=List.mem_range.1 hk2;omega)
  have:=aLf hm h5;omega
 .obtain ⟨k,hk2,rfl⟩:=List.mem_map.1 hl
  have hm:aC4 p g (aAl p g k)=0:=aDf hf (by have:=List.mem_range.1 hk2;omega)
  obtain ⟨T,hT,rfl⟩:=List.mem_map.1 hx;exact (aLd hm hk h5 hT).1
theorem bNl {p:Prg} {g:Graph} {kind:Int} {c:aA3} (hm:aC4 p g c=0) (h5:g.ports.length<=5):(aFf p g kind c).length<=31:=bC5 h5 (aBx hm)
theorem aLr {p:Prg} {g:Graph} {kind:Int} {n:Nat} (hf:aCw p g=0) (hn:aDn p g=(n:Int)) (h2:n<=700) (h5:g.ports.length<=5):aCy ⟨esF p g n,lsF p g kind n⟩=true:=by
 unfold aCy;simp only [aGi,aE7,Bool.and_eq_true,decide_eq_true_eq,List.all_eq_true]
 refine ⟨⟨h2,h2⟩,fun l hl=>?_⟩
 obtain ⟨k,hk2,rfl⟩:=List.mem_map.1 hl;have hm:aC4 p g (aAl p g k)=0:=aDf hf (by have:=List.mem_range.1 hk2;omega)
 have:=bNl (kind:=kind) hm h5;omega
structure Cnt where
 steps:Int
 moves:Int
 rounds:Int
 begun:Int
 pending:Nat
def aOt (E:Nat):Cnt:=⟨0,0,0,0,E⟩
def bGl (k:Cnt) (S A:Nat):Cnt :=
 if aCg k.pending S&&&A=0 then ⟨k.steps+1,k.moves+(aAd S).length,k.rounds+1,k.rounds+1,A⟩
 else ⟨k.steps+1,k.moves+(aAd S).length,k.rounds,k.rounds+1,aCg k.pending S&&&A⟩
structure OkK (k:Cnt) (n:Nat):Prop where
 steps:k.steps=(n:Int)
 moves1:(n:Int)<=k.moves
 moves2:k.moves<=24*(n:Int)
 rounds:0<=k.rounds
 begun1:k.rounds<=k.begun
 begun2:k.begun<=(n:Int)
 begun3:k.begun<=k.rounds+1
 pending:k.pending<16777216
theorem OkK.start {E:Nat} (h:E<16777216):OkK (aOt E) 0:=⟨rfl,Int.le_refl _,Int.le_refl _,Int.le_refl _,Int.le_refl _,Int.le_refl _,(by show (0:Int)<=0+1;decide),h⟩
theorem OkK.add {k:Cnt} {n S A:Nat} (h:OkK k n) (h0:S≠0) (hS:S<16777216) (hA:A<16777216):OkK (bGl k S A) (n+1):=by
 have hl:=aJd (S:=S) (n:=24) (by decide) hS
 have h1:1<=(aAd S).length:=by
  rcases Nat.eq_zero_or_pos (aAd S).length with h | h
  .exact absurd ((aFq (by omega)).1 h) h0
  .exact h
 obtain ⟨a1,a2,a3,a4,a5,a6,a7,a8⟩:=h;unfold bGl;split
 .exact ⟨by simp;omega,by simp;omega,by simp;omega,by simp;omega,by simp,by simp;omega,by simp;omega,hA⟩
 .refine ⟨by simp;omega,by simp;omega,by simp;omega,a4,by simp;omega,by simp;omega,by simp,Nat.lt_of_le_of_lt Nat.and_le_right hA⟩
structure Trc where
 chosen:List Nat
 enabled:List Nat
 last:aA3
 count:Cnt
def aDi (p:Prg) (g:Graph) (c:aA3):Trc:=⟨[],[aAe p g c],c,aOt (aAe p g c)⟩
def aIx (p:Prg) (g:Graph) (t:Trc) (S:Nat):Trc :=
 ⟨t.chosen++[S],t.enabled++[aAe p g (aAf p g t.last S)],aAf p g t.last S,bGl t.count S (aAe p g (aAf p g t.last S))⟩
structure OkT (p:Prg) (g:Graph) (t:Trc):Prop where
 mem:aC4 p g t.last=0
 len:t.enabled.length=t.chosen.length+1
 count:OkK t.count t.chosen.length
 now:t.enabled.getLast?=some (aAe p g t.last)
theorem aUc {p:Prg} {g:Graph} {c:aA3} (hm:aC4 p g c=0):aAe p g c<16777216:=by
 have hle:=(aAt (aBy hm).1).2.1.le;exact Nat.lt_of_lt_of_le (aG9 hm) (show 2 ^ g.ports.length<=2 ^ 24 from Nat.pow_le_pow_right (by decide) hle)
theorem aT3 {g:Graph} {kind:Int} {E S:Nat} (hS:S<4294967296) (hE:E<16777216) (h:aAk g kind E S=true):S≠0/\S<16777216:=by
 obtain ⟨h1,h2⟩:=aBh h;exact ⟨h1,Nat.lt_of_le_of_lt (aCt ((aGs hS (by omega)).2 h2)) hE⟩
theorem OkT.start {p:Prg} {g:Graph} {c:aA3} (hm:aC4 p g c=0):OkT p g (aDi p g c):=⟨hm,rfl,OkK.start (aUc hm),rfl⟩
theorem aZ0 {p:Prg} {g:Graph} {kind:Int} {c:aA3} {S:Nat} (hm:aC4 p g c=0) (hS:S<4294967296) (h:aAk g kind (aAe p g c) S=true) :
  aC4 p g (aAf p g c S)=0/\bDm p g c S=(aAf p g c S,0):=by
 obtain ⟨h1,h2⟩:=aBh h;refine ⟨aKn hm fun v hv hb=>?_,aYz hm h1 h2⟩
 have h4:=aAi.1 h2 v (aIp hS hb) hb;rw [aDs] at h4;simp at h4
 exact h4.2
theorem OkT.next {p:Prg} {g:Graph} {kind:Int} {t:Trc} {S:Nat} (h:OkT p g t) (hS:S<4294967296) (hp:aAk g kind (aAe p g t.last) S=true):OkT p g (aIx p g t S):=by
 obtain ⟨h1,h2,h3,_⟩:=h;obtain ⟨hm,_⟩:=aZ0 h1 hS hp;obtain ⟨q1,q2⟩:=aT3 hS (aUc h1) hp;refine ⟨hm,by simp [aIx,h2],?_,by simp [aIx]⟩
 have:=h3.add q1 q2 (aUc hm);simpa [aIx] using this
def aZb (p:Prg) (g:Graph) (kind:Int) (ch:Nat->Nat->Nat) (gs:Nat->Nat->Bool):Nat->Nat->Trc->List Trc
 | 0,_,t=>[t]
 | n+1,i,t=>t :: (if gs i (aAe p g t.last)=true/\aAk g kind (aAe p g t.last) (ch i (aAe p g t.last))=true then aZb p g kind ch gs n (i+1) (aIx p g t (ch i (aAe p g t.last))) else [])
def aVm (p:Prg) (g:Graph) (kind:Int) (ch:Nat->Nat->Nat) (gs:Nat->Nat->Bool):Nat->Nat->Trc->Option Trc
 | 0,_,t=>some t
 | n+1,i,t=>if gs i (aAe p g t.last)=true then if aAk g kind (aAe p g t.last) (ch i (aAe p g t.last))=true then aVm p g kind ch gs n (i+1) (aIx p g t (ch i (aAe p g t.last))) else none else some t
variable {p:Prg} {g:Graph} {kind:Int} {ch:Nat->Nat->Nat} {gs:Nat->Nat->Bool}
theorem bJb {n i:Nat} {t:Trc} (h:gs i (aAe p g t.last)=false):aVm p g kind ch gs (n+1) i t=some t/\aZb p g kind ch gs (n+1) i t=[t]:=by
 unfold aVm aZb;rw [h];simp
theorem bMe {n i:Nat} {t:Trc} (h:gs i (aAe p g t.last)=true) (h2:aAk g kind (aAe p g t.last) (ch i (aAe p g t.last))=false):aVm p g kind ch gs (n+1) i t=none/\aZb p g kind ch gs (n+1) i t=[t]:=by
 unfold aVm aZb;rw [h,h2];simp
theorem bOh {n i:Nat} {t:Trc} (h:gs i (aAe p g t.last)=true) (h2:aAk g kind (aAe p g t.last) (ch i (aAe p g t.last))=true) :
  aVm p g kind ch gs (n+1) i t=aVm p g kind ch gs n (i+1) (aIx p g t (ch i (aAe p g t.last)))/\aZb p g kind ch gs (n+1) i t=t :: aZb p g kind ch gs n (i+1) (aIx p g t (ch i (aAe p g t.last))):=by
 constructor
 .conv=>lhs;unfold aVm
  rw [if_pos h,if_pos h2]
 .conv=>lhs;unfold aZb
  rw [if_pos ⟨h,h2⟩]
end Go.Proofs.YtmoebklkkjbigaaGreatDoor

