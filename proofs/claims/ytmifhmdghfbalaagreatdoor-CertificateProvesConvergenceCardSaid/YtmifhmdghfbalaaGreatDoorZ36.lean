/- Merged. -/
import Derived.Test.YtmifhmdghfbalaaGreatDoorZ34
set_option linter.unusedSimpArgs false
set_option linter.unnecessarySimpa false
set_option linter.unusedVariables false
set_option maxRecDepth 100000

namespace Go.Proofs.YtmifhmdghfbalaaGreatDoor
theorem aSr {g:Graph} {kind:Int} {E:Nat} (hE:E<4294967296):(aBf g kind E).1.Pairwise (· < ·):=by
 unfold aBf;split
 .exact List.Pairwise.nil
 split
 .rw [List.pairwise_map]
  have h:(aB1 E).Pairwise (· < ·):=List.pairwise_lt_range.filter _;exact h.imp fun h=>Nat.pow_lt_pow_right (by decide) h
 split
 .exact List.pairwise_singleton _ _
 split
 .exact List.Pairwise.nil
 .exact (aPq hE (E-lsb E+1) _ (by omega) aFo).filter _
theorem aXk {g:Graph} (hg:GOK g) {v:Nat} (hv:v<g.ports.length):aM3 g (2 ^ v)=true:=by
 have hle:=hg.le;rw [aLh (aL8 (by omega))]
 intro u hu
 rw [aMy] at hu;obtain rfl:=of_decide_eq_true hu;rw [aKj];intro x hx
 rw [aMy];refine decide_eq_false fun e=>?_
 subst e;obtain ⟨l,hl,e⟩:=(aVl hv).1 hx;obtain ⟨a1,_,a3,_⟩:=aCb.1 ((aC1.1 (hg.links v hv)).1 l hl);omega
def aW8 (a b:Int):Bool:=a==b||b==3||(a==1&&b==2)
theorem bE9 {S:Nat} (hS:S<4294967296) (h0:S≠0) (h:(S&&&(S-1)==0)=true):∃ v,v<32/\S=2 ^ v:=by
 rw [aOt hS h0,decide_eq_true_iff] at h;obtain ⟨k,m,e,hk,_,_,e3⟩:=aEc hS h0;rw [e3,List.length_cons] at h
 have hz:2 ^ k*(2*m)=0:=by
  refine (aIk ?_).1 (by omega)
  have:2 ^ k*(2*m)<=2 ^ k*(2*m+1):=Nat.mul_le_mul_left _ (by omega)
  omega
 exact ⟨k,hk,by rw [e,Nat.mul_add,hz];simp⟩
theorem aT1 {g:Graph} (hg:GOK g) {a b:Int} {E T:Nat} (hT:T<4294967296) (hE:E<2 ^ g.ports.length) (hab:aW8 a b=true) (h:aBg g a E T=true):aBg g b E T=true:=by
 unfold aW8 at hab;simp at hab
 obtain ⟨h0,hw⟩:=aE4 h
 rcases hab with (rfl | rfl) | ⟨rfl,rfl⟩
 .exact h
 .unfold aBg
  rw [if_neg h0,hw];simp
 .unfold aBg at h ⊢
  rw [if_neg h0,hw,if_neg (by decide),if_pos rfl] at h
  rw [if_neg h0,hw,if_neg (by decide),if_neg (by decide),if_pos rfl]
  obtain ⟨v,hv,rfl⟩:=bE9 hT h0 h;have hb:=aB5.1 hw v hv (by rw [aMy];simp)
  refine aXk hg ?_
  rcases Nat.lt_or_ge v g.ports.length with h | h
  .exact h
  .have e:2 ^ g.ports.length<=2 ^ v:=Nat.pow_le_pow_right (by decide) h
   rw [Nat.testBit_lt_two_pow (Nat.lt_of_lt_of_le hE e)] at hb;cases hb
theorem aZu {g:Graph} (hg:GOK g) {kind:Int} (hk:aGw kind=true) {E:Nat} (hE:E<2 ^ g.ports.length) (ho:(aBf g kind E).2=0):decide (E≠0)=decide (0<(aBf g kind E).1.length):=by
 have hle:=hg.le;have hlt:E<4294967296:=Nat.lt_of_lt_of_le hE (Nat.pow_le_pow_right (n:=2) (by decide) (show g.ports.length<=32 by omega))
 by_cases h0:E=0
 .subst h0
  unfold aBf;rw [if_pos rfl];rfl
 .rw [decide_eq_true h0]
  symm
  rw [decide_eq_true_iff]
  by_cases h4:kind=4
  .unfold aBf
   rw [if_neg h0,if_neg (by omega),if_pos h4];simp
  .obtain ⟨v,m,e,hv,e1,e2,e3⟩:=aEc hlt h0
   have hvE:v∈aB1 E:=by rw [e3];exact List.mem_cons_self
   have hT:aBg g 1 E (2 ^ v)=true:=by
    have:=(aJm (g:=g) (kind:=1) hlt (by decide) (by unfold aBf;rw [if_neg h0,if_pos rfl]) (aL8 hv)).1 (by unfold aBf;rw [if_neg h0,if_pos rfl];exact List.mem_map.2 ⟨v,hvE,rfl⟩)
    exact this
   have hw:aW8 1 kind=true:=by
    unfold aGw at hk;unfold aW8;simp at hk ⊢
    omega
   exact List.length_pos_of_mem ((aJm hlt hk ho (aL8 hv)).2 (aT1 hg (aL8 hv) hE hw hT))
def esF (p:Prg) (g:Graph) (k:Nat):List Nat:=(List.range k).map fun u=>aCm p g (aBp p g u)
def lsF (p:Prg) (g:Graph) (kind:Int) (k:Nat):List (List (Nat × Int)):=(List.range k).map fun u=>aEq p g kind (aBp p g u)
theorem bIr (p:Prg) (g:Graph) (k:Nat):esF p g (k+1)=esF p g k++[aCm p g (aBp p g k)]:=by unfold esF;rw [List.range_succ,List.map_append];rfl
theorem bJ5 (p:Prg) (g:Graph) (kind:Int) (k:Nat):lsF p g kind (k+1)=lsF p g kind k++[aEq p g kind (aBp p g k)]:=by unfold lsF;rw [List.range_succ,List.map_append];rfl
theorem aG5 (p:Prg) (g:Graph) (k:Nat):(esF p g k).length=k:=by simp [esF]
theorem aHb (p:Prg) (g:Graph) (kind:Int) (k:Nat):(lsF p g kind k).length=k:=by simp [lsF]
theorem bMd (p:Prg) (g:Graph) {k n:Nat} (h:k<n):(esF p g n)[k]'(by rw [aG5];exact h)=aCm p g (aBp p g k):=by simp [esF]
theorem bMg (p:Prg) (g:Graph) (kind:Int) {k n:Nat} (h:k<n):(lsF p g kind n)[k]'(by rw [aHb];exact h)=aEq p g kind (aBp p g k):=by simp [lsF]
theorem bJq (p:Prg) (g:Graph) (kind:Int) {n:Nat} (h:aC7 p g=(n:Int)):aNy p g kind=⟨esF p g n,lsF p g kind n⟩:=by
 have hsz:(aC7 p g).toNat=n:=by rw [h];simp
 unfold aNy esF lsF;rw [hsz]
theorem aUz {p:Prg} {g:Graph} {c:aA8} (hm:aCp p g c=0):aCm p g c<2 ^ g.ports.length:=by
 have:=aVx c.length fun v=>decide (0<=aBy p.rules g c v);rw [aCa hm] at this;unfold aCm;rw [aCa hm];exact this
theorem bA0 {p:Prg} {g:Graph} {c:aA8} (hm:aCp p g c=0) (h5:g.ports.length<=5):aCm p g c<32 :=
 Nat.lt_of_lt_of_le (aUz hm) (show 2 ^ g.ports.length<=2 ^ 5 from Nat.pow_le_pow_right (by decide) h5)
theorem aJc {p:Prg} {g:Graph} {c:aA8} {kind:Int} (hm:aCp p g c=0) (hk:aGw kind=true) (h5:g.ports.length<=5) {T:Nat} (hT:T∈(aBf g kind (aCm p g c)).1) :
  T<4294967296/\aUd p g c T=(aEy p g c T,0)/\aCp p g (aEy p g c T)=0:=by
 have h32:=bA0 hm h5;have hE:aCm p g c<4294967296:=by omega
 obtain ⟨h1,h2⟩:=aP2 hE hT;have h3:=aE4 ((aJm hE hk (aG3 h32).1 h1).1 hT);refine ⟨h1,bH8 hm h3.1 h2,bCb hm fun v hv hb=>?_⟩
 have h4:=aB5.1 h2 v (aP0 h1 hb) hb;rw [aKn] at h4;simp at h4
 exact h4.2
theorem aWh {E:Nat} {n:Int} {f:Nat->Int}:∀ {L:List Nat} {b:Nat},L.Pairwise (· < ·)->(∀ T∈L,b<T/\aBh T E=true/\0<=f T/\f T<n)->aQg E n b (L.map fun T=>(T,f T))=true
 | [],_,_,_=>rfl
 | a :: L,b,h1,h=>by
  obtain ⟨a1,a2⟩:=List.pairwise_cons.1 h1;obtain ⟨c1,c2,c3,c4⟩:=h a List.mem_cons_self;rw [List.map_cons];unfold aQg;rw [aWh a2 fun T hT=>⟨a1 T hT,(h T (List.mem_cons_of_mem _ hT)).2⟩];simp [c1,c2,c3,c4]
theorem bB1 {p:Prg} {g:Graph} {kind:Int} {n:Nat} (hf:aCf p g=0) (hn:aC7 p g=(n:Int)) (hk:aGw kind=true) (h5:g.ports.length<=5):aO2 ⟨esF p g n,lsF p g kind n⟩=true:=by
 have hsp:=aNx hf;have hg:=(aAe hf).2.1;unfold aO2;simp only [aG5,aHb,Bool.and_eq_true,decide_eq_true_eq,List.all_eq_true,List.mem_range]
 refine ⟨⟨by omega,trivial⟩,fun k hkn=>?_⟩
 have hm:aCp p g (aBp p g k)=0:=aEr hf (by omega)
 rw [aA7 (show k<(esF p g n).length by rw [aG5];exact hkn),aA7 (show k<(lsF p g kind n).length by rw [aHb];exact hkn),bMd p g hkn,bMg p g kind hkn]
 generalize aBp p g k=c at hm;have h32:=bA0 hm h5;have hlt:aCm p g c<4294967296:=by omega
 have hle:=aUz hm;have hpos:=aZu hg hk hle (aG3 h32).1;unfold aFa aEq;rw [List.length_map,<- hpos,decide_eq_true (show aCm p g c<16777216 by omega)]
 simp only [beq_self_eq_true,Bool.true_and]
 refine aWh (aSr hlt) fun T hT=>?_
 obtain ⟨t1,_,t3⟩:=aJc hm hk h5 hT;have h3:=aE4 ((aJm hlt hk (aG3 h32).1 t1).1 hT);obtain ⟨r1,r2⟩:=aLl t3;exact ⟨Nat.pos_of_ne_zero h3.1,h3.2,r1,by rw [<- hn];exact r2⟩
theorem bJr {p:Prg} {g:Graph} {kind:Int} {n:Nat} (hf:aCf p g=0) (hn:aC7 p g=(n:Int)) (hk:aGw kind=true) (h5:g.ports.length<=5):wfS ⟨esF p g n,lsF p g kind n⟩:=by
 refine ⟨fun E hE=>?_,fun l hl x hx=>?_⟩
 .obtain ⟨k,hk2,rfl⟩:=List.mem_map.1 hE
  have hm:aCp p g (aBp p g k)=0:=aEr hf (by have:=List.mem_range.1 hk2;omega)
  have:=bA0 hm h5;omega
 .obtain ⟨k,hk2,rfl⟩:=List.mem_map.1 hl
  have hm:aCp p g (aBp p g k)=0:=aEr hf (by have:=List.mem_range.1 hk2;omega)
  obtain ⟨T,hT,rfl⟩:=List.mem_map.1 hx;exact (aJc hm hk h5 hT).1
theorem bF4 {p:Prg} {g:Graph} {kind:Int} {c:aA8} (hm:aCp p g c=0) (h5:g.ports.length<=5):(aEq p g kind c).length<=31:=bBe h5 (aCa hm)
theorem bB0 {p:Prg} {g:Graph} {kind:Int} {n:Nat} (hf:aCf p g=0) (hn:aC7 p g=(n:Int)) (h2:n<=200) (h5:g.ports.length<=5):aM6 ⟨esF p g n,lsF p g kind n⟩=true:=by
 unfold aM6;simp only [aG5,aHb,Bool.and_eq_true,decide_eq_true_eq,List.all_eq_true]
 refine ⟨⟨h2,h2⟩,fun l hl=>?_⟩
 obtain ⟨k,hk2,rfl⟩:=List.mem_map.1 hl;have hm:aCp p g (aBp p g k)=0:=aEr hf (by have:=List.mem_range.1 hk2;omega)
 have:=bF4 (kind:=kind) hm h5;omega
end Go.Proofs.YtmifhmdghfbalaaGreatDoor

