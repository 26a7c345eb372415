/- Merged. -/
import Derived.Test.YtdcjnhoabbdanaaGreatDoorZ30
set_option linter.unusedSimpArgs false
set_option linter.unnecessarySimpa false
set_option linter.unusedVariables false
set_option maxRecDepth 100000

namespace Go.Proofs.YtdcjnhoabbdanaaGreatDoor
theorem aLh {p:Prg} {g:Graph} {c:aA5} (hm:aCx p g c=0):aAr p g c<2 ^ g.ports.length:=by
 have:=aX2 c.length fun v=>decide (0<=aC5 p.rules g c v);rw [aFg hm] at this;unfold aAr;rw [aFg hm];exact this
structure Cnt where
 steps:Int
 moves:Int
 rounds:Int
 begun:Int
 pending:Nat
def aGx (E:Nat):Cnt:=⟨0,0,0,0,E⟩
def aNb (k:Cnt) (S A:Nat):Cnt :=
 if aD6 k.pending S&&&A=0 then ⟨k.steps+1,k.moves+(aAf S).length,k.rounds+1,k.rounds+1,A⟩
 else ⟨k.steps+1,k.moves+(aAf S).length,k.rounds,k.rounds+1,aD6 k.pending S&&&A⟩
structure OkK (k:Cnt) (n:Nat):Prop where
 steps:k.steps=(n:Int)
 moves1:(n:Int)<=k.moves
 moves2:k.moves<=24*(n:Int)
 rounds:0<=k.rounds
 begun1:k.rounds<=k.begun
 begun2:k.begun<=(n:Int)
 begun3:k.begun<=k.rounds+1
 pending:k.pending<16777216
theorem OkK.start {E:Nat} (h:E<16777216):OkK (aGx E) 0:=⟨rfl,Int.le_refl _,Int.le_refl _,Int.le_refl _,Int.le_refl _,Int.le_refl _,(by show (0:Int)<=0+1;decide),h⟩
theorem OkK.add {k:Cnt} {n S A:Nat} (h:OkK k n) (h0:S≠0) (hS:S<16777216) (hA:A<16777216):OkK (aNb k S A) (n+1):=by
 have hl:=aM1 (S:=S) (n:=24) (by decide) hS
 have h1:1<=(aAf S).length:=by
  rcases Nat.eq_zero_or_pos (aAf S).length with h | h
  .exact absurd ((aIa (by omega)).1 h) h0
  .exact h
 obtain ⟨a1,a2,a3,a4,a5,a6,a7,a8⟩:=h;unfold aNb;split
 .exact ⟨by simp;omega,by simp;omega,by simp;omega,by simp;omega,by simp,by simp;omega,by simp;omega,hA⟩
 .refine ⟨by simp;omega,by simp;omega,by simp;omega,a4,by simp;omega,by simp;omega,by simp,Nat.lt_of_le_of_lt Nat.and_le_right hA⟩
structure Trc where
 chosen:List Nat
 enabled:List Nat
 last:aA5
 count:Cnt
def aAi (p:Prg) (g:Graph) (c:aA5):Trc:=⟨[],[aAr p g c],c,aGx (aAr p g c)⟩
def aEb (p:Prg) (g:Graph) (t:Trc) (S:Nat):Trc :=
 ⟨t.chosen++[S],t.enabled++[aAr p g (aBe p g t.last S)],aBe p g t.last S,aNb t.count S (aAr p g (aBe p g t.last S))⟩
def aFz (p:Prg) (g:Graph) (kind:Int):Trc->List Nat->Option Trc
 | t,[]=>some t
 | t,S :: l=>if aBp g kind (aAr p g t.last) S=true then aFz p g kind (aEb p g t S) l else none
structure OkT (p:Prg) (g:Graph) (t:Trc):Prop where
 mem:aCx p g t.last=0
 len:t.enabled.length=t.chosen.length+1
 count:OkK t.count t.chosen.length
 now:t.enabled.getLast?=some (aAr p g t.last)
theorem aHe {p:Prg} {g:Graph} {c:aA5} (hm:aCx p g c=0):aAr p g c<16777216:=by
 have hle:=(aAq (aB9 hm).1).2.1.le;exact Nat.lt_of_lt_of_le (aLh hm) (show 2 ^ g.ports.length<=2 ^ 24 from Nat.pow_le_pow_right (by decide) hle)
theorem aKj {g:Graph} {kind:Int} {E S:Nat} (hS:S<4294967296) (hE:E<16777216) (h:aBp g kind E S=true):S≠0/\S<16777216:=by
 obtain ⟨h1,h2⟩:=aFm h;exact ⟨h1,Nat.lt_of_le_of_lt (aYm ((aMv hS (by omega)).2 h2)) hE⟩
theorem OkT.start {p:Prg} {g:Graph} {c:aA5} (hm:aCx p g c=0):OkT p g (aAi p g c):=⟨hm,rfl,OkK.start (aHe hm),rfl⟩
theorem aL6 {p:Prg} {g:Graph} {kind:Int} {c:aA5} {S:Nat} (hm:aCx p g c=0) (hS:S<4294967296) (h:aBp g kind (aAr p g c) S=true) :
  aCx p g (aBe p g c S)=0/\aX5 p g c S=(aBe p g c S,0):=by
 obtain ⟨h1,h2⟩:=aFm h;refine ⟨aTp hm fun v hv hb=>?_,aX6 hm h1 h2⟩
 have h4:=aCb.1 h2 v (aJ9 hS hb) hb;rw [aM2] at h4;simp at h4
 exact h4.2
theorem OkT.next {p:Prg} {g:Graph} {kind:Int} {t:Trc} {S:Nat} (h:OkT p g t) (hS:S<4294967296) (hp:aBp g kind (aAr p g t.last) S=true):OkT p g (aEb p g t S):=by
 obtain ⟨h1,h2,h3,_⟩:=h;obtain ⟨hm,_⟩:=aL6 h1 hS hp;obtain ⟨q1,q2⟩:=aKj hS (aHe h1) hp;refine ⟨hm,by simp [aEb,h2],?_,by simp [aEb]⟩
 have:=h3.add q1 q2 (aHe hm);simpa [aEb] using this
theorem aKy {p:Prg} {g:Graph} {kind:Int}:∀ {l:List Nat} {t u:Trc},aFz p g kind t l=some u->u.chosen=t.chosen++l
 | [],t,u,h=>by
  unfold aFz at h;obtain rfl:=Option.some.inj h;simp
 | S :: l,t,u,h=>by
  unfold aFz at h;split at h
  .rw [aKy h];simp [aEb]
  .cases h
theorem aTk {p:Prg} {g:Graph} {kind:Int}:∀ {l:List Nat} {t u:Trc},OkT p g t->(∀ S∈l,S<4294967296)->aFz p g kind t l=some u->OkT p g u
 | [],t,u,h,_,hp=>by
  unfold aFz at hp;obtain rfl:=Option.some.inj hp;exact h
 | S :: l,t,u,h,hS,hp=>by
  unfold aFz at hp;split at hp
  .rename_i h1
   exact aTk (h.next (hS S List.mem_cons_self) h1) (fun x hx=>hS x (List.mem_cons_of_mem _ hx)) hp
  .cases hp
def aPp (p:Prg) (g:Graph) (kind:Int) (ch:Nat->Nat->Nat) (gs:Nat->Nat->Bool):Nat->Nat->Trc->List Trc
 | 0,_,t=>[t]
 | n+1,i,t=>t :: (if gs i (aAr p g t.last)=true/\aBp g kind (aAr p g t.last) (ch i (aAr p g t.last))=true then aPp p g kind ch gs n (i+1) (aEb p g t (ch i (aAr p g t.last))) else [])
def aK1 (p:Prg) (g:Graph) (kind:Int) (ch:Nat->Nat->Nat) (gs:Nat->Nat->Bool):Nat->Nat->Trc->Option Trc
 | 0,_,t=>some t
 | n+1,i,t=>if gs i (aAr p g t.last)=true then if aBp g kind (aAr p g t.last) (ch i (aAr p g t.last))=true then aK1 p g kind ch gs n (i+1) (aEb p g t (ch i (aAr p g t.last))) else none else some t
variable {p:Prg} {g:Graph} {kind:Int} {ch:Nat->Nat->Nat} {gs:Nat->Nat->Bool}
theorem aWv {n i:Nat} {t:Trc} (h:gs i (aAr p g t.last)=false):aK1 p g kind ch gs (n+1) i t=some t/\aPp p g kind ch gs (n+1) i t=[t]:=by
 unfold aK1 aPp;rw [h];simp
theorem aYq {n i:Nat} {t:Trc} (h:gs i (aAr p g t.last)=true) (h2:aBp g kind (aAr p g t.last) (ch i (aAr p g t.last))=false):aK1 p g kind ch gs (n+1) i t=none/\aPp p g kind ch gs (n+1) i t=[t]:=by
 unfold aK1 aPp;rw [h,h2];simp
theorem aZt {n i:Nat} {t:Trc} (h:gs i (aAr p g t.last)=true) (h2:aBp g kind (aAr p g t.last) (ch i (aAr p g t.last))=true) :
  aK1 p g kind ch gs (n+1) i t=aK1 p g kind ch gs n (i+1) (aEb p g t (ch i (aAr p g t.last)))/\aPp p g kind ch gs (n+1) i t=t :: aPp p g kind ch gs n (i+1) (aEb p g t (ch i (aAr p g t.last))):=by
 constructor
 .conv=>lhs;unfold aK1
  rw [if_pos h,if_pos h2]
 .conv=>lhs;unfold aPp
  rw [if_pos ⟨h,h2⟩]
theorem aR9 (l:List Nat):∀ (n i:Nat) (t:Trc),i+n=l.length->aK1 p g kind (fun i _=>l.getD i 0) (fun _ _=>true) n i t=aFz p g kind t (l.drop i)
 | 0,i,t,h=>by
  rw [List.drop_of_length_le (by omega)];rfl
 | n+1,i,t,h=>by
  have hi:i<l.length:=by omega
  rw [List.drop_eq_getElem_cons hi];unfold aK1 aFz;rw [if_pos rfl,aA6 hi]
  by_cases hp:aBp g kind (aAr p g t.last) l[i]=true
  .rw [if_pos hp,if_pos hp]
   exact aR9 l n (i+1) _ (by omega)
  .rw [if_neg hp,if_neg hp]
theorem aZf {E:Nat} (h:E<16777216):E&&&16777215=E:=by
 rw [show (16777215:Nat)=2 ^ 24-1 from rfl,Nat.and_two_pow_sub_one_eq_mod,Nat.mod_eq_of_lt h]
theorem aT4 {S n v:Nat} (hS:S<2 ^ n) (hv:S.testBit v=true):v<n:=by
 rcases Nat.lt_or_ge v n with h | h
 .exact h
 .rw [Nat.testBit_lt_two_pow (Nat.lt_of_lt_of_le hS (Nat.pow_le_pow_right (by decide) h))] at hv;cases hv
theorem aXv {S:Nat} (h:S<16777216):aD6 S 16777215=0:=by
 have h1:(aD6 S 16777215==0)=true:=by
  rw [aEu (by omega),aCb]
  intro v _ hv
  rw [show (16777215:Nat)=2 ^ 24-1 from rfl,Nat.testBit_two_pow_sub_one,decide_eq_true_iff]
  exact aT4 (n:=24) h hv
 simpa using h1
end Go.Proofs.YtdcjnhoabbdanaaGreatDoor

