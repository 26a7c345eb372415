/- Merged. -/
import Derived.Test.YtdcjnhoabbdanaaGreatDoorZ24
set_option linter.unusedSimpArgs false
set_option linter.unnecessarySimpa false
set_option linter.unusedVariables false
set_option maxRecDepth 100000

namespace Go.Proofs.YtdcjnhoabbdanaaGreatDoor
theorem aMh {p:Prg} {g:Graph} {c:aA6} (hm:aD1 p g c=0):aAk p g c<2 ^ g.ports.length:=by
 have:=aYs c.length fun v=>decide (0<=aCe p.rules g c v);rw [aDg hm] at this;unfold aAk;rw [aDg hm];exact this
structure Cnt where
 steps:Int
 moves:Int
 rounds:Int
 begun:Int
 pending:Nat
def aHl (E:Nat):Cnt:=⟨0,0,0,0,E⟩
def aMd (k:Cnt) (S A:Nat):Cnt :=
 if aD4 k.pending S&&&A=0 then ⟨k.steps+1,k.moves+(aAl S).length,k.rounds+1,k.rounds+1,A⟩
 else ⟨k.steps+1,k.moves+(aAl S).length,k.rounds,k.rounds+1,aD4 k.pending S&&&A⟩
structure OkK (k:Cnt) (n:Nat):Prop where
 steps:k.steps=(n:Int)
 moves1:(n:Int)<=k.moves
 moves2:k.moves<=24*(n:Int)
 rounds:0<=k.rounds
 begun1:k.rounds<=k.begun
 begun2:k.begun<=(n:Int)
 begun3:k.begun<=k.rounds+1
 pending:k.pending<16777216
theorem OkK.start {E:Nat} (h:E<16777216):OkK (aHl E) 0:=⟨rfl,Int.le_refl _,Int.le_refl _,Int.le_refl _,Int.le_refl _,Int.le_refl _,(by show (0:Int)<=0+1;decide),h⟩
theorem OkK.add {k:Cnt} {n S A:Nat} (h:OkK k n) (h0:S≠0) (hS:S<16777216) (hA:A<16777216):OkK (aMd k S A) (n+1):=by
 have hl:=aN5 (S:=S) (n:=24) (by decide) hS
 have h1:1<=(aAl S).length:=by
  rcases Nat.eq_zero_or_pos (aAl S).length with h | h
  .exact absurd ((aJ5 (by omega)).1 h) h0
  .exact h
 obtain ⟨a1,a2,a3,a4,a5,a6,a7,a8⟩:=h;unfold aMd;split
 .exact ⟨by simp;omega,by simp;omega,by simp;omega,by simp;omega,by simp,by simp;omega,by simp;omega,hA⟩
 .refine ⟨by simp;omega,by simp;omega,by simp;omega,a4,by simp;omega,by simp;omega,by simp,Nat.lt_of_le_of_lt Nat.and_le_right hA⟩
structure Trc where
 chosen:List Nat
 enabled:List Nat
 last:aA6
 count:Cnt
def aAe (p:Prg) (g:Graph) (c:aA6):Trc:=⟨[],[aAk p g c],c,aHl (aAk p g c)⟩
def aD6 (p:Prg) (g:Graph) (t:Trc) (S:Nat):Trc :=
 ⟨t.chosen++[S],t.enabled++[aAk p g (aBi p g t.last S)],aBi p g t.last S,aMd t.count S (aAk p g (aBi p g t.last S))⟩
def aB1 (p:Prg) (g:Graph) (kind:Int):Trc->List Nat->Option Trc
 | t,[]=>some t
 | t,S :: l=>if aBh g kind (aAk p g t.last) S=true then aB1 p g kind (aD6 p g t S) l else none
structure OkT (p:Prg) (g:Graph) (t:Trc):Prop where
 mem:aD1 p g t.last=0
 len:t.enabled.length=t.chosen.length+1
 count:OkK t.count t.chosen.length
 now:t.enabled.getLast?=some (aAk p g t.last)
theorem aFs {p:Prg} {g:Graph} {c:aA6} (hm:aD1 p g c=0):aAk p g c<16777216:=by
 have hle:=(aAp (aB8 hm).1).2.1.le;exact Nat.lt_of_lt_of_le (aMh hm) (show 2 ^ g.ports.length<=2 ^ 24 from Nat.pow_le_pow_right (by decide) hle)
theorem aLh {g:Graph} {kind:Int} {E S:Nat} (hS:S<4294967296) (hE:E<16777216) (h:aBh g kind E S=true):S≠0/\S<16777216:=by
 obtain ⟨h1,h2⟩:=aF0 h;exact ⟨h1,Nat.lt_of_le_of_lt (bAg ((aO3 hS (by omega)).2 h2)) hE⟩
theorem OkT.start {p:Prg} {g:Graph} {c:aA6} (hm:aD1 p g c=0):OkT p g (aAe p g c):=⟨hm,rfl,OkK.start (aFs hm),rfl⟩
theorem aM5 {p:Prg} {g:Graph} {kind:Int} {c:aA6} {S:Nat} (hm:aD1 p g c=0) (hS:S<4294967296) (h:aBh g kind (aAk p g c) S=true) :
  aD1 p g (aBi p g c S)=0/\aYw p g c S=(aBi p g c S,0):=by
 obtain ⟨h1,h2⟩:=aF0 h;refine ⟨aVb hm fun v hv hb=>?_,aYx hm h1 h2⟩
 have h4:=aC0.1 h2 v (aK4 hS hb) hb;rw [aN6] at h4;simp at h4
 exact h4.2
theorem OkT.next {p:Prg} {g:Graph} {kind:Int} {t:Trc} {S:Nat} (h:OkT p g t) (hS:S<4294967296) (hp:aBh g kind (aAk p g t.last) S=true):OkT p g (aD6 p g t S):=by
 obtain ⟨h1,h2,h3,_⟩:=h;obtain ⟨hm,_⟩:=aM5 h1 hS hp;obtain ⟨q1,q2⟩:=aLh hS (aFs h1) hp;refine ⟨hm,by simp [aD6,h2],?_,by simp [aD6]⟩
 have:=h3.add q1 q2 (aFs hm);simpa [aD6] using this
theorem aF1 (p:Prg) (g:Graph) (kind:Int):∀ (l m:List Nat) (t:Trc),aB1 p g kind t (l++m)=(aB1 p g kind t l).bind fun u=>aB1 p g kind u m
 | [],m,t=>rfl
 | S :: l,m,t=>by
  rw [List.cons_append];show (if aBh g kind (aAk p g t.last) S=true then aB1 p g kind (aD6 p g t S) (l++m) else none)=(if aBh g kind (aAk p g t.last) S=true then aB1 p g kind (aD6 p g t S) l else none).bind fun u=>aB1 p g kind u m
  by_cases h:aBh g kind (aAk p g t.last) S=true
  .rw [if_pos h,if_pos h];exact aF1 p g kind l m _
  .rw [if_neg h,if_neg h];rfl
theorem aGb {p:Prg} {g:Graph} {kind:Int}:∀ {l:List Nat} {t u:Trc},aB1 p g kind t l=some u->u.chosen=t.chosen++l
 | [],t,u,h=>by
  unfold aB1 at h;obtain rfl:=Option.some.inj h;simp
 | S :: l,t,u,h=>by
  unfold aB1 at h;split at h
  .rw [aGb h];simp [aD6]
  .cases h
theorem aHa {p:Prg} {g:Graph} {kind:Int}:∀ {l:List Nat} {t u:Trc},OkT p g t->(∀ S∈l,S<4294967296)->aB1 p g kind t l=some u->OkT p g u
 | [],t,u,h,_,hp=>by
  unfold aB1 at hp;obtain rfl:=Option.some.inj hp;exact h
 | S :: l,t,u,h,hS,hp=>by
  unfold aB1 at hp;split at hp
  .rename_i h1
   exact aHa (h.next (hS S List.mem_cons_self) h1) (fun x hx=>hS x (List.mem_cons_of_mem _ hx)) hp
  .cases hp
theorem aEp {p:Prg} {g:Graph} {kind:Int}:∀ {m:List Nat} {t u t':Trc},u.last=t.last->aB1 p g kind t m=some t' ->
  ∃ u' X,aB1 p g kind u m=some u'/\u'.last=t'.last/\t'.enabled=t.enabled++X/\u'.enabled=u.enabled++X/\X.length=m.length/\u'.count.moves-u.count.moves=t'.count.moves-t.count.moves
 | [],t,u,t',hl,h=>by
  unfold aB1 at h;obtain rfl:=Option.some.inj h;exact ⟨u,[],rfl,hl,by simp,by simp,rfl,by omega⟩
 | S :: m,t,u,t',hl,h=>by
  unfold aB1 at h;split at h
  .rename_i h1
   have hl2:(aD6 p g u S).last=(aD6 p g t S).last:=by simp [aD6,hl]
   obtain ⟨u',X,a1,a2,a3,a4,a5,a6⟩:=aEp hl2 h;refine ⟨u',aAk p g (aBi p g t.last S) :: X,?_,a2,?_,?_,by simp [a5],?_⟩
   .unfold aB1
    rw [hl,if_pos h1];exact a1
   .rw [a3];simp [aD6]
   .rw [a4];simp [aD6,hl]
   .have q:∀ k S A,(aMd k S A).moves=k.moves+(aAl S).length:=fun k S A=>by unfold aMd;split <;> rfl
    have e1:(aD6 p g t S).count.moves=t.count.moves+(aAl S).length:=by simp [aD6,q]
    have e2:(aD6 p g u S).count.moves=u.count.moves+(aAl S).length:=by simp [aD6,q]
    omega
  .cases h
def aCi (E S v:Nat):Bool := !E.testBit v||S.testBit v
theorem aQr {p:Prg} {g:Graph} {kind:Int} {c:aA6} {l m:List Nat} :
  aB1 p g kind (aAe p g c) (l++m)=(aB1 p g kind (aAe p g c) l).bind fun a=>aB1 p g kind a m:=aF1 p g kind l m _
theorem aPk {p:Prg} {g:Graph} {kind:Int} {a:Trc} {m:List Nat}:(aB1 p g kind a m=none↔aB1 p g kind (aAe p g a.last) m=none):=by
 constructor
 .intro h
  cases hb:aB1 p g kind (aAe p g a.last) m with
  | none=>rfl
  | some b =>
   obtain ⟨u,X,h1,_⟩:=aEp (u:=a) (t:=aAe p g a.last) rfl hb;rw [h] at h1;cases h1
 .intro h
  cases hb:aB1 p g kind a m with
  | none=>rfl
  | some b =>
   obtain ⟨u,X,h1,_⟩:=aEp (u:=aAe p g a.last) (t:=a) rfl hb;rw [h] at h1;cases h1
theorem aWf {p:Prg} {g:Graph} {kind:Int} {c:aA6} {m:List Nat} {b:Trc} (h:aB1 p g kind (aAe p g c) m=some b) (hl:b.last=c) :
  ∃ b',aB1 p g kind (aAe p g c) (m++m)=some b'/\b'.last=c:=by
 rw [aF1,h];obtain ⟨u,X,h1,h2,_⟩:=aEp (u:=b) (t:=aAe p g c) hl h;exact ⟨u,h1,by rw [h2,hl]⟩
theorem aUi {p:Prg} {g:Graph} {l:List Nat} {t u:Trc} (hl:l≠[]) (h:aB1 p g 4 t l=some u) (v:Nat):∃ S m,l=S :: m/\S=aAk p g t.last/\aCi (aAk p g t.last) S v=true:=by
 cases l with
 | nil=>exact absurd rfl hl
 | cons S m =>
  unfold aB1 at h;split at h
  .rename_i h1
   obtain ⟨h2,h3⟩:=aF0 h1;unfold aBh at h1;rw [if_neg h2,h3] at h1;simp at h1
   refine ⟨S,m,rfl,h1,?_⟩
   unfold aCi;rw [h1];cases (aAk p g t.last).testBit v <;> rfl
  .cases h
def aM9 (p:Prg) (g:Graph) (kind:Int) (ch:Nat->Nat->Nat) (gs:Nat->Nat->Bool):Nat->Nat->Trc->List Trc
 | 0,_,t=>[t]
 | n+1,i,t=>t :: (if gs i (aAk p g t.last)=true/\aBh g kind (aAk p g t.last) (ch i (aAk p g t.last))=true then aM9 p g kind ch gs n (i+1) (aD6 p g t (ch i (aAk p g t.last))) else [])
def aKx (p:Prg) (g:Graph) (kind:Int) (ch:Nat->Nat->Nat) (gs:Nat->Nat->Bool):Nat->Nat->Trc->Option Trc
 | 0,_,t=>some t
 | n+1,i,t=>if gs i (aAk p g t.last)=true then if aBh g kind (aAk p g t.last) (ch i (aAk p g t.last))=true then aKx p g kind ch gs n (i+1) (aD6 p g t (ch i (aAk p g t.last))) else none else some t
variable {p:Prg} {g:Graph} {kind:Int} {ch:Nat->Nat->Nat} {gs:Nat->Nat->Bool}
theorem aYl {n i:Nat} {t:Trc} (h:gs i (aAk p g t.last)=false):aKx p g kind ch gs (n+1) i t=some t/\aM9 p g kind ch gs (n+1) i t=[t]:=by
 unfold aKx aM9;rw [h];simp
theorem bAk {n i:Nat} {t:Trc} (h:gs i (aAk p g t.last)=true) (h2:aBh g kind (aAk p g t.last) (ch i (aAk p g t.last))=false):aKx p g kind ch gs (n+1) i t=none/\aM9 p g kind ch gs (n+1) i t=[t]:=by
 unfold aKx aM9;rw [h,h2];simp
theorem aYk {n i:Nat} {t:Trc} (h:gs i (aAk p g t.last)=true) (h2:aBh g kind (aAk p g t.last) (ch i (aAk p g t.last))=true) :
  aKx p g kind ch gs (n+1) i t=aKx p g kind ch gs n (i+1) (aD6 p g t (ch i (aAk p g t.last)))/\aM9 p g kind ch gs (n+1) i t=t :: aM9 p g kind ch gs n (i+1) (aD6 p g t (ch i (aAk p g t.last))):=by
 constructor
 .conv=>lhs;unfold aKx
  rw [if_pos h,if_pos h2]
 .conv=>lhs;unfold aM9
  rw [if_pos ⟨h,h2⟩]
theorem aSm (l:List Nat):∀ (n i:Nat) (t:Trc),i+n=l.length->aKx p g kind (fun i _=>l.getD i 0) (fun _ _=>true) n i t=aB1 p g kind t (l.drop i)
 | 0,i,t,h=>by
  rw [List.drop_of_length_le (by omega)];rfl
 | n+1,i,t,h=>by
  have hi:i<l.length:=by omega
  rw [List.drop_eq_getElem_cons hi];unfold aKx aB1;rw [if_pos rfl,aA8 hi]
  by_cases hp:aBh g kind (aAk p g t.last) l[i]=true
  .rw [if_pos hp,if_pos hp]
   exact aSm l n (i+1) _ (by omega)
  .rw [if_neg hp,if_neg hp]
theorem aT1 (l:List Nat):∀ (n i:Nat) (t u:Trc),i+n=l.length->aB1 p g kind t (l.drop i)=some u ->
  (aM9 p g kind (fun i _=>l.getD i 0) (fun _ _=>true) n i t).length=n+1/\∀ k,k<=n->aB1 p g kind t ((l.drop i).take k)=(aM9 p g kind (fun i _=>l.getD i 0) (fun _ _=>true) n i t)[k]?
 | 0,i,t,u,h,_=>⟨rfl,fun k hk=>by
   obtain rfl:k=0:=by omega
   rfl⟩
 | n+1,i,t,u,h,hp=>by
  have hi:i<l.length:=by omega
  rw [List.drop_eq_getElem_cons hi] at hp ⊢;unfold aB1 at hp;split at hp
  .rename_i h1
   have h1':aBh g kind (aAk p g t.last) (l.getD i 0)=true:=by rw [aA8 hi];exact h1
   have e:=(aYk (p:=p) (g:=g) (kind:=kind) (ch:=fun i _=>l.getD i 0) (gs:=fun _ _=>true) (n:=n) (i:=i) (t:=t) rfl h1').2;rw [aA8 hi] at e;obtain ⟨r1,r2⟩:=aT1 l n (i+1) _ u (by omega) hp
   rw [e];refine ⟨by rw [List.length_cons,r1],fun k hk=>?_⟩
   cases k with
   | zero=>rfl
   | succ k =>
    rw [List.take_succ_cons,List.getElem?_cons_succ,<- r2 k (by omega)]
    conv=>lhs;unfold aB1
    rw [if_pos h1]
  .cases hp
theorem bBd {E:Nat} (h:E<16777216):E&&&16777215=E:=by
 rw [show (16777215:Nat)=2 ^ 24-1 from rfl,Nat.and_two_pow_sub_one_eq_mod,Nat.mod_eq_of_lt h]
theorem aUn {S n v:Nat} (hS:S<2 ^ n) (hv:S.testBit v=true):v<n:=by
 rcases Nat.lt_or_ge v n with h | h
 .exact h
 .rw [Nat.testBit_lt_two_pow (Nat.lt_of_lt_of_le hS (Nat.pow_le_pow_right (by decide) h))] at hv;cases hv
theorem aZp {S:Nat} (h:S<16777216):aD4 S 16777215=0:=by
 have h1:(aD4 S 16777215==0)=true:=by
  rw [aEl (by omega),aC0]
  intro v _ hv
  rw [show (16777215:Nat)=2 ^ 24-1 from rfl,Nat.testBit_two_pow_sub_one,decide_eq_true_iff]
  exact aUn (n:=24) h hv
 simpa using h1
def aZb (s E S:Nat):Nat:=s|||((4294967295-E)|||S)
theorem bBw {s E S:Nat} (hs:s<4294967296) (hS:S<4294967296):aZb s E S<4294967296 :=
 Nat.or_lt_two_pow (n:=32) hs (Nat.or_lt_two_pow (by omega) hS)
theorem bAo {s E S v:Nat} (hE:E<4294967296) (hv:v<32):(aZb s E S).testBit v=(s.testBit v||aCi E S v):=by
 have h:=Nat.testBit_two_pow_sub_succ (n:=32) (x:=E) hE v;rw [show (2:Nat) ^ 32-(E+1)=4294967295-E by omega] at h
 unfold aZb aCi;rw [Nat.testBit_or,Nat.testBit_or,h,decide_eq_true hv,Bool.true_and]
def aT6:List (Nat × Nat)->Nat->Nat
 | [],s=>s
 | x :: l,s=>aT6 l (aZb s x.1 x.2)
theorem aSr:∀ (l:List (Nat × Nat)) (s:Nat) (x:Nat × Nat),aT6 (l++[x]) s=aZb (aT6 l s) x.1 x.2
 | [],s,x=>rfl
 | y :: l,s,x=>by
  show aT6 (l++[x]) _=aZb (aT6 l _) x.1 x.2
  exact aSr l _ x
theorem aYu:∀ (l:List (Nat × Nat)) (s:Nat),s<4294967296->(∀ x∈l,x.2<4294967296)->aT6 l s<4294967296
 | [],_,h,_=>h
 | x :: l,_,h,hl=>aYu l _ (bBw h (hl x List.mem_cons_self)) fun y hy=>hl y (List.mem_cons_of_mem _ hy)
theorem aR4 {v:Nat} (hv:v<32):∀ (l:List (Nat × Nat)) (s:Nat),(∀ x∈l,x.1<4294967296)->(aT6 l s).testBit v=(s.testBit v||l.any fun x=>aCi x.1 x.2 v)
 | [],s,_=>by simp [aT6]
 | x :: l,s,h=>by
  show (aT6 l (aZb s x.1 x.2)).testBit v=_
  rw [aR4 hv l _ fun y hy=>h y (List.mem_cons_of_mem _ hy),bAo (h x List.mem_cons_self) hv,List.any_cons,Bool.or_assoc]
def aGp (n:Nat) (l:List (Nat × Nat)):Bool:=(List.range n).all fun v=>l.any fun x=>aCi x.1 x.2 v
theorem bBc {n:Nat} (hn:n<=32) {l:List (Nat × Nat)} (h:∀ x∈l,x.1<4294967296):(aD4 (aBw n fun _=>true) (aT6 l 0)==0)=aGp n l:=by
 rw [Bool.eq_iff_iff,aEl (aEf _ hn),aC0];unfold aGp;rw [List.all_eq_true];constructor
 .intro k v hv
  rw [List.mem_range] at hv;have:=k v (by omega) (by rw [aEv];simp [hv])
  rwa [aR4 (by omega) l 0 h,Nat.zero_testBit,Bool.false_or] at this
 .intro k v hv hb
  rw [aEv] at hb;simp at hb
  rw [aR4 hv l 0 h,Nat.zero_testBit,Bool.false_or];exact k v (List.mem_range.2 hb)
end Go.Proofs.YtdcjnhoabbdanaaGreatDoor

