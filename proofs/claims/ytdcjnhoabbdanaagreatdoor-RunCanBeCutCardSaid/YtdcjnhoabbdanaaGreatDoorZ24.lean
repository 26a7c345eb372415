/- Merged. -/
import Derived.Test.YtdcjnhoabbdanaaGreatDoorZ23
set_option linter.unusedSimpArgs false
set_option linter.unnecessarySimpa false
set_option linter.unusedVariables false
set_option maxRecDepth 100000

namespace Go.Proofs.YtdcjnhoabbdanaaGreatDoor
theorem aH2 {g:Graph} (hg:GOK g) {v:Nat} (hv:v<g.ports.length):aE9 g (2 ^ v)=true:=by
 have hle:=hg.le;rw [aDg (aJp (by omega))]
 intro u hu
 rw [aEh] at hu;obtain rfl:=of_decide_eq_true hu;rw [aCm];intro x hx
 rw [aEh];refine decide_eq_false fun e=>?_
 subst e;obtain ⟨l,hl,e⟩:=(aJ9 hv).1 hx;obtain ⟨a1,_,a3,_⟩:=aBd.1 ((aB3.1 (hg.links v hv)).1 l hl);omega
def aKb (a b:Int):Bool:=a==b||b==3||(a==1&&b==2)
theorem aUo {S:Nat} (hS:S<4294967296) (h0:S≠0) (h:(S&&&(S-1)==0)=true):∃ v,v<32/\S=2 ^ v:=by
 rw [aK8 hS h0,decide_eq_true_iff] at h;obtain ⟨k,m,e,hk,_,_,e3⟩:=aEc hS h0;rw [e3,List.length_cons] at h
 have hz:2 ^ k*(2*m)=0:=by
  refine (aFj ?_).1 (by omega)
  have:2 ^ k*(2*m)<=2 ^ k*(2*m+1):=Nat.mul_le_mul_left _ (by omega)
  omega
 exact ⟨k,hk,by rw [e,Nat.mul_add,hz];simp⟩
theorem aN7 {g:Graph} (hg:GOK g) {a b:Int} {E T:Nat} (hT:T<4294967296) (hE:E<2 ^ g.ports.length) (hab:aKb a b=true) (h:aAn g a E T=true):aAn g b E T=true:=by
 unfold aKb at hab;simp at hab
 obtain ⟨h0,hw⟩:=aFf h
 rcases hab with (rfl | rfl) | ⟨rfl,rfl⟩
 .exact h
 .unfold aAn
  rw [if_neg h0,hw];simp
 .unfold aAn at h ⊢
  rw [if_neg h0,hw,if_neg (by decide),if_pos rfl] at h
  rw [if_neg h0,hw,if_neg (by decide),if_neg (by decide),if_pos rfl]
  obtain ⟨v,hv,rfl⟩:=aUo hT h0 h;have hb:=aB5.1 hw v hv (by rw [aEh];simp)
  refine aH2 hg ?_
  rcases Nat.lt_or_ge v g.ports.length with h | h
  .exact h
  .have e:2 ^ g.ports.length<=2 ^ v:=Nat.pow_le_pow_right (by decide) h
   rw [Nat.testBit_lt_two_pow (Nat.lt_of_lt_of_le hE e)] at hb;cases hb
theorem aFa {p:Prg} {g:Graph} {c:aA5} (hm:aD5 p g c=0):aAk p g c<2 ^ g.ports.length:=by
 have:=aWq c.length fun v=>decide (0<=aD3 p.rules g c v);rw [aIw hm] at this;unfold aAk;rw [aIw hm];exact this
structure Cnt where
 steps:Int
 moves:Int
 rounds:Int
 begun:Int
 pending:Nat
def aKg (E:Nat):Cnt:=⟨0,0,0,0,E⟩
def aSj (k:Cnt) (S A:Nat):Cnt :=
 if aDy k.pending S&&&A=0 then ⟨k.steps+1,k.moves+(aAe S).length,k.rounds+1,k.rounds+1,A⟩
 else ⟨k.steps+1,k.moves+(aAe S).length,k.rounds,k.rounds+1,aDy k.pending S&&&A⟩
structure OkK (k:Cnt) (n:Nat):Prop where
 steps:k.steps=(n:Int)
 moves1:(n:Int)<=k.moves
 moves2:k.moves<=24*(n:Int)
 rounds:0<=k.rounds
 begun1:k.rounds<=k.begun
 begun2:k.begun<=(n:Int)
 begun3:k.begun<=k.rounds+1
 pending:k.pending<16777216
theorem OkK.start {E:Nat} (h:E<16777216):OkK (aKg E) 0:=⟨rfl,Int.le_refl _,Int.le_refl _,Int.le_refl _,Int.le_refl _,Int.le_refl _,(by show (0:Int)<=0+1;decide),h⟩
theorem OkK.add {k:Cnt} {n S A:Nat} (h:OkK k n) (h0:S≠0) (hS:S<16777216) (hA:A<16777216):OkK (aSj k S A) (n+1):=by
 have hl:=aPi (S:=S) (n:=24) (by decide) hS
 have h1:1<=(aAe S).length:=by
  rcases Nat.eq_zero_or_pos (aAe S).length with h | h
  .exact absurd ((aFj (by omega)).1 h) h0
  .exact h
 obtain ⟨a1,a2,a3,a4,a5,a6,a7,a8⟩:=h;unfold aSj;split
 .exact ⟨by simp;omega,by simp;omega,by simp;omega,by simp;omega,by simp,by simp;omega,by simp;omega,hA⟩
 .refine ⟨by simp;omega,by simp;omega,by simp;omega,a4,by simp;omega,by simp;omega,by simp,Nat.lt_of_le_of_lt Nat.and_le_right hA⟩
structure Trc where
 chosen:List Nat
 enabled:List Nat
 last:aA5
 count:Cnt
def aAg (p:Prg) (g:Graph) (c:aA5):Trc:=⟨[],[aAk p g c],c,aKg (aAk p g c)⟩
def aCk (p:Prg) (g:Graph) (t:Trc) (S:Nat):Trc :=
 ⟨t.chosen++[S],t.enabled++[aAk p g (aBi p g t.last S)],aBi p g t.last S,aSj t.count S (aAk p g (aBi p g t.last S))⟩
def aCh (p:Prg) (g:Graph) (kind:Int):Trc->List Nat->Option Trc
 | t,[]=>some t
 | t,S :: l=>if aAn g kind (aAk p g t.last) S=true then aCh p g kind (aCk p g t S) l else none
def aDm (p:Prg) (g:Graph) (kind:Int):Trc->List Nat->Trc
 | t,[]=>t
 | t,W :: l=>if aAk p g t.last=0 then t else aDm p g kind (aCk p g t (aAl g kind (aAk p g t.last) W)) l
theorem aXf {W E:Nat}:(W&&&E)&&&E=W&&&E:=by rw [Nat.and_assoc,Nat.and_self]
theorem aZu {s S:Nat} (h:s&&&S=s) (hS:S<4294967296):s<4294967296:=Nat.lt_of_le_of_lt (aT5 h) hS
theorem aG5 {g:Graph} (hg:GOK g):∀ (l:List Nat) (s:Nat),(∀ v∈l,v<g.ports.length)->s<4294967296->(∀ v,s.testBit v=true->v<g.ports.length)->aE9 g s=true ->
  aE9 g (l.foldl (fun s v=>if aIr g v&&&s=0 then s|||2 ^ v else s) s)=true/\l.foldl (fun s v=>if aIr g v&&&s=0 then s|||2 ^ v else s) s<4294967296 /\
   (∀ u,(l.foldl (fun s v=>if aIr g v&&&s=0 then s|||2 ^ v else s) s).testBit u=true->s.testBit u=true∨u∈l)/\(∀ u,s.testBit u=true->(l.foldl (fun s v=>if aIr g v&&&s=0 then s|||2 ^ v else s) s).testBit u=true)
 | [],s,_,hs,_,hi=>⟨hi,hs,fun u h => .inl h,fun u h=>h⟩
 | v :: l,s,hl,hs,hn,hi=>by
  have hle:=hg.le;have hv:=hl v List.mem_cons_self;rw [List.foldl_cons]
  by_cases h:aIr g v&&&s=0
  .rw [if_pos h]
   have hs2:s|||2 ^ v<4294967296:=Nat.or_lt_two_pow (n:=32) hs (aJp (by omega))
   have hn2:∀ u,(s|||2 ^ v).testBit u=true->u<g.ports.length:=fun u hu=>by
    rw [Nat.testBit_or,aEh,Bool.or_eq_true,decide_eq_true_iff] at hu
    rcases hu with h1 | h1
    .exact hn u h1
    .omega
   have hi2:aE9 g (s|||2 ^ v)=true:=by
    rw [aDg hs2];intro u hu
    rw [aCm];intro x hx
    rw [Nat.testBit_or,aEh,Bool.or_eq_false_iff];have hun:=hn2 u hu;rw [Nat.testBit_or,aEh,Bool.or_eq_true,decide_eq_true_iff] at hu;have hsv:=aH2 hg hv;rw [aDg (aJp (by omega))] at hsv
    have hvv:=hsv v (by rw [aEh];simp)
    rcases hu with h1 | h1
    .refine ⟨(aCm.1 ((aDg hs).1 hi u h1)) x hx,decide_eq_false fun e=>?_⟩
     subst e;have:=(aY9 hg hun hx).2;rw [aCm.1 h u this] at h1;cases h1
    .subst h1
     refine ⟨aCm.1 h x hx,?_⟩
     have:=aCm.1 hvv x hx
     rwa [aEh] at this
   obtain ⟨r1,r2,r3,r4⟩:=aG5 hg l (s|||2 ^ v) (fun u hu=>hl u (List.mem_cons_of_mem _ hu)) hs2 hn2 hi2;refine ⟨r1,r2,fun u hu=>?_,fun u hu=>r4 u (by rw [Nat.testBit_or,hu];rfl)⟩
   rcases r3 u hu with h1 | h1
   .rw [Nat.testBit_or,aEh,Bool.or_eq_true,decide_eq_true_iff] at h1
    rcases h1 with h2 | h2
    .exact .inl h2
    .subst h2;exact .inr List.mem_cons_self
   .exact .inr (List.mem_cons_of_mem _ h1)
  .rw [if_neg h]
   obtain ⟨r1,r2,r3,r4⟩:=aG5 hg l s (fun u hu=>hl u (List.mem_cons_of_mem _ hu)) hs hn hi;exact ⟨r1,r2,fun u hu=>(r3 u hu).imp_right (List.mem_cons_of_mem _),r4⟩
theorem aU2 (g:Graph):aE9 g 0=true:=by
 rw [aDg (by decide)]
 intro v hv
 rw [Nat.zero_testBit] at hv;cases hv
theorem aVp {g:Graph} (hg:GOK g) {w:Nat} (hw:w<4294967296) (hn:∀ v,w.testBit v=true->v<g.ports.length) (h0:w≠0) :
  aE9 g (aE0 g (aAe w))=true/\aE0 g (aAe w)<4294967296/\aE0 g (aAe w)≠0/\aB1 (aE0 g (aAe w)) w=true:=by
 have hlist:∀ v∈aAe w,v<g.ports.length:=fun v hv=>hn v (aCe.1 hv).2;obtain ⟨k,m,e,hk,_,_,e3⟩:=aEc hw h0;obtain ⟨r1,r2,r3,r4⟩:=aG5 hg (aAe w) 0 hlist (by decide) (fun v hv=>by rw [Nat.zero_testBit] at hv;cases hv) (aU2 g)
 refine ⟨r1,r2,fun hz=>?_,?_⟩
 .-- the first element is taken
  unfold aE0 at hz;rw [e3,List.foldl_cons,Nat.and_zero,if_pos rfl,Nat.zero_or] at hz;have hkn:k<g.ports.length:=hlist k (by rw [e3];exact List.mem_cons_self)
  have hle:=hg.le;obtain ⟨_,_,_,q4⟩:=aG5 hg (aAe (2 ^ k*(2*m))) (2 ^ k) (fun v hv=>hlist v (by rw [e3];exact List.mem_cons_of_mem _ hv)) (aJp (by omega)) (fun v hv=>by rw [aEh] at hv;have:=of_decide_eq_true hv;omega) (aH2 hg hkn)
  have:=q4 k (by rw [aEh];simp)
  rw [hz,Nat.zero_testBit] at this;cases this
 .rw [aB5]
  intro v _ hv
  rcases r3 v hv with h | h
  .rw [Nat.zero_testBit] at h;cases h
  .exact (aCe.1 h).2
theorem aK6 {g:Graph} (hg:GOK g) {kind:Int} (hk:aDk kind=true) {E W:Nat} (hE:E<2 ^ g.ports.length) (h0:E≠0):aAn g kind E (aAl g kind E W)=true/\aAl g kind E W<4294967296:=by
 have hle:=hg.le;have hlt:E<4294967296:=Nat.lt_of_lt_of_le hE (Nat.pow_le_pow_right (n:=2) (by decide) (show g.ports.length<=32 by omega))
 -- the wish
 obtain ⟨w,hwd⟩:∃ w,(if W&&&E=0 then lsb E else W&&&E)=w:=⟨_,rfl⟩
 have hwp:w&&&E=w/\w≠0:=by
  rw [<- hwd];split
  .exact ⟨aSv,aYx hlt h0⟩
  .rename_i h;exact ⟨aXf,h⟩
 have hwl:=aZu hwp.1 hlt;have hww:=(aG9 hwl hlt).1 hwp.1
 have hwn:∀ v,w.testBit v=true->v<g.ports.length:=fun v hv=>by
  have hb:=aB5.1 hww v (aI3 hwl hv) hv
  rcases Nat.lt_or_ge v g.ports.length with h | h
  .exact h
  .have e:2 ^ g.ports.length<=2 ^ v:=Nat.pow_le_pow_right (by decide) h
   rw [Nat.testBit_lt_two_pow (Nat.lt_of_lt_of_le hE e)] at hb;cases hb
 have hr:aAl g kind E W=if kind=1 then lsb w else if kind=2 then aE0 g (aAe w) else if kind=4 then E else w:=by unfold aAl;rw [hwd]
 rw [hr];unfold aDk at hk;simp at hk
 by_cases k1:kind=1
 .subst k1
  rw [if_pos rfl];obtain ⟨k,m,e,hk32,e1,_,_⟩:=aEc hwl hwp.2;have hl0:=aYx hwl hwp.2;have hll:=aSu hwl;refine ⟨?_,hll⟩
  unfold aAn;rw [if_neg hl0,aHl ((aG9 hll hwl).1 aSv) hww,if_neg (by decide),if_pos rfl,aK8 hll hl0,e1,aVj hk32];rfl
 rw [if_neg k1]
 by_cases k2:kind=2
 .subst k2
  rw [if_pos rfl];obtain ⟨r1,r2,r3,r4⟩:=aVp hg hwl hwn hwp.2;refine ⟨?_,r2⟩
  unfold aAn;rw [if_neg r3,aHl r4 hww,if_neg (by decide),if_neg (by decide),if_pos rfl]
  exact r1
 rw [if_neg k2]
 by_cases k4:kind=4
 .subst k4
  rw [if_pos rfl];refine ⟨?_,hlt⟩
  unfold aAn;rw [if_neg h0,show aB1 E E=true from aB5.2 fun _ _ h=>h];simp
 .rw [if_neg k4]
  refine ⟨?_,hwl⟩
  unfold aAn;rw [if_neg hwp.2,hww,if_neg (by decide),if_neg k1,if_neg k2,if_neg k4]
structure OkT (p:Prg) (g:Graph) (t:Trc):Prop where
 mem:aD5 p g t.last=0
 len:t.enabled.length=t.chosen.length+1
 count:OkK t.count t.chosen.length
 now:t.enabled.getLast?=some (aAk p g t.last)
theorem aOa {p:Prg} {g:Graph} {c:aA5} (hm:aD5 p g c=0):aAk p g c<16777216:=by
 have hle:=(aAt (aB6 hm).1).2.1.le;exact Nat.lt_of_lt_of_le (aFa hm) (show 2 ^ g.ports.length<=2 ^ 24 from Nat.pow_le_pow_right (by decide) hle)
theorem aNq {g:Graph} {kind:Int} {E S:Nat} (hS:S<4294967296) (hE:E<16777216) (h:aAn g kind E S=true):S≠0/\S<16777216:=by
 obtain ⟨h1,h2⟩:=aFf h;exact ⟨h1,Nat.lt_of_le_of_lt (aT5 ((aG9 hS (by omega)).2 h2)) hE⟩
theorem OkT.start {p:Prg} {g:Graph} {c:aA5} (hm:aD5 p g c=0):OkT p g (aAg p g c):=⟨hm,rfl,OkK.start (aOa hm),rfl⟩
theorem aQu {p:Prg} {g:Graph} {kind:Int} {c:aA5} {S:Nat} (hm:aD5 p g c=0) (hS:S<4294967296) (h:aAn g kind (aAk p g c) S=true) :
  aD5 p g (aBi p g c S)=0/\aWt p g c S=(aBi p g c S,0):=by
 obtain ⟨h1,h2⟩:=aFf h;refine ⟨aTa hm fun v hv hb=>?_,aWu hm h1 h2⟩
 have h4:=aB5.1 h2 v (aI3 hS hb) hb;rw [aPj] at h4;simp at h4
 exact h4.2
theorem OkT.next {p:Prg} {g:Graph} {kind:Int} {t:Trc} {S:Nat} (h:OkT p g t) (hS:S<4294967296) (hp:aAn g kind (aAk p g t.last) S=true):OkT p g (aCk p g t S):=by
 obtain ⟨h1,h2,h3,_⟩:=h;obtain ⟨hm,_⟩:=aQu h1 hS hp;obtain ⟨q1,q2⟩:=aNq hS (aOa h1) hp;refine ⟨hm,by simp [aCk,h2],?_,by simp [aCk]⟩
 have:=h3.add q1 q2 (aOa hm);simpa [aCk] using this
theorem aMh {p:Prg} {g:Graph} {kind:Int} (hg:GOK g) (hk:aDk kind=true):∀ (ws:List Nat) (t:Trc),OkT p g t ->
  ∃ l,(aDm p g kind t ws).chosen=t.chosen++l/\aCh p g kind t l=some (aDm p g kind t ws)/\l.length<=ws.length/\(l.length=ws.length∨aAk p g (aDm p g kind t ws).last=0)/\OkT p g (aDm p g kind t ws)/\(∀ S∈l,S<4294967296)
 | [],t,h=>⟨[],by simp [aDm],rfl,Nat.le_refl _,.inl rfl,h,fun S h=>by cases h⟩
 | W :: ws,t,h=>by
  unfold aDm
  by_cases h0:aAk p g t.last=0
  .rw [if_pos h0]
   exact ⟨[],by simp,rfl,by simp,.inr h0,h,fun S h=>by cases h⟩
  .rw [if_neg h0]
   obtain ⟨r1,r2⟩:=aK6 hg hk (W:=W) (aFa h.mem) h0;obtain ⟨l,l1,l2,l3,l4,l5,l6⟩:=aMh hg hk ws _ (h.next r2 r1);refine ⟨aAl g kind (aAk p g t.last) W :: l,?_,?_,by simp;omega,?_,l5,fun S hS=>?_⟩
   .rw [l1];simp [aCk]
   .unfold aCh
    rw [if_pos r1];exact l2
   .rcases l4 with h4 | h4
    .left;simp;omega
    .exact .inr h4
   .rcases List.mem_cons.1 hS with e | e
    .rw [e];exact r2
    .exact l6 S e
theorem aKo (p:Prg) (g:Graph) (kind:Int):∀ (l m:List Nat) (t:Trc),aCh p g kind t (l++m)=(aCh p g kind t l).bind fun u=>aCh p g kind u m
 | [],m,t=>rfl
 | S :: l,m,t=>by
  rw [List.cons_append];show (if aAn g kind (aAk p g t.last) S=true then aCh p g kind (aCk p g t S) (l++m) else none)=(if aAn g kind (aAk p g t.last) S=true then aCh p g kind (aCk p g t S) l else none).bind fun u=>aCh p g kind u m
  by_cases h:aAn g kind (aAk p g t.last) S=true
  .rw [if_pos h,if_pos h];exact aKo p g kind l m _
  .rw [if_neg h,if_neg h];rfl
theorem aKp {p:Prg} {g:Graph} {kind:Int}:∀ {l:List Nat} {t u:Trc},aCh p g kind t l=some u->u.chosen=t.chosen++l
 | [],t,u,h=>by
  unfold aCh at h;obtain rfl:=Option.some.inj h;simp
 | S :: l,t,u,h=>by
  unfold aCh at h;split at h
  .rw [aKp h];simp [aCk]
  .cases h
theorem aOx {p:Prg} {g:Graph} {kind:Int}:∀ {l:List Nat} {t u:Trc},OkT p g t->(∀ S∈l,S<4294967296)->aCh p g kind t l=some u->OkT p g u
 | [],t,u,h,_,hp=>by
  unfold aCh at hp;obtain rfl:=Option.some.inj hp;exact h
 | S :: l,t,u,h,hS,hp=>by
  unfold aCh at hp;split at hp
  .rename_i h1
   exact aOx (h.next (hS S List.mem_cons_self) h1) (fun x hx=>hS x (List.mem_cons_of_mem _ hx)) hp
  .cases hp
theorem aK4 {p:Prg} {g:Graph} {kind:Int}:∀ {m:List Nat} {t u t':Trc},u.last=t.last->aCh p g kind t m=some t' ->
  ∃ u' X,aCh p g kind u m=some u'/\u'.last=t'.last/\t'.enabled=t.enabled++X/\u'.enabled=u.enabled++X/\X.length=m.length/\u'.count.moves-u.count.moves=t'.count.moves-t.count.moves
 | [],t,u,t',hl,h=>by
  unfold aCh at h;obtain rfl:=Option.some.inj h;exact ⟨u,[],rfl,hl,by simp,by simp,rfl,by omega⟩
 | S :: m,t,u,t',hl,h=>by
  unfold aCh at h;split at h
  .rename_i h1
   have hl2:(aCk p g u S).last=(aCk p g t S).last:=by simp [aCk,hl]
   obtain ⟨u',X,a1,a2,a3,a4,a5,a6⟩:=aK4 hl2 h;refine ⟨u',aAk p g (aBi p g t.last S) :: X,?_,a2,?_,?_,by simp [a5],?_⟩
   .unfold aCh
    rw [hl,if_pos h1];exact a1
   .rw [a3];simp [aCk]
   .rw [a4];simp [aCk,hl]
   .have q:∀ k S A,(aSj k S A).moves=k.moves+(aAe S).length:=fun k S A=>by unfold aSj;split <;> rfl
    have e1:(aCk p g t S).count.moves=t.count.moves+(aAe S).length:=by simp [aCk,q]
    have e2:(aCk p g u S).count.moves=u.count.moves+(aAe S).length:=by simp [aCk,q]
    omega
  .cases h
theorem aZc {p:Prg} {g:Graph} {kind:Int} {c:aA5} {l:List Nat} {t:Trc} (hm:aD5 p g c=0) (hS:∀ S∈l,S<4294967296) (h:aCh p g kind (aAg p g c) l=some t) (k:Nat) (hk:k<=l.length) :
  ∃ a b,aCh p g kind (aAg p g c) (l.take k)=some a/\aD5 p g a.last=0/\aCh p g kind (aAg p g a.last) (l.drop k)=some b/\b.last=t.last/\a.enabled=t.enabled.take (k+1)/\b.enabled=t.enabled.drop k/\a.count.moves+b.count.moves=t.count.moves:=by
 have e:l=l.take k++l.drop k:=(List.take_append_drop k l).symm;rw [e,aKo] at h;cases ha:aCh p g kind (aAg p g c) (l.take k) with
 | none=>rw [ha] at h;cases h
 | some a =>
  rw [ha] at h;have hb:aCh p g kind a (l.drop k)=some t:=h;have hok:=aOx (OkT.start hm) (fun S hS'=>hS S (List.mem_of_mem_take hS')) ha;obtain ⟨b,X,b1,b2,b3,b4,b5,b6⟩:=aK4 (u:=aAg p g a.last) (t:=a) rfl hb
  have hlen:a.enabled.length=k+1:=by
   rw [hok.len,aKp ha];simp [aAg];omega
  refine ⟨a,b,rfl,hok.mem,b1,b2,?_,?_,?_⟩
  .rw [b3,List.take_append_of_le_length (by omega),List.take_of_length_le (by omega)]
  .have hne:a.enabled≠[]:=fun h=>by rw [h] at hlen;simp at hlen
   have hlast:=hok.now;rw [List.getLast?_eq_some_getLast hne] at hlast
   have hl2:a.enabled=a.enabled.dropLast++[aAk p g a.last]:=by
    rw [<- Option.some.inj hlast,List.dropLast_concat_getLast]
   rw [b3,b4,List.drop_append_of_le_length (by omega)]
   congr 1
   conv=>rhs;rw [hl2]
   rw [List.drop_append_of_le_length (by simp;omega),List.drop_of_length_le (by simp;omega)]
   rfl
  .have:(aAg p g a.last).count.moves=0:=rfl
   omega
theorem aMi {p:Prg} {g:Graph} {a b:Int} (hg:GOK g) (hab:aKb a b=true):∀ {l:List Nat} {t u:Trc},OkT p g t->(∀ S∈l,S<4294967296)->aCh p g a t l=some u->aCh p g b t l=some u
 | [],t,u,_,_,h=>h
 | S :: l,t,u,ht,hS,h=>by
  unfold aCh at h ⊢;split at h
  .rename_i h1
   have hs:=hS S List.mem_cons_self;rw [if_pos (aN7 hg hs (aFa ht.mem) hab h1)];exact aMi hg hab (ht.next hs h1) (fun x hx=>hS x (List.mem_cons_of_mem _ hx)) h
  .cases h
end Go.Proofs.YtdcjnhoabbdanaaGreatDoor

