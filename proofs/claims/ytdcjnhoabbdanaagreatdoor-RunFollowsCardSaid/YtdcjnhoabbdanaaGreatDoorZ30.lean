/- Merged. -/
import Derived.Test.YtdcjnhoabbdanaaGreatDoorZ29
set_option linter.unusedSimpArgs false
set_option linter.unnecessarySimpa false
set_option linter.unusedVariables false
set_option maxRecDepth 100000

namespace Go.Proofs.YtdcjnhoabbdanaaGreatDoor
theorem aLd {g:Graph} (hg:GOK g) {v:Nat} (hv:v<g.ports.length):aG2 g (2 ^ v)=true:=by
 have hle:=hg.le;rw [aEh (aIg (by omega))]
 intro u hu
 rw [aFu] at hu;obtain rfl:=of_decide_eq_true hu;rw [aD3];intro x hx
 rw [aFu];refine decide_eq_false fun e=>?_
 subst e;obtain ⟨l,hl,e⟩:=(aK9 hv).1 hx;obtain ⟨a1,_,a3,_⟩:=aBt.1 ((aBj.1 (hg.links v hv)).1 l hl);omega
theorem aH0 {p:Prg} {g:Graph} {c:aA7} (hm:aCv p g c=0):aAj p g c<2 ^ g.ports.length:=by
 have:=aY0 c.length fun v=>decide (0<=aCb p.rules g c v);rw [aG0 hm] at this;unfold aAj;rw [aG0 hm];exact this
structure Cnt where
 steps:Int
 moves:Int
 rounds:Int
 begun:Int
 pending:Nat
def aHh (E:Nat):Cnt:=⟨0,0,0,0,E⟩
def aO0 (k:Cnt) (S A:Nat):Cnt :=
 if aF0 k.pending S&&&A=0 then ⟨k.steps+1,k.moves+(aAe S).length,k.rounds+1,k.rounds+1,A⟩
 else ⟨k.steps+1,k.moves+(aAe S).length,k.rounds,k.rounds+1,aF0 k.pending S&&&A⟩
structure OkK (k:Cnt) (n:Nat):Prop where
 steps:k.steps=(n:Int)
 moves1:(n:Int)<=k.moves
 moves2:k.moves<=24*(n:Int)
 rounds:0<=k.rounds
 begun1:k.rounds<=k.begun
 begun2:k.begun<=(n:Int)
 begun3:k.begun<=k.rounds+1
 pending:k.pending<16777216
theorem OkK.start {E:Nat} (h:E<16777216):OkK (aHh E) 0:=⟨rfl,Int.le_refl _,Int.le_refl _,Int.le_refl _,Int.le_refl _,Int.le_refl _,(by show (0:Int)<=0+1;decide),h⟩
theorem OkK.add {k:Cnt} {n S A:Nat} (h:OkK k n) (h0:S≠0) (hS:S<16777216) (hA:A<16777216):OkK (aO0 k S A) (n+1):=by
 have hl:=aMn (S:=S) (n:=24) (by decide) hS
 have h1:1<=(aAe S).length:=by
  rcases Nat.eq_zero_or_pos (aAe S).length with h | h
  .exact absurd ((aIx (by omega)).1 h) h0
  .exact h
 obtain ⟨a1,a2,a3,a4,a5,a6,a7,a8⟩:=h;unfold aO0;split
 .exact ⟨by simp;omega,by simp;omega,by simp;omega,by simp;omega,by simp,by simp;omega,by simp;omega,hA⟩
 .refine ⟨by simp;omega,by simp;omega,by simp;omega,a4,by simp;omega,by simp;omega,by simp,Nat.lt_of_le_of_lt Nat.and_le_right hA⟩
structure Trc where
 chosen:List Nat
 enabled:List Nat
 last:aA7
 count:Cnt
def aA3 (p:Prg) (g:Graph) (c:aA7):Trc:=⟨[],[aAj p g c],c,aHh (aAj p g c)⟩
def aAm (p:Prg) (g:Graph) (t:Trc) (S:Nat):Trc :=
 ⟨t.chosen++[S],t.enabled++[aAj p g (aBe p g t.last S)],aBe p g t.last S,aO0 t.count S (aAj p g (aBe p g t.last S))⟩
def aJk (p:Prg) (g:Graph) (kind:Int):Trc->List Nat->Option Trc
 | t,[]=>some t
 | t,S :: l=>if aB9 g kind (aAj p g t.last) S=true then aJk p g kind (aAm p g t S) l else none
def aCm (p:Prg) (g:Graph) (kind:Int):Trc->List Nat->Trc
 | t,[]=>t
 | t,W :: l=>if aAj p g t.last=0 then t else aCm p g kind (aAm p g t (aAl g kind (aAj p g t.last) W)) l
theorem aYo {W E:Nat}:(W&&&E)&&&E=W&&&E:=by rw [Nat.and_assoc,Nat.and_self]
theorem bAz {s S:Nat} (h:s&&&S=s) (hS:S<4294967296):s<4294967296:=Nat.lt_of_le_of_lt (aUd h) hS
theorem aH3 {g:Graph} (hg:GOK g):∀ (l:List Nat) (s:Nat),(∀ v∈l,v<g.ports.length)->s<4294967296->(∀ v,s.testBit v=true->v<g.ports.length)->aG2 g s=true ->
  aG2 g (l.foldl (fun s v=>if aHq g v&&&s=0 then s|||2 ^ v else s) s)=true/\l.foldl (fun s v=>if aHq g v&&&s=0 then s|||2 ^ v else s) s<4294967296 /\
   (∀ u,(l.foldl (fun s v=>if aHq g v&&&s=0 then s|||2 ^ v else s) s).testBit u=true->s.testBit u=true∨u∈l)/\(∀ u,s.testBit u=true->(l.foldl (fun s v=>if aHq g v&&&s=0 then s|||2 ^ v else s) s).testBit u=true)
 | [],s,_,hs,_,hi=>⟨hi,hs,fun u h => .inl h,fun u h=>h⟩
 | v :: l,s,hl,hs,hn,hi=>by
  have hle:=hg.le;have hv:=hl v List.mem_cons_self;rw [List.foldl_cons]
  by_cases h:aHq g v&&&s=0
  .rw [if_pos h]
   have hs2:s|||2 ^ v<4294967296:=Nat.or_lt_two_pow (n:=32) hs (aIg (by omega))
   have hn2:∀ u,(s|||2 ^ v).testBit u=true->u<g.ports.length:=fun u hu=>by
    rw [Nat.testBit_or,aFu,Bool.or_eq_true,decide_eq_true_iff] at hu
    rcases hu with h1 | h1
    .exact hn u h1
    .omega
   have hi2:aG2 g (s|||2 ^ v)=true:=by
    rw [aEh hs2];intro u hu
    rw [aD3];intro x hx
    rw [Nat.testBit_or,aFu,Bool.or_eq_false_iff];have hun:=hn2 u hu;rw [Nat.testBit_or,aFu,Bool.or_eq_true,decide_eq_true_iff] at hu;have hsv:=aLd hg hv;rw [aEh (aIg (by omega))] at hsv
    have hvv:=hsv v (by rw [aFu];simp)
    rcases hu with h1 | h1
    .refine ⟨(aD3.1 ((aEh hs).1 hi u h1)) x hx,decide_eq_false fun e=>?_⟩
     subst e;have:=(aZi hg hun hx).2;rw [aD3.1 h u this] at h1;cases h1
    .subst h1
     refine ⟨aD3.1 h x hx,?_⟩
     have:=aD3.1 hvv x hx
     rwa [aFu] at this
   obtain ⟨r1,r2,r3,r4⟩:=aH3 hg l (s|||2 ^ v) (fun u hu=>hl u (List.mem_cons_of_mem _ hu)) hs2 hn2 hi2;refine ⟨r1,r2,fun u hu=>?_,fun u hu=>r4 u (by rw [Nat.testBit_or,hu];rfl)⟩
   rcases r3 u hu with h1 | h1
   .rw [Nat.testBit_or,aFu,Bool.or_eq_true,decide_eq_true_iff] at h1
    rcases h1 with h2 | h2
    .exact .inl h2
    .subst h2;exact .inr List.mem_cons_self
   .exact .inr (List.mem_cons_of_mem _ h1)
  .rw [if_neg h]
   obtain ⟨r1,r2,r3,r4⟩:=aH3 hg l s (fun u hu=>hl u (List.mem_cons_of_mem _ hu)) hs hn hi;exact ⟨r1,r2,fun u hu=>(r3 u hu).imp_right (List.mem_cons_of_mem _),r4⟩
theorem aV9 (g:Graph):aG2 g 0=true:=by
 rw [aEh (by decide)]
 intro v hv
 rw [Nat.zero_testBit] at hv;cases hv
theorem aX1 {g:Graph} (hg:GOK g) {w:Nat} (hw:w<4294967296) (hn:∀ v,w.testBit v=true->v<g.ports.length) (h0:w≠0) :
  aG2 g (aD4 g (aAe w))=true/\aD4 g (aAe w)<4294967296/\aD4 g (aAe w)≠0/\aBn (aD4 g (aAe w)) w=true:=by
 have hlist:∀ v∈aAe w,v<g.ports.length:=fun v hv=>hn v (aCy.1 hv).2;obtain ⟨k,m,e,hk,_,_,e3⟩:=aEw hw h0;obtain ⟨r1,r2,r3,r4⟩:=aH3 hg (aAe w) 0 hlist (by decide) (fun v hv=>by rw [Nat.zero_testBit] at hv;cases hv) (aV9 g)
 refine ⟨r1,r2,fun hz=>?_,?_⟩
 .-- the first element is taken
  unfold aD4 at hz;rw [e3,List.foldl_cons,Nat.and_zero,if_pos rfl,Nat.zero_or] at hz;have hkn:k<g.ports.length:=hlist k (by rw [e3];exact List.mem_cons_self)
  have hle:=hg.le;obtain ⟨_,_,_,q4⟩:=aH3 hg (aAe (2 ^ k*(2*m))) (2 ^ k) (fun v hv=>hlist v (by rw [e3];exact List.mem_cons_of_mem _ hv)) (aIg (by omega)) (fun v hv=>by rw [aFu] at hv;have:=of_decide_eq_true hv;omega) (aLd hg hkn)
  have:=q4 k (by rw [aFu];simp)
  rw [hz,Nat.zero_testBit] at this;cases this
 .rw [aBm]
  intro v _ hv
  rcases r3 v hv with h | h
  .rw [Nat.zero_testBit] at h;cases h
  .exact (aCy.1 h).2
theorem aIn {g:Graph} (hg:GOK g) {kind:Int} (hk:aFl kind=true) {E W:Nat} (hE:E<2 ^ g.ports.length) (h0:E≠0):aB9 g kind E (aAl g kind E W)=true/\aAl g kind E W<4294967296:=by
 have hle:=hg.le;have hlt:E<4294967296:=Nat.lt_of_lt_of_le hE (Nat.pow_le_pow_right (n:=2) (by decide) (show g.ports.length<=32 by omega))
 -- the wish
 obtain ⟨w,hwd⟩:∃ w,(if W&&&E=0 then lsb E else W&&&E)=w:=⟨_,rfl⟩
 have hwp:w&&&E=w/\w≠0:=by
  rw [<- hwd];split
  .exact ⟨aU1,aXb hlt h0⟩
  .rename_i h;exact ⟨aYo,h⟩
 have hwl:=bAz hwp.1 hlt;have hww:=(aH7 hwl hlt).1 hwp.1
 have hwn:∀ v,w.testBit v=true->v<g.ports.length:=fun v hv=>by
  have hb:=aBm.1 hww v (aJv hwl hv) hv
  rcases Nat.lt_or_ge v g.ports.length with h | h
  .exact h
  .have e:2 ^ g.ports.length<=2 ^ v:=Nat.pow_le_pow_right (by decide) h
   rw [Nat.testBit_lt_two_pow (Nat.lt_of_lt_of_le hE e)] at hb;cases hb
 have hr:aAl g kind E W=if kind=1 then lsb w else if kind=2 then aD4 g (aAe w) else if kind=4 then E else w:=by unfold aAl;rw [hwd]
 rw [hr];unfold aFl at hk;simp at hk
 by_cases k1:kind=1
 .subst k1
  rw [if_pos rfl];obtain ⟨k,m,e,hk32,e1,_,_⟩:=aEw hwl hwp.2;have hl0:=aXb hwl hwp.2;have hll:=aU0 hwl;refine ⟨?_,hll⟩
  unfold aB9;rw [if_neg hl0,aLu ((aH7 hll hwl).1 aU1) hww,if_neg (by decide),if_pos rfl,aVu hll hl0,e1,aWt hk32];rfl
 rw [if_neg k1]
 by_cases k2:kind=2
 .subst k2
  rw [if_pos rfl];obtain ⟨r1,r2,r3,r4⟩:=aX1 hg hwl hwn hwp.2;refine ⟨?_,r2⟩
  unfold aB9;rw [if_neg r3,aLu r4 hww,if_neg (by decide),if_neg (by decide),if_pos rfl]
  exact r1
 rw [if_neg k2]
 by_cases k4:kind=4
 .subst k4
  rw [if_pos rfl];refine ⟨?_,hlt⟩
  unfold aB9;rw [if_neg h0,show aBn E E=true from aBm.2 fun _ _ h=>h];simp
 .rw [if_neg k4]
  refine ⟨?_,hwl⟩
  unfold aB9;rw [if_neg hwp.2,hww,if_neg (by decide),if_neg k1,if_neg k2,if_neg k4]
structure OkT (p:Prg) (g:Graph) (t:Trc):Prop where
 mem:aCv p g t.last=0
 len:t.enabled.length=t.chosen.length+1
 count:OkK t.count t.chosen.length
 now:t.enabled.getLast?=some (aAj p g t.last)
theorem aGe {p:Prg} {g:Graph} {c:aA7} (hm:aCv p g c=0):aAj p g c<16777216:=by
 have hle:=(aAp (aB8 hm).1).2.1.le;exact Nat.lt_of_lt_of_le (aH0 hm) (show 2 ^ g.ports.length<=2 ^ 24 from Nat.pow_le_pow_right (by decide) hle)
theorem aGn {g:Graph} {kind:Int} {E S:Nat} (hS:S<4294967296) (hE:E<16777216) (h:aB9 g kind E S=true):S≠0/\S<16777216:=by
 obtain ⟨h1,h2⟩:=aDu h;exact ⟨h1,Nat.lt_of_le_of_lt (aUd ((aH7 hS (by omega)).2 h2)) hE⟩
theorem OkT.start {p:Prg} {g:Graph} {c:aA7} (hm:aCv p g c=0):OkT p g (aA3 p g c):=⟨hm,rfl,OkK.start (aGe hm),rfl⟩
theorem aG9 {p:Prg} {g:Graph} {kind:Int} {c:aA7} {S:Nat} (hm:aCv p g c=0) (hS:S<4294967296) (h:aB9 g kind (aAj p g c) S=true) :
  aCv p g (aBe p g c S)=0/\aY3 p g c S=(aBe p g c S,0):=by
 obtain ⟨h1,h2⟩:=aDu h;refine ⟨aUi hm fun v hv hb=>?_,aY4 hm h1 h2⟩
 have h4:=aBm.1 h2 v (aJv hS hb) hb;rw [aMo] at h4;simp at h4
 exact h4.2
theorem OkT.next {p:Prg} {g:Graph} {kind:Int} {t:Trc} {S:Nat} (h:OkT p g t) (hS:S<4294967296) (hp:aB9 g kind (aAj p g t.last) S=true):OkT p g (aAm p g t S):=by
 obtain ⟨h1,h2,h3,_⟩:=h;obtain ⟨hm,_⟩:=aG9 h1 hS hp;obtain ⟨q1,q2⟩:=aGn hS (aGe h1) hp;refine ⟨hm,by simp [aAm,h2],?_,by simp [aAm]⟩
 have:=h3.add q1 q2 (aGe hm);simpa [aAm] using this
theorem aNf {p:Prg} {g:Graph} {kind:Int} (hg:GOK g) (hk:aFl kind=true):∀ (ws:List Nat) (t:Trc),OkT p g t ->
  ∃ l,(aCm p g kind t ws).chosen=t.chosen++l/\aJk p g kind t l=some (aCm p g kind t ws)/\l.length<=ws.length/\(l.length=ws.length∨aAj p g (aCm p g kind t ws).last=0)/\OkT p g (aCm p g kind t ws)/\(∀ S∈l,S<4294967296)
 | [],t,h=>⟨[],by simp [aCm],rfl,Nat.le_refl _,.inl rfl,h,fun S h=>by cases h⟩
 | W :: ws,t,h=>by
  unfold aCm
  by_cases h0:aAj p g t.last=0
  .rw [if_pos h0]
   exact ⟨[],by simp,rfl,by simp,.inr h0,h,fun S h=>by cases h⟩
  .rw [if_neg h0]
   obtain ⟨r1,r2⟩:=aIn hg hk (W:=W) (aH0 h.mem) h0;obtain ⟨l,l1,l2,l3,l4,l5,l6⟩:=aNf hg hk ws _ (h.next r2 r1);refine ⟨aAl g kind (aAj p g t.last) W :: l,?_,?_,by simp;omega,?_,l5,fun S hS=>?_⟩
   .rw [l1];simp [aAm]
   .unfold aJk
    rw [if_pos r1];exact l2
   .rcases l4 with h4 | h4
    .left;simp;omega
    .exact .inr h4
   .rcases List.mem_cons.1 hS with e | e
    .rw [e];exact r2
    .exact l6 S e
theorem aLh (p:Prg) (g:Graph) (kind:Int):∀ (l m:List Nat) (t:Trc),aJk p g kind t (l++m)=(aJk p g kind t l).bind fun u=>aJk p g kind u m
 | [],m,t=>rfl
 | S :: l,m,t=>by
  rw [List.cons_append];show (if aB9 g kind (aAj p g t.last) S=true then aJk p g kind (aAm p g t S) (l++m) else none)=(if aB9 g kind (aAj p g t.last) S=true then aJk p g kind (aAm p g t S) l else none).bind fun u=>aJk p g kind u m
  by_cases h:aB9 g kind (aAj p g t.last) S=true
  .rw [if_pos h,if_pos h];exact aLh p g kind l m _
  .rw [if_neg h,if_neg h];rfl
theorem aUe {p:Prg} {g:Graph} {kind:Int}:∀ {l:List Nat} {t u:Trc},OkT p g t->(∀ S∈l,S<4294967296)->aJk p g kind t l=some u->OkT p g u
 | [],t,u,h,_,hp=>by
  unfold aJk at hp;obtain rfl:=Option.some.inj hp;exact h
 | S :: l,t,u,h,hS,hp=>by
  unfold aJk at hp;split at hp
  .rename_i h1
   exact aUe (h.next (hS S List.mem_cons_self) h1) (fun x hx=>hS x (List.mem_cons_of_mem _ hx)) hp
  .cases hp
def aBw (p:Prg) (g:Graph) (kind:Int):Trc->List Nat->List Trc
 | t,[]=>[t]
 | t,W :: l=>t :: if aAj p g t.last=0 then [] else aBw p g kind (aAm p g t (aAl g kind (aAj p g t.last) W)) l
theorem aIh {p:Prg} {g:Graph} {kind:Int} (hg:GOK g) (hk:aFl kind=true):∀ (ws:List Nat) (t:Trc),OkT p g t ->
  ∃ l,(aCm p g kind t ws).chosen=t.chosen++l/\(aBw p g kind t ws).length=l.length+1/\(aBw p g kind t ws).getLast?=some (aCm p g kind t ws)/\(∀ k,k<=l.length->aJk p g kind t (l.take k)=(aBw p g kind t ws)[k]?)
 | [],t,h=>⟨[],by simp [aCm],rfl,rfl,fun k hk=>by
   have:k=0:=by simpa using hk
   subst this;rfl⟩
 | W :: ws,t,h=>by
  unfold aCm aBw
  by_cases h0:aAj p g t.last=0
  .rw [if_pos h0,if_pos h0]
   exact ⟨[],by simp,rfl,rfl,fun k hk=>by
    have:k=0:=by simpa using hk
    subst this;rfl⟩
  .rw [if_neg h0,if_neg h0]
   obtain ⟨r1,r2⟩:=aIn hg hk (W:=W) (aH0 h.mem) h0;obtain ⟨l,l1,l2,l3,l4⟩:=aIh hg hk ws _ (h.next r2 r1);refine ⟨aAl g kind (aAj p g t.last) W :: l,by rw [l1];simp [aAm],by simp [l2],?_,fun k hk=>?_⟩
   .rw [List.getLast?_cons,l3];rfl
   .cases k with
    | zero=>rfl
    | succ k =>
     rw [List.take_succ_cons,List.getElem?_cons_succ,<- l4 k (by simpa using hk)]
     show (if aB9 g kind (aAj p g t.last) _=true then _ else none)=_
     rw [if_pos r1]
def aP6 (p:Prg) (g:Graph) (kind:Int) (ch:Nat->Nat->Nat) (gs:Nat->Nat->Bool):Nat->Nat->Trc->List Trc
 | 0,_,t=>[t]
 | n+1,i,t=>t :: (if gs i (aAj p g t.last)=true/\aB9 g kind (aAj p g t.last) (ch i (aAj p g t.last))=true then aP6 p g kind ch gs n (i+1) (aAm p g t (ch i (aAj p g t.last))) else [])
def aNp (p:Prg) (g:Graph) (kind:Int) (ch:Nat->Nat->Nat) (gs:Nat->Nat->Bool):Nat->Nat->Trc->Option Trc
 | 0,_,t=>some t
 | n+1,i,t=>if gs i (aAj p g t.last)=true then if aB9 g kind (aAj p g t.last) (ch i (aAj p g t.last))=true then aNp p g kind ch gs n (i+1) (aAm p g t (ch i (aAj p g t.last))) else none else some t
variable {p:Prg} {g:Graph} {kind:Int} {ch:Nat->Nat->Nat} {gs:Nat->Nat->Bool}
theorem aRy {n i:Nat} {t:Trc} (h:gs i (aAj p g t.last)=false):aNp p g kind ch gs (n+1) i t=some t/\aP6 p g kind ch gs (n+1) i t=[t]:=by
 unfold aNp aP6;rw [h];simp
theorem aZq {n i:Nat} {t:Trc} (h:gs i (aAj p g t.last)=true) (h2:aB9 g kind (aAj p g t.last) (ch i (aAj p g t.last))=false):aNp p g kind ch gs (n+1) i t=none/\aP6 p g kind ch gs (n+1) i t=[t]:=by
 unfold aNp aP6;rw [h,h2];simp
theorem aXt {n i:Nat} {t:Trc} (h:gs i (aAj p g t.last)=true) (h2:aB9 g kind (aAj p g t.last) (ch i (aAj p g t.last))=true) :
  aNp p g kind ch gs (n+1) i t=aNp p g kind ch gs n (i+1) (aAm p g t (ch i (aAj p g t.last)))/\aP6 p g kind ch gs (n+1) i t=t :: aP6 p g kind ch gs n (i+1) (aAm p g t (ch i (aAj p g t.last))):=by
 constructor
 .conv=>lhs;unfold aNp
  rw [if_pos h,if_pos h2]
 .conv=>lhs;unfold aP6
  rw [if_pos ⟨h,h2⟩]
theorem aNq (hg:GOK g) (hk:aFl kind=true) (ws:List Nat):∀ (n i:Nat) (t:Trc),OkT p g t->i+n=ws.length ->
  aNp p g kind (fun i E=>aAl g kind E (ws.getD i 0)) (fun _ E=>decide (E≠0)) n i t=some (aCm p g kind t (ws.drop i)) /\
   aP6 p g kind (fun i E=>aAl g kind E (ws.getD i 0)) (fun _ E=>decide (E≠0)) n i t=aBw p g kind t (ws.drop i)
 | 0,i,t,ht,h=>by
  rw [List.drop_of_length_le (by omega)];exact ⟨rfl,rfl⟩
 | n+1,i,t,ht,h=>by
  have hi:i<ws.length:=by omega
  rw [List.drop_eq_getElem_cons hi];unfold aCm aBw
  by_cases h0:aAj p g t.last=0
  .rw [if_pos h0,if_pos h0]
   exact aRy (by simpa using h0)
  .rw [if_neg h0,if_neg h0]
   obtain ⟨r1,r2⟩:=aIn hg hk (W:=ws.getD i 0) (aH0 ht.mem) h0;obtain ⟨q1,q2⟩:=aNq hg hk ws n (i+1) _ (ht.next r2 r1) (by omega)
   obtain ⟨e1,e2⟩:=aXt (p:=p) (g:=g) (kind:=kind) (ch:=fun i E=>aAl g kind E (ws.getD i 0)) (gs:=fun _ E=>decide (E≠0)) (n:=n) (i:=i) (t:=t) (by simpa using h0) r1
   rw [e1,e2,q1,q2,aAa hi];exact ⟨rfl,rfl⟩
theorem bAg {E:Nat} (h:E<16777216):E&&&16777215=E:=by
 rw [show (16777215:Nat)=2 ^ 24-1 from rfl,Nat.and_two_pow_sub_one_eq_mod,Nat.mod_eq_of_lt h]
theorem aPe {S n v:Nat} (hS:S<2 ^ n) (hv:S.testBit v=true):v<n:=by
 rcases Nat.lt_or_ge v n with h | h
 .exact h
 .rw [Nat.testBit_lt_two_pow (Nat.lt_of_lt_of_le hS (Nat.pow_le_pow_right (by decide) h))] at hv;cases hv
theorem aYu {S:Nat} (h:S<16777216):aF0 S 16777215=0:=by
 have h1:(aF0 S 16777215==0)=true:=by
  rw [aIj (by omega),aBm]
  intro v _ hv
  rw [show (16777215:Nat)=2 ^ 24-1 from rfl,Nat.testBit_two_pow_sub_one,decide_eq_true_iff]
  exact aPe (n:=24) h hv
 simpa using h1
end Go.Proofs.YtdcjnhoabbdanaaGreatDoor

