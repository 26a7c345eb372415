/- Merged. -/
import Derived.Test.YtdcjnhoabbdanaaGreatDoorZ17
import Derived.Test.YtdcjnhoabbdanaaGreatDoorZ20
set_option linter.unusedSimpArgs false
set_option linter.unnecessarySimpa false
set_option linter.unusedVariables false
set_option maxRecDepth 100000
set_option maxHeartbeats 2000000
open Go.Proofs.Tryz

namespace Go.Proofs.YtdcjnhoabbdanaaGreatDoor
def aGb (g:Graph) (c:aA7) (v:Nat) (e:List Term):Bool:=aAs g c v (-1) (aAt e) != 0
def aCb (rs:List Rule) (g:Graph) (c:aA7) (v:Nat):Int:=match rs.findIdx? (fun r=>aGb g c v r.guard) with | some i=>(i:Int) | none => -1
theorem aLa {rs:List Rule} {g:Graph} {c:aA7} {v j:Nat} (h:j<rs.length) (ha:(rs.take j).all (fun r => !(aGb g c v r.guard))=true) (hj:aGb g c v rs[j].guard=true):aCb rs g c v=(j:Int):=by
 unfold aCb
 have:rs.findIdx? (fun r=>aGb g c v r.guard)=some j:=by
  rw [List.findIdx?_eq_some_iff_getElem];refine ⟨h,hj,fun k hk=>?_⟩
  have:=List.all_eq_true.1 ha rs[k] (by rw [List.mem_take_iff_getElem];exact ⟨k,by omega,rfl⟩)
  simpa using this
 rw [this]
theorem aMt {rs:List Rule} {g:Graph} {c:aA7} {v:Nat} (ha:rs.all (fun r => !(aGb g c v r.guard))=true):aCb rs g c v = -1:=by
 unfold aCb
 have:rs.findIdx? (fun r=>aGb g c v r.guard)=none:=by
  rw [List.findIdx?_eq_none_iff];intro x hx
  have:=List.all_eq_true.1 ha x hx;simpa using this
 rw [this]
theorem aL9 (rs:List Rule) (g:Graph) (c:aA7) (v:Nat) :
  (aCb rs g c v = -1/\∀ r∈rs,aGb g c v r.guard=false) ∨
  ∃ k:Nat,∃ hk:k<rs.length,aCb rs g c v=(k:Int)/\aGb g c v rs[k].guard=true/\∀ i (hi:i<k),aGb g c v rs[i].guard=false:=by
 unfold aCb;cases hf:rs.findIdx? (fun r=>aGb g c v r.guard) with
 | none =>
  left
  rw [List.findIdx?_eq_none_iff] at hf;exact ⟨rfl,fun r hr=>by simpa using hf r hr⟩
 | some k =>
  right
  rw [List.findIdx?_eq_some_iff_getElem] at hf;obtain ⟨hk,h1,h2⟩:=hf;exact ⟨k,hk,rfl,h1,fun i hi=>by simpa using h2 i hi⟩
theorem aLb (rs:List Rule) (g:Graph) (c:aA7) (v:Nat) : -1<=aCb rs g c v/\aCb rs g c v<rs.length:=by
 rcases aL9 rs g c v with ⟨h,_⟩ | ⟨k,hk,h,_⟩ <;> omega
def aFf (kind:Int) (b:Int × Int) (x:Int):Int:=if b.1<=x/\x<=b.2 then x else if kind=3 then -1 else if x<b.1 then b.1 else b.2
def aW0 (p:Prg) (x:Int):Var:=p.vars.getD x.toNat default
def aId (p:Prg) (g:Graph) (c:aA7) (v:Nat) (t:SetT):Int:=aFf (aW0 p t.var).kind (aAk (aW0 p t.var) g v) (aAs g c v (-1) (aAt t.value))
def aC3 (p:Prg) (g:Graph) (c:aA7) (v:Nat) (l:List SetT):List Int:=l.foldl (fun s t=>s.set t.var.toNat (aId p g c v t)) (c.getD v [])
def aXw (p:Prg) (k:Int):Rule:=p.rules.getD k.toNat default
def aKx (p:Prg) (g:Graph) (c:aA7) (v:Nat):List Int:=aC3 p g c v (aXw p (aCb p.rules g c v)).sets
def aAj (p:Prg) (g:Graph) (c:aA7):Nat:=aFr c.length fun v=>decide (0<=aCb p.rules g c v)
def aBe (p:Prg) (g:Graph) (c:aA7) (S:Nat):aA7:=(List.range c.length).map fun v=>if S.testBit v then aKx p g c v else c.getD v []
def aM4 (p:Prg) (g:Graph) (c:aA7):Nat:=if aCv p g c≠0 then 0 else aAj p g c
def aY3 (p:Prg) (g:Graph) (c:aA7) (S:Nat):aA7 × Int :=
 if aCv p g c≠0 then ([],aCv p g c) else if S=0∨aBn S (aAj p g c)=false then ([],11) else (aBe p g c S,0)
theorem aK6 (p:Prg) (g:Graph) (c:aA7) (v:Nat) (l:List SetT):(aC3 p g c v l).length=(c.getD v []).length:=by
 unfold aC3
 suffices ∀ s:List Int,(l.foldl (fun s t=>s.set t.var.toNat (aId p g c v t)) s).length=s.length from this _
 induction l with
 | nil=>intro s;rfl
 | cons t l ih=>intro s;rw [List.foldl_cons,ih];simp
theorem aN8 (p:Prg) (g:Graph) (c:aA7) (v:Nat) (l:List SetT) (j:Nat) (h:j<l.length):aC3 p g c v (l.take (j+1))=(aC3 p g c v (l.take j)).set l[j].var.toNat (aId p g c v l[j]):=by
 unfold aC3;rw [List.take_succ_eq_append_getElem h,List.foldl_append];rfl
theorem aMu {p:Prg} {g:Graph} (hf:aHo p g=0) {x:Var} (hx:x∈p.vars) (v:Nat):(aAk x g v).1<=(aAk x g v).2/\(x.kind=3->(aAk x g v).1 = -1):=by
 obtain ⟨h1,h2,h3⟩:=aAp hf;have h4:=List.all_eq_true.1 h3 x hx;have h5:=aE1 (List.all_eq_true.1 (aBi h1).1 x hx);unfold aH2 at h4;have h4:=of_decide_eq_true h4;unfold aAk at h4 ⊢
 rcases h5 with h | h | h
 .rw [if_pos h.1];simp;omega
 .rw [if_neg (by omega),if_pos h.1];simp;omega
 .have hk:=h.1
  rw [if_neg (by omega),if_neg (by omega)] at h4 ⊢
  dsimp only at h4 ⊢;omega
theorem aQk {kind:Int} {b:Int × Int} (h:b.1<=b.2) (hk:kind=3->b.1 = -1) (x:Int):b.1<=aFf kind b x/\aFf kind b x<=b.2:=by
 unfold aFf;split
 .assumption
 split
 .have:=hk (by assumption);omega
 split <;> omega
theorem aUs {kind:Int} {b:Int × Int} (h:b.1<=b.2) (x:Int):aFf kind b x=if kind=3/\¬ (b.1<=x/\x<=b.2) then -1 else min (max x b.1) b.2:=by
 unfold aFf
 by_cases h1:b.1<=x/\x<=b.2
 .rw [if_pos h1,if_neg (by omega)];omega
 .rw [if_neg h1]
  by_cases h2:kind=3
  .rw [if_pos h2,if_pos ⟨h2,h1⟩]
  .rw [if_neg h2,if_neg (show ¬ (kind=3/\¬ (b.1<=x/\x<=b.2)) from fun h=>h2 h.1)]
   by_cases h3:x<b.1
   .rw [if_pos h3];omega
   .rw [if_neg h3];omega
theorem aQb {p:Prg} (hc:aBq p=0) {r:Rule} (hr:r∈p.rules) {s:SetT} (hs:s∈r.sets):(aAt s.value).ok/\(aAt s.value).terms=s.value/\(∀ t∈s.value,aFx t p.vars.length=true)/\aB1 false (aAt s.value)/\0<=s.var/\s.var<=(p.vars.length:Int)-1:=by
 obtain ⟨h1,_,h3,_,_,h6,h7⟩:=aBi hc;obtain ⟨hv,hval⟩:=(h6 r hr).sets s hs;obtain ⟨t1,t2,_,t4,_,_⟩:=aEy hval;refine ⟨t1,t2,t4,aOn (kinds:=aBo p) (b:=false) ?_,hv.1,hv.2⟩
 have h8:=h7 r hr;unfold aC1 at h8;simp only [Bool.and_eq_true,List.all_eq_true,beq_iff_eq] at h8
 rw [h8.2 s hs];obtain ⟨x,hx⟩:=Int.eq_ofNat_of_zero_le hv.1;rw [hx,Int.toNat_natCast,aAa (by rw [aDa];omega)]
 have:=aN1 h1;have hk:=List.all_eq_true.1 this _ (List.getElem_mem (show x<(aBo p).length by rw [aDa];omega))
 unfold aDy at hk;simp at hk
 omega
theorem aMh {p:Prg} {g:Graph} {c:aA7} (hm:aCv p g c=0) {v:Nat} (hv:v<c.length):aEb (aIo p g v) (c.getD v [])=true:=by
 obtain ⟨_,h2⟩:=aB8 hm;obtain ⟨h3,h4⟩:=aCa.1 h2;have:=h4 v hv (by omega)
 rw [aEx] at this
 rwa [aAa hv]
theorem aR8 {p:Prg} {g:Graph} {c d:aA7} (hm:aCv p g c=0) (hl:d.length=c.length) (h:∀ v,v<d.length->aEb (aIo p g v) (d.getD v [])=true):aCv p g d=0:=by
 obtain ⟨h1,h2⟩:=aB8 hm
 have h3:aGx (aAz p g) d=true:=by
  rw [aCa];refine ⟨by rw [hl];exact (aCa.1 h2).1,fun v a b=>?_⟩
  rw [aEx];have:=h v a
  rwa [aAa a] at this
 unfold aCv;rw [if_neg (by simpa using h1),h3];simp
theorem aG0 {p:Prg} {g:Graph} {c:aA7} (hm:aCv p g c=0):c.length=g.ports.length:=by
 obtain ⟨h1,h2⟩:=aB8 hm;rw [(aCa.1 h2).1,aCf,(aAp h1).2.1.ids]
theorem aXu {p:Prg} {g:Graph} {c:aA7} (hm:aCv p g c=0) {v:Nat} (hv:v<c.length):(c.getD v []).length=p.vars.length:=by
 rw [(aC7.1 (aMh hm hv)).1,aC0]
theorem aZx {p:Prg} {x:Int} (h0:0<=x) (h1:x<=(p.vars.length:Int)-1):∃ i:Nat,∃ hi:i<p.vars.length,x=(i:Int)/\x.toNat=i/\aW0 p x=p.vars[i]:=by
 obtain ⟨i,rfl⟩:=Int.eq_ofNat_of_zero_le h0;exact ⟨i,by omega,rfl,Int.toNat_natCast i,by unfold aW0;rw [Int.toNat_natCast];exact aAa (by omega)⟩
theorem aT8 {p:Prg} {g:Graph} {c:aA7} (hm:aCv p g c=0) {v:Nat} (hv:v<c.length) {l:List SetT} (hl:∀ s∈l,0<=s.var/\s.var<=(p.vars.length:Int)-1):aEb (aIo p g v) (aC3 p g c v l)=true:=by
 have hf:=(aB8 hm).1;unfold aC3
 suffices ∀ s:List Int,aEb (aIo p g v) s=true->aEb (aIo p g v) (l.foldl (fun s t=>s.set t.var.toNat (aId p g c v t)) s)=true from this _ (aMh hm hv)
 induction l with
 | nil=>intro s h;exact h
 | cons t l ih =>
  intro s h
  rw [List.foldl_cons];refine ih (fun s hs=>hl s (by simp [hs])) _ ?_
  obtain ⟨h0,h1⟩:=hl t (by simp)
  obtain ⟨i,hi,_,ei,ev⟩:=aZx h0 h1;rw [ei];obtain ⟨a1,a2⟩:=aC7.1 h;rw [aC7];refine ⟨by simpa using a1,fun k b1 b2=>?_⟩
  by_cases hk:i=k
  .subst hk
   rw [List.getElem_set_self,aQ8];unfold aId;rw [ev];obtain ⟨q1,q2⟩:=aMu hf (List.getElem_mem hi) v;exact aQk q1 q2 _
  .rw [List.getElem_set_ne hk]
   exact a2 k (by simpa using b1) b2
theorem aXx {p:Prg} (hc:aBq p=0) {k:Nat} (hk:k<p.rules.length):∀ s∈p.rules[k].sets,0<=s.var/\s.var<=(p.vars.length:Int)-1:=fun s hs=>by
 obtain ⟨_,_,_,_,h5,h6⟩:=aQb hc (List.getElem_mem hk) hs;exact ⟨h5,h6⟩
theorem aNr {p:Prg} {k:Nat} (hk:k<p.rules.length):aXw p (k:Int)=p.rules[k]:=by
 unfold aXw;rw [Int.toNat_natCast];exact aAa hk
theorem aVd {p:Prg} {g:Graph} {c:aA7} (hm:aCv p g c=0) {v:Nat} (hv:v<c.length) (hen:0<=aCb p.rules g c v):aEb (aIo p g v) (aKx p g c v)=true:=by
 rcases aL9 p.rules g c v with ⟨h,_⟩ | ⟨k,hk,h,_⟩
 .omega
 .unfold aKx
  rw [h,aNr hk];exact aT8 hm hv (aXx (aAp (aB8 hm).1).1 hk)
theorem aE7 (p:Prg) (g:Graph) (c:aA7) (S:Nat):(aBe p g c S).length=c.length:=by simp [aBe]
theorem aY2 (p:Prg) (g:Graph) (c:aA7) (S:Nat) {v:Nat} (hv:v<c.length):(aBe p g c S).getD v []=if S.testBit v then aKx p g c v else c.getD v []:=by
 rw [aAa (by rw [aE7];exact hv)]
 simp [aBe]
theorem aMo {p:Prg} {g:Graph} {c:aA7} {v:Nat}:(aAj p g c).testBit v=(decide (v<c.length)&&decide (0<=aCb p.rules g c v)):=aIp _ _ _
theorem aUi {p:Prg} {g:Graph} {c:aA7} (hm:aCv p g c=0) {S:Nat} (hS:∀ v,v<c.length->S.testBit v=true->0<=aCb p.rules g c v):aCv p g (aBe p g c S)=0:=by
 refine aR8 hm (aE7 _ _ _ _) fun v hv=>?_
 rw [aE7] at hv;rw [aY2 p g c S hv];cases hb:S.testBit v with
 | true=>exact aVd hm hv (hS v hv hb)
 | false=>exact aMh hm hv
def bAq (g:Graph) (S:Nat):Nat:=aFr g.ports.length fun v=>(g.ports.getD v []).any fun l=>aLw S l.to
open Go.RowKit
theorem aBr.cells {w:World} {A:Option Addr} {l:List Int} (h:aBr w A l.length l):aM9 w 1 A l.length (l.map (Value.int .i64)):=by
 refine ⟨by simp,fun j u hu=>?_⟩
 rw [List.getElem?_map] at hu;cases hx:l[j]? with
 | none=>rw [hx] at hu;cases hu
 | some x =>
  rw [hx] at hu;obtain rfl:Value.int .i64 x=u:=by simpa using hu
  obtain ⟨b,o,e,_,hc⟩:=h.2 j x hx;exact ⟨b,o,e,by simpa [aHn] using hc⟩
theorem aF5 (l:List Int):∀ u∈l.map (Value.int .i64),u.oneCell'=true:=by
 intro u hu
 obtain ⟨x,_,rfl⟩:=List.mem_map.1 hu;rfl
def Off (g:Nat) (A:Option Addr):Prop:=∀ b o,A=some ⟨b,o,none⟩->b≠g
theorem aBr.other {w:World} {A:Option Addr} {l:List Int} {g v:Nat} {x:Value} (h:aBr w A l.length l) (ho:Off g A):aBr (w.setCell ⟨g,v,none⟩ x) A l.length l:=by
 refine ⟨rfl,fun i y hy=>?_⟩
 obtain ⟨b,o,rfl,hb,hc⟩:=h.2 i y hy
 exact ⟨b,o,rfl,by simpa using hb,by
  unfold aHn at *;rw [((Fr.refl g w).set v x).cell hb (ho b o rfl)];exact hc⟩
structure OwnC (w:World) (base g cap:Nat) (d:aA7) (hs:List Value):Prop where
 own:w.ownsRow base 26 1 (.slice (some ⟨g,0,none⟩) d.length cap) d.length hs
 rows:∀ u (hu:u<d.length),∃ R c',hs[u]?=some (.slice R d[u].length c')/\aBr w R d[u].length d[u]/\d[u].length<=c'/\c'<=maxLen/\Off g R
theorem OwnC.keep {w w':World} {base g cap:Nat} {d:aA7} {hs:List Value} (h:OwnC w base g cap d hs) (k:Bel w w'):OwnC w' base g cap d hs :=
 ⟨k.owns h.own,fun u hu=>by
  obtain ⟨R,c',h1,h2,h3⟩:=h.rows u hu;exact ⟨R,c',h1,h2.keep k,h3⟩⟩
theorem OwnC.conf {w:World} {base g cap:Nat} {d:aA7} {hs:List Value} (h:OwnC w base g cap d hs):aAy w (.slice (some ⟨g,0,none⟩) d.length cap) d:=by
 obtain ⟨h1,h2⟩:=aE3 h.own;refine ⟨_,_,rfl,⟨rfl,fun u x hx=>?_⟩,h1,h2⟩
 have hu:u<d.length:=(List.getElem?_eq_some_iff.1 hx).1;have hxe:d[u]=x:=(List.getElem?_eq_some_iff.1 hx).2;obtain ⟨R,c',k1,k2,k3,k4,_⟩:=h.rows u hu;obtain ⟨g',e1,_,hlt,hc,_⟩:=aCn h.own k1;obtain rfl:g=g':=by simpa using e1
 subst hxe;exact ⟨g,0,rfl,hlt,R,c',by rw [Nat.zero_add,Nat.mul_one];exact hc,k2,k3,k4⟩
theorem OwnC.set {w:World} {base g cap:Nat} {d:aA7} {hs:List Value} (h:OwnC w base g cap d hs) {v:Nat} {l:List Int} {A:Option Addr} {c':Nat} (hv:v<d.length) (hl:aBr w A l.length l) (h1:l.length<=c') (h2:c'<=maxLen) (ho:Off g A) :
  OwnC (w.setCell ⟨g,v,none⟩ (.slice A l.length c')) base g cap (d.set v l) (hs.set v (.slice A l.length c')):=by
 have hlen:hs.length=d.length:=by have:=h.own.1;omega
 refine ⟨by rw [List.length_set];exact (h.own.stored v _).1,fun u hu=>?_⟩
 rw [List.length_set] at hu
 by_cases he:v=u
 .subst he
  rw [List.getElem_set_self];exact ⟨A,c',List.getElem?_set_self (by omega),hl.other ho,h1,h2,ho⟩
 .rw [List.getElem_set_ne he]
  obtain ⟨R,c2,k1,k2,k3,k4,k5⟩:=h.rows u hu;exact ⟨R,c2,by rw [List.getElem?_set_ne he];exact k1,k2.other k5,k3,k4,k5⟩
def aPa (w:World) (B:Nat) (A:Option Addr) (c:Nat) (l:List Int):Prop:=aBr w A l.length l/\l.length<=c/\c<=maxLen/\∀ b o,A=some ⟨b,o,none⟩->B<=b/\b<w.heap.size
theorem aPa.off {w:World} {B:Nat} {A:Option Addr} {c:Nat} {l:List Int} (h:aPa w B A c l) {g:Nat} (hg:g<B):Off g A:=fun b o e=>by have:=h.2.2.2 b o e;omega
theorem aPa.keep {w w':World} {B:Nat} {A:Option Addr} {c:Nat} {l:List Int} (h:aPa w B A c l) (k:Bel w w'):aPa w' B A c l:=⟨h.1.keep k,h.2.1,h.2.2.1,fun b o e=>⟨(h.2.2.2 b o e).1,Nat.lt_of_lt_of_le (h.2.2.2 b o e).2 k.size⟩⟩
theorem aPa.lower {w:World} {B B':Nat} {A:Option Addr} {c:Nat} {l:List Int} (h:aPa w B A c l) (hB:B'<=B):aPa w B' A c l:=⟨h.1,h.2.1,h.2.2.1,fun b o e=>⟨Nat.le_trans hB (h.2.2.2 b o e).1,(h.2.2.2 b o e).2⟩⟩
theorem aPa.gr {w w':World} {B:Nat} {A:Option Addr} {c:Nat} {l:List Int} {row:Option Nat} (h:aPa w B A c l) (hg:Gr row w w') (ho:∀ b o,A=some ⟨b,o,none⟩->some b≠row):aPa w' B A c l :=
 ⟨⟨rfl,fun i x hx=>by
  obtain ⟨b,o,e,hb,hc⟩:=h.1.2 i x hx;exact ⟨b,o,e,Nat.lt_of_lt_of_le hb hg.1,(hg.cell hb (ho b o e)).trans hc⟩⟩,h.2.1,h.2.2.1,fun b o e=>⟨(h.2.2.2 b o e).1,Nat.lt_of_lt_of_le (h.2.2.2 b o e).2 hg.1⟩⟩
theorem aKc {w:World} {base:Nat} {e:TypeId} {A:Option Addr} {n c:Nat} {l:List Int} (h:w.ownsRow base e 1 (.slice A n c) n (l.map (Value.int .i64))):n=l.length/\aPa w base A c l:=by
 have hn:n=l.length:=by have:=h.1;simp at this;omega
 subst hn;obtain ⟨h1,h2⟩:=aE3 h;refine ⟨rfl,aKb h,h1,h2,fun b o e=>?_⟩
 subst e
 rcases h.2 with ⟨hv,_⟩ | ⟨g',cap,cur,hv,hb,hg,_⟩
 .cases hv
 .injection hv with hA;injection hA with hA;injection hA with hA;subst hA;exact ⟨hb,lt_of_block hg⟩
theorem bAt {w:World} {base:Nat} {e:TypeId} {size n m cap:Nat} {B:Option Addr} {hs:List Value} (h:w.ownsRow base e size (.slice B n cap) n hs) (hn:n=m):w.ownsRow base e size (.slice B m cap) m hs:=by subst hn;exact h
theorem bBf {w:World} {base:Nat} {e:TypeId} {size n cap g o:Nat} {hs:List Value} (h:w.ownsRow base e size (.slice (some ⟨g,o,none⟩) n cap) n hs):g<w.heap.size:=by
 rcases h.2 with ⟨hv,_⟩ | ⟨g',_,_,hv,_,hg,_⟩
 .cases hv
 .injection hv with hA;injection hA with hA;injection hA with hA;subst hA;exact lt_of_block hg
theorem aEr (A:Option Addr) (n c:Nat):∀ u∈(#[Value.slice A n c]:Array Value).toList,u.oneCell'=true:=by simp [Value.oneCell']
structure AppC (w:World) (base:Nat) (B:Option Addr) (cap:Nat) (d:aA7) (hs:List Value):Prop where
 own:w.ownsRow base 26 1 (.slice B d.length cap) d.length hs
 rows:∀ u (hu:u<d.length),∃ R c',hs[u]?=some (.slice R d[u].length c')/\aPa w base R c' d[u]/\∀ g o,B=some ⟨g,o,none⟩->Off g R
theorem AppC.nil (w:World) (base:Nat):AppC w base none 0 [] []:=⟨World.ownsRow_nil _ _ _ _,fun u hu=>absurd hu (by simp)⟩
theorem AppC.keep {w w':World} {base cap:Nat} {B:Option Addr} {d:aA7} {hs:List Value} (h:AppC w base B cap d hs) (k:Bel w w'):AppC w' base B cap d hs :=
 ⟨k.owns h.own,fun u hu=>by
  obtain ⟨R,c',h1,h2,h3⟩:=h.rows u hu;exact ⟨R,c',h1,h2.keep k,h3⟩⟩
theorem AppC.push {w w':World} {base cap n:Nat} {B:Option Addr} {d:aA7} {hs:List Value} (h:AppC w base B cap d hs) (hn:d.length=n) {l:List Int} {A:Option Addr} {c:Nat} (hN:aPa w base A c l) (hoff:∀ g o,B=some ⟨g,o,none⟩->Off g A) {o:Obj}
  {B':Option Addr} {cap':Nat} (hown:w'.ownsRow base 26 1 (.slice B' (n+1) cap') (n+1) (hs++[.slice A l.length c])) (hgr:(w.alloc o).grownBy w' (Value.slice B n cap).ownBlock)
  (hat:(Value.slice B' (n+1) cap').ownBlock=(Value.slice B n cap).ownBlock∨(Value.slice B' (n+1) cap').ownBlock=some (w.alloc o).heap.size):AppC w' base B' cap' (d++[l]) (hs++[.slice A l.length c]):=by
 have hlen:hs.length=d.length:=by have:=h.own.1;omega
 have hg:Gr (Value.slice B n cap).ownBlock w w':=(Gr.of_bel ((Bel.refl w).alloc o)).trans (Gr.grown hgr)
 have hb0:∀ R:Option Addr,(∀ g o,B=some ⟨g,o,none⟩->Off g R)->∀ b o,R=some ⟨b,o,none⟩->some b≠(Value.slice B n cap).ownBlock:=by
  intro R hR b o e hb
  rcases h.own.2 with ⟨hv,_⟩ | ⟨g',_,_,hv,_,_,_⟩
  .injection hv with hA;subst hA;cases hb
  .injection hv with hA;subst hA
   obtain rfl:b=g':=by simpa [Value.ownBlock] using hb
   exact hR b 0 rfl b o e rfl
 have hnew:∀ R:Option Addr,∀ c (l:List Int),aPa w base R c l->(∀ g o,B=some ⟨g,o,none⟩->Off g R)->∀ g o,B'=some ⟨g,o,none⟩->Off g R:=by
  intro R c l hR hRo g o' e b o2 eR hbg
  subst e;subst hbg
  rcases hat with hat | hat
  .exact hb0 R hRo b o2 eR (by rw [<- hat];simp [Value.ownBlock])
  .have:=(hR.2.2.2 b o2 eR).2
   simp [Value.ownBlock] at hat
   omega
 refine ⟨by rw [List.length_append,hn];exact hown,fun u hu=>?_⟩
 by_cases hu':u<d.length
 .obtain ⟨R,c',k1,k2,k3⟩:=h.rows u hu'
  rw [List.getElem_append_left hu'];exact ⟨R,c',by rw [List.getElem?_append_left (by omega)];exact k1,k2.gr hg (hb0 R k3),hnew R _ _ k2 k3⟩
 .have:u=d.length:=by simp at hu;omega
  subst this;rw [List.getElem_append_right (Nat.le_refl _)];simp only [Nat.sub_self,List.getElem_singleton]
  exact ⟨A,c,by rw [List.getElem?_append_right (by omega),hlen];simp,hN.gr hg (hb0 A hoff),hnew A _ _ hN hoff⟩
theorem AppC.ownC {w:World} {base cap g:Nat} {d:aA7} {hs:List Value} (h:AppC w base (some ⟨g,0,none⟩) cap d hs):OwnC w base g cap d hs :=
 ⟨h.own,fun u hu=>by
  obtain ⟨R,c',h1,h2,h3⟩:=h.rows u hu;exact ⟨R,c',h1,h2.1,h2.2.1,h2.2.2.1,h3 g 0 rfl⟩⟩
theorem AppC.form {w:World} {base cap:Nat} {B:Option Addr} {d:aA7} {hs:List Value} (h:AppC w base B cap d hs) (hd:0<d.length):∃ g,B=some ⟨g,0,none⟩:=by
 obtain ⟨g,cap',hv,_⟩:=h.own.form hd;injection hv with hA
 exact ⟨g,hA⟩
def aWa (l:List Int) (w:World) (e:Ending) (w':World):Prop:=∃ A c,e = .returned (.slice A l.length c)/\aPa w' w.heap.size A c l/\Bel w w'
def aGu (N:Nat) (w:World) (hs:List Value):Prop:=∀ v∈hs,∀ b o n c,v = .slice (some ⟨b,o,none⟩) n c->N<=b/\b<w.heap.size
theorem aGu.size {N:Nat} {w w':World} {hs:List Value} (h:aGu N w hs) (k:w.heap.size<=w'.heap.size):aGu N w' hs:=fun v hv b o n c e=>⟨(h v hv b o n c e).1,Nat.lt_of_lt_of_le (h v hv b o n c e).2 k⟩
theorem aGu.zero (N n:Nat) (w:World):aGu N w (List.replicate n (.slice none 0 0)):=fun v hv b o n' c e=>by
 rw [List.eq_of_mem_replicate hv] at e;cases e
theorem aGu.set {N B:Nat} {w:World} {hs:List Value} (h:aGu N w hs) {A:Option Addr} {n c:Nat} {l:List Int} (hN:aPa w B A c l) (hB:N<=B) (i:Nat):aGu N w (hs.set i (.slice A n c)):=fun v hv b o n' c' e=>by
 rcases List.mem_or_eq_of_mem_set hv with hv | hv
 .exact h v hv b o n' c' e
 .subst hv
  injection e with e
  obtain ⟨h1,h2⟩:=hN.2.2.2 b o e;exact ⟨Nat.le_trans hB h1,h2⟩
theorem OwnC.newC {w W:World} {N g cap:Nat} {d:aA7} {hs:List Value} (h:OwnC w N g cap d hs) (hn:aGu N w hs) (k:aAv N w W):aAy W (.slice (some ⟨g,0,none⟩) d.length cap) d:=by
 refine OwnC.conf (base:=N) (hs:=hs) ⟨aUa h.own k (aBf h.own).1,fun u hu=>?_⟩
 obtain ⟨R,c',h1,h2,h3⟩:=h.rows u hu;refine ⟨R,c',h1,⟨h2.1,fun i x hx=>?_⟩,h3⟩
 obtain ⟨b,o,e,hb,hc⟩:=h2.2 i x hx;subst e;obtain ⟨n1,n2⟩:=hn _ (List.mem_of_getElem? h1) b o _ _ rfl;exact ⟨b,o,rfl,Nat.lt_of_lt_of_le hb k.1,(k.cell n1 n2).trans hc⟩
def aSf (d:aA7) (w:World) (e:Ending) (w':World):Prop:=∃ g cap hs,e = .returned (.slice (some ⟨g,0,none⟩) d.length cap)/\OwnC w' w.heap.size g cap d hs/\aGu w.heap.size w' hs/\Bel w w'
theorem OwnC.zero {w:World} {base g cap n:Nat} {hs:List Value} (h:w.ownsRow base 26 1 (.slice (some ⟨g,0,none⟩) n cap) n hs) (hs0:hs=List.replicate n (.slice none 0 0)):OwnC w base g cap (List.replicate n []) hs:=by
 refine ⟨by rw [List.length_replicate];exact h,fun u hu=>?_⟩
 rw [List.length_replicate] at hu;refine ⟨none,0,?_,?_,?_,?_,fun b o e=>by cases e⟩
 .subst hs0;rw [List.getElem_replicate];rw [List.getElem?_replicate,if_pos hu];rfl
 .rw [List.getElem_replicate];exact aAf.nil
 .rw [List.getElem_replicate];exact Nat.le_refl _
 .unfold maxLen;omega
def aMr (c:aA7) (k:Nat):aA7:=c.take k++List.replicate (c.length-k) []
theorem aHy (c:aA7) (k:Nat):(aMr c k).length=c.length:=by simp [aMr];omega
theorem aUx (c:aA7):aMr c 0=List.replicate c.length []:=by simp [aMr]
theorem aUv (c:aA7):aMr c c.length=c:=by simp [aMr]
theorem aTw (c:aA7) (k i:Nat):(aMr c k)[i]?=if i<c.length then some (if i<k then c.getD i [] else []) else none:=by
 unfold aMr;rw [List.getElem?_append]
 by_cases hi:i<c.length
 .rw [if_pos hi]
  by_cases hk:i<k
  .rw [if_pos hk,if_pos (by rw [List.length_take];omega),List.getElem?_take_of_lt hk,List.getElem?_eq_getElem hi,aAa hi]
  .rw [if_neg hk,if_neg (by rw [List.length_take];omega),List.getElem?_replicate,if_pos (by rw [List.length_take];omega)]
 .rw [if_neg hi]
  by_cases hk:i<(c.take k).length
  .rw [List.length_take] at hk;omega
  .rw [if_neg hk,List.getElem?_replicate,if_neg (by rw [List.length_take] at *;omega)]
theorem aUw (c:aA7) (k:Nat) (h:k<c.length):(aMr c k).set k c[k]=aMr c (k+1):=by
 apply List.ext_getElem?
 intro i
 rw [List.getElem?_set,aTw,aTw,aHy]
 by_cases he:k=i
 .subst he
  rw [if_pos rfl,if_pos h,if_pos h,if_pos (by omega),aAa h]
 .rw [if_neg he]
  by_cases hi:i<c.length
  .rw [if_pos hi,if_pos hi]
   by_cases hk:i<k
   .rw [if_pos hk,if_pos (by omega)]
   .rw [if_neg hk,if_neg (by omega)]
  .rw [if_neg hi,if_neg hi]
theorem aP0:(prog.info? 26).map (fun i=>(i.zero,i.size,i.bytes))=some (some (.slice none 0 0),1,24):=by kernel_rfl
theorem aK1:(prog.info? 3).map (fun i=>(i.zero,i.size,i.bytes))=some (some (.int .i64 0),1,8):=by kernel_rfl
theorem aI1 (v:Value) (c:aA7) (w:World) (h:aAy w v c) (hL:aBl c=true) :
  Calls prog 51 #[v] w (aSf c w):=by
 obtain ⟨A,k,rfl,hR,_,_⟩:=h;have HR:=aA0 (fun w' (kk:Bel w w')=>hR.keep kk);obtain ⟨l1,l2⟩:=aBx hL;have HL2:=aA0 l2;clear hR l2 hL;obtain ⟨i0,hi0,hz0,hz1,hz2⟩:=info_parts aP0;obtain ⟨j0,hj0,hy0,hy1,hy2⟩:=info_parts aK1;go_enter func51,ntmps51
 go_wp2_with (at_make;refine aFv _ rfl 30 (.tmp 7) (.tmp 7) rfl w.heap.size 26 i0 (.slice none 0 0) 1 underlying30 hi0 hz0 hz1 .i64 .i64 c.length rfl rfl (by rw [hz2];omega) (by unfold maxLen;omega) (by simp) ?_;intro gb w1 hown hb;have HW:=hb;rw [aK3 _ rfl] at hown;have HO:=aA0 (OwnC.zero hown rfl);clear hown hb)
 go_loopg [4,5,11] c.length (fun m _x _y z wr=>∃ (v:Nat) (hs:List Value),v<=c.length/\m=c.length-v/\z = .int .i64 v/\Hid (OwnC wr w.heap.size gb c.length (aMr c v) hs)/\Hid (aGu w.heap.size wr hs)/\Bel w wr)
 case atStart=>exact ⟨0,_,by omega,rfl,rfl,by show OwnC _ _ _ _ _ _;rw [aUx];exact HO.out,aGu.zero _ _ _,HW⟩
 case round =>
  clear HO HW;obtain ⟨v,hs,hv,rfl,rfl,HO,HSN,HW⟩:=hrel
  by_cases hlt:v<c.length
  .have hd0:decide (v<c.length)=true:=by simpa using hlt
   obtain ⟨b,o,R,rc,rfl,hbl,hcell,hI,_,_⟩:=(HR.out _ HW).at_ v hlt;have hle:=HL2.out _ (List.getElem_mem hlt);have HI:=aA0 hI;have HWZ:=aA0 HW.size;clear hI;have hbase:=aBf HO.out.own;have HSL:Hid (hs.length=c.length):=by have:=HO.out.own.1;rw [aHy] at this;show _=_;omega
   go_wp2_with (at_builtin;go_must (refine aFa _ rfl (.const (.slice none 0 0)) (.tmp 18) 26 rfl wr.heap.size 3 j0 (.int .i64 0) 1 8 underlying26 hj0 hy0 hy1 hy2 rfl (by decide) none 0 0 [] rfl (World.ownsRow_nil _ _ _ _) R c[v].length rc (c[v].map (Value.int .i64)) rfl HI.out.cells (aF5 _) (by unfold maxLen;omega) (by omega) (Nat.le_refl _) ?_);intro A3 c3 w3 hown3 hgr3 _;rw [List.nil_append,Nat.zero_add] at hown3;have hb3:=(Bel.refl wr).grown hgr3 (fun k hk=>by cases hk);obtain ⟨_,hN⟩:=aKc hown3;have HN:=aA0 hN;have HO3:=aA0 (HO.out.keep hb3);have y1:=aGm HO3.out.own v (by rw [HSL.out];omega);have y2:=HO3.out.own.frozenAt v;have ygb:=(aBf HO3.out.own).2;replace HW:=HW.trans hb3;have HSN3:=aA0 (HSN.out.size hb3.size);clear hown3 hgr3 hb3 hN)
   go_roundg (c.length-(v+1))
   case rel =>
    have h3:=HN.out;refine ⟨v+1,hs.set v (.slice A3 c[v].length c3),by omega,rfl,by go_num,?_,aGu.size (w:=w3) (HSN3.out.set h3 HWZ.out v) (by simp),HW.setCell (by simp;omega) _⟩
    show OwnC _ _ _ _ _ _
    rw [<- aUw c v hlt];simpa using HO3.out.set (v:=v) (l:=c[v]) (A:=A3) (c':=c3) (by rw [aHy];exact hlt) h3.1 h3.2.1 h3.2.2.1 (h3.off (by omega))
   case measure=>omega
  .have hd0:decide (v<c.length)=false:=by simpa using hlt
   obtain rfl:v=c.length:=by omega
   go_wp2_with fail
   go_ret;have hO:=HO.out;rw [aUv] at hO;exact ⟨gb,_,hs,rfl,hO,HSN.out,HW⟩
def bB3 (S v:Nat) (b:Bool):Nat:=if b then S|||2 ^ v else S
theorem bAe {S v:Nat} (hS:S<4294967296) (hv:v<32) (b:Bool):bB3 S v b<4294967296:=by
 unfold bB3;split
 .exact Nat.or_lt_two_pow (n:=32) hS (aIg hv)
 .exact hS
theorem aUo (S v:Nat):bB3 S v true|||2 ^ v=bB3 S v true:=by
 unfold bB3;rw [if_pos rfl,Nat.or_assoc,Nat.or_self]
def aSd (ls:List Link):Nat:=ls.foldl (fun s l=>s|||2 ^ l.to.toNat) 0
def aHq (g:Graph) (v:Nat):Nat:=aSd (g.ports.getD v [])
theorem aXg (ls:List Link) (l:Link):aSd (ls++[l])=aSd ls|||2 ^ l.to.toNat:=by unfold aSd;rw [List.foldl_append];rfl
theorem aPy (ls:List Link) (u:Nat):∀ s:Nat,(ls.foldl (fun s l=>s|||2 ^ l.to.toNat) s).testBit u=(s.testBit u||ls.any fun l=>l.to.toNat==u):=by
 induction ls with
 | nil=>intro s;simp
 | cons l ls ih =>
  intro s
  rw [List.foldl_cons,ih,Nat.testBit_or,aFu,List.any_cons,Bool.or_assoc];rfl
theorem aU4 (ls:List Link) (u:Nat):(aSd ls).testBit u=ls.any fun l=>l.to.toNat==u:=by
 unfold aSd;rw [aPy,Nat.zero_testBit,Bool.false_or]
theorem aXf {ls:List Link} (h:∀ l∈ls,l.to.toNat<32):aSd ls<4294967296:=by
 apply Nat.lt_pow_two_of_testBit (n:=32)
 intro i hi
 rw [aU4,List.any_eq_false];intro l hl
 have:=h l hl;simp;omega
theorem aKw {g:Graph} (hg:GOK g) {v:Nat} (hv:v<g.ports.length) {l:Link} (hl:l∈g.ports[v]):0<=l.to/\l.to<(g.ports.length:Int):=by
 obtain ⟨a1,a2,_⟩:=aBt.1 ((aBj.1 (hg.links v hv)).1 l hl);exact ⟨a1,a2⟩
theorem aTb {g:Graph} (hg:GOK g) (v:Nat):aHq g v<4294967296:=by
 unfold aHq
 by_cases hv:v<g.ports.length
 .rw [aAa hv]
  refine aXf fun l hl=>?_
  have:=aKw hg hv hl;have:=hg.le;omega
 .rw [List.getD_eq_getElem?_getD,List.getElem?_eq_none (by omega)];decide
theorem aK9 {g:Graph} {v u:Nat} (hv:v<g.ports.length):(aHq g v).testBit u=true↔∃ l∈g.ports[v],l.to.toNat=u:=by
 unfold aHq;rw [aAa hv,aU4,List.any_eq_true];simp
theorem aZi {g:Graph} (hg:GOK g) {v u:Nat} (hv:v<g.ports.length) (h:(aHq g v).testBit u=true):u<g.ports.length/\(aHq g u).testBit v=true:=by
 obtain ⟨l,hl,e⟩:=(aK9 hv).1 h;obtain ⟨a1,a2⟩:=aKw hg hv hl;have hu:u<g.ports.length:=by omega
 refine ⟨hu,(aK9 hu).2 ?_⟩
 have hb:=hg.back v hv l hl;unfold aFy at hb;rw [e,aAa hu,List.any_eq_true] at hb;obtain ⟨k,hk,hk2⟩:=hb;simp at hk2
 exact ⟨k,hk,by omega⟩
theorem aD3 {A B:Nat}:A&&&B=0↔∀ u,A.testBit u=true->B.testBit u=false:=by
 constructor
 .intro h u hA
  have:=Nat.testBit_and A B u;rw [h,Nat.zero_testBit,hA,Bool.true_and] at this;exact this.symm
 .intro h
  refine Nat.eq_of_testBit_eq fun u=>?_
  rw [Nat.testBit_and,Nat.zero_testBit];cases hA:A.testBit u with
  | false=>rfl
  | true=>rw [h u hA];rfl
theorem aZf {g:Graph} (hg:GOK g) {S v:Nat}:(bAq g S).testBit v=(decide (v<g.ports.length)&&(aHq g v&&&S != 0)):=by
 unfold bAq;rw [aIp]
 by_cases hv:v<g.ports.length
 .rw [decide_eq_true hv,Bool.true_and,Bool.true_and,Bool.eq_iff_iff,List.any_eq_true,bne_iff_ne,ne_eq,aD3,aAa hv]
  constructor
  .rintro ⟨l,hl,hb⟩ hall
   obtain ⟨a1,a2⟩:=aKw hg hv hl;have hle:=hg.le;unfold aLw at hb;simp at hb
   have:=hall l.to.toNat ((aK9 hv).2 ⟨l,hl,rfl⟩);rw [hb.2] at this;cases this
  .intro hn
   apply Classical.byContradiction
   intro hx
   apply hn
   intro u hu
   obtain ⟨l,hl,rfl⟩:=(aK9 hv).1 hu;obtain ⟨a1,a2⟩:=aKw hg hv hl;have hle:=hg.le;cases hb:S.testBit l.to.toNat with
   | false=>rfl
   | true=>exact absurd ⟨l,hl,by unfold aLw;rw [decide_eq_true a1,decide_eq_true (show l.to<32 by omega),hb];rfl⟩ hx
 .rw [decide_eq_false hv];rfl
def aG2 (g:Graph) (S:Nat):Bool:=(aAe S).all fun v=>aHq g v&&&S==0
theorem aW2 {S n:Nat} (hn:n<=32) (hS:S<4294967296):aBn S (aFr n fun _=>true)=true↔∀ v,S.testBit v=true->v<n:=by
 rw [aBm];constructor
 .intro h v hv
  have:=h v (aJv hS hv) hv;rw [aIp] at this;simpa using this
 .intro h v _ hv
  rw [aIp,decide_eq_true (h v hv)];rfl
theorem aEh {g:Graph} {S:Nat} (hS:S<4294967296):aG2 g S=true↔∀ v,S.testBit v=true->aHq g v&&&S=0:=by
 unfold aG2;rw [List.all_eq_true];constructor
 .intro h v hv
  have:=h v (aCy.2 ⟨aJv hS hv,hv⟩);simpa using this
 .intro h v hv
  simpa using h v (aCy.1 hv).2
def aB9 (g:Graph) (kind:Int) (E S:Nat):Bool :=
 if S=0 then false else if aBn S E=false then false
 else if kind=1 then (S&&&(S-1))==0
 else if kind=2 then aG2 g S
 else if kind=4 then S==E
 else true
def aD4 (g:Graph) (l:List Nat):Nat:=l.foldl (fun s v=>if aHq g v&&&s=0 then s|||2 ^ v else s) 0
def aAl (g:Graph) (kind:Int) (E W:Nat):Nat :=
 let w:=if W&&&E=0 then lsb E else W&&&E
 if kind=1 then lsb w
 else if kind=2 then aD4 g (aAe w)
 else if kind=4 then E
 else w
def aFl (kind:Int):Bool:=decide (1<=kind)&&decide (kind<=4)
attribute [local go_sem] Oper.semAt_some
def aHe (w:World) (b o:Nat) (x:Nat):Prop:=w.cell? ⟨b,o,none⟩=some (.int .u32 (x:Int))
theorem aHe.keeps:aLv aHe:=fun _ _ _ _ _ k hb h=>(k.cell hb).trans h
def aAd:=aAf 1 aHe
theorem aAd.keep {w w':World} {A:Option Addr} {n:Nat} {xs:List Nat} (h:aAd w A n xs) (k:Bel w w'):aAd w' A n xs:=aAf.keep aHe.keeps h k
theorem aAd.at_ {w:World} {A:Option Addr} {n:Nat} {xs:List Nat} (h:aAd w A n xs) (k:Nat) (hk:k<xs.length) :
  ∃ b o,A=some ⟨b,o,none⟩/\b<w.heap.size/\w.cell? ⟨b,o+k,none⟩=some (.int .u32 (xs[k]:Int)):=by
 obtain ⟨b,o,e,hb,h⟩:=aAf.at_ h k hk;exact ⟨b,o,e,hb,by rw [Nat.mul_one] at h;exact h⟩
def aVg (g:Graph):List Nat:=(List.range g.ports.length).map (aHq g)
def aMb (w:World) (A:Option Addr) (g:Graph):Prop:=aAd w A g.ports.length (aVg g)
theorem aMb.keep {w w':World} {A:Option Addr} {g:Graph} (h:aMb w A g) (k:Bel w w'):aMb w' A g:=aAd.keep h k
theorem aMb.at_ {w:World} {A:Option Addr} {g:Graph} (h:aMb w A g) {v:Nat} (hv:v<g.ports.length) :
  ∃ b o,A=some ⟨b,o,none⟩/\b<w.heap.size/\w.cell? ⟨b,o+v,none⟩=some (.int .u32 (aHq g v:Int)):=by
 obtain ⟨b,o,e,hb,h⟩:=aAd.at_ h v (by unfold aVg;simpa using hv)
 refine ⟨b,o,e,hb,?_⟩
 rw [h];simp [aVg]
theorem aX4 (A:Option Addr) (c:Nat) (g:Graph) (S:Nat) (w:World) (hN:aMb w A g) (hT:aDg w) (hS:S<4294967296) (hw:∀ v,S.testBit v=true->v<g.ports.length) (hg:GOK g) :
  Calls prog 109 #[.slice A g.ports.length c,.int .u32 (S:Int)] w fun e w'=>e = .returned (.bool (aG2 g S))/\Bel w w':=by
 have HN:=aA0 (fun w' (k:Bel w w')=>hN.keep k);have HT:=aA0 (fun w' (k:Bel w w')=>hT.keep k);refine aJc func109 rfl ?_
 simp only [ntmps109,List.size_toArray,List.length_cons,List.length_nil,Nat.reduceAdd,Nat.reduceSub,Array.replicate_succ,Array.replicate_zero,List.push_toArray,List.append_toArray,List.nil_append,List.cons_append]
 go_wp2_with (go_at_call 96;refine (aH6 _ _).mono ?_;rintro e w' ⟨rfl,rfl⟩)
 obtain ⟨W0,hW0⟩:∃ W0,(((w.alloc (.cells #[.slice A g.ports.length c] 66)).alloc (.cells #[.int .u32 (S:Int)] 34)).alloc (.cells #[.bool false] 4)).alloc (.cells #[.int .u32 (S:Int)] 34)=W0:=⟨_,rfl⟩;have b1:Boxed W0 w.heap.size 66 (.slice A g.ports.length c):=by rw [<- hW0];exact (((Boxed.new w _ _).alloc _).alloc _).alloc _
 have b2:Boxed W0 (w.heap.size+1) 34 (.int .u32 (S:Int)):=by
  rw [<- hW0];have:=Boxed.new (w.alloc (.cells #[.slice A g.ports.length c] 66)) 34 (.int .u32 (S:Int));rw [World.size_alloc] at this;exact (this.alloc _).alloc _
 have b3:Boxed W0 (w.heap.size+1+1) 4 (.bool false):=by
  rw [<- hW0];have:=Boxed.new ((w.alloc (.cells #[.slice A g.ports.length c] 66)).alloc (.cells #[.int .u32 (S:Int)] 34)) 4 (.bool false);rw [World.size_alloc,World.size_alloc] at this;exact this.alloc _
 have b4:Boxed W0 (w.heap.size+1+1+1) 34 (.int .u32 (S:Int)):=by
  rw [<- hW0];have:=Boxed.new (((w.alloc (.cells #[.slice A g.ports.length c] 66)).alloc (.cells #[.int .u32 (S:Int)] 34)).alloc (.cells #[.bool false] 4)) 34 (.int .u32 (S:Int));rw [World.size_alloc,World.size_alloc,World.size_alloc] at this;exact this
 have hb0:Bel w W0:=by rw [<- hW0];exact ((((Bel.refl w).alloc _).alloc _).alloc _).alloc _
 have hz0:W0.heap.size=w.heap.size+1+1+1+1:=by rw [<- hW0];simp
 rw [hW0];clear hW0;refine (wpIn_wide (n:=5)).1 ?_
 refine aJq (n:=5) rfl (by decide) (gf:=119) (lb:=#[.pointer (some ⟨w.heap.size+1+1+1,0,none⟩)]) (by simp [go_sem]) trivial (enters_of func119 (by kernel_rfl) rfl)
  (aN9 4 _ S W0 (by decide) hS b4 (HT.out _ hb0)) (by rintro k rfl;omega) (by rintro k rfl;exact (HT.out _ hb0).1) (fun _=>rfl) (fun k=>k=w.heap.size+1+1+1∨k=W0.heap.size∨k=W0.heap.size+1) (fun k=>Iff.rfl)
  (fun pre W=>Boxed W w.heap.size 66 (.slice A g.ports.length c)/\Boxed W (w.heap.size+1) 34 (.int .u32 (S:Int))/\Boxed W (w.heap.size+1+1) 4 (.bool false)/\(∀ v∈pre,aHq g v&&&S=0)/\Bel w W)
  (fun c pre W=>c = .ret/\Boxed W (w.heap.size+1+1) 4 (.bool false)/\aG2 g S=false/\Bel w W)
  (fun s A B ⟨h1,h2,h3,h4,h5⟩ hg=>⟨hg.boxed h1 (by omega),hg.boxed h2 (by omega),hg.boxed h3 (by omega),h4,hg.belE h5 (by omega)⟩)
  (fun c s A B ⟨h1,h2,h3,h4⟩ hg=>⟨h1,hg.boxed h2 (by omega),h3,hg.belE h4 (by omega)⟩)
  ⟨b1,b2,b3,by simp,hb0⟩
  (fun x a' W=>a'={ tmps:=#[.slice A g.ports.length c,.int .u32 (S:Int),.pointer (some ⟨w.heap.size,0,none⟩),.pointer (some ⟨w.heap.size+1,0,none⟩),.pointer (some ⟨w.heap.size+1+1,0,none⟩),.int .i64 (x:Int),.int .u32 (S:Int),.func (.func 119) #[] #[.pointer (some ⟨w.heap.size+1+1+1,0,none⟩)],.int .i64 (x:Int),undef,undef,undef,undef,undef,undef,undef],defers:=[] })
  (fun _ _ _ _ h _=>h) ?assign ?body ?done ?stop
 case assign =>
  intro pre x W K hp hI hl hK
  gi_wp2
  exact hK _ _ (aCi.refl _ _) hI rfl
 case body =>
  rintro pre x a' W hp ⟨h1,h2,h3,h4,h5⟩ rfl hl ⟨r,hr⟩;obtain ⟨c1,f1,l1⟩:=aBb h1;obtain ⟨c2,f2,l2⟩:=aBb h2;obtain ⟨c3,f3,l3⟩:=aBb h3;have hx:x∈aAe S:=hp.subset (by simp)
  have hxn:=hw x (aCy.1 hx).2;obtain ⟨b,o,e,hb,hc⟩:=(HN.out _ h5).at_ hxn;subst e;have q:=aCs (aTb hg x) hS;have hdx:decide (x<g.ports.length)=true:=by simpa using hxn
  generalize hnv:aHq g x=N at *;refine wpIn_block (wpIn_seq ?_)
  refine aA6.startIn (fun w'=>w'.cell? ⟨w.heap.size,0,none⟩=some (.slice (some ⟨b,o,none⟩) g.ports.length c)/\w'.cell? ⟨w.heap.size+1,0,none⟩=some (.int .u32 (S:Int))/\w'.cell? ⟨b,o+x,none⟩=some (.int .u32 (N:Int))/\w.heap.size<w'.heap.size/\w.heap.size+1<w'.heap.size/\b<w'.heap.size) 6 (by kernel_rfl) (by kernel_rfl) (by rintro ⟨_,_,h⟩;exact h) ?_
  have hHeld:W.drew.cell? ⟨w.heap.size,0,none⟩=some (.slice (some ⟨b,o,none⟩) g.ports.length c)/\W.drew.cell? ⟨w.heap.size+1,0,none⟩=some (.int .u32 (S:Int))/\W.drew.cell? ⟨b,o+x,none⟩=some (.int .u32 (N:Int))/\w.heap.size<W.drew.heap.size/\w.heap.size+1<W.drew.heap.size/\b<W.drew.heap.size:=⟨c1,c2,hc,l1,l2,hb⟩
  by_cases hz:N&&&S=0
  .rw [hz] at q
   (refine aA6.t (v:=?_) 0 9 rfl rfl (by kernel_rfl) (fun _ _ _ h=>h) hHeld (Or.inl ⟨by rfl,?_⟩) ?_;rotate_left 1;focus (intro w' hSw;(try dsimp only at hSw);go_simp;(try with_reducible rfl);done))
   (refine aA6.t (v:=?_) 1 10 rfl rfl (by kernel_rfl) (fun _ _ _ h=>h) hHeld (Or.inl ⟨by rfl,?_⟩) ?_;rotate_left 1;focus (intro w' hSw;(try dsimp only at hSw);go_simp;(try with_reducible rfl);done))
   (refine aA6.t (v:=?_) 2 11 rfl rfl (by kernel_rfl) (fun _ _ _ h=>h) hHeld (Or.inl ⟨by rfl,?_⟩) ?_;rotate_left 1;focus (intro w' hSw;(try dsimp only at hSw);go_simp;(try with_reducible rfl);done))
   (refine aA6.t (v:=?_) 3 12 rfl rfl (by kernel_rfl) (fun _ _ _ h=>h) hHeld (Or.inl ⟨by rfl,?_⟩) ?_;rotate_left 1;focus (intro w' hSw;(try dsimp only at hSw);go_simp;(try with_reducible rfl);done))
   (refine aA6.t (v:=?_) 4 13 rfl rfl (by kernel_rfl) (fun _ _ _ h=>h) hHeld (Or.inl ⟨by rfl,?_⟩) ?_;rotate_left 1;focus (intro w' hSw;(try dsimp only at hSw);go_simp;(try with_reducible rfl);done))
   (refine aA6.t (v:=?_) 5 14 rfl rfl (by kernel_rfl) (fun _ _ _ h=>h) hHeld (Or.inl ⟨by rfl,?_⟩) ?_;rotate_left 1;focus (intro w' hSw;(try dsimp only at hSw);go_simp;(try with_reducible rfl);done))
   refine aA6.one (i:=6) (by kernel_rfl) rfl (fun K hK=>?_)
   go_simp
   refine hK.out _ _ (fun h=>absurd rfl h) ?_
   refine aA6.done (by kernel_rfl) ?_ _
   (try simp only [Act.put,List.setIfInBounds_toArray,List.set_cons_zero,List.set_cons_succ])
   change Code.wpIn _ _ _ _ _ _ _
   gi_wp2
   exact ⟨aCi.of_bel ((Bel.refl W).drew),h1,h2,h3,fun v hv=>by
    rcases List.mem_append.1 hv with hv | hv
    .exact h4 v hv
    .obtain rfl:v=x:=by simpa using hv
     rw [hnv];exact hz,h5.drew⟩
  .have hq:(((N&&&S:Nat):Int) != 0)=true:=by simpa using hz
   have hpf:aG2 g S=false:=by
    rw [Bool.eq_false_iff];intro hp
    have:=(aEh hS).1 hp x (aCy.1 hx).2;rw [hnv] at this;exact hz this
   generalize N&&&S=M at *
   (refine aA6.t (v:=?_) 0 9 rfl rfl (by kernel_rfl) (fun _ _ _ h=>h) hHeld (Or.inl ⟨by rfl,?_⟩) ?_;rotate_left 1;focus (intro w' hSw;(try dsimp only at hSw);go_simp;(try with_reducible rfl);done))
   (refine aA6.t (v:=?_) 1 10 rfl rfl (by kernel_rfl) (fun _ _ _ h=>h) hHeld (Or.inl ⟨by rfl,?_⟩) ?_;rotate_left 1;focus (intro w' hSw;(try dsimp only at hSw);go_simp;(try with_reducible rfl);done))
   (refine aA6.t (v:=?_) 2 11 rfl rfl (by kernel_rfl) (fun _ _ _ h=>h) hHeld (Or.inl ⟨by rfl,?_⟩) ?_;rotate_left 1;focus (intro w' hSw;(try dsimp only at hSw);go_simp;(try with_reducible rfl);done))
   (refine aA6.t (v:=?_) 3 12 rfl rfl (by kernel_rfl) (fun _ _ _ h=>h) hHeld (Or.inl ⟨by rfl,?_⟩) ?_;rotate_left 1;focus (intro w' hSw;(try dsimp only at hSw);go_simp;(try with_reducible rfl);done))
   (refine aA6.t (v:=?_) 4 13 rfl rfl (by kernel_rfl) (fun _ _ _ h=>h) hHeld (Or.inl ⟨by rfl,?_⟩) ?_;rotate_left 1;focus (intro w' hSw;(try dsimp only at hSw);go_simp;(try with_reducible rfl);done))
   (refine aA6.t (v:=?_) 5 14 rfl rfl (by kernel_rfl) (fun _ _ _ h=>h) hHeld (Or.inl ⟨by rfl,?_⟩) ?_;rotate_left 1;focus (intro w' hSw;(try dsimp only at hSw);go_simp;(try with_reducible rfl);done))
   refine aA6.one (i:=6) (by kernel_rfl) rfl (fun K hK=>?_)
   go_simp
   refine hK.out _ _ (fun h=>absurd rfl h) ?_
   refine aA6.done (by kernel_rfl) ?_ _
   (try simp only [Act.put,List.setIfInBounds_toArray,List.set_cons_zero,List.set_cons_succ])
   change Code.wpIn _ _ _ _ _ _ _
   gi_wp2
   refine ⟨(aCi.of_bel ((Bel.refl W).drew)).trans (aCi.setCell _ _ _ ?_),rfl,Boxed.set _ (show Boxed W.drew _ _ _ from h3),hpf,h5.drew.setCell (by simp;omega) _⟩
   have:=hT.1;rintro ((h | h | h) | h) <;> simp at h <;> omega
 case done =>
  rintro W ⟨h1,h2,h3,h4,h5⟩ hK;obtain ⟨c3,f3,l3⟩:=aBb h3;have hpt:aG2 g S=true:=(aEh hS).2 fun v hv=>h4 v (aCy.2 ⟨aJv hS hv,hv⟩);go_wp2;have h3':=h3.set (.bool true);refine aFm (B:=w.heap.size) (aFd.push (aFd.nil _ _) (by omega) ((Below.heap_setCell _ _ _ _ (by simp;omega)).trans hK) (by simp)) ?_
  intro W' hA hs
  have hr:=hA.cellD h3'.cell;exact ⟨.bool true,by simp [results,Tryz.results109,go_sem,hr],aA2 hpt.symm,hA.bel (h5.setCell (by simp;omega) _)⟩
 case stop =>
  rintro c' pre W hp ⟨rfl,h3,hpf,h5⟩ hK;refine wpIn_wide.2 ?_
  go_wp2;refine aFm (B:=w.heap.size) (aFd.push (aFd.nil _ _) (by omega) hK (by simp)) ?_
  intro W' hA hs
  have hr:=hA.cellD h3.cell;exact ⟨.bool false,by simp [results,Tryz.results109,go_sem,hr],aA2 hpf.symm,hA.bel h5⟩
end Go.Proofs.YtdcjnhoabbdanaaGreatDoor

namespace Go.Proofs.YtdcjnhoabbdanaaGreatDoor
theorem aT3:∀ {bs:List (Int × Int)} {cs:List Int},inL bs cs↔cs.length=bs.length/\∀ i,(h1:i<cs.length)->(h2:i<bs.length)->bs[i].1<=cs[i]/\cs[i]<=bs[i].2
 | [],[]=>by simp [inL]
 | [],_ :: _=>by simp [inL]
 | _ :: _,[]=>by simp [inL]
 | b :: bs,c :: cs=>by
  have ih:=aT3 (bs:=bs) (cs:=cs);constructor
  .rintro ⟨h1,h2,h3⟩
   obtain ⟨h4,h5⟩:=ih.1 h3;refine ⟨by simp [h4],fun i a1 a2=>?_⟩
   cases i with
   | zero=>exact ⟨h1,h2⟩
   | succ i=>exact h5 i (by simpa using a1) (by simpa using a2)
  .rintro ⟨h1,h2⟩
   have h0:=h2 0 (by simp) (by simp)
   refine ⟨h0.1,h0.2,ih.2 ⟨by simpa using h1,fun i a1 a2=>?_⟩⟩
   exact h2 (i+1) (by simpa using a1) (by simpa using a2)
theorem aT4:∀ {T:List (List (Int × Int))} {C:aA7},inN T C↔C.length=T.length/\∀ v,(h1:v<C.length)->(h2:v<T.length)->inL T[v] C[v]
 | [],[]=>by simp [inN]
 | [],_ :: _=>by simp [inN]
 | _ :: _,[]=>by simp [inN]
 | t :: T,c :: C=>by
  have ih:=aT4 (T:=T) (C:=C);constructor
  .rintro ⟨h1,h3⟩
   obtain ⟨h4,h5⟩:=ih.1 h3;refine ⟨by simp [h4],fun i a1 a2=>?_⟩
   cases i with
   | zero=>exact h1
   | succ i=>exact h5 i (by simpa using a1) (by simpa using a2)
  .rintro ⟨h1,h2⟩
   have h0:=h2 0 (by simp) (by simp)
   refine ⟨h0,ih.2 ⟨by simpa using h1,fun i a1 a2=>?_⟩⟩
   exact h2 (i+1) (by simpa using a1) (by simpa using a2)
theorem bAj {T:List (List (Int × Int))} {C:aA7}:aGx T C=true↔inN T C:=by
 rw [aCa,aT4];constructor
 .rintro ⟨h1,h2⟩;exact ⟨h1,fun v a b=>aT3.2 (aC7.1 (h2 v a b))⟩
 .rintro ⟨h1,h2⟩;exact ⟨h1,fun v a b=>aC7.2 (aT3.1 (h2 v a b))⟩
theorem bBc {p:Prg} {g:Graph} {c:aA7} (hm:aCv p g c=0):inN (aAz p g) c:=bAj.1 (aB8 hm).2
theorem aMn {S n:Nat} (hn:n<=32) (hS:S<2 ^ n):(aAe S).length<=n:=by
 rw [aSu hn hS];exact Nat.le_trans (List.length_filter_le _ _) (by simp)
theorem aDu {g:Graph} {kind:Int} {E S:Nat} (h:aB9 g kind E S=true):S≠0/\aBn S E=true:=by
 unfold aB9 at h;split at h
 .cases h
 split at h
 .cases h
 .rename_i h1 h2
  exact ⟨h1,by simpa using h2⟩
theorem aH7 {S E:Nat} (hS:S<4294967296) (hE:E<4294967296):S&&&E=S↔aBn S E=true:=by
 rw [aBm];constructor
 .intro h v _ hv
  have:=Nat.testBit_and S E v;rw [h,hv,Bool.true_and] at this;exact this.symm
 .intro h
  refine aU3 (Nat.and_lt_two_pow (n:=32) S hE) hS fun v hv=>?_
  rw [Nat.testBit_and];cases hb:S.testBit v with
  | false=>rfl
  | true=>rw [h v hv hb];rfl
theorem aWt {v:Nat} (hv:v<32):aAe (2 ^ v)=[v]:=by
 have h:=aGy (k:=v) (m:=0) (by have:=aIg hv;simpa using this)
 simpa [aGz] using h
theorem aLt {E n:Nat} (hn:n<=32) (hE:E<2 ^ n):aBn E (aFr n fun _=>true)=true:=by
 have h32:E<4294967296:=Nat.lt_of_lt_of_le hE (Nat.pow_le_pow_right (n:=2) (by decide) hn)
 rw [aW2 hn h32];intro v hv
 rcases Nat.lt_or_ge v n with h | h
 .exact h
 .have e:2 ^ n<=2 ^ v:=Nat.pow_le_pow_right (by decide) h
  rw [Nat.testBit_lt_two_pow (Nat.lt_of_lt_of_le hE e)] at hv;cases hv
theorem aLu {A B C:Nat} (h:aBn A B=true) (k:aBn B C=true):aBn A C=true:=by
 rw [aBm] at *;exact fun v hv hA=>k v hv (h v hv hA)
def aCu (g:Graph) (v s:Nat):List Value:=(List.range g.ports.length).map fun u=>Value.int .u32 ((if u<v then aHq g u else if u=v then s else 0:Nat):Int)
theorem aRd (g:Graph):aCu g 0 0=List.replicate g.ports.length (.int .u32 0):=by
 apply List.ext_getElem
 .simp [aCu]
 .intro i h1 h2
  simp [aCu]
theorem aTc (g:Graph) {v:Nat} (_:v<g.ports.length) (s s':Nat):(aCu g v s).set v (.int .u32 (s':Int))=aCu g v s':=by
 apply List.ext_getElem
 .simp [aCu]
 .intro i h1 h2
  rw [List.getElem_set]
  by_cases h:v=i
  .subst h;rw [if_pos rfl];simp [aCu]
  .rw [if_neg h]
   simp only [aCu,List.getElem_map,List.getElem_range]
   by_cases hi:i<v
   .rw [if_pos hi,if_pos hi]
   .rw [if_neg hi,if_neg hi,if_neg (fun e=>h e.symm),if_neg (fun e=>h e.symm)]
theorem aRc (g:Graph) (v:Nat):aCu g v (aHq g v)=aCu g (v+1) 0:=by
 unfold aCu;refine List.map_congr_left fun u _=>?_
 by_cases h:u<v
 .rw [if_pos h,if_pos (by omega)]
 .rw [if_neg h]
  by_cases h2:u=v
  .subst h2;rw [if_pos rfl,if_pos (by omega)]
  .rw [if_neg h2,if_neg (by omega)]
   split <;> rfl
theorem aVf (g:Graph) {v:Nat} (hv:v<g.ports.length) (s:Nat):(aCu g v s)[v]?=some (.int .u32 (s:Int)):=by
 unfold aCu;rw [List.getElem?_map,List.getElem?_range hv];simp
theorem aRb (g:Graph) (s:Nat) {u:Nat} (hu:u<g.ports.length):(aCu g g.ports.length s)[u]?=some (.int .u32 (aHq g u:Int)):=by
 unfold aCu;rw [List.getElem?_map,List.getElem?_range hu];simp [hu]
theorem aXh {ls:List Link} {i:Nat} (hi:i<ls.length):aSd (ls.take (i+1))=aSd (ls.take i)|||2 ^ ls[i].to.toNat:=by
 rw [List.take_succ_eq_append_getElem hi,aXg]
theorem aVx {p:Prg} {g:Graph} {v:Nat} (hv:v<(aAz p g).length):((aAz p g)[v]).length=p.vars.length:=by simp [aAz,aIo]
theorem aZs {t:List (Int × Int)} {j:Nat} (hj:j<t.length):aS1 (t.drop j)=(t[j].2-t[j].1+1)*aS1 (t.drop (j+1)):=by
 rw [List.drop_eq_getElem_cons hj];rfl
theorem aZt {T:List (List (Int × Int))} {v:Nat} (hv:v<T.length):aOe (T.drop v)=aS1 T[v]*aOe (T.drop (v+1)):=by
 rw [List.drop_eq_getElem_cons hv];rfl
def Prod (T:List (List (Int × Int))) (v j:Nat) (r:Int):Prop:=1<=r/\r<=32768/\r*(aS1 ((T.getD v []).drop j)*aOe (T.drop (v+1)))=aOe T
def aW7 (T:List (List (Int × Int))) (v:Nat) (r:Int):Prop:=1<=r/\r<=32768/\r*aOe (T.drop v)=aOe T
theorem aW7.start (T:List (List (Int × Int))):aW7 T 0 1:=⟨by decide,by decide,by rw [List.drop_zero,Int.one_mul]⟩
theorem aW7.row {T:List (List (Int × Int))} {v:Nat} {r:Int} (h:aW7 T v r) (hv:v<T.length):Prod T v 0 r:=by
 obtain ⟨h1,h2,h3⟩:=h;refine ⟨h1,h2,?_⟩
 rw [List.getD_eq_getElem?_getD,List.getElem?_eq_getElem hv,Option.getD_some,List.drop_zero,<- aZt hv];exact h3
theorem Prod.done {T:List (List (Int × Int))} {v:Nat} {r:Int} (hv:v<T.length) (h:Prod T v T[v].length r):aW7 T (v+1) r:=by
 obtain ⟨h1,h2,h3⟩:=h;refine ⟨h1,h2,?_⟩
 rw [List.getD_eq_getElem?_getD,List.getElem?_eq_getElem hv,Option.getD_some,List.drop_length] at h3;rw [<- h3];show _=r*(1*_);rw [Int.one_mul]
theorem Prod.step {T:List (List (Int × Int))} {v j:Nat} {r:Int} (ho:okN T) (hv:v<T.length) (hj:j<T[v].length) (h:Prod T v j r) :
  (32768<r*(T[v][j].2-T[v][j].1+1)->32768<aOe T)/\(r*(T[v][j].2-T[v][j].1+1)<=32768->Prod T v (j+1) (r*(T[v][j].2-T[v][j].1+1))):=by
 obtain ⟨h1,h2,h3⟩:=h;have e:T.getD v []=T[v]:=by rw [List.getD_eq_getElem?_getD,List.getElem?_eq_getElem hv,Option.getD_some]
 rw [e,aZs hj,Int.mul_assoc,<- Int.mul_assoc r] at h3;have hok:okL T[v]:=ho _ (List.getElem_mem hv);have hb:=hok _ (List.getElem_mem hj);have hr:r<=r*(T[v][j].2-T[v][j].1+1):=bA4 h1 (by omega)
 have h4:=aNw (aZj hok (j+1));have h5:=aS2 (aZk ho (v+1));have h6:=Int.mul_pos h4 h5;have h7:=bA4 (r:=r*(T[v][j].2-T[v][j].1+1)) (s:=aS1 (T[v].drop (j+1))*aOe (T.drop (v+1))) (by omega) (by omega)
 refine ⟨fun h=>by omega,fun h=>⟨by omega,h,by rw [e];exact h3⟩⟩
open Go.RowKit
theorem aDs {p:Prg} {g:Graph} {c:aA7} (hm:aCv p g c=0) (hL:aAw p=true):aBl c=true:=by
 have hf:=(aB8 hm).1;have hg:=(aAp hf).2.1;have hcl:=aG0 hm;have hle:=hg.le;have hv10:=(aB7 hL).2.1;unfold aBl;rw [Bool.and_eq_true,decide_eq_true_eq,List.all_eq_true];refine ⟨by omega,fun r hr=>?_⟩
 obtain ⟨v,hv,rfl⟩:=List.getElem_of_mem hr;have hvt:v<(aAz p g).length:=by rw [aCf,hg.ids,<- hcl];exact hv
 have:=aOl ((aT4.1 (bBc hm)).2 v hv hvt);rw [aVx hvt] at this;simp;omega
end Go.Proofs.YtdcjnhoabbdanaaGreatDoor

