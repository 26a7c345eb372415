/- Merged. -/
import Derived.Test.YtmifhmdghfbalaaGreatDoorZ34
import Derived.Test.YtmifhmdghfbalaaGreatDoorZ31
set_option linter.unusedSimpArgs false
set_option linter.unnecessarySimpa false
set_option linter.unusedVariables false
set_option maxRecDepth 100000

namespace Go.Proofs.YtmifhmdghfbalaaGreatDoor
open Go.RowKit
def aGm (w:World) (base:Nat) (L:List (List (Nat × Int))) (hs:List Value):Prop :=
 hs.length=L.length/\∀ (u:Nat) (l:List (Nat × Int)),L[u]?=some l->∃ (X:Option Addr) (c:Nat),hs[u]?=some (Value.slice X l.length c)/\w.ownsRow base 135 2 (.slice X l.length c) l.length (l.flatMap aBe)
theorem aGm.nil (w:World) (base:Nat):aGm w base [] []:=⟨rfl,fun u l h=>by simp at h⟩
theorem aGm.keep {w w':World} {base:Nat} {L:List (List (Nat × Int))} {hs:List Value} (h:aGm w base L hs) (k:Bel w w'):aGm w' base L hs :=
 ⟨h.1,fun u l hl=>by obtain ⟨X,c,h1,h2⟩:=h.2 u l hl;exact ⟨X,c,h1,k.owns h2⟩⟩
theorem aGm.push {w:World} {base:Nat} {L:List (List (Nat × Int))} {hs:List Value} (h:aGm w base L hs) {l:List (Nat × Int)} {X:Option Addr} {c:Nat} (hx:w.ownsRow base 135 2 (.slice X l.length c) l.length (l.flatMap aBe)):aGm w base (L++[l]) (hs++[.slice X l.length c]):=by
 refine ⟨by simp [h.1],fun u z hz=>?_⟩
 by_cases hu:u<L.length
 .rw [List.getElem?_append_left hu] at hz
  obtain ⟨Y,d,h1,h2⟩:=h.2 u z hz;exact ⟨Y,d,by rw [List.getElem?_append_left (by rw [h.1];exact hu)];exact h1,h2⟩
 .have hul:u=L.length:=by
   have:=(List.getElem?_eq_some_iff.1 hz).1;simp at this;omega
  subst hul;rw [List.getElem?_append_right (Nat.le_refl _)] at hz;obtain rfl:l=z:=by simpa using hz
  exact ⟨X,c,by rw [List.getElem?_append_right (by rw [h.1];exact Nat.le_refl _),h.1];simp,hx⟩
def bKb (v1 v2:Value):Nat->Prop:=fun j=>some j=v1.ownBlock∨some j=v2.ownBlock
theorem Agr.grownV {A B:World} {row:Option Nat} {E:Nat->Prop} (h:A.grownBy B row) (hE:∀ k,some k=row->E k):Agr E A B :=
 ⟨h.os,h.tape,h.output,h.size,fun k hk hn=>h.block k hk (fun e=>hn (hE k e))⟩
theorem bC3 {E:Nat->Prop} {A B:World} {base e size n:Nat} {v:Value} {xs:List Value} (h:A.ownsRow base e size v n xs) (hA:Agr E A B) (hE:∀ k,v.ownBlock=some k->¬ E k):B.ownsRow base e size v n xs:=by
 obtain ⟨Ad,c,rfl⟩:=aNp h
 rcases h.2 with ⟨hv,h0⟩ | ⟨g,cap,cur,hv,_⟩
 .rw [hv];subst h0;exact ⟨h.1,.inl ⟨rfl,rfl⟩⟩
 .injection hv with hAd hc
  subst hAd;exact aGi h hA (hE g rfl)
theorem aKv {w w':World} {base:Nat} {e:TypeId} {size n:Nat} {v:Value} {row:Option Nat} {xs:List Value} (h:w.ownsRow base e size v n xs) (hf:Gr row w w') (hne:v.ownBlock=none∨v.ownBlock≠row):w'.ownsRow base e size v n xs:=by
 obtain ⟨A,c,rfl⟩:=aNp h
 rcases h.2 with ⟨hv,h0⟩ | ⟨g,cap,cur,hv,_⟩
 .rw [hv];subst h0;exact ⟨h.1,.inl ⟨rfl,rfl⟩⟩
 .injection hv with hA hc
  subst hA;refine aYf h hf ?_
  rcases hne with e | e
  .simp [Value.ownBlock] at e
  .simpa [Value.ownBlock] using e
theorem bHl {W:World} {base e1 e2 e3 s1 s2 s3 n1 n2 n3:Nat} {v1 v2 v3:Value} {x1 x2 x3:List Value} (h1:W.ownsRow base e1 s1 v1 n1 x1) (h2:W.ownsRow base e2 s2 v2 n2 x2) (h3:W.ownsRow base e3 s3 v3 n3 x3) (n13:e1≠e3) (n23:e2≠e3) :
  ∀ k,v3.ownBlock=some k->¬ bKb v1 v2 k:=by
 intro k hk hE
 rcases hE with h | h
 .rcases aCq h1 h3 n13 with e | e
  .rw [e] at hk;cases hk
  .exact e (hk.trans h)
 .rcases aCq h2 h3 n23 with e | e
  .rw [e] at hk;cases hk
  .exact e (hk.trans h)
theorem aGm.two {W w5:World} {base nE nA:Nat} {vE vA:Value} {xs ys:List Value} {L:List (List (Nat × Int))} {hs:List Value} (h:aGm W base L hs) (hE:W.ownsRow base 34 1 vE nE xs) (hA:W.ownsRow base 130 1 vA nA ys) (hag:Agr (bKb vE vA) W w5):aGm w5 base L hs :=
 ⟨h.1,fun u l hl=>by
  obtain ⟨X,c,h1,h2⟩:=h.2 u l hl;exact ⟨X,c,h1,bC3 h2 hag (bHl hE hA h2 (by decide) (by decide))⟩⟩
theorem aGm.box {w:World} {base:Nat} {L:List (List (Nat × Int))} {hs:List Value} (h:aGm w base L hs) {a:Addr} (ha:a.block<base) (u:Value):aGm (w.setCell a u) base L hs :=
 ⟨h.1,fun q l hl=>by obtain ⟨X,c,h1,h2⟩:=h.2 q l hl;exact ⟨X,c,h1,aB4 h2 ha u⟩⟩
theorem aVp {W0 W w5:World} {sB base nE nA nE' nA' c':Nat} {vE vA vE' vA':Value} {xs ys xs' ys':List Value} {L:List (List (Nat × Int))} {hs:List Value} {l:List (Nat × Int)} {X:Option Addr}
  (hBX:Blk W sB #[vE,vA] 70) (h0:W0.heap.size<=sB) (hsb:sB<base) (hB:Bel W0 W) (hE:W.ownsRow base 34 1 vE nE xs) (hA:W.ownsRow base 130 1 vA nA ys) (hC:aGm W base L hs)
  (hx:W.ownsRow base 135 2 (.slice X l.length c') l.length (l.flatMap aBe)) (hag:Agr (bKb vE vA) W w5)
  (hE5:w5.ownsRow base 34 1 vE' nE' xs') (hA5:w5.ownsRow base 130 1 vA' nA' ys') :
  Blk ((w5.setCell ⟨sB,0,none⟩ vE').setCell ⟨sB,1,none⟩ vA') sB #[vE',vA'] 70/\((w5.setCell ⟨sB,0,none⟩ vE').setCell ⟨sB,1,none⟩ vA').ownsRow base 34 1 vE' nE' xs'/\((w5.setCell ⟨sB,0,none⟩ vE').setCell ⟨sB,1,none⟩ vA').ownsRow base 130 1 vA' nA' ys' /\
   aGm ((w5.setCell ⟨sB,0,none⟩ vE').setCell ⟨sB,1,none⟩ vA') base (L++[l]) (hs++[.slice X l.length c'])/\Bel W0 ((w5.setCell ⟨sB,0,none⟩ vE').setCell ⟨sB,1,none⟩ vA'):=by
 have hge:∀ k,bKb vE vA k->base<=k:=by
  rintro k (h | h)
  .exact aK8 hE k h.symm
  .exact aK8 hA k h.symm
 have hb5:Blk w5 sB #[vE,vA] 70:=hag.blk hBX (fun h=>by have:=hge _ h;omega)
 have hB5:Bel W0 w5:=Agr.belE hB hag (fun k h=>by have:=hge k h;omega)
 refine ⟨?_,?_,?_,?_,?_⟩
 .have:=(hb5.set 0 vE').set 1 vA'
  simpa using this
 .exact aB4 (aB4 hE5 (by simpa using hsb) _) (by simpa using hsb) _
 .exact aB4 (aB4 hA5 (by simpa using hsb) _) (by simpa using hsb) _
 .exact ((((hC.two hE hA hag).push (bC3 hx hag (bHl hE hA hx (by decide) (by decide)))).box (by simpa using hsb) _).box (by simpa using hsb) _)
 .exact (hB5.setCell (by simpa using h0) _).setCell (by simpa using h0) _
theorem aQ0 (w:World) (o p:Obj):((w.alloc o).alloc p).heap[w.heap.size]?=some o/\((w.alloc o).alloc p).heap[w.heap.size+1]?=some p:=by
 constructor
 .exact (Below.heap_alloc _ _ _ (by simp)).trans (aBr w o)
 .have:=aBr (w.alloc o) p
  rw [World.size_alloc] at this;exact this
theorem bH7 {w:World} {base k cE cA:Nat} {RE RA:Option Addr} {es:List Nat} {L:List (List (Nat × Int))} {hs:List Value} (hE:w.ownsRow base 34 1 (.slice RE k cE) k (es.map aF7)) (hA:w.ownsRow base 130 1 (.slice RA k cA) k hs) (hC:aGm w base L hs) :
  aCo w (.agg #[.slice RE k cE,.slice RA k cA]) ⟨es,L⟩:=by
 have le:es.length=k:=by have:=hE.1;simp at this;omega
 have lh:hs.length=k:=by have:=hA.1;omega
 have lL:L.length=k:=by rw [<- hC.1];exact lh
 subst le;obtain ⟨a1,a2⟩:=aDp hE;obtain ⟨b1,b2⟩:=aDp hA;refine ⟨RE,cE,RA,cA,by simp [lL],aRr hE,⟨rfl,fun u l hl=>?_⟩,a1,a2,by rw [lL];exact b1,b2⟩
 obtain ⟨X,c,h1,h2⟩:=hC.2 u l hl;obtain ⟨q,e1,_,q3,q4,_⟩:=aBv hA h1;obtain ⟨c1,c2⟩:=aDp h2;exact ⟨q,0,e1,q3,X,c,by simpa using q4,bC4 h2,c1,c2⟩
theorem aGm.agr {w w':World} {base:Nat} {L:List (List (Nat × Int))} {hs:List Value} (h:aGm w base L hs) (hA:Agr (fun k=>k<base) w w'):aGm w' base L hs :=
 ⟨h.1,fun u l hl=>by obtain ⟨X,c,h1,h2⟩:=h.2 u l hl;exact ⟨X,c,h1,aRq h2 hA (fun k hk h=>by omega)⟩⟩
def aI1 (N:Nat) (w:World) (v:Value) (s:Spc):Prop:=∀ w',Agr (fun k=>k<N) w w'->aCo w' v s
theorem aI1.now {N:Nat} {w:World} {v:Value} {s:Spc} (h:aI1 N w v s):aCo w v s:=h w (Agr.refl _ _)
theorem aI1.lower {N M:Nat} {w:World} {v:Value} {s:Spc} (h:aI1 N w v s) (hM:M<=N):aI1 M w v s:=fun w' hA=>h w' (hA.mono fun _ hk=>Nat.lt_of_lt_of_le hk hM)
theorem aI1.agr {N:Nat} {w w':World} {v:Value} {s:Spc} (h:aI1 N w v s) (hA:Agr (fun k=>k<N) w w'):aI1 N w' v s:=fun w2 h2=>h w2 (hA.trans h2)
theorem aI1.empty (N:Nat) (w:World):aI1 N w (.agg #[.slice none 0 0,.slice none 0 0]) ⟨[],[]⟩:=fun w' _=>aCo.empty w'
theorem bEa {w:World} {base k cE cA:Nat} {RE RA:Option Addr} {es:List Nat} {L:List (List (Nat × Int))} {hs:List Value} (hE:w.ownsRow base 34 1 (.slice RE k cE) k (es.map aF7)) (hA:w.ownsRow base 130 1 (.slice RA k cA) k hs) (hC:aGm w base L hs) :
  aI1 base w (.agg #[.slice RE k cE,.slice RA k cA]) ⟨es,L⟩:=fun _ hg =>
 bH7 (aRq hE hg (fun k hk h=>by omega)) (aRq hA hg (fun k hk h=>by omega)) (hC.agr hg)
def aN1 (r:Spc × Int) (w:World) (e:Ending) (w':World):Prop:=∃ v,e = .returned (.tuple #[v,.int .i64 r.2])/\aI1 w.heap.size w' v r.1/\Bel w w'
theorem aN1.plain {r:Spc × Int} {w:World} {e:Ending} {w':World} (h:aN1 r w e w'):aPt r w e w':=by
 obtain ⟨v,h1,h2,h3⟩:=h;exact ⟨v,h1,h2.now,h3⟩
end Go.Proofs.YtmifhmdghfbalaaGreatDoor

