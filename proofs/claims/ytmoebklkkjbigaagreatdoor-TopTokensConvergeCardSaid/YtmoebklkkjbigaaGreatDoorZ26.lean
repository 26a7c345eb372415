/- Merged. -/
import Derived.Test.YtmoebklkkjbigaaGreatDoorZ25
set_option linter.unusedSimpArgs false
set_option linter.unnecessarySimpa false
set_option linter.unusedVariables false
set_option maxRecDepth 100000

namespace Go.Proofs.YtmoebklkkjbigaaGreatDoor
open Go.RowKit
theorem Agr.grownV {A B:World} {row:Option Nat} {E:Nat->Prop} (h:A.grownBy B row) (hE:∀ k,some k=row->E k):Agr E A B :=
 ⟨h.os,h.tape,h.output,h.size,fun k hk hn=>h.block k hk (fun e=>hn (hE k e))⟩
theorem aBi {E:Nat->Prop} {A B:World} {base e size n:Nat} {v:Value} {xs:List Value} (h:A.ownsRow base e size v n xs) (hA:Agr E A B) (hE:∀ k,v.ownBlock=some k->¬ E k):B.ownsRow base e size v n xs:=by
 obtain ⟨Ad,c,rfl⟩:=aRf h
 rcases h.2 with ⟨hv,h0⟩ | ⟨g,cap,cur,hv,_⟩
 .rw [hv];subst h0;exact ⟨h.1,.inl ⟨rfl,rfl⟩⟩
 .injection hv with hAd hc
  subst hAd;exact aH7 h hA (hE g rfl)
end Go.Proofs.YtmoebklkkjbigaaGreatDoor

