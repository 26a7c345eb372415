/- Merged. -/
import Derived.Test.YtdcjnhoabbdanaaGreatDoorZ18
set_option linter.unusedSimpArgs false
set_option linter.unnecessarySimpa false
set_option linter.unusedVariables false
set_option maxRecDepth 100000

namespace Go.Proofs.YtdcjnhoabbdanaaGreatDoor
open Go.RowKit
theorem aB8 {p:Prg} {g:Graph} {c:aA7} (h:aCv p g c=0):aHo p g=0/\aGx (aAz p g) c=true:=by
 unfold aCv at h;split at h
 .rename_i h1;exact absurd h h1
 .rename_i h1
  split at h
  .cases h
  .rename_i h2;exact ⟨by simpa using h1,by simpa using h2⟩
theorem aN7 {p:Prg} {g:Graph} {c:aA7} (h:aCv p g c=0) {v:Nat} (hv:v<c.length):SOK p g c v:=by
 obtain ⟨h1,h2⟩:=aB8 h;refine ⟨h1,h2,?_⟩
 have:=(aCa.1 h2).1;rw [aCf,(aAp h1).2.1.ids] at this;omega
theorem aG7 {g:Graph} {v:Nat} {port:Int}:aG6 g v false port:=fun h=>by cases h
theorem aV7 {p:Prg} (hc:aBq p=0) {r:Rule} (hr:r∈p.rules):(aAt r.guard).ok/\(aAt r.guard).terms=r.guard/\(∀ t∈r.guard,aFx t p.vars.length=true)/\aB1 false (aAt r.guard):=by
 obtain ⟨_,_,_,_,_,h1,h2⟩:=aBi hc;obtain ⟨t1,t2,_,t4,_,_⟩:=aEy (h1 r hr).guard;refine ⟨t1,t2,t4,aOn (kinds:=aBo p) ?_⟩
 have:=h2 r hr;unfold aC1 at this;simp at this
 rw [this.1];omega
end Go.Proofs.YtdcjnhoabbdanaaGreatDoor


