/- Merged. -/
import Derived.Test.YtmifhmdghfbalaaGreatDoorZ28
import Derived.Test.YtmifhmdghfbalaaGreatDoorZ26
set_option linter.unusedSimpArgs false
set_option linter.unnecessarySimpa false
set_option linter.unusedVariables false
set_option maxRecDepth 100000

namespace Go.Proofs.YtmifhmdghfbalaaGreatDoor
open Go.RowKit
theorem bH8 {p:Prg} {g:Graph} {c:aA8} {T:Nat} (hm:aCp p g c=0) (h0:T≠0) (hw:aBh T (aCm p g c)=true):aUd p g c T=(aEy p g c T,0):=by
 unfold aUd;rw [if_neg (by simpa using hm),if_neg (by rw [hw];simpa using h0)]
theorem bIp {p:Prg} {g:Graph} {c:aA8} (hm:aCp p g c=0):aCm p g c<4294967296:=aJ4 _ (by have:=aCa hm;have:=(aAe (aBn hm).1).2.1.le;omega)
end Go.Proofs.YtmifhmdghfbalaaGreatDoor

