/- Merged. -/
import Derived.Test.YtmoebklkkjbigaaGreatDoorZ51
import Derived.Test.YtmoebklkkjbigaaGreatDoorZ49
set_option linter.unusedSimpArgs false
set_option linter.unnecessarySimpa false
set_option linter.unusedVariables false
set_option maxRecDepth 100000
open Go.Proofs.Tryz

namespace Go.Proofs.YtmoebklkkjbigaaGreatDoor
open Go.RowKit
theorem bAr:aSl:=by
 intro g hg h4
 rw [bPt];have h16:2 ^ g.ports.length<=16:=Nat.le_trans (Nat.pow_le_pow_right (n:=2) (by decide) h4) (by decide)
 exact ⟨fun kind hk=>⟨fun _=>⟨by rw [aH5 hg];omega,by omega⟩,aUs hg h4 hk⟩,aY7 hg h4⟩
theorem aIk (v:Value) (g:Graph) (b:Bool) (w:World) (h:aB2 w v g) (hT:aDl w) :
  Calls prog 4 #[v,.bool b] w fun e w'=>e = .returned (.bool true)/\Bel w w':=aRy bAr v g b w h hT
end Go.Proofs.YtmoebklkkjbigaaGreatDoor

