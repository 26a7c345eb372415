/- Merged. -/
import Derived.Test.YtmoebklkkjbigaaGreatDoorZ46
set_option linter.unusedSimpArgs false
set_option linter.unnecessarySimpa false
set_option linter.unusedVariables false
set_option maxRecDepth 100000
open Go.Proofs.Tryz

namespace Go.Proofs.YtmoebklkkjbigaaGreatDoor
open Go.RowKit
theorem aKe (v:Value) (g:Graph) (b:Bool) (w:World) (h:aB7 w v g) (hT:aDr w) :
  Calls prog 3 #[v,.bool b] w fun e w'=>e = .returned (.bool true)/\Bel w w':=aW5 bJ1 v g b w h hT
end Go.Proofs.YtmoebklkkjbigaaGreatDoor

