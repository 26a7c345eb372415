/- Merged. -/
import Derived.Test.YtdcjnhoabbdanaaGreatDoorZ41
set_option linter.unusedSimpArgs false
set_option linter.unnecessarySimpa false
set_option linter.unusedVariables false
set_option maxRecDepth 100000

namespace Go.Proofs.YtdcjnhoabbdanaaGreatDoor
open Go.RowKit
end Go.Proofs.YtdcjnhoabbdanaaGreatDoor

