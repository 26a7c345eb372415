/- Merged of: L05c (see NOTES.md). -/
import Derived.Test.YtibfjhhadbkkgaaGreatYW05h
import Derived.Test.YtibfjhhadbkkgaaGreatZ04
import Derived.Test.YtibfjhhadbkkgaaGreatZ02
set_option linter.unusedSimpArgs false
set_option linter.unnecessarySimpa false
set_option linter.unusedVariables false

/- The walk of TermPartsAreValid. -/
namespace Go.Proofs.YtibfjhhadbkkgaaGreat
open Go.RowKit

theorem term_info : (Tryz.prog.info? 90).map (fun i => (i.zero, i.size, i.bytes)) = some (some (.agg #[.int .i64 0, .int .i64 0]), 2, 16) := by kernel_rfl


end Go.Proofs.YtibfjhhadbkkgaaGreat

