/- Merged of: W05h (see NOTES.md). -/
import Derived.Test.YtibfjhhadbkkgaaGreatZ09
set_option linter.unusedSimpArgs false
set_option linter.unnecessarySimpa false
set_option linter.unusedVariables false

/- The sanity check of the statements of layer 5. -/
namespace Go.Proofs.YtibfjhhadbkkgaaGreat
open Go.RowKit

def exTerms : List Term := [⟨24, 0⟩, ⟨33, 0⟩, ⟨12, 0⟩, ⟨1, 1⟩]

def RetTerms (es : List Term) (w : World) (e : Ending) (w' : World) : Prop := ∃ A c, e = .returned (.slice A es.length c) ∧ TermsR w' A es.length es ∧ Bel w w'


end Go.Proofs.YtibfjhhadbkkgaaGreat

