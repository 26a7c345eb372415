/- The sanity check of the statements of layer 5. -/
import Derived.Test.YtnhhedecaejgcaaW05g
namespace Go.Proofs.Ytnhhedecaejgcaa
open Go.RowKit

def exTerms : List Term := [⟨24, 0⟩, ⟨33, 0⟩, ⟨12, 0⟩, ⟨1, 1⟩]

def RetTerms (es : List Term) (w : World) (e : Ending) (w' : World) : Prop := ∃ A c, e = .returned (.slice A es.length c) ∧ TermsR w' A es.length es ∧ Bel w w'


end Go.Proofs.Ytnhhedecaejgcaa
