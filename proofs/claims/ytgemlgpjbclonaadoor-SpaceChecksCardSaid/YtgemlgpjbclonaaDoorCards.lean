/-
  DERIVED. GIVEN WITH THE SEED: THE CARDS: each row of YtgemlgpjbclonaaDoorRows.lean that lists a variable, with what it lists TIED to the program's text (the seventh form; the later family's looks); each row that meets fmt, with fmt's text TOLD by the authors' own Lean function (tested against real Go, not proved from fmt's source: count such statements apart). THE CARD IS WHAT COUNTS. Prove the row's statement (the work); the ties are given (YtgemlgpjbclonaaDoorTie.lean); close each card by the builder's one call (the guide's Derived/Test/ToyasCard.lean, 'card_holds'). Laid BY PROGRAM, IN A SANDBOX (cutbox-door.mjs). By AI agents, Wed Nov 11 2026. No macro, syntax, notation, axiom, sorry.
-/
import Derived.Test.YtgemlgpjbclonaaDoorRows
import GoSem.ClaimSeven
namespace Go.Proofs.YtgemlgpjbclonaaDoor
namespace Rows

/-- THE TIED CARD OF 'selfstablaw18.SpaceChecks'. -/
def spaceChecksCard : Claim7 := { stood := { row := spaceChecksRow, standIns := [], harness := (true, "c1695356b8df2dae73079db3c77ae8722c9219887662304edb36c62cde8e7c44"), looks := false }, kinds := [], alts := [], laidByText := true, laidKinds := [.data], laidTests := true, laidLooks := .later }
def SpaceChecksCardSaid : Prop := Claim7.holds Tryd.pinned (.plain (OpenSpec.ofChange spaceChecksSpec)) spaceChecksCard

/-- THE SECOND FORM's CARD OF 'selfstablaw18.SpaceChecks'. -/
def spaceChecksUptoCard : Claim7 := { stood := { row := spaceChecksUptoRow, standIns := [], harness := (true, "c1695356b8df2dae73079db3c77ae8722c9219887662304edb36c62cde8e7c44"), looks := false }, kinds := [], alts := [], laidByText := true, laidKinds := [.data], laidTests := true, laidLooks := .later }
def SpaceChecksUptoCardSaid : Prop := Claim7.holds Tryd.pinned (.plain (OpenSpec.upto spaceChecksSpec)) spaceChecksUptoCard
end Rows
end Go.Proofs.YtgemlgpjbclonaaDoor
