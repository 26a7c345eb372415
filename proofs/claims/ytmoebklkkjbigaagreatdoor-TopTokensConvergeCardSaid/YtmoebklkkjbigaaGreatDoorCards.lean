/-
  DERIVED. GIVEN WITH THE SEED: THE CARDS: each row of YtmoebklkkjbigaaGreatDoorRows.lean that lists a variable, with what it lists TIED to the program's text (the seventh form; the later family's looks); each row that meets fmt, with fmt's text TOLD by the authors' own Lean function (tested against real Go, not proved from fmt's source: count such statements apart). THE CARD IS WHAT COUNTS. Prove the row's statement (the work); the ties are given (YtmoebklkkjbigaaGreatDoorTie.lean); close each card by the builder's one call (the guide's Derived/Test/ToyasCard.lean, 'card_holds'). Laid BY PROGRAM, IN A SANDBOX (cutbox-door.mjs). By AI agents, Wed Nov 11 2026. No macro, syntax, notation, axiom, sorry.
-/
import Derived.Test.YtmoebklkkjbigaaGreatDoorRows
import GoSem.ClaimSeven
namespace Go.Proofs.YtmoebklkkjbigaaGreatDoor
namespace Rows

/-- THE TIED CARD OF 'selfstabtop.TopPairsConverge'. -/
def topPairsConvergeCard : Claim7 := { stood := { row := topPairsConvergeRow, standIns := [], harness := (true, "06e7ff8074f2683ce327b061bf2bf84e0c041d9016ceb090846c39195a7719fc"), looks := true }, kinds := [], alts := [], laidByText := true, laidKinds := [.data], laidTests := true, laidLooks := .later }
def TopPairsConvergeCardSaid : Prop := Claim7.holds Tryz.pinned (.plain (OpenSpec.ofChange topPairsConvergeSpec)) topPairsConvergeCard

/-- THE TIED CARD OF 'selfstabtop.TopMembersConverge'. -/
def topMembersConvergeCard : Claim7 := { stood := { row := topMembersConvergeRow, standIns := [], harness := (true, "06e7ff8074f2683ce327b061bf2bf84e0c041d9016ceb090846c39195a7719fc"), looks := true }, kinds := [], alts := [], laidByText := true, laidKinds := [.data], laidTests := true, laidLooks := .later }
def TopMembersConvergeCardSaid : Prop := Claim7.holds Tryz.pinned (.plain (OpenSpec.ofChange topMembersConvergeSpec)) topMembersConvergeCard

/-- THE TIED CARD OF 'selfstabtop.TopTokensConverge'. -/
def topTokensConvergeCard : Claim7 := { stood := { row := topTokensConvergeRow, standIns := [], harness := (true, "06e7ff8074f2683ce327b061bf2bf84e0c041d9016ceb090846c39195a7719fc"), looks := true }, kinds := [], alts := [], laidByText := true, laidKinds := [.data], laidTests := true, laidLooks := .later }
def TopTokensConvergeCardSaid : Prop := Claim7.holds Tryz.pinned (.plain (OpenSpec.ofChange topTokensConvergeSpec)) topTokensConvergeCard

/-- THE SECOND FORM's CARD OF 'selfstabtop.TopPairsConverge'. -/
def topPairsConvergeUptoCard : Claim7 := { stood := { row := topPairsConvergeUptoRow, standIns := [], harness := (true, "06e7ff8074f2683ce327b061bf2bf84e0c041d9016ceb090846c39195a7719fc"), looks := true }, kinds := [], alts := [], laidByText := true, laidKinds := [.data], laidTests := true, laidLooks := .later }
def TopPairsConvergeUptoCardSaid : Prop := Claim7.holds Tryz.pinned (.plain (OpenSpec.upto topPairsConvergeSpec)) topPairsConvergeUptoCard

/-- THE SECOND FORM's CARD OF 'selfstabtop.TopMembersConverge'. -/
def topMembersConvergeUptoCard : Claim7 := { stood := { row := topMembersConvergeUptoRow, standIns := [], harness := (true, "06e7ff8074f2683ce327b061bf2bf84e0c041d9016ceb090846c39195a7719fc"), looks := true }, kinds := [], alts := [], laidByText := true, laidKinds := [.data], laidTests := true, laidLooks := .later }
def TopMembersConvergeUptoCardSaid : Prop := Claim7.holds Tryz.pinned (.plain (OpenSpec.upto topMembersConvergeSpec)) topMembersConvergeUptoCard

/-- THE SECOND FORM's CARD OF 'selfstabtop.TopTokensConverge'. -/
def topTokensConvergeUptoCard : Claim7 := { stood := { row := topTokensConvergeUptoRow, standIns := [], harness := (true, "06e7ff8074f2683ce327b061bf2bf84e0c041d9016ceb090846c39195a7719fc"), looks := true }, kinds := [], alts := [], laidByText := true, laidKinds := [.data], laidTests := true, laidLooks := .later }
def TopTokensConvergeUptoCardSaid : Prop := Claim7.holds Tryz.pinned (.plain (OpenSpec.upto topTokensConvergeSpec)) topTokensConvergeUptoCard
end Rows
end Go.Proofs.YtmoebklkkjbigaaGreatDoor
