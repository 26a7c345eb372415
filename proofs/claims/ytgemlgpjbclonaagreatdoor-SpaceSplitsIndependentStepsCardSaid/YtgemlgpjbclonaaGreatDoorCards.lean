/-
  DERIVED. GIVEN WITH THE SEED: THE CARDS: each row of YtgemlgpjbclonaaGreatDoorRows.lean that lists a variable, with what it lists TIED to the program's text (the seventh form; the later family's looks); each row that meets fmt, with fmt's text TOLD by the authors' own Lean function (tested against real Go, not proved from fmt's source: count such statements apart). THE CARD IS WHAT COUNTS. Prove the row's statement (the work); the ties are given (YtgemlgpjbclonaaGreatDoorTie.lean); close each card by the builder's one call (the guide's Derived/Test/ToyasCard.lean, 'card_holds'). Laid BY PROGRAM, IN A SANDBOX (cutbox-door.mjs). By AI agents, Wed Nov 11 2026. No macro, syntax, notation, axiom, sorry.
-/
import Derived.Test.YtgemlgpjbclonaaGreatDoorRows
import GoSem.ClaimSeven
namespace Go.Proofs.YtgemlgpjbclonaaGreatDoor
namespace Rows

/-- THE TIED CARD OF 'selfstablaw18.SpaceBuilds'. -/
def spaceBuildsCard : Claim7 := { stood := { row := spaceBuildsRow, standIns := [], harness := (true, "f519ea5d8e8897d23e8e0a543fe49585896cb98d1b6c62d5edd98970adbbdbaa"), looks := false }, kinds := [], alts := [], laidByText := true, laidKinds := [.data], laidTests := true, laidLooks := .later }
def SpaceBuildsCardSaid : Prop := Claim7.holds Tryz.pinned (.plain (OpenSpec.ofChange spaceBuildsSpec)) spaceBuildsCard

/-- THE TIED CARD OF 'selfstablaw18.SpaceHasLimits'. -/
def spaceHasLimitsCard : Claim7 := { stood := { row := spaceHasLimitsRow, standIns := [], harness := (true, "f519ea5d8e8897d23e8e0a543fe49585896cb98d1b6c62d5edd98970adbbdbaa"), looks := false }, kinds := [], alts := [], laidByText := true, laidKinds := [.data], laidTests := true, laidLooks := .later }
def SpaceHasLimitsCardSaid : Prop := Claim7.holds Tryz.pinned (.plain (OpenSpec.ofChange spaceHasLimitsSpec)) spaceHasLimitsCard

/-- THE TIED CARD OF 'selfstablaw18.SpaceIsMadeOfSteps'. -/
def spaceIsMadeOfStepsCard : Claim7 := { stood := { row := spaceIsMadeOfStepsRow, standIns := [], harness := (true, "f519ea5d8e8897d23e8e0a543fe49585896cb98d1b6c62d5edd98970adbbdbaa"), looks := false }, kinds := [], alts := [], laidByText := true, laidKinds := [.data], laidTests := true, laidLooks := .later }
def SpaceIsMadeOfStepsCardSaid : Prop := Claim7.holds Tryz.pinned (.plain (OpenSpec.ofChange spaceIsMadeOfStepsSpec)) spaceIsMadeOfStepsCard

/-- THE TIED CARD OF 'selfstablaw18.SpaceGrowsWithTheDaemon'. -/
def spaceGrowsWithTheDaemonCard : Claim7 := { stood := { row := spaceGrowsWithTheDaemonRow, standIns := [], harness := (true, "f519ea5d8e8897d23e8e0a543fe49585896cb98d1b6c62d5edd98970adbbdbaa"), looks := false }, kinds := [], alts := [], laidByText := true, laidKinds := [.data], laidTests := true, laidLooks := .later }
def SpaceGrowsWithTheDaemonCardSaid : Prop := Claim7.holds Tryz.pinned (.plain (OpenSpec.ofChange spaceGrowsWithTheDaemonSpec)) spaceGrowsWithTheDaemonCard

/-- THE TIED CARD OF 'selfstablaw18.SpaceOfSynchronousRuns'. -/
def spaceOfSynchronousRunsCard : Claim7 := { stood := { row := spaceOfSynchronousRunsRow, standIns := [], harness := (true, "f519ea5d8e8897d23e8e0a543fe49585896cb98d1b6c62d5edd98970adbbdbaa"), looks := false }, kinds := [], alts := [], laidByText := true, laidKinds := [.data], laidTests := true, laidLooks := .later }
def SpaceOfSynchronousRunsCardSaid : Prop := Claim7.holds Tryz.pinned (.plain (OpenSpec.ofChange spaceOfSynchronousRunsSpec)) spaceOfSynchronousRunsCard

/-- THE TIED CARD OF 'selfstablaw18.SpaceSplitsIndependentSteps'. -/
def spaceSplitsIndependentStepsCard : Claim7 := { stood := { row := spaceSplitsIndependentStepsRow, standIns := [], harness := (true, "f519ea5d8e8897d23e8e0a543fe49585896cb98d1b6c62d5edd98970adbbdbaa"), looks := false }, kinds := [], alts := [], laidByText := true, laidKinds := [.data], laidTests := true, laidLooks := .later }
def SpaceSplitsIndependentStepsCardSaid : Prop := Claim7.holds Tryz.pinned (.plain (OpenSpec.ofChange spaceSplitsIndependentStepsSpec)) spaceSplitsIndependentStepsCard

/-- THE SECOND FORM's CARD OF 'selfstablaw18.SpaceBuilds'. -/
def spaceBuildsUptoCard : Claim7 := { stood := { row := spaceBuildsUptoRow, standIns := [], harness := (true, "f519ea5d8e8897d23e8e0a543fe49585896cb98d1b6c62d5edd98970adbbdbaa"), looks := false }, kinds := [], alts := [], laidByText := true, laidKinds := [.data], laidTests := true, laidLooks := .later }
def SpaceBuildsUptoCardSaid : Prop := Claim7.holds Tryz.pinned (.plain (OpenSpec.upto spaceBuildsSpec)) spaceBuildsUptoCard

/-- THE SECOND FORM's CARD OF 'selfstablaw18.SpaceHasLimits'. -/
def spaceHasLimitsUptoCard : Claim7 := { stood := { row := spaceHasLimitsUptoRow, standIns := [], harness := (true, "f519ea5d8e8897d23e8e0a543fe49585896cb98d1b6c62d5edd98970adbbdbaa"), looks := false }, kinds := [], alts := [], laidByText := true, laidKinds := [.data], laidTests := true, laidLooks := .later }
def SpaceHasLimitsUptoCardSaid : Prop := Claim7.holds Tryz.pinned (.plain (OpenSpec.upto spaceHasLimitsSpec)) spaceHasLimitsUptoCard

/-- THE SECOND FORM's CARD OF 'selfstablaw18.SpaceIsMadeOfSteps'. -/
def spaceIsMadeOfStepsUptoCard : Claim7 := { stood := { row := spaceIsMadeOfStepsUptoRow, standIns := [], harness := (true, "f519ea5d8e8897d23e8e0a543fe49585896cb98d1b6c62d5edd98970adbbdbaa"), looks := false }, kinds := [], alts := [], laidByText := true, laidKinds := [.data], laidTests := true, laidLooks := .later }
def SpaceIsMadeOfStepsUptoCardSaid : Prop := Claim7.holds Tryz.pinned (.plain (OpenSpec.upto spaceIsMadeOfStepsSpec)) spaceIsMadeOfStepsUptoCard

/-- THE SECOND FORM's CARD OF 'selfstablaw18.SpaceGrowsWithTheDaemon'. -/
def spaceGrowsWithTheDaemonUptoCard : Claim7 := { stood := { row := spaceGrowsWithTheDaemonUptoRow, standIns := [], harness := (true, "f519ea5d8e8897d23e8e0a543fe49585896cb98d1b6c62d5edd98970adbbdbaa"), looks := false }, kinds := [], alts := [], laidByText := true, laidKinds := [.data], laidTests := true, laidLooks := .later }
def SpaceGrowsWithTheDaemonUptoCardSaid : Prop := Claim7.holds Tryz.pinned (.plain (OpenSpec.upto spaceGrowsWithTheDaemonSpec)) spaceGrowsWithTheDaemonUptoCard

/-- THE SECOND FORM's CARD OF 'selfstablaw18.SpaceOfSynchronousRuns'. -/
def spaceOfSynchronousRunsUptoCard : Claim7 := { stood := { row := spaceOfSynchronousRunsUptoRow, standIns := [], harness := (true, "f519ea5d8e8897d23e8e0a543fe49585896cb98d1b6c62d5edd98970adbbdbaa"), looks := false }, kinds := [], alts := [], laidByText := true, laidKinds := [.data], laidTests := true, laidLooks := .later }
def SpaceOfSynchronousRunsUptoCardSaid : Prop := Claim7.holds Tryz.pinned (.plain (OpenSpec.upto spaceOfSynchronousRunsSpec)) spaceOfSynchronousRunsUptoCard

/-- THE SECOND FORM's CARD OF 'selfstablaw18.SpaceSplitsIndependentSteps'. -/
def spaceSplitsIndependentStepsUptoCard : Claim7 := { stood := { row := spaceSplitsIndependentStepsUptoRow, standIns := [], harness := (true, "f519ea5d8e8897d23e8e0a543fe49585896cb98d1b6c62d5edd98970adbbdbaa"), looks := false }, kinds := [], alts := [], laidByText := true, laidKinds := [.data], laidTests := true, laidLooks := .later }
def SpaceSplitsIndependentStepsUptoCardSaid : Prop := Claim7.holds Tryz.pinned (.plain (OpenSpec.upto spaceSplitsIndependentStepsSpec)) spaceSplitsIndependentStepsUptoCard
end Rows
end Go.Proofs.YtgemlgpjbclonaaGreatDoor
