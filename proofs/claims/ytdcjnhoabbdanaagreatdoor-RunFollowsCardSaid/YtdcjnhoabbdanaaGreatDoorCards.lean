/-
  DERIVED. GIVEN WITH THE SEED: THE CARDS: each row of YtdcjnhoabbdanaaGreatDoorRows.lean that lists a variable, with what it lists TIED to the program's text (the seventh form; the later family's looks); each row that meets fmt, with fmt's text TOLD by the authors' own Lean function (tested against real Go, not proved from fmt's source: count such statements apart). THE CARD IS WHAT COUNTS. Prove the row's statement (the work); the ties are given (YtdcjnhoabbdanaaGreatDoorTie.lean); close each card by the builder's one call (the guide's Derived/Test/ToyasCard.lean, 'card_holds'). Laid BY PROGRAM, IN A SANDBOX (cutbox-door.mjs). By AI agents, Wed Nov 11 2026. No macro, syntax, notation, axiom, sorry.
-/
import Derived.Test.YtdcjnhoabbdanaaGreatDoorRows
import GoSem.ClaimSeven
namespace Go.Proofs.YtdcjnhoabbdanaaGreatDoor
namespace Rows

/-- THE TIED CARD OF 'selfstablaw17.RunPlays'. -/
def runPlaysCard : Claim7 := { stood := { row := runPlaysRow, standIns := [], harness := (true, "f0621298a631c807a41e7c52d9899da3d55fc45db0e18056958f5c1218c33bbc"), looks := false }, kinds := [], alts := [], laidByText := true, laidKinds := [.data], laidTests := true, laidLooks := .later }
def RunPlaysCardSaid : Prop := Claim7.holds Tryz.pinned (.plain (OpenSpec.ofChange runPlaysSpec)) runPlaysCard

/-- THE TIED CARD OF 'selfstablaw17.RunFollowsPermitted'. -/
def runFollowsPermittedCard : Claim7 := { stood := { row := runFollowsPermittedRow, standIns := [], harness := (true, "f0621298a631c807a41e7c52d9899da3d55fc45db0e18056958f5c1218c33bbc"), looks := false }, kinds := [], alts := [], laidByText := true, laidKinds := [.data], laidTests := true, laidLooks := .later }
def RunFollowsPermittedCardSaid : Prop := Claim7.holds Tryz.pinned (.plain (OpenSpec.ofChange runFollowsPermittedSpec)) runFollowsPermittedCard

/-- THE TIED CARD OF 'selfstablaw17.RunCanBeCut'. -/
def runCanBeCutCard : Claim7 := { stood := { row := runCanBeCutRow, standIns := [], harness := (true, "f0621298a631c807a41e7c52d9899da3d55fc45db0e18056958f5c1218c33bbc"), looks := false }, kinds := [], alts := [], laidByText := true, laidKinds := [.data], laidTests := true, laidLooks := .later }
def RunCanBeCutCardSaid : Prop := Claim7.holds Tryz.pinned (.plain (OpenSpec.ofChange runCanBeCutSpec)) runCanBeCutCard

/-- THE TIED CARD OF 'selfstablaw17.RunAllowsWeakerDaemons'. -/
def runAllowsWeakerDaemonsCard : Claim7 := { stood := { row := runAllowsWeakerDaemonsRow, standIns := [], harness := (true, "f0621298a631c807a41e7c52d9899da3d55fc45db0e18056958f5c1218c33bbc"), looks := false }, kinds := [], alts := [], laidByText := true, laidKinds := [.data], laidTests := true, laidLooks := .later }
def RunAllowsWeakerDaemonsCardSaid : Prop := Claim7.holds Tryz.pinned (.plain (OpenSpec.ofChange runAllowsWeakerDaemonsSpec)) runAllowsWeakerDaemonsCard

/-- THE TIED CARD OF 'selfstablaw17.RunFollows'. -/
def runFollowsCard : Claim7 := { stood := { row := runFollowsRow, standIns := [], harness := (true, "f0621298a631c807a41e7c52d9899da3d55fc45db0e18056958f5c1218c33bbc"), looks := false }, kinds := [], alts := [], laidByText := true, laidKinds := [.data], laidTests := true, laidLooks := .later }
def RunFollowsCardSaid : Prop := Claim7.holds Tryz.pinned (.plain (OpenSpec.ofChange runFollowsSpec)) runFollowsCard

/-- THE TIED CARD OF 'selfstablaw17.RunIsWatched'. -/
def runIsWatchedCard : Claim7 := { stood := { row := runIsWatchedRow, standIns := [], harness := (true, "f0621298a631c807a41e7c52d9899da3d55fc45db0e18056958f5c1218c33bbc"), looks := false }, kinds := [], alts := [], laidByText := true, laidKinds := [.data], laidTests := true, laidLooks := .later }
def RunIsWatchedCardSaid : Prop := Claim7.holds Tryz.pinned (.plain (OpenSpec.ofChange runIsWatchedSpec)) runIsWatchedCard

/-- THE TIED CARD OF 'selfstablaw17.RunLoops'. -/
def runLoopsCard : Claim7 := { stood := { row := runLoopsRow, standIns := [], harness := (true, "f0621298a631c807a41e7c52d9899da3d55fc45db0e18056958f5c1218c33bbc"), looks := false }, kinds := [], alts := [], laidByText := true, laidKinds := [.data], laidTests := true, laidLooks := .later }
def RunLoopsCardSaid : Prop := Claim7.holds Tryz.pinned (.plain (OpenSpec.ofChange runLoopsSpec)) runLoopsCard

/-- THE TIED CARD OF 'selfstablaw17.RunOfSynchronousLassosIsFair'. -/
def runOfSynchronousLassosIsFairCard : Claim7 := { stood := { row := runOfSynchronousLassosIsFairRow, standIns := [], harness := (true, "f0621298a631c807a41e7c52d9899da3d55fc45db0e18056958f5c1218c33bbc"), looks := false }, kinds := [], alts := [], laidByText := true, laidKinds := [.data], laidTests := true, laidLooks := .later }
def RunOfSynchronousLassosIsFairCardSaid : Prop := Claim7.holds Tryz.pinned (.plain (OpenSpec.ofChange runOfSynchronousLassosIsFairSpec)) runOfSynchronousLassosIsFairCard

/-- THE SECOND FORM's CARD OF 'selfstablaw17.RunPlays'. -/
def runPlaysUptoCard : Claim7 := { stood := { row := runPlaysUptoRow, standIns := [], harness := (true, "f0621298a631c807a41e7c52d9899da3d55fc45db0e18056958f5c1218c33bbc"), looks := false }, kinds := [], alts := [], laidByText := true, laidKinds := [.data], laidTests := true, laidLooks := .later }
def RunPlaysUptoCardSaid : Prop := Claim7.holds Tryz.pinned (.plain (OpenSpec.upto runPlaysSpec)) runPlaysUptoCard

/-- THE SECOND FORM's CARD OF 'selfstablaw17.RunFollowsPermitted'. -/
def runFollowsPermittedUptoCard : Claim7 := { stood := { row := runFollowsPermittedUptoRow, standIns := [], harness := (true, "f0621298a631c807a41e7c52d9899da3d55fc45db0e18056958f5c1218c33bbc"), looks := false }, kinds := [], alts := [], laidByText := true, laidKinds := [.data], laidTests := true, laidLooks := .later }
def RunFollowsPermittedUptoCardSaid : Prop := Claim7.holds Tryz.pinned (.plain (OpenSpec.upto runFollowsPermittedSpec)) runFollowsPermittedUptoCard

/-- THE SECOND FORM's CARD OF 'selfstablaw17.RunCanBeCut'. -/
def runCanBeCutUptoCard : Claim7 := { stood := { row := runCanBeCutUptoRow, standIns := [], harness := (true, "f0621298a631c807a41e7c52d9899da3d55fc45db0e18056958f5c1218c33bbc"), looks := false }, kinds := [], alts := [], laidByText := true, laidKinds := [.data], laidTests := true, laidLooks := .later }
def RunCanBeCutUptoCardSaid : Prop := Claim7.holds Tryz.pinned (.plain (OpenSpec.upto runCanBeCutSpec)) runCanBeCutUptoCard

/-- THE SECOND FORM's CARD OF 'selfstablaw17.RunAllowsWeakerDaemons'. -/
def runAllowsWeakerDaemonsUptoCard : Claim7 := { stood := { row := runAllowsWeakerDaemonsUptoRow, standIns := [], harness := (true, "f0621298a631c807a41e7c52d9899da3d55fc45db0e18056958f5c1218c33bbc"), looks := false }, kinds := [], alts := [], laidByText := true, laidKinds := [.data], laidTests := true, laidLooks := .later }
def RunAllowsWeakerDaemonsUptoCardSaid : Prop := Claim7.holds Tryz.pinned (.plain (OpenSpec.upto runAllowsWeakerDaemonsSpec)) runAllowsWeakerDaemonsUptoCard

/-- THE SECOND FORM's CARD OF 'selfstablaw17.RunFollows'. -/
def runFollowsUptoCard : Claim7 := { stood := { row := runFollowsUptoRow, standIns := [], harness := (true, "f0621298a631c807a41e7c52d9899da3d55fc45db0e18056958f5c1218c33bbc"), looks := false }, kinds := [], alts := [], laidByText := true, laidKinds := [.data], laidTests := true, laidLooks := .later }
def RunFollowsUptoCardSaid : Prop := Claim7.holds Tryz.pinned (.plain (OpenSpec.upto runFollowsSpec)) runFollowsUptoCard

/-- THE SECOND FORM's CARD OF 'selfstablaw17.RunIsWatched'. -/
def runIsWatchedUptoCard : Claim7 := { stood := { row := runIsWatchedUptoRow, standIns := [], harness := (true, "f0621298a631c807a41e7c52d9899da3d55fc45db0e18056958f5c1218c33bbc"), looks := false }, kinds := [], alts := [], laidByText := true, laidKinds := [.data], laidTests := true, laidLooks := .later }
def RunIsWatchedUptoCardSaid : Prop := Claim7.holds Tryz.pinned (.plain (OpenSpec.upto runIsWatchedSpec)) runIsWatchedUptoCard

/-- THE SECOND FORM's CARD OF 'selfstablaw17.RunLoops'. -/
def runLoopsUptoCard : Claim7 := { stood := { row := runLoopsUptoRow, standIns := [], harness := (true, "f0621298a631c807a41e7c52d9899da3d55fc45db0e18056958f5c1218c33bbc"), looks := false }, kinds := [], alts := [], laidByText := true, laidKinds := [.data], laidTests := true, laidLooks := .later }
def RunLoopsUptoCardSaid : Prop := Claim7.holds Tryz.pinned (.plain (OpenSpec.upto runLoopsSpec)) runLoopsUptoCard

/-- THE SECOND FORM's CARD OF 'selfstablaw17.RunOfSynchronousLassosIsFair'. -/
def runOfSynchronousLassosIsFairUptoCard : Claim7 := { stood := { row := runOfSynchronousLassosIsFairUptoRow, standIns := [], harness := (true, "f0621298a631c807a41e7c52d9899da3d55fc45db0e18056958f5c1218c33bbc"), looks := false }, kinds := [], alts := [], laidByText := true, laidKinds := [.data], laidTests := true, laidLooks := .later }
def RunOfSynchronousLassosIsFairUptoCardSaid : Prop := Claim7.holds Tryz.pinned (.plain (OpenSpec.upto runOfSynchronousLassosIsFairSpec)) runOfSynchronousLassosIsFairUptoCard
end Rows
end Go.Proofs.YtdcjnhoabbdanaaGreatDoor
