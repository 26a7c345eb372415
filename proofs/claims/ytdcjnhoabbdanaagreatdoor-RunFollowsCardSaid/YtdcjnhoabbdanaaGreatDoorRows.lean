/-
  NARROWER THAN 'FOR EVERY INPUT', by the rows' own cells (each row's printed sentence says how): RunPlays: laid · RunFollowsPermitted: laid · RunCanBeCut: laid · RunAllowsWeakerDaemons: laid · RunFollows: laid · RunIsWatched: laid · RunLoops: laid · RunOfSynchronousLassosIsFair: laid.
  DERIVED. THE GIVEN ROWS OF THIS SEAT. 8 by the template 'for every input the law returns true; each argument reads behind the call as it read before'; 0 by the template 'total and deterministic' (their statements: YtdcjnhoabbdanaaGreatDoorTotals.lean).
  GIVEN WITH THE SEED: the statements are not yours to turn. If you find one false, say at which input.
  Laid BY PROGRAM, IN A SANDBOX (cutbox-rows.mjs): the forced cells as the released guide's own fill.sh prints them over the translation bba816472b7b3a46… (all of the seat's roots in one cut). By AI agents, Wed Nov 11 2026. No macro, syntax, notation, axiom, sorry.
-/
import Derived.Test.YtdcjnhoabbdanaaGreatDoorChecked
import GoSem.Claim
import GoSem.ClaimJoined
import GoSem.ClaimMapViews
import Derived.JoinedTies
import Derived.KernelRfl
namespace Go.Proofs.YtdcjnhoabbdanaaGreatDoor
/- THE CELL 'sum', in the pinned program and in every row, IS THE sha256 OF THE DUMP (.gsa) THAT YtdcjnhoabbdanaaGreatDoorProg.lean LOADS. Nothing in Lean hashes anything: it is a label: what it is worth is what the hold of that sum in a sandbox is worth. -/
noncomputable def Tryz.pinned : Pinned := { name := "ytdcjnhoabbdanaagreatdoor", sum := "bba816472b7b3a46c81d94dd7c320f029db6171fc183d157385d7e67f5aa4e33", checked := Tryz.checked }
namespace Rows
def none {H : Type} : Left H := { results := [], args := [] }

/- WHAT THE LISTED PACKAGE-LEVEL VARIABLES READ AS WHEN THE CALL BEGINS. Each datum BY PROGRAM (the guide's laid-datum.mjs) off the statement by which the dump's own 'gosem.cut.vars' lays the variable. In a bare row this is a premise. The card (YtdcjnhoabbdanaaGreatDoorCards.lean) ties it to the program's text. -/
def laid_math_bits_deBruijn32tab {H : Type} : DataW H := .agg [.lit (.int .u8 0), .lit (.int .u8 1), .lit (.int .u8 28), .lit (.int .u8 2), .lit (.int .u8 29), .lit (.int .u8 14), .lit (.int .u8 24), .lit (.int .u8 3), .lit (.int .u8 30), .lit (.int .u8 22), .lit (.int .u8 20), .lit (.int .u8 15), .lit (.int .u8 25), .lit (.int .u8 17), .lit (.int .u8 4), .lit (.int .u8 8), .lit (.int .u8 31), .lit (.int .u8 27), .lit (.int .u8 13), .lit (.int .u8 23), .lit (.int .u8 21), .lit (.int .u8 19), .lit (.int .u8 16), .lit (.int .u8 7), .lit (.int .u8 26), .lit (.int .u8 12), .lit (.int .u8 18), .lit (.int .u8 6), .lit (.int .u8 11), .lit (.int .u8 5), .lit (.int .u8 10), .lit (.int .u8 9)]

/-- 'selfstablaw17.RunPlays': WHATEVER THE INPUT: true; the input reads as it did. -/
def runPlaysSpec : ChangeSpec := { name := "runPlays", fn := fun _ => fun
  | [d1, d2, d3, d4, d5] => { results := [.lit (.bool true)], args := [d1, d2, d3, d4, d5] }
  | _ => none }
def runPlaysRow : OpenClaim := { program := "ytdcjnhoabbdanaagreatdoor", sum := "bba816472b7b3a46c81d94dd7c320f029db6171fc183d157385d7e67f5aa4e33", func := "selfstab/selfstablaw17.RunPlays", spec := "runPlays", unfollowed := true, recurses := true, named := ["math/bits.deBruijn32tab"], plainKeys := false, apart := false, laid := [("math/bits.deBruijn32tab", laid_math_bits_deBruijn32tab)] }
def RunPlaysSaid : Prop := runPlaysRow.holds Tryz.pinned (OpenSpec.ofChange runPlaysSpec)

/-- ITS FALSE NEIGHBOUR: 'it returns false'. Refute it at one input. -/
def runPlaysWrong : ChangeSpec := { name := "runPlays", fn := fun _ => fun
  | [d1, d2, d3, d4, d5] => { results := [.lit (.bool false)], args := [d1, d2, d3, d4, d5] }
  | _ => none }
def RunPlaysWrongFalsely : Prop := runPlaysRow.holds Tryz.pinned (OpenSpec.ofChange runPlaysWrong)

/-- 'selfstablaw17.RunFollowsPermitted': WHATEVER THE INPUT: true; the input reads as it did. -/
def runFollowsPermittedSpec : ChangeSpec := { name := "runFollowsPermitted", fn := fun _ => fun
  | [d1, d2, d3, d4, d5] => { results := [.lit (.bool true)], args := [d1, d2, d3, d4, d5] }
  | _ => none }
def runFollowsPermittedRow : OpenClaim := { program := "ytdcjnhoabbdanaagreatdoor", sum := "bba816472b7b3a46c81d94dd7c320f029db6171fc183d157385d7e67f5aa4e33", func := "selfstab/selfstablaw17.RunFollowsPermitted", spec := "runFollowsPermitted", unfollowed := true, recurses := true, named := ["math/bits.deBruijn32tab"], plainKeys := false, apart := false, laid := [("math/bits.deBruijn32tab", laid_math_bits_deBruijn32tab)] }
def RunFollowsPermittedSaid : Prop := runFollowsPermittedRow.holds Tryz.pinned (OpenSpec.ofChange runFollowsPermittedSpec)

/-- ITS FALSE NEIGHBOUR: 'it returns false'. Refute it at one input. -/
def runFollowsPermittedWrong : ChangeSpec := { name := "runFollowsPermitted", fn := fun _ => fun
  | [d1, d2, d3, d4, d5] => { results := [.lit (.bool false)], args := [d1, d2, d3, d4, d5] }
  | _ => none }
def RunFollowsPermittedWrongFalsely : Prop := runFollowsPermittedRow.holds Tryz.pinned (OpenSpec.ofChange runFollowsPermittedWrong)

/-- 'selfstablaw17.RunCanBeCut': WHATEVER THE INPUT: true; the input reads as it did. -/
def runCanBeCutSpec : ChangeSpec := { name := "runCanBeCut", fn := fun _ => fun
  | [d1, d2, d3, d4, d5, d6] => { results := [.lit (.bool true)], args := [d1, d2, d3, d4, d5, d6] }
  | _ => none }
def runCanBeCutRow : OpenClaim := { program := "ytdcjnhoabbdanaagreatdoor", sum := "bba816472b7b3a46c81d94dd7c320f029db6171fc183d157385d7e67f5aa4e33", func := "selfstab/selfstablaw17.RunCanBeCut", spec := "runCanBeCut", unfollowed := true, recurses := true, named := ["math/bits.deBruijn32tab"], plainKeys := false, apart := false, laid := [("math/bits.deBruijn32tab", laid_math_bits_deBruijn32tab)] }
def RunCanBeCutSaid : Prop := runCanBeCutRow.holds Tryz.pinned (OpenSpec.ofChange runCanBeCutSpec)

/-- ITS FALSE NEIGHBOUR: 'it returns false'. Refute it at one input. -/
def runCanBeCutWrong : ChangeSpec := { name := "runCanBeCut", fn := fun _ => fun
  | [d1, d2, d3, d4, d5, d6] => { results := [.lit (.bool false)], args := [d1, d2, d3, d4, d5, d6] }
  | _ => none }
def RunCanBeCutWrongFalsely : Prop := runCanBeCutRow.holds Tryz.pinned (OpenSpec.ofChange runCanBeCutWrong)

/-- 'selfstablaw17.RunAllowsWeakerDaemons': WHATEVER THE INPUT: true; the input reads as it did. -/
def runAllowsWeakerDaemonsSpec : ChangeSpec := { name := "runAllowsWeakerDaemons", fn := fun _ => fun
  | [d1, d2, d3, d4, d5, d6] => { results := [.lit (.bool true)], args := [d1, d2, d3, d4, d5, d6] }
  | _ => none }
def runAllowsWeakerDaemonsRow : OpenClaim := { program := "ytdcjnhoabbdanaagreatdoor", sum := "bba816472b7b3a46c81d94dd7c320f029db6171fc183d157385d7e67f5aa4e33", func := "selfstab/selfstablaw17.RunAllowsWeakerDaemons", spec := "runAllowsWeakerDaemons", unfollowed := true, recurses := true, named := ["math/bits.deBruijn32tab"], plainKeys := false, apart := false, laid := [("math/bits.deBruijn32tab", laid_math_bits_deBruijn32tab)] }
def RunAllowsWeakerDaemonsSaid : Prop := runAllowsWeakerDaemonsRow.holds Tryz.pinned (OpenSpec.ofChange runAllowsWeakerDaemonsSpec)

/-- ITS FALSE NEIGHBOUR: 'it returns false'. Refute it at one input. -/
def runAllowsWeakerDaemonsWrong : ChangeSpec := { name := "runAllowsWeakerDaemons", fn := fun _ => fun
  | [d1, d2, d3, d4, d5, d6] => { results := [.lit (.bool false)], args := [d1, d2, d3, d4, d5, d6] }
  | _ => none }
def RunAllowsWeakerDaemonsWrongFalsely : Prop := runAllowsWeakerDaemonsRow.holds Tryz.pinned (OpenSpec.ofChange runAllowsWeakerDaemonsWrong)

/-- 'selfstablaw17.RunFollows': WHATEVER THE INPUT: true; the input reads as it did. -/
def runFollowsSpec : ChangeSpec := { name := "runFollows", fn := fun _ => fun
  | [d1, d2, d3, d4, d5] => { results := [.lit (.bool true)], args := [d1, d2, d3, d4, d5] }
  | _ => none }
def runFollowsRow : OpenClaim := { program := "ytdcjnhoabbdanaagreatdoor", sum := "bba816472b7b3a46c81d94dd7c320f029db6171fc183d157385d7e67f5aa4e33", func := "selfstab/selfstablaw17.RunFollows", spec := "runFollows", unfollowed := true, recurses := true, named := ["math/bits.deBruijn32tab"], plainKeys := false, apart := false, laid := [("math/bits.deBruijn32tab", laid_math_bits_deBruijn32tab)] }
def RunFollowsSaid : Prop := runFollowsRow.holds Tryz.pinned (OpenSpec.ofChange runFollowsSpec)

/-- ITS FALSE NEIGHBOUR: 'it returns false'. Refute it at one input. -/
def runFollowsWrong : ChangeSpec := { name := "runFollows", fn := fun _ => fun
  | [d1, d2, d3, d4, d5] => { results := [.lit (.bool false)], args := [d1, d2, d3, d4, d5] }
  | _ => none }
def RunFollowsWrongFalsely : Prop := runFollowsRow.holds Tryz.pinned (OpenSpec.ofChange runFollowsWrong)

/-- 'selfstablaw17.RunIsWatched': WHATEVER THE INPUT: true; the input reads as it did. -/
def runIsWatchedSpec : ChangeSpec := { name := "runIsWatched", fn := fun _ => fun
  | [d1, d2, d3, d4, d5, d6] => { results := [.lit (.bool true)], args := [d1, d2, d3, d4, d5, d6] }
  | _ => none }
def runIsWatchedRow : OpenClaim := { program := "ytdcjnhoabbdanaagreatdoor", sum := "bba816472b7b3a46c81d94dd7c320f029db6171fc183d157385d7e67f5aa4e33", func := "selfstab/selfstablaw17.RunIsWatched", spec := "runIsWatched", unfollowed := true, recurses := true, named := ["math/bits.deBruijn32tab"], plainKeys := false, apart := false, laid := [("math/bits.deBruijn32tab", laid_math_bits_deBruijn32tab)] }
def RunIsWatchedSaid : Prop := runIsWatchedRow.holds Tryz.pinned (OpenSpec.ofChange runIsWatchedSpec)

/-- ITS FALSE NEIGHBOUR: 'it returns false'. Refute it at one input. -/
def runIsWatchedWrong : ChangeSpec := { name := "runIsWatched", fn := fun _ => fun
  | [d1, d2, d3, d4, d5, d6] => { results := [.lit (.bool false)], args := [d1, d2, d3, d4, d5, d6] }
  | _ => none }
def RunIsWatchedWrongFalsely : Prop := runIsWatchedRow.holds Tryz.pinned (OpenSpec.ofChange runIsWatchedWrong)

/-- 'selfstablaw17.RunLoops': WHATEVER THE INPUT: true; the input reads as it did. -/
def runLoopsSpec : ChangeSpec := { name := "runLoops", fn := fun _ => fun
  | [d1, d2, d3, d4, d5, d6] => { results := [.lit (.bool true)], args := [d1, d2, d3, d4, d5, d6] }
  | _ => none }
def runLoopsRow : OpenClaim := { program := "ytdcjnhoabbdanaagreatdoor", sum := "bba816472b7b3a46c81d94dd7c320f029db6171fc183d157385d7e67f5aa4e33", func := "selfstab/selfstablaw17.RunLoops", spec := "runLoops", unfollowed := true, recurses := true, named := ["math/bits.deBruijn32tab"], plainKeys := false, apart := false, laid := [("math/bits.deBruijn32tab", laid_math_bits_deBruijn32tab)] }
def RunLoopsSaid : Prop := runLoopsRow.holds Tryz.pinned (OpenSpec.ofChange runLoopsSpec)

/-- ITS FALSE NEIGHBOUR: 'it returns false'. Refute it at one input. -/
def runLoopsWrong : ChangeSpec := { name := "runLoops", fn := fun _ => fun
  | [d1, d2, d3, d4, d5, d6] => { results := [.lit (.bool false)], args := [d1, d2, d3, d4, d5, d6] }
  | _ => none }
def RunLoopsWrongFalsely : Prop := runLoopsRow.holds Tryz.pinned (OpenSpec.ofChange runLoopsWrong)

/-- 'selfstablaw17.RunOfSynchronousLassosIsFair': WHATEVER THE INPUT: true; the input reads as it did. -/
def runOfSynchronousLassosIsFairSpec : ChangeSpec := { name := "runOfSynchronousLassosIsFair", fn := fun _ => fun
  | [d1, d2, d3, d4, d5, d6] => { results := [.lit (.bool true)], args := [d1, d2, d3, d4, d5, d6] }
  | _ => none }
def runOfSynchronousLassosIsFairRow : OpenClaim := { program := "ytdcjnhoabbdanaagreatdoor", sum := "bba816472b7b3a46c81d94dd7c320f029db6171fc183d157385d7e67f5aa4e33", func := "selfstab/selfstablaw17.RunOfSynchronousLassosIsFair", spec := "runOfSynchronousLassosIsFair", unfollowed := true, recurses := true, named := ["math/bits.deBruijn32tab"], plainKeys := false, apart := false, laid := [("math/bits.deBruijn32tab", laid_math_bits_deBruijn32tab)] }
def RunOfSynchronousLassosIsFairSaid : Prop := runOfSynchronousLassosIsFairRow.holds Tryz.pinned (OpenSpec.ofChange runOfSynchronousLassosIsFairSpec)

/-- ITS FALSE NEIGHBOUR: 'it returns false'. Refute it at one input. -/
def runOfSynchronousLassosIsFairWrong : ChangeSpec := { name := "runOfSynchronousLassosIsFair", fn := fun _ => fun
  | [d1, d2, d3, d4, d5, d6] => { results := [.lit (.bool false)], args := [d1, d2, d3, d4, d5, d6] }
  | _ => none }
def RunOfSynchronousLassosIsFairWrongFalsely : Prop := runOfSynchronousLassosIsFairRow.holds Tryz.pinned (OpenSpec.ofChange runOfSynchronousLassosIsFairWrong)

/- THE SECOND FORM. 'bulk': how many values and letters a reading holds, each counted each time it is reached (what is shared counts as often as it is met; a slice's spare places count too). A statement '..UptoSaid' is the law's where the arguments, and the package variables that the reading takes, are together of bulk at most 1048576: NARROWER than '..Said'. Prove '..Said' where nothing that the law and all that it calls make is longer than what came in: it says more and counts as full. Else prove '..UptoSaid'. A law counts once. -/
mutual
def uptoBulk {H : Type} : DataW H → Nat
  | .lit (.string bytes) => bytes.length + 1
  | .lit _ => 1
  | .nil => 1
  | .ptr d => uptoBulk d + 1
  | .slice elems spare => uptoBulkAll elems + uptoBulkAll spare + 1
  | .agg parts => uptoBulkAll parts + 1
  | .iface _ d => uptoBulk d + 1
  | .map entries => uptoBulkEntries entries + 1
  | .held _ => 1
def uptoBulkAll {H : Type} : List (DataW H) → Nat
  | [] => 0
  | d :: r => uptoBulk d + uptoBulkAll r
def uptoBulkEntries {H : Type} : List (Lit × DataW H) → Nat
  | [] => 0
  | x :: r => uptoBulkEntry x + uptoBulkEntries r
def uptoBulkEntry {H : Type} : Lit × DataW H → Nat
  | (.string bytes, d) => bytes.length + uptoBulk d + 1
  | (_, d) => uptoBulk d + 1
 end
def uptoSmall : (H : Type) → List (DataW H) → Bool := fun _ ds => decide (uptoBulkAll ds ≤ 1048576)
def OpenSpec.upto (s : _root_.Go.ChangeSpec) : _root_.Go.OpenSpec := { _root_.Go.OpenSpec.ofChange s with cond := some uptoSmall }

/-- 'selfstablaw17.RunPlays', WHERE WHAT IT READS IS OF BULK AT MOST 1048576: true; the input reads as it did. -/
def runPlaysUptoRow : OpenClaim := { program := "ytdcjnhoabbdanaagreatdoor", sum := "bba816472b7b3a46c81d94dd7c320f029db6171fc183d157385d7e67f5aa4e33", func := "selfstab/selfstablaw17.RunPlays", spec := "runPlays", unfollowed := true, recurses := true, named := ["math/bits.deBruijn32tab"], plainKeys := false, apart := false, laid := [("math/bits.deBruijn32tab", laid_math_bits_deBruijn32tab)], narrowed := true }
def RunPlaysUptoSaid : Prop := runPlaysUptoRow.holds Tryz.pinned (OpenSpec.upto runPlaysSpec)

/-- 'selfstablaw17.RunFollowsPermitted', WHERE WHAT IT READS IS OF BULK AT MOST 1048576: true; the input reads as it did. -/
def runFollowsPermittedUptoRow : OpenClaim := { program := "ytdcjnhoabbdanaagreatdoor", sum := "bba816472b7b3a46c81d94dd7c320f029db6171fc183d157385d7e67f5aa4e33", func := "selfstab/selfstablaw17.RunFollowsPermitted", spec := "runFollowsPermitted", unfollowed := true, recurses := true, named := ["math/bits.deBruijn32tab"], plainKeys := false, apart := false, laid := [("math/bits.deBruijn32tab", laid_math_bits_deBruijn32tab)], narrowed := true }
def RunFollowsPermittedUptoSaid : Prop := runFollowsPermittedUptoRow.holds Tryz.pinned (OpenSpec.upto runFollowsPermittedSpec)

/-- 'selfstablaw17.RunCanBeCut', WHERE WHAT IT READS IS OF BULK AT MOST 1048576: true; the input reads as it did. -/
def runCanBeCutUptoRow : OpenClaim := { program := "ytdcjnhoabbdanaagreatdoor", sum := "bba816472b7b3a46c81d94dd7c320f029db6171fc183d157385d7e67f5aa4e33", func := "selfstab/selfstablaw17.RunCanBeCut", spec := "runCanBeCut", unfollowed := true, recurses := true, named := ["math/bits.deBruijn32tab"], plainKeys := false, apart := false, laid := [("math/bits.deBruijn32tab", laid_math_bits_deBruijn32tab)], narrowed := true }
def RunCanBeCutUptoSaid : Prop := runCanBeCutUptoRow.holds Tryz.pinned (OpenSpec.upto runCanBeCutSpec)

/-- 'selfstablaw17.RunAllowsWeakerDaemons', WHERE WHAT IT READS IS OF BULK AT MOST 1048576: true; the input reads as it did. -/
def runAllowsWeakerDaemonsUptoRow : OpenClaim := { program := "ytdcjnhoabbdanaagreatdoor", sum := "bba816472b7b3a46c81d94dd7c320f029db6171fc183d157385d7e67f5aa4e33", func := "selfstab/selfstablaw17.RunAllowsWeakerDaemons", spec := "runAllowsWeakerDaemons", unfollowed := true, recurses := true, named := ["math/bits.deBruijn32tab"], plainKeys := false, apart := false, laid := [("math/bits.deBruijn32tab", laid_math_bits_deBruijn32tab)], narrowed := true }
def RunAllowsWeakerDaemonsUptoSaid : Prop := runAllowsWeakerDaemonsUptoRow.holds Tryz.pinned (OpenSpec.upto runAllowsWeakerDaemonsSpec)

/-- 'selfstablaw17.RunFollows', WHERE WHAT IT READS IS OF BULK AT MOST 1048576: true; the input reads as it did. -/
def runFollowsUptoRow : OpenClaim := { program := "ytdcjnhoabbdanaagreatdoor", sum := "bba816472b7b3a46c81d94dd7c320f029db6171fc183d157385d7e67f5aa4e33", func := "selfstab/selfstablaw17.RunFollows", spec := "runFollows", unfollowed := true, recurses := true, named := ["math/bits.deBruijn32tab"], plainKeys := false, apart := false, laid := [("math/bits.deBruijn32tab", laid_math_bits_deBruijn32tab)], narrowed := true }
def RunFollowsUptoSaid : Prop := runFollowsUptoRow.holds Tryz.pinned (OpenSpec.upto runFollowsSpec)

/-- 'selfstablaw17.RunIsWatched', WHERE WHAT IT READS IS OF BULK AT MOST 1048576: true; the input reads as it did. -/
def runIsWatchedUptoRow : OpenClaim := { program := "ytdcjnhoabbdanaagreatdoor", sum := "bba816472b7b3a46c81d94dd7c320f029db6171fc183d157385d7e67f5aa4e33", func := "selfstab/selfstablaw17.RunIsWatched", spec := "runIsWatched", unfollowed := true, recurses := true, named := ["math/bits.deBruijn32tab"], plainKeys := false, apart := false, laid := [("math/bits.deBruijn32tab", laid_math_bits_deBruijn32tab)], narrowed := true }
def RunIsWatchedUptoSaid : Prop := runIsWatchedUptoRow.holds Tryz.pinned (OpenSpec.upto runIsWatchedSpec)

/-- 'selfstablaw17.RunLoops', WHERE WHAT IT READS IS OF BULK AT MOST 1048576: true; the input reads as it did. -/
def runLoopsUptoRow : OpenClaim := { program := "ytdcjnhoabbdanaagreatdoor", sum := "bba816472b7b3a46c81d94dd7c320f029db6171fc183d157385d7e67f5aa4e33", func := "selfstab/selfstablaw17.RunLoops", spec := "runLoops", unfollowed := true, recurses := true, named := ["math/bits.deBruijn32tab"], plainKeys := false, apart := false, laid := [("math/bits.deBruijn32tab", laid_math_bits_deBruijn32tab)], narrowed := true }
def RunLoopsUptoSaid : Prop := runLoopsUptoRow.holds Tryz.pinned (OpenSpec.upto runLoopsSpec)

/-- 'selfstablaw17.RunOfSynchronousLassosIsFair', WHERE WHAT IT READS IS OF BULK AT MOST 1048576: true; the input reads as it did. -/
def runOfSynchronousLassosIsFairUptoRow : OpenClaim := { program := "ytdcjnhoabbdanaagreatdoor", sum := "bba816472b7b3a46c81d94dd7c320f029db6171fc183d157385d7e67f5aa4e33", func := "selfstab/selfstablaw17.RunOfSynchronousLassosIsFair", spec := "runOfSynchronousLassosIsFair", unfollowed := true, recurses := true, named := ["math/bits.deBruijn32tab"], plainKeys := false, apart := false, laid := [("math/bits.deBruijn32tab", laid_math_bits_deBruijn32tab)], narrowed := true }
def RunOfSynchronousLassosIsFairUptoSaid : Prop := runOfSynchronousLassosIsFairUptoRow.holds Tryz.pinned (OpenSpec.upto runOfSynchronousLassosIsFairSpec)

end Rows
end Go.Proofs.YtdcjnhoabbdanaaGreatDoor
