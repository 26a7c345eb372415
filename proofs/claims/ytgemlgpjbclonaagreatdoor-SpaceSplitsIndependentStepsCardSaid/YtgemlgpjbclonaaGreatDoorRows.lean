/-
  NARROWER THAN 'FOR EVERY INPUT', by the rows' own cells (each row's printed sentence says how): SpaceBuilds: laid · SpaceHasLimits: laid · SpaceIsMadeOfSteps: laid · SpaceGrowsWithTheDaemon: laid · SpaceOfSynchronousRuns: laid · SpaceSplitsIndependentSteps: laid.
  DERIVED. THE GIVEN ROWS OF THIS SEAT. 6 by the template 'for every input the law returns true; each argument reads behind the call as it read before'; 0 by the template 'total and deterministic' (their statements: YtgemlgpjbclonaaGreatDoorTotals.lean).
  GIVEN WITH THE SEED: the statements are not yours to turn. If you find one false, say at which input.
  Laid BY PROGRAM, IN A SANDBOX (cutbox-rows.mjs): the forced cells as the released guide's own fill.sh prints them over the translation 11c4232ce4a83934… (all of the seat's roots in one cut). By AI agents, Wed Nov 11 2026. No macro, syntax, notation, axiom, sorry.
-/
import Derived.Test.YtgemlgpjbclonaaGreatDoorChecked
import GoSem.Claim
import GoSem.ClaimJoined
import GoSem.ClaimMapViews
import Derived.JoinedTies
import Derived.KernelRfl
namespace Go.Proofs.YtgemlgpjbclonaaGreatDoor
/- THE CELL 'sum', in the pinned program and in every row, IS THE sha256 OF THE DUMP (.gsa) THAT YtgemlgpjbclonaaGreatDoorProg.lean LOADS. Nothing in Lean hashes anything: it is a label: what it is worth is what the hold of that sum in a sandbox is worth. -/
noncomputable def Tryz.pinned : Pinned := { name := "ytgemlgpjbclonaagreatdoor", sum := "11c4232ce4a83934bacfd0c04c2fc8d2b0338d12d5f24ec44683e6fd6f6c4365", checked := Tryz.checked }
namespace Rows
def none {H : Type} : Left H := { results := [], args := [] }

/- WHAT THE LISTED PACKAGE-LEVEL VARIABLES READ AS WHEN THE CALL BEGINS. Each datum BY PROGRAM (the guide's laid-datum.mjs) off the statement by which the dump's own 'gosem.cut.vars' lays the variable. In a bare row this is a premise. The card (YtgemlgpjbclonaaGreatDoorCards.lean) ties it to the program's text. -/
def laid_math_bits_deBruijn32tab {H : Type} : DataW H := .agg [.lit (.int .u8 0), .lit (.int .u8 1), .lit (.int .u8 28), .lit (.int .u8 2), .lit (.int .u8 29), .lit (.int .u8 14), .lit (.int .u8 24), .lit (.int .u8 3), .lit (.int .u8 30), .lit (.int .u8 22), .lit (.int .u8 20), .lit (.int .u8 15), .lit (.int .u8 25), .lit (.int .u8 17), .lit (.int .u8 4), .lit (.int .u8 8), .lit (.int .u8 31), .lit (.int .u8 27), .lit (.int .u8 13), .lit (.int .u8 23), .lit (.int .u8 21), .lit (.int .u8 19), .lit (.int .u8 16), .lit (.int .u8 7), .lit (.int .u8 26), .lit (.int .u8 12), .lit (.int .u8 18), .lit (.int .u8 6), .lit (.int .u8 11), .lit (.int .u8 5), .lit (.int .u8 10), .lit (.int .u8 9)]

/-- 'selfstablaw18.SpaceBuilds': WHATEVER THE INPUT: true; the input reads as it did. -/
def spaceBuildsSpec : ChangeSpec := { name := "spaceBuilds", fn := fun _ => fun
  | [d1, d2, d3] => { results := [.lit (.bool true)], args := [d1, d2, d3] }
  | _ => none }
def spaceBuildsRow : OpenClaim := { program := "ytgemlgpjbclonaagreatdoor", sum := "11c4232ce4a83934bacfd0c04c2fc8d2b0338d12d5f24ec44683e6fd6f6c4365", func := "selfstab/selfstablaw18.SpaceBuilds", spec := "spaceBuilds", unfollowed := true, recurses := true, named := ["math/bits.deBruijn32tab"], plainKeys := false, apart := false, laid := [("math/bits.deBruijn32tab", laid_math_bits_deBruijn32tab)] }
def SpaceBuildsSaid : Prop := spaceBuildsRow.holds Tryz.pinned (OpenSpec.ofChange spaceBuildsSpec)

/-- ITS FALSE NEIGHBOUR: 'it returns false'. Refute it at one input. -/
def spaceBuildsWrong : ChangeSpec := { name := "spaceBuilds", fn := fun _ => fun
  | [d1, d2, d3] => { results := [.lit (.bool false)], args := [d1, d2, d3] }
  | _ => none }
def SpaceBuildsWrongFalsely : Prop := spaceBuildsRow.holds Tryz.pinned (OpenSpec.ofChange spaceBuildsWrong)

/-- 'selfstablaw18.SpaceHasLimits': WHATEVER THE INPUT: true; the input reads as it did. -/
def spaceHasLimitsSpec : ChangeSpec := { name := "spaceHasLimits", fn := fun _ => fun
  | [d1, d2, d3] => { results := [.lit (.bool true)], args := [d1, d2, d3] }
  | _ => none }
def spaceHasLimitsRow : OpenClaim := { program := "ytgemlgpjbclonaagreatdoor", sum := "11c4232ce4a83934bacfd0c04c2fc8d2b0338d12d5f24ec44683e6fd6f6c4365", func := "selfstab/selfstablaw18.SpaceHasLimits", spec := "spaceHasLimits", unfollowed := true, recurses := true, named := ["math/bits.deBruijn32tab"], plainKeys := false, apart := false, laid := [("math/bits.deBruijn32tab", laid_math_bits_deBruijn32tab)] }
def SpaceHasLimitsSaid : Prop := spaceHasLimitsRow.holds Tryz.pinned (OpenSpec.ofChange spaceHasLimitsSpec)

/-- ITS FALSE NEIGHBOUR: 'it returns false'. Refute it at one input. -/
def spaceHasLimitsWrong : ChangeSpec := { name := "spaceHasLimits", fn := fun _ => fun
  | [d1, d2, d3] => { results := [.lit (.bool false)], args := [d1, d2, d3] }
  | _ => none }
def SpaceHasLimitsWrongFalsely : Prop := spaceHasLimitsRow.holds Tryz.pinned (OpenSpec.ofChange spaceHasLimitsWrong)

/-- 'selfstablaw18.SpaceIsMadeOfSteps': WHATEVER THE INPUT: true; the input reads as it did. -/
def spaceIsMadeOfStepsSpec : ChangeSpec := { name := "spaceIsMadeOfSteps", fn := fun _ => fun
  | [d1, d2, d3, d4, d5] => { results := [.lit (.bool true)], args := [d1, d2, d3, d4, d5] }
  | _ => none }
def spaceIsMadeOfStepsRow : OpenClaim := { program := "ytgemlgpjbclonaagreatdoor", sum := "11c4232ce4a83934bacfd0c04c2fc8d2b0338d12d5f24ec44683e6fd6f6c4365", func := "selfstab/selfstablaw18.SpaceIsMadeOfSteps", spec := "spaceIsMadeOfSteps", unfollowed := true, recurses := true, named := ["math/bits.deBruijn32tab"], plainKeys := false, apart := false, laid := [("math/bits.deBruijn32tab", laid_math_bits_deBruijn32tab)] }
def SpaceIsMadeOfStepsSaid : Prop := spaceIsMadeOfStepsRow.holds Tryz.pinned (OpenSpec.ofChange spaceIsMadeOfStepsSpec)

/-- ITS FALSE NEIGHBOUR: 'it returns false'. Refute it at one input. -/
def spaceIsMadeOfStepsWrong : ChangeSpec := { name := "spaceIsMadeOfSteps", fn := fun _ => fun
  | [d1, d2, d3, d4, d5] => { results := [.lit (.bool false)], args := [d1, d2, d3, d4, d5] }
  | _ => none }
def SpaceIsMadeOfStepsWrongFalsely : Prop := spaceIsMadeOfStepsRow.holds Tryz.pinned (OpenSpec.ofChange spaceIsMadeOfStepsWrong)

/-- 'selfstablaw18.SpaceGrowsWithTheDaemon': WHATEVER THE INPUT: true; the input reads as it did. -/
def spaceGrowsWithTheDaemonSpec : ChangeSpec := { name := "spaceGrowsWithTheDaemon", fn := fun _ => fun
  | [d1, d2, d3, d4] => { results := [.lit (.bool true)], args := [d1, d2, d3, d4] }
  | _ => none }
def spaceGrowsWithTheDaemonRow : OpenClaim := { program := "ytgemlgpjbclonaagreatdoor", sum := "11c4232ce4a83934bacfd0c04c2fc8d2b0338d12d5f24ec44683e6fd6f6c4365", func := "selfstab/selfstablaw18.SpaceGrowsWithTheDaemon", spec := "spaceGrowsWithTheDaemon", unfollowed := true, recurses := true, named := ["math/bits.deBruijn32tab"], plainKeys := false, apart := false, laid := [("math/bits.deBruijn32tab", laid_math_bits_deBruijn32tab)] }
def SpaceGrowsWithTheDaemonSaid : Prop := spaceGrowsWithTheDaemonRow.holds Tryz.pinned (OpenSpec.ofChange spaceGrowsWithTheDaemonSpec)

/-- ITS FALSE NEIGHBOUR: 'it returns false'. Refute it at one input. -/
def spaceGrowsWithTheDaemonWrong : ChangeSpec := { name := "spaceGrowsWithTheDaemon", fn := fun _ => fun
  | [d1, d2, d3, d4] => { results := [.lit (.bool false)], args := [d1, d2, d3, d4] }
  | _ => none }
def SpaceGrowsWithTheDaemonWrongFalsely : Prop := spaceGrowsWithTheDaemonRow.holds Tryz.pinned (OpenSpec.ofChange spaceGrowsWithTheDaemonWrong)

/-- 'selfstablaw18.SpaceOfSynchronousRuns': WHATEVER THE INPUT: true; the input reads as it did. -/
def spaceOfSynchronousRunsSpec : ChangeSpec := { name := "spaceOfSynchronousRuns", fn := fun _ => fun
  | [d1, d2] => { results := [.lit (.bool true)], args := [d1, d2] }
  | _ => none }
def spaceOfSynchronousRunsRow : OpenClaim := { program := "ytgemlgpjbclonaagreatdoor", sum := "11c4232ce4a83934bacfd0c04c2fc8d2b0338d12d5f24ec44683e6fd6f6c4365", func := "selfstab/selfstablaw18.SpaceOfSynchronousRuns", spec := "spaceOfSynchronousRuns", unfollowed := true, recurses := true, named := ["math/bits.deBruijn32tab"], plainKeys := false, apart := false, laid := [("math/bits.deBruijn32tab", laid_math_bits_deBruijn32tab)] }
def SpaceOfSynchronousRunsSaid : Prop := spaceOfSynchronousRunsRow.holds Tryz.pinned (OpenSpec.ofChange spaceOfSynchronousRunsSpec)

/-- ITS FALSE NEIGHBOUR: 'it returns false'. Refute it at one input. -/
def spaceOfSynchronousRunsWrong : ChangeSpec := { name := "spaceOfSynchronousRuns", fn := fun _ => fun
  | [d1, d2] => { results := [.lit (.bool false)], args := [d1, d2] }
  | _ => none }
def SpaceOfSynchronousRunsWrongFalsely : Prop := spaceOfSynchronousRunsRow.holds Tryz.pinned (OpenSpec.ofChange spaceOfSynchronousRunsWrong)

/-- 'selfstablaw18.SpaceSplitsIndependentSteps': WHATEVER THE INPUT: true; the input reads as it did. -/
def spaceSplitsIndependentStepsSpec : ChangeSpec := { name := "spaceSplitsIndependentSteps", fn := fun _ => fun
  | [d1, d2, d3, d4, d5] => { results := [.lit (.bool true)], args := [d1, d2, d3, d4, d5] }
  | _ => none }
def spaceSplitsIndependentStepsRow : OpenClaim := { program := "ytgemlgpjbclonaagreatdoor", sum := "11c4232ce4a83934bacfd0c04c2fc8d2b0338d12d5f24ec44683e6fd6f6c4365", func := "selfstab/selfstablaw18.SpaceSplitsIndependentSteps", spec := "spaceSplitsIndependentSteps", unfollowed := true, recurses := true, named := ["math/bits.deBruijn32tab"], plainKeys := false, apart := false, laid := [("math/bits.deBruijn32tab", laid_math_bits_deBruijn32tab)] }
def SpaceSplitsIndependentStepsSaid : Prop := spaceSplitsIndependentStepsRow.holds Tryz.pinned (OpenSpec.ofChange spaceSplitsIndependentStepsSpec)

/-- ITS FALSE NEIGHBOUR: 'it returns false'. Refute it at one input. -/
def spaceSplitsIndependentStepsWrong : ChangeSpec := { name := "spaceSplitsIndependentSteps", fn := fun _ => fun
  | [d1, d2, d3, d4, d5] => { results := [.lit (.bool false)], args := [d1, d2, d3, d4, d5] }
  | _ => none }
def SpaceSplitsIndependentStepsWrongFalsely : Prop := spaceSplitsIndependentStepsRow.holds Tryz.pinned (OpenSpec.ofChange spaceSplitsIndependentStepsWrong)

/- THE SECOND FORM. 'bulk': how many values and letters a reading holds, each counted each time it is reached (what is shared counts as often as it is met; a slice's spare places count too). A statement '..UptoSaid' is the law's where the arguments, and the package variables that the reading takes, are together of bulk at most 1048576: NARROWER than '..Said'. Prove '..Said' where nothing that the law and all that it calls make is longer than what came in: it says more and counts as full. Else prove '..UptoSaid'. A law counts once. -/
mutual
def uptoBulk {H : Type} : DataW H → Nat
  | .lit (.string bytes) => bytes.length + 1
  | .lit _ => 1
  | .nil => 1
  | .ptr d => uptoBulk d + 1
  | .slice elems spare => uptoBulkAll elems + uptoBulkAll spare + 1
  | .agg parts => uptoBulkAll parts + 1
  | .iface _ d => uptoBulk d + 1
  | .map entries => uptoBulkEntries entries + 1
  | .held _ => 1
def uptoBulkAll {H : Type} : List (DataW H) → Nat
  | [] => 0
  | d :: r => uptoBulk d + uptoBulkAll r
def uptoBulkEntries {H : Type} : List (Lit × DataW H) → Nat
  | [] => 0
  | x :: r => uptoBulkEntry x + uptoBulkEntries r
def uptoBulkEntry {H : Type} : Lit × DataW H → Nat
  | (.string bytes, d) => bytes.length + uptoBulk d + 1
  | (_, d) => uptoBulk d + 1
 end
def uptoSmall : (H : Type) → List (DataW H) → Bool := fun _ ds => decide (uptoBulkAll ds ≤ 1048576)
def OpenSpec.upto (s : _root_.Go.ChangeSpec) : _root_.Go.OpenSpec := { _root_.Go.OpenSpec.ofChange s with cond := some uptoSmall }

/-- 'selfstablaw18.SpaceBuilds', WHERE WHAT IT READS IS OF BULK AT MOST 1048576: true; the input reads as it did. -/
def spaceBuildsUptoRow : OpenClaim := { program := "ytgemlgpjbclonaagreatdoor", sum := "11c4232ce4a83934bacfd0c04c2fc8d2b0338d12d5f24ec44683e6fd6f6c4365", func := "selfstab/selfstablaw18.SpaceBuilds", spec := "spaceBuilds", unfollowed := true, recurses := true, named := ["math/bits.deBruijn32tab"], plainKeys := false, apart := false, laid := [("math/bits.deBruijn32tab", laid_math_bits_deBruijn32tab)], narrowed := true }
def SpaceBuildsUptoSaid : Prop := spaceBuildsUptoRow.holds Tryz.pinned (OpenSpec.upto spaceBuildsSpec)

/-- 'selfstablaw18.SpaceHasLimits', WHERE WHAT IT READS IS OF BULK AT MOST 1048576: true; the input reads as it did. -/
def spaceHasLimitsUptoRow : OpenClaim := { program := "ytgemlgpjbclonaagreatdoor", sum := "11c4232ce4a83934bacfd0c04c2fc8d2b0338d12d5f24ec44683e6fd6f6c4365", func := "selfstab/selfstablaw18.SpaceHasLimits", spec := "spaceHasLimits", unfollowed := true, recurses := true, named := ["math/bits.deBruijn32tab"], plainKeys := false, apart := false, laid := [("math/bits.deBruijn32tab", laid_math_bits_deBruijn32tab)], narrowed := true }
def SpaceHasLimitsUptoSaid : Prop := spaceHasLimitsUptoRow.holds Tryz.pinned (OpenSpec.upto spaceHasLimitsSpec)

/-- 'selfstablaw18.SpaceIsMadeOfSteps', WHERE WHAT IT READS IS OF BULK AT MOST 1048576: true; the input reads as it did. -/
def spaceIsMadeOfStepsUptoRow : OpenClaim := { program := "ytgemlgpjbclonaagreatdoor", sum := "11c4232ce4a83934bacfd0c04c2fc8d2b0338d12d5f24ec44683e6fd6f6c4365", func := "selfstab/selfstablaw18.SpaceIsMadeOfSteps", spec := "spaceIsMadeOfSteps", unfollowed := true, recurses := true, named := ["math/bits.deBruijn32tab"], plainKeys := false, apart := false, laid := [("math/bits.deBruijn32tab", laid_math_bits_deBruijn32tab)], narrowed := true }
def SpaceIsMadeOfStepsUptoSaid : Prop := spaceIsMadeOfStepsUptoRow.holds Tryz.pinned (OpenSpec.upto spaceIsMadeOfStepsSpec)

/-- 'selfstablaw18.SpaceGrowsWithTheDaemon', WHERE WHAT IT READS IS OF BULK AT MOST 1048576: true; the input reads as it did. -/
def spaceGrowsWithTheDaemonUptoRow : OpenClaim := { program := "ytgemlgpjbclonaagreatdoor", sum := "11c4232ce4a83934bacfd0c04c2fc8d2b0338d12d5f24ec44683e6fd6f6c4365", func := "selfstab/selfstablaw18.SpaceGrowsWithTheDaemon", spec := "spaceGrowsWithTheDaemon", unfollowed := true, recurses := true, named := ["math/bits.deBruijn32tab"], plainKeys := false, apart := false, laid := [("math/bits.deBruijn32tab", laid_math_bits_deBruijn32tab)], narrowed := true }
def SpaceGrowsWithTheDaemonUptoSaid : Prop := spaceGrowsWithTheDaemonUptoRow.holds Tryz.pinned (OpenSpec.upto spaceGrowsWithTheDaemonSpec)

/-- 'selfstablaw18.SpaceOfSynchronousRuns', WHERE WHAT IT READS IS OF BULK AT MOST 1048576: true; the input reads as it did. -/
def spaceOfSynchronousRunsUptoRow : OpenClaim := { program := "ytgemlgpjbclonaagreatdoor", sum := "11c4232ce4a83934bacfd0c04c2fc8d2b0338d12d5f24ec44683e6fd6f6c4365", func := "selfstab/selfstablaw18.SpaceOfSynchronousRuns", spec := "spaceOfSynchronousRuns", unfollowed := true, recurses := true, named := ["math/bits.deBruijn32tab"], plainKeys := false, apart := false, laid := [("math/bits.deBruijn32tab", laid_math_bits_deBruijn32tab)], narrowed := true }
def SpaceOfSynchronousRunsUptoSaid : Prop := spaceOfSynchronousRunsUptoRow.holds Tryz.pinned (OpenSpec.upto spaceOfSynchronousRunsSpec)

/-- 'selfstablaw18.SpaceSplitsIndependentSteps', WHERE WHAT IT READS IS OF BULK AT MOST 1048576: true; the input reads as it did. -/
def spaceSplitsIndependentStepsUptoRow : OpenClaim := { program := "ytgemlgpjbclonaagreatdoor", sum := "11c4232ce4a83934bacfd0c04c2fc8d2b0338d12d5f24ec44683e6fd6f6c4365", func := "selfstab/selfstablaw18.SpaceSplitsIndependentSteps", spec := "spaceSplitsIndependentSteps", unfollowed := true, recurses := true, named := ["math/bits.deBruijn32tab"], plainKeys := false, apart := false, laid := [("math/bits.deBruijn32tab", laid_math_bits_deBruijn32tab)], narrowed := true }
def SpaceSplitsIndependentStepsUptoSaid : Prop := spaceSplitsIndependentStepsUptoRow.holds Tryz.pinned (OpenSpec.upto spaceSplitsIndependentStepsSpec)

end Rows
end Go.Proofs.YtgemlgpjbclonaaGreatDoor
