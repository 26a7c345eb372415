/-
  No cell of these rows narrows 'for every input' (looked for: loops, veiled, ifaces, maps, wideKeys, modest, calm, conditions, laid).
  DERIVED. THE GIVEN ROWS OF THIS SEAT. 11 by the template 'for every input the law returns true; each argument reads behind the call as it read before'; 0 by the template 'total and deterministic' (their statements: YtibfjhhadbkkgaaGreatTotals.lean).
  GIVEN WITH THE SEED: the statements are not yours to turn. If you find one false, say at which input.
  Laid BY PROGRAM, IN A SANDBOX (cutbox-rows.mjs): the forced cells as the released guide's own fill.sh prints them over the translation ffb84d6414edf59e… (all of the seat's roots in one cut). By AI agents, Wed Nov 11 2026. No macro, syntax, notation, axiom, sorry.
-/
import Derived.Test.YtibfjhhadbkkgaaGreatChecked
import GoSem.Claim
import GoSem.ClaimJoined
import GoSem.ClaimMapViews
import Derived.JoinedTies
import Derived.KernelRfl
namespace Go.Proofs.YtibfjhhadbkkgaaGreat
/- THE CELL 'sum', in the pinned program and in every row, IS THE sha256 OF THE DUMP (.gsa) THAT YtibfjhhadbkkgaaGreatProg.lean LOADS. Nothing in Lean hashes anything: it is a label: what it is worth is what the hold of that sum in a sandbox is worth. -/
noncomputable def Tryz.pinned : Pinned := { name := "ytibfjhhadbkkgaagreat", sum := "ffb84d6414edf59eef1e1d549431d77d670d8f263c73d6578c91910adb030aea", checked := Tryz.checked }
namespace Rows
def none {H : Type} : Left H := { results := [], args := [] }

/-- 'selfstablaw11.EvalIsLocal': WHATEVER THE INPUT: true; the input reads as it did. -/
def evalIsLocalSpec : ChangeSpec := { name := "evalIsLocal", fn := fun _ => fun
  | [d1, d2, d3, d4, d5, d6] => { results := [.lit (.bool true)], args := [d1, d2, d3, d4, d5, d6] }
  | _ => none }
def evalIsLocalRow : OpenClaim := { program := "ytibfjhhadbkkgaagreat", sum := "ffb84d6414edf59eef1e1d549431d77d670d8f263c73d6578c91910adb030aea", func := "selfstab/selfstablaw11.EvalIsLocal", spec := "evalIsLocal", unfollowed := true, recurses := true, plainKeys := false, apart := false }
def EvalIsLocalSaid : Prop := evalIsLocalRow.holds Tryz.pinned (OpenSpec.ofChange evalIsLocalSpec)

/-- ITS FALSE NEIGHBOUR: 'it returns false'. Refute it at one input. -/
def evalIsLocalWrong : ChangeSpec := { name := "evalIsLocal", fn := fun _ => fun
  | [d1, d2, d3, d4, d5, d6] => { results := [.lit (.bool false)], args := [d1, d2, d3, d4, d5, d6] }
  | _ => none }
def EvalIsLocalWrongFalsely : Prop := evalIsLocalRow.holds Tryz.pinned (OpenSpec.ofChange evalIsLocalWrong)

/-- 'selfstablaw11.EvalRenamesVariables': WHATEVER THE INPUT: true; the input reads as it did. -/
def evalRenamesVariablesSpec : ChangeSpec := { name := "evalRenamesVariables", fn := fun _ => fun
  | [d1, d2, d3, d4, d5, d6, d7] => { results := [.lit (.bool true)], args := [d1, d2, d3, d4, d5, d6, d7] }
  | _ => none }
def evalRenamesVariablesRow : OpenClaim := { program := "ytibfjhhadbkkgaagreat", sum := "ffb84d6414edf59eef1e1d549431d77d670d8f263c73d6578c91910adb030aea", func := "selfstab/selfstablaw11.EvalRenamesVariables", spec := "evalRenamesVariables", unfollowed := true, recurses := true, plainKeys := false, apart := false }
def EvalRenamesVariablesSaid : Prop := evalRenamesVariablesRow.holds Tryz.pinned (OpenSpec.ofChange evalRenamesVariablesSpec)

/-- ITS FALSE NEIGHBOUR: 'it returns false'. Refute it at one input. -/
def evalRenamesVariablesWrong : ChangeSpec := { name := "evalRenamesVariables", fn := fun _ => fun
  | [d1, d2, d3, d4, d5, d6, d7] => { results := [.lit (.bool false)], args := [d1, d2, d3, d4, d5, d6, d7] }
  | _ => none }
def EvalRenamesVariablesWrongFalsely : Prop := evalRenamesVariablesRow.holds Tryz.pinned (OpenSpec.ofChange evalRenamesVariablesWrong)

/-- 'selfstablaw14.StepSteps': WHATEVER THE INPUT: true; the input reads as it did. -/
def stepStepsSpec : ChangeSpec := { name := "stepSteps", fn := fun _ => fun
  | [d1, d2, d3, d4] => { results := [.lit (.bool true)], args := [d1, d2, d3, d4] }
  | _ => none }
def stepStepsRow : OpenClaim := { program := "ytibfjhhadbkkgaagreat", sum := "ffb84d6414edf59eef1e1d549431d77d670d8f263c73d6578c91910adb030aea", func := "selfstab/selfstablaw14.StepSteps", spec := "stepSteps", unfollowed := true, recurses := true, plainKeys := false, apart := false }
def StepStepsSaid : Prop := stepStepsRow.holds Tryz.pinned (OpenSpec.ofChange stepStepsSpec)

/-- ITS FALSE NEIGHBOUR: 'it returns false'. Refute it at one input. -/
def stepStepsWrong : ChangeSpec := { name := "stepSteps", fn := fun _ => fun
  | [d1, d2, d3, d4] => { results := [.lit (.bool false)], args := [d1, d2, d3, d4] }
  | _ => none }
def StepStepsWrongFalsely : Prop := stepStepsRow.holds Tryz.pinned (OpenSpec.ofChange stepStepsWrong)

/-- 'selfstablaw14.StepSerialises': WHATEVER THE INPUT: true; the input reads as it did. -/
def stepSerialisesSpec : ChangeSpec := { name := "stepSerialises", fn := fun _ => fun
  | [d1, d2, d3, d4] => { results := [.lit (.bool true)], args := [d1, d2, d3, d4] }
  | _ => none }
def stepSerialisesRow : OpenClaim := { program := "ytibfjhhadbkkgaagreat", sum := "ffb84d6414edf59eef1e1d549431d77d670d8f263c73d6578c91910adb030aea", func := "selfstab/selfstablaw14.StepSerialises", spec := "stepSerialises", unfollowed := true, recurses := true, plainKeys := false, apart := false }
def StepSerialisesSaid : Prop := stepSerialisesRow.holds Tryz.pinned (OpenSpec.ofChange stepSerialisesSpec)

/-- ITS FALSE NEIGHBOUR: 'it returns false'. Refute it at one input. -/
def stepSerialisesWrong : ChangeSpec := { name := "stepSerialises", fn := fun _ => fun
  | [d1, d2, d3, d4] => { results := [.lit (.bool false)], args := [d1, d2, d3, d4] }
  | _ => none }
def StepSerialisesWrongFalsely : Prop := stepSerialisesRow.holds Tryz.pinned (OpenSpec.ofChange stepSerialisesWrong)

/-- 'selfstablaw14.StepFindsRules': WHATEVER THE INPUT: true; the input reads as it did. -/
def stepFindsRulesSpec : ChangeSpec := { name := "stepFindsRules", fn := fun _ => fun
  | [d1, d2, d3, d4] => { results := [.lit (.bool true)], args := [d1, d2, d3, d4] }
  | _ => none }
def stepFindsRulesRow : OpenClaim := { program := "ytibfjhhadbkkgaagreat", sum := "ffb84d6414edf59eef1e1d549431d77d670d8f263c73d6578c91910adb030aea", func := "selfstab/selfstablaw14.StepFindsRules", spec := "stepFindsRules", unfollowed := true, recurses := true, plainKeys := false, apart := false }
def StepFindsRulesSaid : Prop := stepFindsRulesRow.holds Tryz.pinned (OpenSpec.ofChange stepFindsRulesSpec)

/-- ITS FALSE NEIGHBOUR: 'it returns false'. Refute it at one input. -/
def stepFindsRulesWrong : ChangeSpec := { name := "stepFindsRules", fn := fun _ => fun
  | [d1, d2, d3, d4] => { results := [.lit (.bool false)], args := [d1, d2, d3, d4] }
  | _ => none }
def StepFindsRulesWrongFalsely : Prop := stepFindsRulesRow.holds Tryz.pinned (OpenSpec.ofChange stepFindsRulesWrong)

/-- 'selfstablaw14.StepKeepsEarlierRules': WHATEVER THE INPUT: true; the input reads as it did. -/
def stepKeepsEarlierRulesSpec : ChangeSpec := { name := "stepKeepsEarlierRules", fn := fun _ => fun
  | [d1, d2, d3, d4, d5] => { results := [.lit (.bool true)], args := [d1, d2, d3, d4, d5] }
  | _ => none }
def stepKeepsEarlierRulesRow : OpenClaim := { program := "ytibfjhhadbkkgaagreat", sum := "ffb84d6414edf59eef1e1d549431d77d670d8f263c73d6578c91910adb030aea", func := "selfstab/selfstablaw14.StepKeepsEarlierRules", spec := "stepKeepsEarlierRules", unfollowed := true, recurses := true, plainKeys := false, apart := false }
def StepKeepsEarlierRulesSaid : Prop := stepKeepsEarlierRulesRow.holds Tryz.pinned (OpenSpec.ofChange stepKeepsEarlierRulesSpec)

/-- ITS FALSE NEIGHBOUR: 'it returns false'. Refute it at one input. -/
def stepKeepsEarlierRulesWrong : ChangeSpec := { name := "stepKeepsEarlierRules", fn := fun _ => fun
  | [d1, d2, d3, d4, d5] => { results := [.lit (.bool false)], args := [d1, d2, d3, d4, d5] }
  | _ => none }
def StepKeepsEarlierRulesWrongFalsely : Prop := stepKeepsEarlierRulesRow.holds Tryz.pinned (OpenSpec.ofChange stepKeepsEarlierRulesWrong)

/-- 'selfstablaw14.StepMoves': WHATEVER THE INPUT: true; the input reads as it did. -/
def stepMovesSpec : ChangeSpec := { name := "stepMoves", fn := fun _ => fun
  | [d1, d2, d3, d4] => { results := [.lit (.bool true)], args := [d1, d2, d3, d4] }
  | _ => none }
def stepMovesRow : OpenClaim := { program := "ytibfjhhadbkkgaagreat", sum := "ffb84d6414edf59eef1e1d549431d77d670d8f263c73d6578c91910adb030aea", func := "selfstab/selfstablaw14.StepMoves", spec := "stepMoves", unfollowed := true, recurses := true, plainKeys := false, apart := false }
def StepMovesSaid : Prop := stepMovesRow.holds Tryz.pinned (OpenSpec.ofChange stepMovesSpec)

/-- ITS FALSE NEIGHBOUR: 'it returns false'. Refute it at one input. -/
def stepMovesWrong : ChangeSpec := { name := "stepMoves", fn := fun _ => fun
  | [d1, d2, d3, d4] => { results := [.lit (.bool false)], args := [d1, d2, d3, d4] }
  | _ => none }
def StepMovesWrongFalsely : Prop := stepMovesRow.holds Tryz.pinned (OpenSpec.ofChange stepMovesWrong)

/-- 'selfstablaw14.StepConsistsOfMoves': WHATEVER THE INPUT: true; the input reads as it did. -/
def stepConsistsOfMovesSpec : ChangeSpec := { name := "stepConsistsOfMoves", fn := fun _ => fun
  | [d1, d2, d3, d4] => { results := [.lit (.bool true)], args := [d1, d2, d3, d4] }
  | _ => none }
def stepConsistsOfMovesRow : OpenClaim := { program := "ytibfjhhadbkkgaagreat", sum := "ffb84d6414edf59eef1e1d549431d77d670d8f263c73d6578c91910adb030aea", func := "selfstab/selfstablaw14.StepConsistsOfMoves", spec := "stepConsistsOfMoves", unfollowed := true, recurses := true, plainKeys := false, apart := false }
def StepConsistsOfMovesSaid : Prop := stepConsistsOfMovesRow.holds Tryz.pinned (OpenSpec.ofChange stepConsistsOfMovesSpec)

/-- ITS FALSE NEIGHBOUR: 'it returns false'. Refute it at one input. -/
def stepConsistsOfMovesWrong : ChangeSpec := { name := "stepConsistsOfMoves", fn := fun _ => fun
  | [d1, d2, d3, d4] => { results := [.lit (.bool false)], args := [d1, d2, d3, d4] }
  | _ => none }
def StepConsistsOfMovesWrongFalsely : Prop := stepConsistsOfMovesRow.holds Tryz.pinned (OpenSpec.ofChange stepConsistsOfMovesWrong)

/-- 'selfstablaw14.StepClampsValues': WHATEVER THE INPUT: true; the input reads as it did. -/
def stepClampsValuesSpec : ChangeSpec := { name := "stepClampsValues", fn := fun _ => fun
  | [d1, d2, d3, d4, d5] => { results := [.lit (.bool true)], args := [d1, d2, d3, d4, d5] }
  | _ => none }
def stepClampsValuesRow : OpenClaim := { program := "ytibfjhhadbkkgaagreat", sum := "ffb84d6414edf59eef1e1d549431d77d670d8f263c73d6578c91910adb030aea", func := "selfstab/selfstablaw14.StepClampsValues", spec := "stepClampsValues", unfollowed := true, recurses := true, plainKeys := false, apart := false }
def StepClampsValuesSaid : Prop := stepClampsValuesRow.holds Tryz.pinned (OpenSpec.ofChange stepClampsValuesSpec)

/-- ITS FALSE NEIGHBOUR: 'it returns false'. Refute it at one input. -/
def stepClampsValuesWrong : ChangeSpec := { name := "stepClampsValues", fn := fun _ => fun
  | [d1, d2, d3, d4, d5] => { results := [.lit (.bool false)], args := [d1, d2, d3, d4, d5] }
  | _ => none }
def StepClampsValuesWrongFalsely : Prop := stepClampsValuesRow.holds Tryz.pinned (OpenSpec.ofChange stepClampsValuesWrong)

/-- 'selfstablaw14.StepTakesTheFirstRule': WHATEVER THE INPUT: true; the input reads as it did. -/
def stepTakesTheFirstRuleSpec : ChangeSpec := { name := "stepTakesTheFirstRule", fn := fun _ => fun
  | [d1, d2, d3, d4] => { results := [.lit (.bool true)], args := [d1, d2, d3, d4] }
  | _ => none }
def stepTakesTheFirstRuleRow : OpenClaim := { program := "ytibfjhhadbkkgaagreat", sum := "ffb84d6414edf59eef1e1d549431d77d670d8f263c73d6578c91910adb030aea", func := "selfstab/selfstablaw14.StepTakesTheFirstRule", spec := "stepTakesTheFirstRule", unfollowed := true, recurses := true, plainKeys := false, apart := false }
def StepTakesTheFirstRuleSaid : Prop := stepTakesTheFirstRuleRow.holds Tryz.pinned (OpenSpec.ofChange stepTakesTheFirstRuleSpec)

/-- ITS FALSE NEIGHBOUR: 'it returns false'. Refute it at one input. -/
def stepTakesTheFirstRuleWrong : ChangeSpec := { name := "stepTakesTheFirstRule", fn := fun _ => fun
  | [d1, d2, d3, d4] => { results := [.lit (.bool false)], args := [d1, d2, d3, d4] }
  | _ => none }
def StepTakesTheFirstRuleWrongFalsely : Prop := stepTakesTheFirstRuleRow.holds Tryz.pinned (OpenSpec.ofChange stepTakesTheFirstRuleWrong)

/-- 'selfstablaw14.StepIsLocal': WHATEVER THE INPUT: true; the input reads as it did. -/
def stepIsLocalSpec : ChangeSpec := { name := "stepIsLocal", fn := fun _ => fun
  | [d1, d2, d3, d4, d5] => { results := [.lit (.bool true)], args := [d1, d2, d3, d4, d5] }
  | _ => none }
def stepIsLocalRow : OpenClaim := { program := "ytibfjhhadbkkgaagreat", sum := "ffb84d6414edf59eef1e1d549431d77d670d8f263c73d6578c91910adb030aea", func := "selfstab/selfstablaw14.StepIsLocal", spec := "stepIsLocal", unfollowed := true, recurses := true, plainKeys := false, apart := false }
def StepIsLocalSaid : Prop := stepIsLocalRow.holds Tryz.pinned (OpenSpec.ofChange stepIsLocalSpec)

/-- ITS FALSE NEIGHBOUR: 'it returns false'. Refute it at one input. -/
def stepIsLocalWrong : ChangeSpec := { name := "stepIsLocal", fn := fun _ => fun
  | [d1, d2, d3, d4, d5] => { results := [.lit (.bool false)], args := [d1, d2, d3, d4, d5] }
  | _ => none }
def StepIsLocalWrongFalsely : Prop := stepIsLocalRow.holds Tryz.pinned (OpenSpec.ofChange stepIsLocalWrong)

/- THE SECOND FORM. 'bulk': how many values and letters a reading holds, each counted each time it is reached (what is shared counts as often as it is met; a slice's spare places count too). A statement '..UptoSaid' is the law's where the arguments, and the package variables that the reading takes, are together of bulk at most 1048576: NARROWER than '..Said'. Prove '..Said' where nothing that the law and all that it calls make is longer than what came in: it says more and counts as full. Else prove '..UptoSaid'. A law counts once. -/
mutual
def uptoBulk {H : Type} : DataW H → Nat
  | .lit (.string bytes) => bytes.length + 1
  | .lit _ => 1
  | .nil => 1
  | .ptr d => uptoBulk d + 1
  | .slice elems spare => uptoBulkAll elems + uptoBulkAll spare + 1
  | .agg parts => uptoBulkAll parts + 1
  | .iface _ d => uptoBulk d + 1
  | .map entries => uptoBulkEntries entries + 1
  | .held _ => 1
def uptoBulkAll {H : Type} : List (DataW H) → Nat
  | [] => 0
  | d :: r => uptoBulk d + uptoBulkAll r
def uptoBulkEntries {H : Type} : List (Lit × DataW H) → Nat
  | [] => 0
  | x :: r => uptoBulkEntry x + uptoBulkEntries r
def uptoBulkEntry {H : Type} : Lit × DataW H → Nat
  | (.string bytes, d) => bytes.length + uptoBulk d + 1
  | (_, d) => uptoBulk d + 1
 end
def uptoSmall : (H : Type) → List (DataW H) → Bool := fun _ ds => decide (uptoBulkAll ds ≤ 1048576)
def OpenSpec.upto (s : _root_.Go.ChangeSpec) : _root_.Go.OpenSpec := { _root_.Go.OpenSpec.ofChange s with cond := some uptoSmall }

/-- 'selfstablaw11.EvalIsLocal', WHERE WHAT IT READS IS OF BULK AT MOST 1048576: true; the input reads as it did. -/
def evalIsLocalUptoRow : OpenClaim := { program := "ytibfjhhadbkkgaagreat", sum := "ffb84d6414edf59eef1e1d549431d77d670d8f263c73d6578c91910adb030aea", func := "selfstab/selfstablaw11.EvalIsLocal", spec := "evalIsLocal", unfollowed := true, recurses := true, plainKeys := false, apart := false, narrowed := true }
def EvalIsLocalUptoSaid : Prop := evalIsLocalUptoRow.holds Tryz.pinned (OpenSpec.upto evalIsLocalSpec)

/-- 'selfstablaw11.EvalRenamesVariables', WHERE WHAT IT READS IS OF BULK AT MOST 1048576: true; the input reads as it did. -/
def evalRenamesVariablesUptoRow : OpenClaim := { program := "ytibfjhhadbkkgaagreat", sum := "ffb84d6414edf59eef1e1d549431d77d670d8f263c73d6578c91910adb030aea", func := "selfstab/selfstablaw11.EvalRenamesVariables", spec := "evalRenamesVariables", unfollowed := true, recurses := true, plainKeys := false, apart := false, narrowed := true }
def EvalRenamesVariablesUptoSaid : Prop := evalRenamesVariablesUptoRow.holds Tryz.pinned (OpenSpec.upto evalRenamesVariablesSpec)

/-- 'selfstablaw14.StepSteps', WHERE WHAT IT READS IS OF BULK AT MOST 1048576: true; the input reads as it did. -/
def stepStepsUptoRow : OpenClaim := { program := "ytibfjhhadbkkgaagreat", sum := "ffb84d6414edf59eef1e1d549431d77d670d8f263c73d6578c91910adb030aea", func := "selfstab/selfstablaw14.StepSteps", spec := "stepSteps", unfollowed := true, recurses := true, plainKeys := false, apart := false, narrowed := true }
def StepStepsUptoSaid : Prop := stepStepsUptoRow.holds Tryz.pinned (OpenSpec.upto stepStepsSpec)

/-- 'selfstablaw14.StepSerialises', WHERE WHAT IT READS IS OF BULK AT MOST 1048576: true; the input reads as it did. -/
def stepSerialisesUptoRow : OpenClaim := { program := "ytibfjhhadbkkgaagreat", sum := "ffb84d6414edf59eef1e1d549431d77d670d8f263c73d6578c91910adb030aea", func := "selfstab/selfstablaw14.StepSerialises", spec := "stepSerialises", unfollowed := true, recurses := true, plainKeys := false, apart := false, narrowed := true }
def StepSerialisesUptoSaid : Prop := stepSerialisesUptoRow.holds Tryz.pinned (OpenSpec.upto stepSerialisesSpec)

/-- 'selfstablaw14.StepFindsRules', WHERE WHAT IT READS IS OF BULK AT MOST 1048576: true; the input reads as it did. -/
def stepFindsRulesUptoRow : OpenClaim := { program := "ytibfjhhadbkkgaagreat", sum := "ffb84d6414edf59eef1e1d549431d77d670d8f263c73d6578c91910adb030aea", func := "selfstab/selfstablaw14.StepFindsRules", spec := "stepFindsRules", unfollowed := true, recurses := true, plainKeys := false, apart := false, narrowed := true }
def StepFindsRulesUptoSaid : Prop := stepFindsRulesUptoRow.holds Tryz.pinned (OpenSpec.upto stepFindsRulesSpec)

/-- 'selfstablaw14.StepKeepsEarlierRules', WHERE WHAT IT READS IS OF BULK AT MOST 1048576: true; the input reads as it did. -/
def stepKeepsEarlierRulesUptoRow : OpenClaim := { program := "ytibfjhhadbkkgaagreat", sum := "ffb84d6414edf59eef1e1d549431d77d670d8f263c73d6578c91910adb030aea", func := "selfstab/selfstablaw14.StepKeepsEarlierRules", spec := "stepKeepsEarlierRules", unfollowed := true, recurses := true, plainKeys := false, apart := false, narrowed := true }
def StepKeepsEarlierRulesUptoSaid : Prop := stepKeepsEarlierRulesUptoRow.holds Tryz.pinned (OpenSpec.upto stepKeepsEarlierRulesSpec)

/-- 'selfstablaw14.StepMoves', WHERE WHAT IT READS IS OF BULK AT MOST 1048576: true; the input reads as it did. -/
def stepMovesUptoRow : OpenClaim := { program := "ytibfjhhadbkkgaagreat", sum := "ffb84d6414edf59eef1e1d549431d77d670d8f263c73d6578c91910adb030aea", func := "selfstab/selfstablaw14.StepMoves", spec := "stepMoves", unfollowed := true, recurses := true, plainKeys := false, apart := false, narrowed := true }
def StepMovesUptoSaid : Prop := stepMovesUptoRow.holds Tryz.pinned (OpenSpec.upto stepMovesSpec)

/-- 'selfstablaw14.StepConsistsOfMoves', WHERE WHAT IT READS IS OF BULK AT MOST 1048576: true; the input reads as it did. -/
def stepConsistsOfMovesUptoRow : OpenClaim := { program := "ytibfjhhadbkkgaagreat", sum := "ffb84d6414edf59eef1e1d549431d77d670d8f263c73d6578c91910adb030aea", func := "selfstab/selfstablaw14.StepConsistsOfMoves", spec := "stepConsistsOfMoves", unfollowed := true, recurses := true, plainKeys := false, apart := false, narrowed := true }
def StepConsistsOfMovesUptoSaid : Prop := stepConsistsOfMovesUptoRow.holds Tryz.pinned (OpenSpec.upto stepConsistsOfMovesSpec)

/-- 'selfstablaw14.StepClampsValues', WHERE WHAT IT READS IS OF BULK AT MOST 1048576: true; the input reads as it did. -/
def stepClampsValuesUptoRow : OpenClaim := { program := "ytibfjhhadbkkgaagreat", sum := "ffb84d6414edf59eef1e1d549431d77d670d8f263c73d6578c91910adb030aea", func := "selfstab/selfstablaw14.StepClampsValues", spec := "stepClampsValues", unfollowed := true, recurses := true, plainKeys := false, apart := false, narrowed := true }
def StepClampsValuesUptoSaid : Prop := stepClampsValuesUptoRow.holds Tryz.pinned (OpenSpec.upto stepClampsValuesSpec)

/-- 'selfstablaw14.StepTakesTheFirstRule', WHERE WHAT IT READS IS OF BULK AT MOST 1048576: true; the input reads as it did. -/
def stepTakesTheFirstRuleUptoRow : OpenClaim := { program := "ytibfjhhadbkkgaagreat", sum := "ffb84d6414edf59eef1e1d549431d77d670d8f263c73d6578c91910adb030aea", func := "selfstab/selfstablaw14.StepTakesTheFirstRule", spec := "stepTakesTheFirstRule", unfollowed := true, recurses := true, plainKeys := false, apart := false, narrowed := true }
def StepTakesTheFirstRuleUptoSaid : Prop := stepTakesTheFirstRuleUptoRow.holds Tryz.pinned (OpenSpec.upto stepTakesTheFirstRuleSpec)

/-- 'selfstablaw14.StepIsLocal', WHERE WHAT IT READS IS OF BULK AT MOST 1048576: true; the input reads as it did. -/
def stepIsLocalUptoRow : OpenClaim := { program := "ytibfjhhadbkkgaagreat", sum := "ffb84d6414edf59eef1e1d549431d77d670d8f263c73d6578c91910adb030aea", func := "selfstab/selfstablaw14.StepIsLocal", spec := "stepIsLocal", unfollowed := true, recurses := true, plainKeys := false, apart := false, narrowed := true }
def StepIsLocalUptoSaid : Prop := stepIsLocalUptoRow.holds Tryz.pinned (OpenSpec.upto stepIsLocalSpec)

end Rows
end Go.Proofs.YtibfjhhadbkkgaaGreat
