/-
  No cell of these rows narrows 'for every input' (looked for: loops, veiled, ifaces, maps, wideKeys, modest, calm, conditions, laid).
  DERIVED. THE GIVEN ROWS OF THIS SEAT. 5 by the template 'for every input the law returns true; each argument reads behind the call as it read before'; 0 by the template 'total and deterministic' (their statements: YtnhhedecaejgcaaTotals.lean).
  GIVEN WITH THE SEED: the statements are not yours to turn. If you find one false, say at which input.
  Laid BY PROGRAM, IN A SANDBOX (cutbox-rows.mjs): the forced cells as the released guide's own fill.sh prints them over the translation c6d09e6cf826a5ce… (all of the seat's roots in one cut). By AI agents, Wed Nov 11 2026. No macro, syntax, notation, axiom, sorry.
-/
import Derived.Test.YtnhhedecaejgcaaChecked
import GoSem.Claim
import GoSem.ClaimJoined
import GoSem.ClaimMapViews
import Derived.JoinedTies
import Derived.KernelRfl
namespace Go.Proofs.Ytnhhedecaejgcaa
/- THE CELL 'sum', in the pinned program and in every row, IS THE sha256 OF THE DUMP (.gsa) THAT YtnhhedecaejgcaaProg.lean LOADS. Nothing in Lean hashes anything: it is a label: what it is worth is what the hold of that sum in a sandbox is worth. -/
noncomputable def Try.pinned : Pinned := { name := "ytnhhedecaejgcaa", sum := "c6d09e6cf826a5ce5e133993e3ba19743b1727c1c2c40ca3a6a8da9cc53c7f77", checked := Try.checked }
namespace Rows
def none {H : Type} : Left H := { results := [], args := [] }

/-- 'selfstablaw12.CodeCompiles': WHATEVER THE INPUT: true; the input reads as it did. -/
def codeCompilesSpec : ChangeSpec := { name := "codeCompiles", fn := fun _ => fun
  | [d] => { results := [.lit (.bool true)], args := [d] }
  | _ => none }
def codeCompilesRow : OpenClaim := { program := "ytnhhedecaejgcaa", sum := "c6d09e6cf826a5ce5e133993e3ba19743b1727c1c2c40ca3a6a8da9cc53c7f77", func := "selfstab/selfstablaw12.CodeCompiles", spec := "codeCompiles", unfollowed := true, recurses := true, apart := false }
def CodeCompilesSaid : Prop := codeCompilesRow.holds Try.pinned (OpenSpec.ofChange codeCompilesSpec)

/-- ITS FALSE NEIGHBOUR: 'it returns false'. Refute it at one input. -/
def codeCompilesWrong : ChangeSpec := { name := "codeCompiles", fn := fun _ => fun
  | [d] => { results := [.lit (.bool false)], args := [d] }
  | _ => none }
def CodeCompilesWrongFalsely : Prop := codeCompilesRow.holds Try.pinned (OpenSpec.ofChange codeCompilesWrong)

/-- 'selfstablaw12.CodeOfExpressionsIsVerified': WHATEVER THE INPUT: true; the input reads as it did. -/
def codeOfExpressionsIsVerifiedSpec : ChangeSpec := { name := "codeOfExpressionsIsVerified", fn := fun _ => fun
  | [d1, d2] => { results := [.lit (.bool true)], args := [d1, d2] }
  | _ => none }
def codeOfExpressionsIsVerifiedRow : OpenClaim := { program := "ytnhhedecaejgcaa", sum := "c6d09e6cf826a5ce5e133993e3ba19743b1727c1c2c40ca3a6a8da9cc53c7f77", func := "selfstab/selfstablaw12.CodeOfExpressionsIsVerified", spec := "codeOfExpressionsIsVerified", unfollowed := true, recurses := true, apart := false }
def CodeOfExpressionsIsVerifiedSaid : Prop := codeOfExpressionsIsVerifiedRow.holds Try.pinned (OpenSpec.ofChange codeOfExpressionsIsVerifiedSpec)

/-- ITS FALSE NEIGHBOUR: 'it returns false'. Refute it at one input. -/
def codeOfExpressionsIsVerifiedWrong : ChangeSpec := { name := "codeOfExpressionsIsVerified", fn := fun _ => fun
  | [d1, d2] => { results := [.lit (.bool false)], args := [d1, d2] }
  | _ => none }
def CodeOfExpressionsIsVerifiedWrongFalsely : Prop := codeOfExpressionsIsVerifiedRow.holds Try.pinned (OpenSpec.ofChange codeOfExpressionsIsVerifiedWrong)

/-- 'selfstablaw12.CodeHasTheLength': WHATEVER THE INPUT: true; the input reads as it did. -/
def codeHasTheLengthSpec : ChangeSpec := { name := "codeHasTheLength", fn := fun _ => fun
  | [d] => { results := [.lit (.bool true)], args := [d] }
  | _ => none }
def codeHasTheLengthRow : OpenClaim := { program := "ytnhhedecaejgcaa", sum := "c6d09e6cf826a5ce5e133993e3ba19743b1727c1c2c40ca3a6a8da9cc53c7f77", func := "selfstab/selfstablaw12.CodeHasTheLength", spec := "codeHasTheLength", unfollowed := true, recurses := true, apart := false }
def CodeHasTheLengthSaid : Prop := codeHasTheLengthRow.holds Try.pinned (OpenSpec.ofChange codeHasTheLengthSpec)

/-- ITS FALSE NEIGHBOUR: 'it returns false'. Refute it at one input. -/
def codeHasTheLengthWrong : ChangeSpec := { name := "codeHasTheLength", fn := fun _ => fun
  | [d] => { results := [.lit (.bool false)], args := [d] }
  | _ => none }
def CodeHasTheLengthWrongFalsely : Prop := codeHasTheLengthRow.holds Try.pinned (OpenSpec.ofChange codeHasTheLengthWrong)

/-- 'selfstablaw12.CodeContainsItsOperands': WHATEVER THE INPUT: true; the input reads as it did. -/
def codeContainsItsOperandsSpec : ChangeSpec := { name := "codeContainsItsOperands", fn := fun _ => fun
  | [d1, d2, d3] => { results := [.lit (.bool true)], args := [d1, d2, d3] }
  | _ => none }
def codeContainsItsOperandsRow : OpenClaim := { program := "ytnhhedecaejgcaa", sum := "c6d09e6cf826a5ce5e133993e3ba19743b1727c1c2c40ca3a6a8da9cc53c7f77", func := "selfstab/selfstablaw12.CodeContainsItsOperands", spec := "codeContainsItsOperands", unfollowed := true, recurses := true, apart := false }
def CodeContainsItsOperandsSaid : Prop := codeContainsItsOperandsRow.holds Try.pinned (OpenSpec.ofChange codeContainsItsOperandsSpec)

/-- ITS FALSE NEIGHBOUR: 'it returns false'. Refute it at one input. -/
def codeContainsItsOperandsWrong : ChangeSpec := { name := "codeContainsItsOperands", fn := fun _ => fun
  | [d1, d2, d3] => { results := [.lit (.bool false)], args := [d1, d2, d3] }
  | _ => none }
def CodeContainsItsOperandsWrongFalsely : Prop := codeContainsItsOperandsRow.holds Try.pinned (OpenSpec.ofChange codeContainsItsOperandsWrong)

/-- 'selfstablaw12.CodeAllowsFewerVariables': WHATEVER THE INPUT: true; the input reads as it did. -/
def codeAllowsFewerVariablesSpec : ChangeSpec := { name := "codeAllowsFewerVariables", fn := fun _ => fun
  | [d1, d2, d3] => { results := [.lit (.bool true)], args := [d1, d2, d3] }
  | _ => none }
def codeAllowsFewerVariablesRow : OpenClaim := { program := "ytnhhedecaejgcaa", sum := "c6d09e6cf826a5ce5e133993e3ba19743b1727c1c2c40ca3a6a8da9cc53c7f77", func := "selfstab/selfstablaw12.CodeAllowsFewerVariables", spec := "codeAllowsFewerVariables", unfollowed := true, recurses := true, apart := false }
def CodeAllowsFewerVariablesSaid : Prop := codeAllowsFewerVariablesRow.holds Try.pinned (OpenSpec.ofChange codeAllowsFewerVariablesSpec)

/-- ITS FALSE NEIGHBOUR: 'it returns false'. Refute it at one input. -/
def codeAllowsFewerVariablesWrong : ChangeSpec := { name := "codeAllowsFewerVariables", fn := fun _ => fun
  | [d1, d2, d3] => { results := [.lit (.bool false)], args := [d1, d2, d3] }
  | _ => none }
def CodeAllowsFewerVariablesWrongFalsely : Prop := codeAllowsFewerVariablesRow.holds Try.pinned (OpenSpec.ofChange codeAllowsFewerVariablesWrong)

/- THE SECOND FORM. 'bulk': how many values and letters a reading holds, each counted each time it is reached (what is shared counts as often as it is met; a slice's spare places count too). A statement '..UptoSaid' is the law's where the arguments, and the package variables that the reading takes, are together of bulk at most 1048576: NARROWER than '..Said'. Prove '..Said' where nothing that the law and all that it calls make is longer than what came in: it says more and counts as full. Else prove '..UptoSaid'. A law counts once. -/
mutual
def uptoBulk {H : Type} : DataW H → Nat
  | .lit (.string bytes) => bytes.length + 1
  | .lit _ => 1
  | .nil => 1
  | .ptr d => uptoBulk d + 1
  | .slice elems spare => uptoBulkAll elems + uptoBulkAll spare + 1
  | .agg parts => uptoBulkAll parts + 1
  | .iface _ d => uptoBulk d + 1
  | .map entries => uptoBulkEntries entries + 1
  | .held _ => 1
def uptoBulkAll {H : Type} : List (DataW H) → Nat
  | [] => 0
  | d :: r => uptoBulk d + uptoBulkAll r
def uptoBulkEntries {H : Type} : List (Lit × DataW H) → Nat
  | [] => 0
  | x :: r => uptoBulkEntry x + uptoBulkEntries r
def uptoBulkEntry {H : Type} : Lit × DataW H → Nat
  | (.string bytes, d) => bytes.length + uptoBulk d + 1
  | (_, d) => uptoBulk d + 1
 end
def uptoSmall : (H : Type) → List (DataW H) → Bool := fun _ ds => decide (uptoBulkAll ds ≤ 1048576)
def OpenSpec.upto (s : _root_.Go.ChangeSpec) : _root_.Go.OpenSpec := { _root_.Go.OpenSpec.ofChange s with cond := some uptoSmall }

/-- 'selfstablaw12.CodeCompiles', WHERE WHAT IT READS IS OF BULK AT MOST 1048576: true; the input reads as it did. -/
def codeCompilesUptoRow : OpenClaim := { program := "ytnhhedecaejgcaa", sum := "c6d09e6cf826a5ce5e133993e3ba19743b1727c1c2c40ca3a6a8da9cc53c7f77", func := "selfstab/selfstablaw12.CodeCompiles", spec := "codeCompiles", unfollowed := true, recurses := true, apart := false, narrowed := true }
def CodeCompilesUptoSaid : Prop := codeCompilesUptoRow.holds Try.pinned (OpenSpec.upto codeCompilesSpec)

/-- 'selfstablaw12.CodeOfExpressionsIsVerified', WHERE WHAT IT READS IS OF BULK AT MOST 1048576: true; the input reads as it did. -/
def codeOfExpressionsIsVerifiedUptoRow : OpenClaim := { program := "ytnhhedecaejgcaa", sum := "c6d09e6cf826a5ce5e133993e3ba19743b1727c1c2c40ca3a6a8da9cc53c7f77", func := "selfstab/selfstablaw12.CodeOfExpressionsIsVerified", spec := "codeOfExpressionsIsVerified", unfollowed := true, recurses := true, apart := false, narrowed := true }
def CodeOfExpressionsIsVerifiedUptoSaid : Prop := codeOfExpressionsIsVerifiedUptoRow.holds Try.pinned (OpenSpec.upto codeOfExpressionsIsVerifiedSpec)

/-- 'selfstablaw12.CodeHasTheLength', WHERE WHAT IT READS IS OF BULK AT MOST 1048576: true; the input reads as it did. -/
def codeHasTheLengthUptoRow : OpenClaim := { program := "ytnhhedecaejgcaa", sum := "c6d09e6cf826a5ce5e133993e3ba19743b1727c1c2c40ca3a6a8da9cc53c7f77", func := "selfstab/selfstablaw12.CodeHasTheLength", spec := "codeHasTheLength", unfollowed := true, recurses := true, apart := false, narrowed := true }
def CodeHasTheLengthUptoSaid : Prop := codeHasTheLengthUptoRow.holds Try.pinned (OpenSpec.upto codeHasTheLengthSpec)

/-- 'selfstablaw12.CodeContainsItsOperands', WHERE WHAT IT READS IS OF BULK AT MOST 1048576: true; the input reads as it did. -/
def codeContainsItsOperandsUptoRow : OpenClaim := { program := "ytnhhedecaejgcaa", sum := "c6d09e6cf826a5ce5e133993e3ba19743b1727c1c2c40ca3a6a8da9cc53c7f77", func := "selfstab/selfstablaw12.CodeContainsItsOperands", spec := "codeContainsItsOperands", unfollowed := true, recurses := true, apart := false, narrowed := true }
def CodeContainsItsOperandsUptoSaid : Prop := codeContainsItsOperandsUptoRow.holds Try.pinned (OpenSpec.upto codeContainsItsOperandsSpec)

/-- 'selfstablaw12.CodeAllowsFewerVariables', WHERE WHAT IT READS IS OF BULK AT MOST 1048576: true; the input reads as it did. -/
def codeAllowsFewerVariablesUptoRow : OpenClaim := { program := "ytnhhedecaejgcaa", sum := "c6d09e6cf826a5ce5e133993e3ba19743b1727c1c2c40ca3a6a8da9cc53c7f77", func := "selfstab/selfstablaw12.CodeAllowsFewerVariables", spec := "codeAllowsFewerVariables", unfollowed := true, recurses := true, apart := false, narrowed := true }
def CodeAllowsFewerVariablesUptoSaid : Prop := codeAllowsFewerVariablesUptoRow.holds Try.pinned (OpenSpec.upto codeAllowsFewerVariablesSpec)

end Rows
end Go.Proofs.Ytnhhedecaejgcaa
