/-
  No cell of these rows narrows 'for every input' (looked for: loops, veiled, ifaces, maps, wideKeys, modest, calm, conditions, laid).
  DERIVED. THE GIVEN ROWS OF THIS SEAT. 7 by the template 'for every input the law returns true; each argument reads behind the call as it read before'; 0 by the template 'total and deterministic' (their statements: YtdojkmbgmomghaaTotals.lean).
  GIVEN WITH THE SEED: the statements are not yours to turn. If you find one false, say at which input.
  Laid BY PROGRAM, IN A SANDBOX (cutbox-rows.mjs): the forced cells as the released guide's own fill.sh prints them over the translation 518326d912271a5b… (all of the seat's roots in one cut). By AI agents, Wed Nov 11 2026. No macro, syntax, notation, axiom, sorry.
-/
import Derived.Test.YtdojkmbgmomghaaChecked
import GoSem.Claim
import GoSem.ClaimJoined
import GoSem.ClaimMapViews
import Derived.JoinedTies
import Derived.KernelRfl
namespace Go.Proofs.Ytdojkmbgmomghaa
/- THE CELL 'sum', in the pinned program and in every row, IS THE sha256 OF THE DUMP (.gsa) THAT YtdojkmbgmomghaaProg.lean LOADS. Nothing in Lean hashes anything: it is a label: what it is worth is what the hold of that sum in a sandbox is worth. -/
noncomputable def Try.pinned : Pinned := { name := "ytdojkmbgmomghaa", sum := "518326d912271a5b7956682e145c9173bba821b988ac95b6bff85d667cc833e6", checked := Try.checked }
namespace Rows
def none {H : Type} : Left H := { results := [], args := [] }

/-- 'selfstablaw11.EvalFolds': WHATEVER THE INPUT: true; the input reads as it did. -/
def evalFoldsSpec : ChangeSpec := { name := "evalFolds", fn := fun _ => fun
  | [d1, d2] => { results := [.lit (.bool true)], args := [d1, d2] }
  | _ => none }
def evalFoldsRow : OpenClaim := { program := "ytdojkmbgmomghaa", sum := "518326d912271a5b7956682e145c9173bba821b988ac95b6bff85d667cc833e6", func := "selfstab/selfstablaw11.EvalFolds", spec := "evalFolds", unfollowed := true, recurses := true, apart := false }
def EvalFoldsSaid : Prop := evalFoldsRow.holds Try.pinned (OpenSpec.ofChange evalFoldsSpec)

/-- ITS FALSE NEIGHBOUR: 'it returns false'. Refute it at one input. -/
def evalFoldsWrong : ChangeSpec := { name := "evalFolds", fn := fun _ => fun
  | [d1, d2] => { results := [.lit (.bool false)], args := [d1, d2] }
  | _ => none }
def EvalFoldsWrongFalsely : Prop := evalFoldsRow.holds Try.pinned (OpenSpec.ofChange evalFoldsWrong)

/-- 'selfstablaw11.EvalDivides': WHATEVER THE INPUT: true; the input reads as it did. -/
def evalDividesSpec : ChangeSpec := { name := "evalDivides", fn := fun _ => fun
  | [d1, d2] => { results := [.lit (.bool true)], args := [d1, d2] }
  | _ => none }
def evalDividesRow : OpenClaim := { program := "ytdojkmbgmomghaa", sum := "518326d912271a5b7956682e145c9173bba821b988ac95b6bff85d667cc833e6", func := "selfstab/selfstablaw11.EvalDivides", spec := "evalDivides", unfollowed := true, recurses := true, apart := false }
def EvalDividesSaid : Prop := evalDividesRow.holds Try.pinned (OpenSpec.ofChange evalDividesSpec)

/-- ITS FALSE NEIGHBOUR: 'it returns false'. Refute it at one input. -/
def evalDividesWrong : ChangeSpec := { name := "evalDivides", fn := fun _ => fun
  | [d1, d2] => { results := [.lit (.bool false)], args := [d1, d2] }
  | _ => none }
def EvalDividesWrongFalsely : Prop := evalDividesRow.holds Try.pinned (OpenSpec.ofChange evalDividesWrong)

/-- 'selfstablaw11.EvalFoldsInAnyOrder': WHATEVER THE INPUT: true; the input reads as it did. -/
def evalFoldsInAnyOrderSpec : ChangeSpec := { name := "evalFoldsInAnyOrder", fn := fun _ => fun
  | [d1, d2, d3, d4] => { results := [.lit (.bool true)], args := [d1, d2, d3, d4] }
  | _ => none }
def evalFoldsInAnyOrderRow : OpenClaim := { program := "ytdojkmbgmomghaa", sum := "518326d912271a5b7956682e145c9173bba821b988ac95b6bff85d667cc833e6", func := "selfstab/selfstablaw11.EvalFoldsInAnyOrder", spec := "evalFoldsInAnyOrder", unfollowed := true, recurses := true, apart := false }
def EvalFoldsInAnyOrderSaid : Prop := evalFoldsInAnyOrderRow.holds Try.pinned (OpenSpec.ofChange evalFoldsInAnyOrderSpec)

/-- ITS FALSE NEIGHBOUR: 'it returns false'. Refute it at one input. -/
def evalFoldsInAnyOrderWrong : ChangeSpec := { name := "evalFoldsInAnyOrder", fn := fun _ => fun
  | [d1, d2, d3, d4] => { results := [.lit (.bool false)], args := [d1, d2, d3, d4] }
  | _ => none }
def EvalFoldsInAnyOrderWrongFalsely : Prop := evalFoldsInAnyOrderRow.holds Try.pinned (OpenSpec.ofChange evalFoldsInAnyOrderWrong)

/-- 'selfstablaw11.EvalFoldsAgree': WHATEVER THE INPUT: true; the input reads as it did. -/
def evalFoldsAgreeSpec : ChangeSpec := { name := "evalFoldsAgree", fn := fun _ => fun
  | [d] => { results := [.lit (.bool true)], args := [d] }
  | _ => none }
def evalFoldsAgreeRow : OpenClaim := { program := "ytdojkmbgmomghaa", sum := "518326d912271a5b7956682e145c9173bba821b988ac95b6bff85d667cc833e6", func := "selfstab/selfstablaw11.EvalFoldsAgree", spec := "evalFoldsAgree", unfollowed := true, recurses := true, apart := false }
def EvalFoldsAgreeSaid : Prop := evalFoldsAgreeRow.holds Try.pinned (OpenSpec.ofChange evalFoldsAgreeSpec)

/-- ITS FALSE NEIGHBOUR: 'it returns false'. Refute it at one input. -/
def evalFoldsAgreeWrong : ChangeSpec := { name := "evalFoldsAgree", fn := fun _ => fun
  | [d] => { results := [.lit (.bool false)], args := [d] }
  | _ => none }
def EvalFoldsAgreeWrongFalsely : Prop := evalFoldsAgreeRow.holds Try.pinned (OpenSpec.ofChange evalFoldsAgreeWrong)

/-- 'selfstablaw11.EvalApplies': WHATEVER THE INPUT: true; the input reads as it did. -/
def evalAppliesSpec : ChangeSpec := { name := "evalApplies", fn := fun _ => fun
  | [d1, d2, d3] => { results := [.lit (.bool true)], args := [d1, d2, d3] }
  | _ => none }
def evalAppliesRow : OpenClaim := { program := "ytdojkmbgmomghaa", sum := "518326d912271a5b7956682e145c9173bba821b988ac95b6bff85d667cc833e6", func := "selfstab/selfstablaw11.EvalApplies", spec := "evalApplies", unfollowed := true, recurses := true, apart := false }
def EvalAppliesSaid : Prop := evalAppliesRow.holds Try.pinned (OpenSpec.ofChange evalAppliesSpec)

/-- ITS FALSE NEIGHBOUR: 'it returns false'. Refute it at one input. -/
def evalAppliesWrong : ChangeSpec := { name := "evalApplies", fn := fun _ => fun
  | [d1, d2, d3] => { results := [.lit (.bool false)], args := [d1, d2, d3] }
  | _ => none }
def EvalAppliesWrongFalsely : Prop := evalAppliesRow.holds Try.pinned (OpenSpec.ofChange evalAppliesWrong)

/-- 'selfstablaw11.EvalSaturates': WHATEVER THE INPUT: true; the input reads as it did. -/
def evalSaturatesSpec : ChangeSpec := { name := "evalSaturates", fn := fun _ => fun
  | [d1, d2, d3] => { results := [.lit (.bool true)], args := [d1, d2, d3] }
  | _ => none }
def evalSaturatesRow : OpenClaim := { program := "ytdojkmbgmomghaa", sum := "518326d912271a5b7956682e145c9173bba821b988ac95b6bff85d667cc833e6", func := "selfstab/selfstablaw11.EvalSaturates", spec := "evalSaturates", unfollowed := true, recurses := true, apart := false }
def EvalSaturatesSaid : Prop := evalSaturatesRow.holds Try.pinned (OpenSpec.ofChange evalSaturatesSpec)

/-- ITS FALSE NEIGHBOUR: 'it returns false'. Refute it at one input. -/
def evalSaturatesWrong : ChangeSpec := { name := "evalSaturates", fn := fun _ => fun
  | [d1, d2, d3] => { results := [.lit (.bool false)], args := [d1, d2, d3] }
  | _ => none }
def EvalSaturatesWrongFalsely : Prop := evalSaturatesRow.holds Try.pinned (OpenSpec.ofChange evalSaturatesWrong)

/-- 'selfstablaw11.EvalCompares': WHATEVER THE INPUT: true; the input reads as it did. -/
def evalComparesSpec : ChangeSpec := { name := "evalCompares", fn := fun _ => fun
  | [d1, d2] => { results := [.lit (.bool true)], args := [d1, d2] }
  | _ => none }
def evalComparesRow : OpenClaim := { program := "ytdojkmbgmomghaa", sum := "518326d912271a5b7956682e145c9173bba821b988ac95b6bff85d667cc833e6", func := "selfstab/selfstablaw11.EvalCompares", spec := "evalCompares", unfollowed := true, recurses := true, apart := false }
def EvalComparesSaid : Prop := evalComparesRow.holds Try.pinned (OpenSpec.ofChange evalComparesSpec)

/-- ITS FALSE NEIGHBOUR: 'it returns false'. Refute it at one input. -/
def evalComparesWrong : ChangeSpec := { name := "evalCompares", fn := fun _ => fun
  | [d1, d2] => { results := [.lit (.bool false)], args := [d1, d2] }
  | _ => none }
def EvalComparesWrongFalsely : Prop := evalComparesRow.holds Try.pinned (OpenSpec.ofChange evalComparesWrong)

/- THE SECOND FORM. 'bulk': how many values and letters a reading holds, each counted each time it is reached (what is shared counts as often as it is met; a slice's spare places count too). A statement '..UptoSaid' is the law's where the arguments, and the package variables that the reading takes, are together of bulk at most 1048576: NARROWER than '..Said'. Prove '..Said' where nothing that the law and all that it calls make is longer than what came in: it says more and counts as full. Else prove '..UptoSaid'. A law counts once. -/
mutual
def uptoBulk {H : Type} : DataW H → Nat
  | .lit (.string bytes) => bytes.length + 1
  | .lit _ => 1
  | .nil => 1
  | .ptr d => uptoBulk d + 1
  | .slice elems spare => uptoBulkAll elems + uptoBulkAll spare + 1
  | .agg parts => uptoBulkAll parts + 1
  | .iface _ d => uptoBulk d + 1
  | .map entries => uptoBulkEntries entries + 1
  | .held _ => 1
def uptoBulkAll {H : Type} : List (DataW H) → Nat
  | [] => 0
  | d :: r => uptoBulk d + uptoBulkAll r
def uptoBulkEntries {H : Type} : List (Lit × DataW H) → Nat
  | [] => 0
  | x :: r => uptoBulkEntry x + uptoBulkEntries r
def uptoBulkEntry {H : Type} : Lit × DataW H → Nat
  | (.string bytes, d) => bytes.length + uptoBulk d + 1
  | (_, d) => uptoBulk d + 1
 end
def uptoSmall : (H : Type) → List (DataW H) → Bool := fun _ ds => decide (uptoBulkAll ds ≤ 1048576)
def OpenSpec.upto (s : _root_.Go.ChangeSpec) : _root_.Go.OpenSpec := { _root_.Go.OpenSpec.ofChange s with cond := some uptoSmall }

/-- 'selfstablaw11.EvalFolds', WHERE WHAT IT READS IS OF BULK AT MOST 1048576: true; the input reads as it did. -/
def evalFoldsUptoRow : OpenClaim := { program := "ytdojkmbgmomghaa", sum := "518326d912271a5b7956682e145c9173bba821b988ac95b6bff85d667cc833e6", func := "selfstab/selfstablaw11.EvalFolds", spec := "evalFolds", unfollowed := true, recurses := true, apart := false, narrowed := true }
def EvalFoldsUptoSaid : Prop := evalFoldsUptoRow.holds Try.pinned (OpenSpec.upto evalFoldsSpec)

/-- 'selfstablaw11.EvalDivides', WHERE WHAT IT READS IS OF BULK AT MOST 1048576: true; the input reads as it did. -/
def evalDividesUptoRow : OpenClaim := { program := "ytdojkmbgmomghaa", sum := "518326d912271a5b7956682e145c9173bba821b988ac95b6bff85d667cc833e6", func := "selfstab/selfstablaw11.EvalDivides", spec := "evalDivides", unfollowed := true, recurses := true, apart := false, narrowed := true }
def EvalDividesUptoSaid : Prop := evalDividesUptoRow.holds Try.pinned (OpenSpec.upto evalDividesSpec)

/-- 'selfstablaw11.EvalFoldsInAnyOrder', WHERE WHAT IT READS IS OF BULK AT MOST 1048576: true; the input reads as it did. -/
def evalFoldsInAnyOrderUptoRow : OpenClaim := { program := "ytdojkmbgmomghaa", sum := "518326d912271a5b7956682e145c9173bba821b988ac95b6bff85d667cc833e6", func := "selfstab/selfstablaw11.EvalFoldsInAnyOrder", spec := "evalFoldsInAnyOrder", unfollowed := true, recurses := true, apart := false, narrowed := true }
def EvalFoldsInAnyOrderUptoSaid : Prop := evalFoldsInAnyOrderUptoRow.holds Try.pinned (OpenSpec.upto evalFoldsInAnyOrderSpec)

/-- 'selfstablaw11.EvalFoldsAgree', WHERE WHAT IT READS IS OF BULK AT MOST 1048576: true; the input reads as it did. -/
def evalFoldsAgreeUptoRow : OpenClaim := { program := "ytdojkmbgmomghaa", sum := "518326d912271a5b7956682e145c9173bba821b988ac95b6bff85d667cc833e6", func := "selfstab/selfstablaw11.EvalFoldsAgree", spec := "evalFoldsAgree", unfollowed := true, recurses := true, apart := false, narrowed := true }
def EvalFoldsAgreeUptoSaid : Prop := evalFoldsAgreeUptoRow.holds Try.pinned (OpenSpec.upto evalFoldsAgreeSpec)

/-- 'selfstablaw11.EvalApplies', WHERE WHAT IT READS IS OF BULK AT MOST 1048576: true; the input reads as it did. -/
def evalAppliesUptoRow : OpenClaim := { program := "ytdojkmbgmomghaa", sum := "518326d912271a5b7956682e145c9173bba821b988ac95b6bff85d667cc833e6", func := "selfstab/selfstablaw11.EvalApplies", spec := "evalApplies", unfollowed := true, recurses := true, apart := false, narrowed := true }
def EvalAppliesUptoSaid : Prop := evalAppliesUptoRow.holds Try.pinned (OpenSpec.upto evalAppliesSpec)

/-- 'selfstablaw11.EvalSaturates', WHERE WHAT IT READS IS OF BULK AT MOST 1048576: true; the input reads as it did. -/
def evalSaturatesUptoRow : OpenClaim := { program := "ytdojkmbgmomghaa", sum := "518326d912271a5b7956682e145c9173bba821b988ac95b6bff85d667cc833e6", func := "selfstab/selfstablaw11.EvalSaturates", spec := "evalSaturates", unfollowed := true, recurses := true, apart := false, narrowed := true }
def EvalSaturatesUptoSaid : Prop := evalSaturatesUptoRow.holds Try.pinned (OpenSpec.upto evalSaturatesSpec)

/-- 'selfstablaw11.EvalCompares', WHERE WHAT IT READS IS OF BULK AT MOST 1048576: true; the input reads as it did. -/
def evalComparesUptoRow : OpenClaim := { program := "ytdojkmbgmomghaa", sum := "518326d912271a5b7956682e145c9173bba821b988ac95b6bff85d667cc833e6", func := "selfstab/selfstablaw11.EvalCompares", spec := "evalCompares", unfollowed := true, recurses := true, apart := false, narrowed := true }
def EvalComparesUptoSaid : Prop := evalComparesUptoRow.holds Try.pinned (OpenSpec.upto evalComparesSpec)

end Rows
end Go.Proofs.Ytdojkmbgmomghaa
