/-
  No cell of these rows narrows 'for every input' (looked for: loops, veiled, ifaces, maps, wideKeys, modest, calm, conditions, laid).
  DERIVED. THE GIVEN ROWS OF THIS SEAT. 5 by the template 'for every input the law returns true; each argument reads behind the call as it read before'; 0 by the template 'total and deterministic' (their statements: YtjlhdbgbkkjbdaaGreatTotals.lean).
  GIVEN WITH THE SEED: the statements are not yours to turn. If you find one false, say at which input.
  Laid BY PROGRAM, IN A SANDBOX (cutbox-rows.mjs): the forced cells as the released guide's own fill.sh prints them over the translation a88a43bff442b64e… (all of the seat's roots in one cut). By AI agents, Wed Nov 11 2026. No macro, syntax, notation, axiom, sorry.
-/
import Derived.Test.YtjlhdbgbkkjbdaaGreatChecked
import GoSem.Claim
import GoSem.ClaimJoined
import GoSem.ClaimMapViews
import Derived.JoinedTies
import Derived.KernelRfl
namespace Go.Proofs.YtjlhdbgbkkjbdaaGreat
/- THE CELL 'sum', in the pinned program and in every row, IS THE sha256 OF THE DUMP (.gsa) THAT YtjlhdbgbkkjbdaaGreatProg.lean LOADS. Nothing in Lean hashes anything: it is a label: what it is worth is what the hold of that sum in a sandbox is worth. -/
noncomputable def Tryz.pinned : Pinned := { name := "ytjlhdbgbkkjbdaagreat", sum := "a88a43bff442b64e7b54a4e676a81aafa3e72b2d487292b1067c78340d5e9422", checked := Tryz.checked }
namespace Rows
def none {H : Type} : Left H := { results := [], args := [] }

/-- 'selfstablaw11.EvalGuards': WHATEVER THE INPUT: true; the input reads as it did. -/
def evalGuardsSpec : ChangeSpec := { name := "evalGuards", fn := fun _ => fun
  | [d1, d2, d3, d4, d5] => { results := [.lit (.bool true)], args := [d1, d2, d3, d4, d5] }
  | _ => none }
def evalGuardsRow : OpenClaim := { program := "ytjlhdbgbkkjbdaagreat", sum := "a88a43bff442b64e7b54a4e676a81aafa3e72b2d487292b1067c78340d5e9422", func := "selfstab/selfstablaw11.EvalGuards", spec := "evalGuards", unfollowed := true, recurses := true, plainKeys := false, apart := false }
def EvalGuardsSaid : Prop := evalGuardsRow.holds Tryz.pinned (OpenSpec.ofChange evalGuardsSpec)

/-- ITS FALSE NEIGHBOUR: 'it returns false'. Refute it at one input. -/
def evalGuardsWrong : ChangeSpec := { name := "evalGuards", fn := fun _ => fun
  | [d1, d2, d3, d4, d5] => { results := [.lit (.bool false)], args := [d1, d2, d3, d4, d5] }
  | _ => none }
def EvalGuardsWrongFalsely : Prop := evalGuardsRow.holds Tryz.pinned (OpenSpec.ofChange evalGuardsWrong)

/-- 'selfstablaw11.EvalValues': WHATEVER THE INPUT: true; the input reads as it did. -/
def evalValuesSpec : ChangeSpec := { name := "evalValues", fn := fun _ => fun
  | [d1, d2, d3, d4, d5] => { results := [.lit (.bool true)], args := [d1, d2, d3, d4, d5] }
  | _ => none }
def evalValuesRow : OpenClaim := { program := "ytjlhdbgbkkjbdaagreat", sum := "a88a43bff442b64e7b54a4e676a81aafa3e72b2d487292b1067c78340d5e9422", func := "selfstab/selfstablaw11.EvalValues", spec := "evalValues", unfollowed := true, recurses := true, plainKeys := false, apart := false }
def EvalValuesSaid : Prop := evalValuesRow.holds Tryz.pinned (OpenSpec.ofChange evalValuesSpec)

/-- ITS FALSE NEIGHBOUR: 'it returns false'. Refute it at one input. -/
def evalValuesWrong : ChangeSpec := { name := "evalValues", fn := fun _ => fun
  | [d1, d2, d3, d4, d5] => { results := [.lit (.bool false)], args := [d1, d2, d3, d4, d5] }
  | _ => none }
def EvalValuesWrongFalsely : Prop := evalValuesRow.holds Tryz.pinned (OpenSpec.ofChange evalValuesWrong)

/-- 'selfstablaw11.EvalIsLocal': WHATEVER THE INPUT: true; the input reads as it did. -/
def evalIsLocalSpec : ChangeSpec := { name := "evalIsLocal", fn := fun _ => fun
  | [d1, d2, d3, d4, d5, d6] => { results := [.lit (.bool true)], args := [d1, d2, d3, d4, d5, d6] }
  | _ => none }
def evalIsLocalRow : OpenClaim := { program := "ytjlhdbgbkkjbdaagreat", sum := "a88a43bff442b64e7b54a4e676a81aafa3e72b2d487292b1067c78340d5e9422", func := "selfstab/selfstablaw11.EvalIsLocal", spec := "evalIsLocal", unfollowed := true, recurses := true, plainKeys := false, apart := false }
def EvalIsLocalSaid : Prop := evalIsLocalRow.holds Tryz.pinned (OpenSpec.ofChange evalIsLocalSpec)

/-- ITS FALSE NEIGHBOUR: 'it returns false'. Refute it at one input. -/
def evalIsLocalWrong : ChangeSpec := { name := "evalIsLocal", fn := fun _ => fun
  | [d1, d2, d3, d4, d5, d6] => { results := [.lit (.bool false)], args := [d1, d2, d3, d4, d5, d6] }
  | _ => none }
def EvalIsLocalWrongFalsely : Prop := evalIsLocalRow.holds Tryz.pinned (OpenSpec.ofChange evalIsLocalWrong)

/-- 'selfstablaw11.EvalHasTypes': WHATEVER THE INPUT: true; the input reads as it did. -/
def evalHasTypesSpec : ChangeSpec := { name := "evalHasTypes", fn := fun _ => fun
  | [d1, d2, d3, d4, d5] => { results := [.lit (.bool true)], args := [d1, d2, d3, d4, d5] }
  | _ => none }
def evalHasTypesRow : OpenClaim := { program := "ytjlhdbgbkkjbdaagreat", sum := "a88a43bff442b64e7b54a4e676a81aafa3e72b2d487292b1067c78340d5e9422", func := "selfstab/selfstablaw11.EvalHasTypes", spec := "evalHasTypes", unfollowed := true, recurses := true, plainKeys := false, apart := false }
def EvalHasTypesSaid : Prop := evalHasTypesRow.holds Tryz.pinned (OpenSpec.ofChange evalHasTypesSpec)

/-- ITS FALSE NEIGHBOUR: 'it returns false'. Refute it at one input. -/
def evalHasTypesWrong : ChangeSpec := { name := "evalHasTypes", fn := fun _ => fun
  | [d1, d2, d3, d4, d5] => { results := [.lit (.bool false)], args := [d1, d2, d3, d4, d5] }
  | _ => none }
def EvalHasTypesWrongFalsely : Prop := evalHasTypesRow.holds Tryz.pinned (OpenSpec.ofChange evalHasTypesWrong)

/-- 'selfstablaw11.EvalRenamesVariables': WHATEVER THE INPUT: true; the input reads as it did. -/
def evalRenamesVariablesSpec : ChangeSpec := { name := "evalRenamesVariables", fn := fun _ => fun
  | [d1, d2, d3, d4, d5, d6, d7] => { results := [.lit (.bool true)], args := [d1, d2, d3, d4, d5, d6, d7] }
  | _ => none }
def evalRenamesVariablesRow : OpenClaim := { program := "ytjlhdbgbkkjbdaagreat", sum := "a88a43bff442b64e7b54a4e676a81aafa3e72b2d487292b1067c78340d5e9422", func := "selfstab/selfstablaw11.EvalRenamesVariables", spec := "evalRenamesVariables", unfollowed := true, recurses := true, plainKeys := false, apart := false }
def EvalRenamesVariablesSaid : Prop := evalRenamesVariablesRow.holds Tryz.pinned (OpenSpec.ofChange evalRenamesVariablesSpec)

/-- ITS FALSE NEIGHBOUR: 'it returns false'. Refute it at one input. -/
def evalRenamesVariablesWrong : ChangeSpec := { name := "evalRenamesVariables", fn := fun _ => fun
  | [d1, d2, d3, d4, d5, d6, d7] => { results := [.lit (.bool false)], args := [d1, d2, d3, d4, d5, d6, d7] }
  | _ => none }
def EvalRenamesVariablesWrongFalsely : Prop := evalRenamesVariablesRow.holds Tryz.pinned (OpenSpec.ofChange evalRenamesVariablesWrong)

/- THE SECOND FORM. 'bulk': how many values and letters a reading holds, each counted each time it is reached (what is shared counts as often as it is met; a slice's spare places count too). A statement '..UptoSaid' is the law's where the arguments, and the package variables that the reading takes, are together of bulk at most 1048576: NARROWER than '..Said'. Prove '..Said' where nothing that the law and all that it calls make is longer than what came in: it says more and counts as full. Else prove '..UptoSaid'. A law counts once. -/
mutual
def uptoBulk {H : Type} : DataW H → Nat
  | .lit (.string bytes) => bytes.length + 1
  | .lit _ => 1
  | .nil => 1
  | .ptr d => uptoBulk d + 1
  | .slice elems spare => uptoBulkAll elems + uptoBulkAll spare + 1
  | .agg parts => uptoBulkAll parts + 1
  | .iface _ d => uptoBulk d + 1
  | .map entries => uptoBulkEntries entries + 1
  | .held _ => 1
def uptoBulkAll {H : Type} : List (DataW H) → Nat
  | [] => 0
  | d :: r => uptoBulk d + uptoBulkAll r
def uptoBulkEntries {H : Type} : List (Lit × DataW H) → Nat
  | [] => 0
  | x :: r => uptoBulkEntry x + uptoBulkEntries r
def uptoBulkEntry {H : Type} : Lit × DataW H → Nat
  | (.string bytes, d) => bytes.length + uptoBulk d + 1
  | (_, d) => uptoBulk d + 1
 end
def uptoSmall : (H : Type) → List (DataW H) → Bool := fun _ ds => decide (uptoBulkAll ds ≤ 1048576)
def OpenSpec.upto (s : _root_.Go.ChangeSpec) : _root_.Go.OpenSpec := { _root_.Go.OpenSpec.ofChange s with cond := some uptoSmall }

/-- 'selfstablaw11.EvalGuards', WHERE WHAT IT READS IS OF BULK AT MOST 1048576: true; the input reads as it did. -/
def evalGuardsUptoRow : OpenClaim := { program := "ytjlhdbgbkkjbdaagreat", sum := "a88a43bff442b64e7b54a4e676a81aafa3e72b2d487292b1067c78340d5e9422", func := "selfstab/selfstablaw11.EvalGuards", spec := "evalGuards", unfollowed := true, recurses := true, plainKeys := false, apart := false, narrowed := true }
def EvalGuardsUptoSaid : Prop := evalGuardsUptoRow.holds Tryz.pinned (OpenSpec.upto evalGuardsSpec)

/-- 'selfstablaw11.EvalValues', WHERE WHAT IT READS IS OF BULK AT MOST 1048576: true; the input reads as it did. -/
def evalValuesUptoRow : OpenClaim := { program := "ytjlhdbgbkkjbdaagreat", sum := "a88a43bff442b64e7b54a4e676a81aafa3e72b2d487292b1067c78340d5e9422", func := "selfstab/selfstablaw11.EvalValues", spec := "evalValues", unfollowed := true, recurses := true, plainKeys := false, apart := false, narrowed := true }
def EvalValuesUptoSaid : Prop := evalValuesUptoRow.holds Tryz.pinned (OpenSpec.upto evalValuesSpec)

/-- 'selfstablaw11.EvalIsLocal', WHERE WHAT IT READS IS OF BULK AT MOST 1048576: true; the input reads as it did. -/
def evalIsLocalUptoRow : OpenClaim := { program := "ytjlhdbgbkkjbdaagreat", sum := "a88a43bff442b64e7b54a4e676a81aafa3e72b2d487292b1067c78340d5e9422", func := "selfstab/selfstablaw11.EvalIsLocal", spec := "evalIsLocal", unfollowed := true, recurses := true, plainKeys := false, apart := false, narrowed := true }
def EvalIsLocalUptoSaid : Prop := evalIsLocalUptoRow.holds Tryz.pinned (OpenSpec.upto evalIsLocalSpec)

/-- 'selfstablaw11.EvalHasTypes', WHERE WHAT IT READS IS OF BULK AT MOST 1048576: true; the input reads as it did. -/
def evalHasTypesUptoRow : OpenClaim := { program := "ytjlhdbgbkkjbdaagreat", sum := "a88a43bff442b64e7b54a4e676a81aafa3e72b2d487292b1067c78340d5e9422", func := "selfstab/selfstablaw11.EvalHasTypes", spec := "evalHasTypes", unfollowed := true, recurses := true, plainKeys := false, apart := false, narrowed := true }
def EvalHasTypesUptoSaid : Prop := evalHasTypesUptoRow.holds Tryz.pinned (OpenSpec.upto evalHasTypesSpec)

/-- 'selfstablaw11.EvalRenamesVariables', WHERE WHAT IT READS IS OF BULK AT MOST 1048576: true; the input reads as it did. -/
def evalRenamesVariablesUptoRow : OpenClaim := { program := "ytjlhdbgbkkjbdaagreat", sum := "a88a43bff442b64e7b54a4e676a81aafa3e72b2d487292b1067c78340d5e9422", func := "selfstab/selfstablaw11.EvalRenamesVariables", spec := "evalRenamesVariables", unfollowed := true, recurses := true, plainKeys := false, apart := false, narrowed := true }
def EvalRenamesVariablesUptoSaid : Prop := evalRenamesVariablesUptoRow.holds Tryz.pinned (OpenSpec.upto evalRenamesVariablesSpec)

end Rows
end Go.Proofs.YtjlhdbgbkkjbdaaGreat
