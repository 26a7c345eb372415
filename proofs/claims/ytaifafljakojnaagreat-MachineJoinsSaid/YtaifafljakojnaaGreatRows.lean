/-
  No cell of these rows narrows 'for every input' (looked for: loops, veiled, ifaces, maps, wideKeys, modest, calm, conditions, laid).
  DERIVED. THE GIVEN ROWS OF THIS SEAT. 5 by the template 'for every input the law returns true; each argument reads behind the call as it read before'; 0 by the template 'total and deterministic' (their statements: YtaifafljakojnaaGreatTotals.lean).
  GIVEN WITH THE SEED: the statements are not yours to turn. If you find one false, say at which input.
  Laid BY PROGRAM, IN A SANDBOX (cutbox-rows.mjs): the forced cells as the released guide's own fill.sh prints them over the translation c793d126f888712c… (all of the seat's roots in one cut). By AI agents, Wed Nov 11 2026. No macro, syntax, notation, axiom, sorry.
-/
import Derived.Test.YtaifafljakojnaaGreatChecked
import GoSem.Claim
import GoSem.ClaimJoined
import GoSem.ClaimMapViews
import Derived.JoinedTies
import Derived.KernelRfl
namespace Go.Proofs.YtaifafljakojnaaGreat
/- THE CELL 'sum', in the pinned program and in every row, IS THE sha256 OF THE DUMP (.gsa) THAT YtaifafljakojnaaGreatProg.lean LOADS. Nothing in Lean hashes anything: it is a label: what it is worth is what the hold of that sum in a sandbox is worth. -/
noncomputable def Tryz.pinned : Pinned := { name := "ytaifafljakojnaagreat", sum := "c793d126f888712c39631e9c6395cf0512a547abea2023dee8ee569364d82fa8", checked := Tryz.checked }
namespace Rows
def none {H : Type} : Left H := { results := [], args := [] }

/-- 'selfstablaw13.MachineRuns': WHATEVER THE INPUT: true; the input reads as it did. -/
def machineRunsSpec : ChangeSpec := { name := "machineRuns", fn := fun _ => fun
  | [d1, d2, d3, d4, d5] => { results := [.lit (.bool true)], args := [d1, d2, d3, d4, d5] }
  | _ => none }
def machineRunsRow : OpenClaim := { program := "ytaifafljakojnaagreat", sum := "c793d126f888712c39631e9c6395cf0512a547abea2023dee8ee569364d82fa8", func := "selfstab/selfstablaw13.MachineRuns", spec := "machineRuns", unfollowed := true, recurses := true, plainKeys := false, apart := false }
def MachineRunsSaid : Prop := machineRunsRow.holds Tryz.pinned (OpenSpec.ofChange machineRunsSpec)

/-- ITS FALSE NEIGHBOUR: 'it returns false'. Refute it at one input. -/
def machineRunsWrong : ChangeSpec := { name := "machineRuns", fn := fun _ => fun
  | [d1, d2, d3, d4, d5] => { results := [.lit (.bool false)], args := [d1, d2, d3, d4, d5] }
  | _ => none }
def MachineRunsWrongFalsely : Prop := machineRunsRow.holds Tryz.pinned (OpenSpec.ofChange machineRunsWrong)

/-- 'selfstablaw13.MachineStepsAreBounded': WHATEVER THE INPUT: true; the input reads as it did. -/
def machineStepsAreBoundedSpec : ChangeSpec := { name := "machineStepsAreBounded", fn := fun _ => fun
  | [d1, d2, d3, d4, d5] => { results := [.lit (.bool true)], args := [d1, d2, d3, d4, d5] }
  | _ => none }
def machineStepsAreBoundedRow : OpenClaim := { program := "ytaifafljakojnaagreat", sum := "c793d126f888712c39631e9c6395cf0512a547abea2023dee8ee569364d82fa8", func := "selfstab/selfstablaw13.MachineStepsAreBounded", spec := "machineStepsAreBounded", unfollowed := true, recurses := true, plainKeys := false, apart := false }
def MachineStepsAreBoundedSaid : Prop := machineStepsAreBoundedRow.holds Tryz.pinned (OpenSpec.ofChange machineStepsAreBoundedSpec)

/-- ITS FALSE NEIGHBOUR: 'it returns false'. Refute it at one input. -/
def machineStepsAreBoundedWrong : ChangeSpec := { name := "machineStepsAreBounded", fn := fun _ => fun
  | [d1, d2, d3, d4, d5] => { results := [.lit (.bool false)], args := [d1, d2, d3, d4, d5] }
  | _ => none }
def MachineStepsAreBoundedWrongFalsely : Prop := machineStepsAreBoundedRow.holds Tryz.pinned (OpenSpec.ofChange machineStepsAreBoundedWrong)

/-- 'selfstablaw13.MachineJoins': WHATEVER THE INPUT: true; the input reads as it did. -/
def machineJoinsSpec : ChangeSpec := { name := "machineJoins", fn := fun _ => fun
  | [d1, d2, d3, d4, d5, d6, d7] => { results := [.lit (.bool true)], args := [d1, d2, d3, d4, d5, d6, d7] }
  | _ => none }
def machineJoinsRow : OpenClaim := { program := "ytaifafljakojnaagreat", sum := "c793d126f888712c39631e9c6395cf0512a547abea2023dee8ee569364d82fa8", func := "selfstab/selfstablaw13.MachineJoins", spec := "machineJoins", unfollowed := true, recurses := true, plainKeys := false, apart := false }
def MachineJoinsSaid : Prop := machineJoinsRow.holds Tryz.pinned (OpenSpec.ofChange machineJoinsSpec)

/-- ITS FALSE NEIGHBOUR: 'it returns false'. Refute it at one input. -/
def machineJoinsWrong : ChangeSpec := { name := "machineJoins", fn := fun _ => fun
  | [d1, d2, d3, d4, d5, d6, d7] => { results := [.lit (.bool false)], args := [d1, d2, d3, d4, d5, d6, d7] }
  | _ => none }
def MachineJoinsWrongFalsely : Prop := machineJoinsRow.holds Tryz.pinned (OpenSpec.ofChange machineJoinsWrong)

/-- 'selfstablaw13.MachineRefusesUnverified': WHATEVER THE INPUT: true; the input reads as it did. -/
def machineRefusesUnverifiedSpec : ChangeSpec := { name := "machineRefusesUnverified", fn := fun _ => fun
  | [d1, d2, d3, d4, d5] => { results := [.lit (.bool true)], args := [d1, d2, d3, d4, d5] }
  | _ => none }
def machineRefusesUnverifiedRow : OpenClaim := { program := "ytaifafljakojnaagreat", sum := "c793d126f888712c39631e9c6395cf0512a547abea2023dee8ee569364d82fa8", func := "selfstab/selfstablaw13.MachineRefusesUnverified", spec := "machineRefusesUnverified", unfollowed := true, recurses := true, plainKeys := false, apart := false }
def MachineRefusesUnverifiedSaid : Prop := machineRefusesUnverifiedRow.holds Tryz.pinned (OpenSpec.ofChange machineRefusesUnverifiedSpec)

/-- ITS FALSE NEIGHBOUR: 'it returns false'. Refute it at one input. -/
def machineRefusesUnverifiedWrong : ChangeSpec := { name := "machineRefusesUnverified", fn := fun _ => fun
  | [d1, d2, d3, d4, d5] => { results := [.lit (.bool false)], args := [d1, d2, d3, d4, d5] }
  | _ => none }
def MachineRefusesUnverifiedWrongFalsely : Prop := machineRefusesUnverifiedRow.holds Tryz.pinned (OpenSpec.ofChange machineRefusesUnverifiedWrong)

/-- 'selfstablaw13.MachineAgreesWithEval': WHATEVER THE INPUT: true; the input reads as it did. -/
def machineAgreesWithEvalSpec : ChangeSpec := { name := "machineAgreesWithEval", fn := fun _ => fun
  | [d1, d2, d3, d4, d5] => { results := [.lit (.bool true)], args := [d1, d2, d3, d4, d5] }
  | _ => none }
def machineAgreesWithEvalRow : OpenClaim := { program := "ytaifafljakojnaagreat", sum := "c793d126f888712c39631e9c6395cf0512a547abea2023dee8ee569364d82fa8", func := "selfstab/selfstablaw13.MachineAgreesWithEval", spec := "machineAgreesWithEval", unfollowed := true, recurses := true, plainKeys := false, apart := false }
def MachineAgreesWithEvalSaid : Prop := machineAgreesWithEvalRow.holds Tryz.pinned (OpenSpec.ofChange machineAgreesWithEvalSpec)

/-- ITS FALSE NEIGHBOUR: 'it returns false'. Refute it at one input. -/
def machineAgreesWithEvalWrong : ChangeSpec := { name := "machineAgreesWithEval", fn := fun _ => fun
  | [d1, d2, d3, d4, d5] => { results := [.lit (.bool false)], args := [d1, d2, d3, d4, d5] }
  | _ => none }
def MachineAgreesWithEvalWrongFalsely : Prop := machineAgreesWithEvalRow.holds Tryz.pinned (OpenSpec.ofChange machineAgreesWithEvalWrong)

/- THE SECOND FORM. 'bulk': how many values and letters a reading holds, each counted each time it is reached (what is shared counts as often as it is met; a slice's spare places count too). A statement '..UptoSaid' is the law's where the arguments, and the package variables that the reading takes, are together of bulk at most 1048576: NARROWER than '..Said'. Prove '..Said' where nothing that the law and all that it calls make is longer than what came in: it says more and counts as full. Else prove '..UptoSaid'. A law counts once. -/
mutual
def uptoBulk {H : Type} : DataW H → Nat
  | .lit (.string bytes) => bytes.length + 1
  | .lit _ => 1
  | .nil => 1
  | .ptr d => uptoBulk d + 1
  | .slice elems spare => uptoBulkAll elems + uptoBulkAll spare + 1
  | .agg parts => uptoBulkAll parts + 1
  | .iface _ d => uptoBulk d + 1
  | .map entries => uptoBulkEntries entries + 1
  | .held _ => 1
def uptoBulkAll {H : Type} : List (DataW H) → Nat
  | [] => 0
  | d :: r => uptoBulk d + uptoBulkAll r
def uptoBulkEntries {H : Type} : List (Lit × DataW H) → Nat
  | [] => 0
  | x :: r => uptoBulkEntry x + uptoBulkEntries r
def uptoBulkEntry {H : Type} : Lit × DataW H → Nat
  | (.string bytes, d) => bytes.length + uptoBulk d + 1
  | (_, d) => uptoBulk d + 1
 end
def uptoSmall : (H : Type) → List (DataW H) → Bool := fun _ ds => decide (uptoBulkAll ds ≤ 1048576)
def OpenSpec.upto (s : _root_.Go.ChangeSpec) : _root_.Go.OpenSpec := { _root_.Go.OpenSpec.ofChange s with cond := some uptoSmall }

/-- 'selfstablaw13.MachineRuns', WHERE WHAT IT READS IS OF BULK AT MOST 1048576: true; the input reads as it did. -/
def machineRunsUptoRow : OpenClaim := { program := "ytaifafljakojnaagreat", sum := "c793d126f888712c39631e9c6395cf0512a547abea2023dee8ee569364d82fa8", func := "selfstab/selfstablaw13.MachineRuns", spec := "machineRuns", unfollowed := true, recurses := true, plainKeys := false, apart := false, narrowed := true }
def MachineRunsUptoSaid : Prop := machineRunsUptoRow.holds Tryz.pinned (OpenSpec.upto machineRunsSpec)

/-- 'selfstablaw13.MachineStepsAreBounded', WHERE WHAT IT READS IS OF BULK AT MOST 1048576: true; the input reads as it did. -/
def machineStepsAreBoundedUptoRow : OpenClaim := { program := "ytaifafljakojnaagreat", sum := "c793d126f888712c39631e9c6395cf0512a547abea2023dee8ee569364d82fa8", func := "selfstab/selfstablaw13.MachineStepsAreBounded", spec := "machineStepsAreBounded", unfollowed := true, recurses := true, plainKeys := false, apart := false, narrowed := true }
def MachineStepsAreBoundedUptoSaid : Prop := machineStepsAreBoundedUptoRow.holds Tryz.pinned (OpenSpec.upto machineStepsAreBoundedSpec)

/-- 'selfstablaw13.MachineJoins', WHERE WHAT IT READS IS OF BULK AT MOST 1048576: true; the input reads as it did. -/
def machineJoinsUptoRow : OpenClaim := { program := "ytaifafljakojnaagreat", sum := "c793d126f888712c39631e9c6395cf0512a547abea2023dee8ee569364d82fa8", func := "selfstab/selfstablaw13.MachineJoins", spec := "machineJoins", unfollowed := true, recurses := true, plainKeys := false, apart := false, narrowed := true }
def MachineJoinsUptoSaid : Prop := machineJoinsUptoRow.holds Tryz.pinned (OpenSpec.upto machineJoinsSpec)

/-- 'selfstablaw13.MachineRefusesUnverified', WHERE WHAT IT READS IS OF BULK AT MOST 1048576: true; the input reads as it did. -/
def machineRefusesUnverifiedUptoRow : OpenClaim := { program := "ytaifafljakojnaagreat", sum := "c793d126f888712c39631e9c6395cf0512a547abea2023dee8ee569364d82fa8", func := "selfstab/selfstablaw13.MachineRefusesUnverified", spec := "machineRefusesUnverified", unfollowed := true, recurses := true, plainKeys := false, apart := false, narrowed := true }
def MachineRefusesUnverifiedUptoSaid : Prop := machineRefusesUnverifiedUptoRow.holds Tryz.pinned (OpenSpec.upto machineRefusesUnverifiedSpec)

/-- 'selfstablaw13.MachineAgreesWithEval', WHERE WHAT IT READS IS OF BULK AT MOST 1048576: true; the input reads as it did. -/
def machineAgreesWithEvalUptoRow : OpenClaim := { program := "ytaifafljakojnaagreat", sum := "c793d126f888712c39631e9c6395cf0512a547abea2023dee8ee569364d82fa8", func := "selfstab/selfstablaw13.MachineAgreesWithEval", spec := "machineAgreesWithEval", unfollowed := true, recurses := true, plainKeys := false, apart := false, narrowed := true }
def MachineAgreesWithEvalUptoSaid : Prop := machineAgreesWithEvalUptoRow.holds Tryz.pinned (OpenSpec.upto machineAgreesWithEvalSpec)

end Rows
end Go.Proofs.YtaifafljakojnaaGreat
