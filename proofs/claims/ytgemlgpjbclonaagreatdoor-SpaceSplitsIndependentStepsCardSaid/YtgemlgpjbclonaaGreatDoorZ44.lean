/- Merged of: Door (see NOTES.md). -/
import Derived.Test.YtgemlgpjbclonaaGreatDoorZ03
import Derived.Test.YtgemlgpjbclonaaGreatDoorZ43
import Derived.Lib.LaidTab
import Derived.LaidMore
import Derived.OpenShut
import Derived.Stop.Joined
set_option linter.unusedSimpArgs false
set_option linter.unnecessarySimpa false
set_option linter.unusedVariables false

/- What a row's condition about the library's table gives the walks; the door's own heap meets it. -/
namespace Go.Proofs.YtgemlgpjbclonaaGreatDoor
open Go.ChangeShapes Go.WideShapes Go.ChangeAt Go.WideMaps Go.WideElems Go.RowKit

theorem gTab : Tryz.prog.globalNamed "math/bits.deBruijn32tab" = some 0 := by kernel_rfl
theorem tTab : (Tryz.prog.globals[0]?).map (·.type) = some 174 := by kernel_rfl
theorem cTab1 : Tryz.prog.cellsOf 5 = 1 := by kernel_rfl
theorem cTab32 : Tryz.prog.cellsOf 174 = 32 := by kernel_rfl
def bruijnZ : List Int := bruijn.map fun (n : Nat) => (n : Int)
abbrev laidL : List (String × DataW Unit) := [("math/bits.deBruijn32tab", Rows.laid_math_bits_deBruijn32tab)]
theorem tab32_of {W : World} (h : laidMetH Tryz.prog laidL W) : Tab32 W := by
 rw [MakeChecks.laidMetH_plain _ _ _ (by kernel_rfl)] at h
 have ht : Lib.TabIs Tryz.prog W "math/bits.deBruijn32tab" .u8 bruijnZ :=
  Lib.tabIs_of_head gTab tTab Tryz.underlying174 Tryz.underlying5 cTab1 cTab32 (show laidMet Tryz.prog [("math/bits.deBruijn32tab", Lib.tabData .u8 bruijnZ)] W from h)
 have hc : ∀ i, i < 32 → W.cell? ⟨0, i, none⟩ = some (.int .u8 ((bruijn.getD i 0 : Nat) : Int)) := fun i hi => by
  have h1 := ht.cell gTab i (by simpa [bruijnZ, bruijn] using hi)
  rw [h1]
  have hb : i < bruijn.length := by simpa [bruijn] using hi
  simp [bruijnZ, List.getD_eq_getElem?_getD, hb]
 refine ⟨?_, hc⟩
 have h0 := hc 0 (by decide)
 rcases Nat.lt_or_ge 0 W.heap.size with h | h
 ·exact h
 ·simp [World.cell?, Array.getElem?_eq_none h] at h0
theorem door_met (os : Os) (args : Array Value) : laidMetH Tryz.prog laidL ((World.doorLaid Tryz.prog 400 os).forCall (fun _ _ => 0) ⟨#[], args, []⟩).memory :=
 laidMetH_of_parts3 (fuel := 8) (laidMet_of_run' 8 (by kernel_rfl) (by kernel_rfl)) (by kernel_rfl) (by kernel_rfl)

end Go.Proofs.YtgemlgpjbclonaaGreatDoor

