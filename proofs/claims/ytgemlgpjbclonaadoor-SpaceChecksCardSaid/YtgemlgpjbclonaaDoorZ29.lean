/- Merged of: WSd WSe WSg WSh (see NOTES.md). -/
import Derived.Test.YtgemlgpjbclonaaDoorZ22
import Derived.Test.YtgemlgpjbclonaaDoorZ28
set_option linter.unusedSimpArgs false
set_option linter.unnecessarySimpa false
set_option linter.unusedVariables false

/- Contracts: the program's mover: Step. -/
namespace Go.Proofs.YtgemlgpjbclonaaDoor
open Go.RowKit

/-- As far as a step has come. -/
def partS (p : Prg) (g : Graph) (c : Config) (S v : Nat) : Config := (List.range c.length).map fun u => if u < v ∧ S.testBit u = true then moveF p g c u else c.getD u []
theorem partS_length (p : Prg) (g : Graph) (c : Config) (S v : Nat) : (partS p g c S v).length = c.length := by simp [partS]
theorem partS_at (p : Prg) (g : Graph) (c : Config) (S v : Nat) (i : Nat) : (partS p g c S v)[i]? = if i < c.length then some (if i < v ∧ S.testBit i = true then moveF p g c i else c.getD i []) else none := by
  unfold partS
  rw [List.getElem?_map]
  by_cases h : i < c.length
  · rw [List.getElem?_range h, if_pos h]; rfl
  · rw [if_neg h, List.getElem?_eq_none (by simp; omega)]; rfl
theorem partS_zero (p : Prg) (g : Graph) (c : Config) (S : Nat) : partS p g c S 0 = c := by
  apply List.ext_getElem?
  intro i
  rw [partS_at]
  by_cases h : i < c.length
  · rw [if_pos h, if_neg (by omega), getD_eq h, List.getElem?_eq_getElem h]
  · rw [if_neg h, List.getElem?_eq_none (by omega)]
theorem partS_full (p : Prg) (g : Graph) (c : Config) (S : Nat) : partS p g c S c.length = stepCF p g c S := by
  unfold partS stepCF
  refine List.map_congr_left fun u hu => ?_
  rw [List.mem_range] at hu
  cases hb : S.testBit u with
  | true => rw [if_pos ⟨hu, rfl⟩, if_pos rfl]
  | false => rw [if_neg (fun h => by cases h.2), if_neg (by decide)]
theorem partS_yes {p : Prg} {g : Graph} {c : Config} {S v : Nat} (hb : S.testBit v = true) : (partS p g c S v).set v (moveF p g c v) = partS p g c S (v + 1) := by
  apply List.ext_getElem?
  intro i
  rw [List.getElem?_set, partS_at, partS_at, partS_length]
  by_cases he : v = i
  · subst he
    rw [if_pos rfl]
    by_cases h : v < c.length
    · rw [if_pos h, if_pos h, if_pos ⟨by omega, hb⟩]
    · rw [if_neg h, if_neg h]
  · rw [if_neg he]
    have e : (i < v ∧ S.testBit i = true) ↔ (i < v + 1 ∧ S.testBit i = true) := by
      constructor
      · rintro ⟨h, h'⟩; exact ⟨by omega, h'⟩
      · rintro ⟨h, h'⟩; exact ⟨by omega, h'⟩
    simp only [e]
theorem partS_no {p : Prg} {g : Graph} {c : Config} {S v : Nat} (hb : S.testBit v = false) : partS p g c S v = partS p g c S (v + 1) := by
  apply List.ext_getElem?
  intro i
  rw [partS_at, partS_at]
  have e : (i < v ∧ S.testBit i = true) ↔ (i < v + 1 ∧ S.testBit i = true) := by
    constructor
    · rintro ⟨h, h'⟩; exact ⟨by omega, h'⟩
    · rintro ⟨h, h'⟩
      refine ⟨?_, h'⟩
      have : i ≠ v := by rintro rfl; rw [hb] at h'; cases h'
      omega
  simp only [e]

end Go.Proofs.YtgemlgpjbclonaaDoor

/- Contracts: step.Rule, step.Enabled, step.Move, step.Step. -/
namespace Go.Proofs.YtgemlgpjbclonaaDoor
open Go.RowKit

/-- A new slice of ints and a code; a new configuration and a code. -/
def RetMove (r : List Int × Int) (w : World) (e : Ending) (w' : World) : Prop := ∃ A c, e = .returned (.tuple #[.slice A r.1.length c, .int .i64 r.2]) ∧ NewI w' w.heap.size A c r.1 ∧ Bel w w'
def RetStep (r : Config × Int) (w : World) (e : Ending) (w' : World) : Prop := ∃ A c, e = .returned (.tuple #[.slice A r.1.length c, .int .i64 r.2]) ∧ ConfV w' (.slice A r.1.length c) r.1 ∧ Bel w w'
theorem NewI.nil (w : World) (B : Nat) : NewI w B none 0 [] := ⟨SliceR.nil, Nat.le_refl _, by unfold maxLen; simp, fun b o e => by cases e⟩
theorem ConfV.nil (w : World) : ConfV w (.slice none 0 0) [] := ⟨none, 0, rfl, SliceR.nil, Nat.le_refl _, by unfold maxLen; omega⟩





end Go.Proofs.YtgemlgpjbclonaaDoor

/- Contracts: the reference's move. -/
namespace Go.Proofs.YtgemlgpjbclonaaDoor
open Go.RowKit


end Go.Proofs.YtgemlgpjbclonaaDoor

/- Contracts: the reference's Move and Step. -/
namespace Go.Proofs.YtgemlgpjbclonaaDoor
open Go.RowKit



end Go.Proofs.YtgemlgpjbclonaaDoor

