/- Merged of: WEm WSj WSi WSk (see NOTES.md). -/
import Derived.Test.YtgemlgpjbclonaaGreatDoorZ17
import Derived.Test.YtgemlgpjbclonaaGreatDoorZ29
set_option linter.unusedSimpArgs false
set_option linter.unnecessarySimpa false
set_option linter.unusedVariables false

/- The test 'quick' of the laws of layer 11. -/
namespace Go.Proofs.YtgemlgpjbclonaaGreatDoor
open Go.RowKit


end Go.Proofs.YtgemlgpjbclonaaGreatDoor

/- Contracts: fair and sound of the laws of layer 14; Same of configurations; Clamp. -/
namespace Go.Proofs.YtgemlgpjbclonaaGreatDoor
open Go.RowKit

end Go.Proofs.YtgemlgpjbclonaaGreatDoor

/- The example of the laws of layer 14, and its sanity check. -/
namespace Go.Proofs.YtgemlgpjbclonaaGreatDoor
open Go.RowKit

def exP : Prg := ⟨⟨#[97]⟩, [⟨⟨#[98]⟩, 2, 0, 0, 0, 0⟩], [⟨⟨#[114]⟩, [⟨5, 0⟩], [⟨0, [⟨3, 0⟩]⟩]⟩]⟩
def exG : Graph := ⟨[0, 1], [[⟨1, 1⟩], [⟨0, 1⟩]]⟩
theorem SliceR.one {α : Type} {size : Nat} {E : World → Nat → Nat → α → Prop} {w : World} {b : Nat} {x : α} (hb : b < w.heap.size) (h : E w b 0 x) : SliceR size E w (some ⟨b, 0, none⟩) 1 [x] :=
 ⟨rfl, fun i y hy => by
  match i, hy with
  | 0, hy =>
   obtain rfl : x = y := by simpa using hy
   exact ⟨b, 0, rfl, hb, by rw [Nat.zero_mul]; exact h⟩
  | i + 1, hy => simp at hy⟩
theorem SliceR.two {α : Type} {size : Nat} {E : World → Nat → Nat → α → Prop} {w : World} {b : Nat} {x y : α} (hb : b < w.heap.size) (h : E w b 0 x) (h2 : E w b size y) : SliceR size E w (some ⟨b, 0, none⟩) 2 [x, y] :=
 ⟨rfl, fun i z hz => by
  match i, hz with
  | 0, hz =>
   obtain rfl : x = z := by simpa using hz
   exact ⟨b, 0, rfl, hb, by rw [Nat.zero_mul]; exact h⟩
  | 1, hz =>
   obtain rfl : y = z := by simpa using hz
   exact ⟨b, 0, rfl, hb, by rw [Nat.one_mul, Nat.zero_add]; exact h2⟩
  | i + 2, hz => simp at hz⟩
def RetEx (w : World) (e : Ending) (w' : World) : Prop := ∃ vp vg, e = .returned (.tuple #[vp, vg]) ∧ PrgV w' vp exP ∧ GraphV w' vg exG ∧ Bel w w'
set_option maxRecDepth 100000 in
set_option maxHeartbeats 4000000 in
theorem example18_any (w : World) : Calls Tryz.prog 31 #[] w (RetEx w) := by
 go_enter Tryz.func31, Tryz.ntmps31
 go_wp2
 refine bodyPost_ret (v := .tuple #[.agg #[.string ⟨#[97]⟩, .slice (some ⟨w.heap.size + 1 + 1 + 1, 0, none⟩) 1 1, .slice (some ⟨w.heap.size + 1 + 1 + 1 + 1 + 1 + 1, 0, none⟩) 1 1], .agg #[.slice (some ⟨w.heap.size + 1 + 1 + 1 + 1 + 1 + 1 + 1 + 1, 0, none⟩) 2 2, .slice (some ⟨w.heap.size + 1 + 1 + 1 + 1 + 1 + 1 + 1 + 1 + 1 + 1 + 1, 0, none⟩) 2 2]]) (by simp [results, Tryz.results31, go_sem]) rfl ⟨_, _, rfl, ?_, ?_, ?_⟩
 ·refine ⟨_, _, _, _, rfl, SliceR.one (by simp) ⟨?_, ?_, ?_, ?_, ?_, ?_⟩, by decide, by decide, SliceR.one (by simp) ⟨?_, ⟨_, 1, ?_, SliceR.one (b := w.heap.size + 1 + 1) (by simp) ⟨?_, ?_⟩, by decide, by decide⟩, ⟨_, 1, ?_, SliceR.one (b := w.heap.size + 1 + 1 + 1 + 1 + 1) (by simp) ⟨?_, _, 1, ?_, SliceR.one (b := w.heap.size + 1 + 1 + 1 + 1) (by simp) ⟨?_, ?_⟩, by decide, by decide⟩, by decide, by decide⟩⟩, by decide, by decide⟩
  all_goals ((try unfold IntAt); go_simp)
 ·refine ⟨_, _, _, _, rfl, SliceR.two (by simp) ?_ ?_, by decide, by decide, SliceR.two (by simp) ⟨_, 1, ?_, SliceR.one (b := w.heap.size + 1 + 1 + 1 + 1 + 1 + 1 + 1 + 1 + 1) (by simp) ⟨?_, ?_⟩, by decide, by decide⟩ ⟨_, 1, ?_, SliceR.one (b := w.heap.size + 1 + 1 + 1 + 1 + 1 + 1 + 1 + 1 + 1 + 1) (by simp) ⟨?_, ?_⟩, by decide, by decide⟩, by decide, by decide⟩
  all_goals ((try unfold IntAt); go_simp)
 ·repeat' refine Bel.alloc ?_ _
  exact Bel.refl w


end Go.Proofs.YtgemlgpjbclonaaGreatDoor

/- Contracts of the steps and moves that succeed, as the laws of layer 14 use them. -/
namespace Go.Proofs.YtgemlgpjbclonaaGreatDoor
open Go.RowKit

theorem stepRF_ok {p : Prg} {g : Graph} {c : Config} {T : Nat} (hm : memF p g c = 0) (h0 : T ≠ 0) (hw : within32 T (enabF p g c) = true) : stepRF p g c T = (stepCF p g c T, 0) := by
 unfold stepRF
 rw [if_neg (by simpa using hm), if_neg (by rw [hw]; simpa using h0)]
theorem enabF_lt {p : Prg} {g : Graph} {c : Config} (hm : memF p g c = 0) : enabF p g c < 4294967296 := setF_lt32 _ (by have := conf_len hm; have := (fits_zero (mem_zero hm).1).2.1.le; omega)
end Go.Proofs.YtgemlgpjbclonaaGreatDoor

