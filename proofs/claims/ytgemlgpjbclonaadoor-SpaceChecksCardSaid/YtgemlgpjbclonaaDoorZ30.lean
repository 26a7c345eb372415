/- Merged of: WEm WSj WSi WSk (see NOTES.md). -/
import Derived.Test.YtgemlgpjbclonaaDoorZ17
import Derived.Test.YtgemlgpjbclonaaDoorZ29
set_option linter.unusedSimpArgs false
set_option linter.unnecessarySimpa false
set_option linter.unusedVariables false

/- The test 'quick' of the laws of layer 11. -/
namespace Go.Proofs.YtgemlgpjbclonaaDoor
open Go.RowKit


end Go.Proofs.YtgemlgpjbclonaaDoor

/- Contracts: fair and sound of the laws of layer 14; Same of configurations; Clamp. -/
namespace Go.Proofs.YtgemlgpjbclonaaDoor
open Go.RowKit
theorem quick_parts {p : Prg} {g : Graph} (h : quickF p g = true) : lightP p = true ∧ lightG g = true := by
  unfold quickF at h; simp at h; exact h.1

def fairF (p : Prg) (g : Graph) (c : Config) : Bool := quickF p g && lightC c
theorem fair_parts {p : Prg} {g : Graph} {c : Config} (h : fairF p g c = true) : lightP p = true ∧ lightG g = true ∧ lightC c = true := by
  unfold fairF at h
  simp at h
  exact ⟨(quick_parts h.1).1, (quick_parts h.1).2, h.2⟩
def soundF (p : Prg) (g : Graph) (c : Config) : Bool := fairF p g c && decide (memF p g c = 0)
theorem sound_parts {p : Prg} {g : Graph} {c : Config} (h : soundF p g c = true) : lightP p = true ∧ lightG g = true ∧ lightC c = true ∧ memF p g c = 0 := by
  unfold soundF at h
  simp at h
  obtain ⟨h1, h2, h3⟩ := fair_parts h.1
  exact ⟨h1, h2, h3, h.2⟩




end Go.Proofs.YtgemlgpjbclonaaDoor

/- The example of the laws of layer 14, and its sanity check. -/
namespace Go.Proofs.YtgemlgpjbclonaaDoor
open Go.RowKit

def exP : Prg := ⟨⟨#[97]⟩, [⟨⟨#[98]⟩, 2, 0, 0, 0, 0⟩], [⟨⟨#[114]⟩, [⟨5, 0⟩], [⟨0, [⟨3, 0⟩]⟩]⟩]⟩
def exG : Graph := ⟨[0, 1], [[⟨1, 1⟩], [⟨0, 1⟩]]⟩
theorem SliceR.one {α : Type} {size : Nat} {E : World → Nat → Nat → α → Prop} {w : World} {b : Nat} {x : α} (hb : b < w.heap.size) (h : E w b 0 x) : SliceR size E w (some ⟨b, 0, none⟩) 1 [x] :=
  ⟨rfl, fun i y hy => by
    match i, hy with
    | 0, hy =>
      obtain rfl : x = y := by simpa using hy
      exact ⟨b, 0, rfl, hb, by rw [Nat.zero_mul]; exact h⟩
    | i + 1, hy => simp at hy⟩
theorem SliceR.two {α : Type} {size : Nat} {E : World → Nat → Nat → α → Prop} {w : World} {b : Nat} {x y : α} (hb : b < w.heap.size) (h : E w b 0 x) (h2 : E w b size y) : SliceR size E w (some ⟨b, 0, none⟩) 2 [x, y] :=
  ⟨rfl, fun i z hz => by
    match i, hz with
    | 0, hz =>
      obtain rfl : x = z := by simpa using hz
      exact ⟨b, 0, rfl, hb, by rw [Nat.zero_mul]; exact h⟩
    | 1, hz =>
      obtain rfl : y = z := by simpa using hz
      exact ⟨b, 0, rfl, hb, by rw [Nat.one_mul, Nat.zero_add]; exact h2⟩
    | i + 2, hz => simp at hz⟩
def RetEx (w : World) (e : Ending) (w' : World) : Prop := ∃ vp vg, e = .returned (.tuple #[vp, vg]) ∧ PrgV w' vp exP ∧ GraphV w' vg exG ∧ Bel w w'
set_option maxRecDepth 100000 in
set_option maxHeartbeats 4000000 in
theorem example18_any (w : World) : Calls Tryd.prog 8 #[] w (RetEx w) := by
  go_enter Tryd.func8, Tryd.ntmps8
  go_wp2
  refine bodyPost_ret (v := .tuple #[.agg #[.string ⟨#[97]⟩, .slice (some ⟨w.heap.size + 1 + 1 + 1, 0, none⟩) 1 1, .slice (some ⟨w.heap.size + 1 + 1 + 1 + 1 + 1 + 1, 0, none⟩) 1 1], .agg #[.slice (some ⟨w.heap.size + 1 + 1 + 1 + 1 + 1 + 1 + 1 + 1, 0, none⟩) 2 2, .slice (some ⟨w.heap.size + 1 + 1 + 1 + 1 + 1 + 1 + 1 + 1 + 1 + 1 + 1, 0, none⟩) 2 2]]) (by simp [results, Tryd.results8, go_sem]) rfl ⟨_, _, rfl, ?_, ?_, ?_⟩
  · refine ⟨_, _, _, _, rfl, SliceR.one (by simp) ⟨?_, ?_, ?_, ?_, ?_, ?_⟩, by decide, by decide, SliceR.one (by simp) ⟨?_, ⟨_, 1, ?_, SliceR.one (b := w.heap.size + 1 + 1) (by simp) ⟨?_, ?_⟩, by decide, by decide⟩, ⟨_, 1, ?_, SliceR.one (b := w.heap.size + 1 + 1 + 1 + 1 + 1) (by simp) ⟨?_, _, 1, ?_, SliceR.one (b := w.heap.size + 1 + 1 + 1 + 1) (by simp) ⟨?_, ?_⟩, by decide, by decide⟩, by decide, by decide⟩⟩, by decide, by decide⟩
    all_goals ((try unfold IntAt); go_simp)
  · refine ⟨_, _, _, _, rfl, SliceR.two (by simp) ?_ ?_, by decide, by decide, SliceR.two (by simp) ⟨_, 1, ?_, SliceR.one (b := w.heap.size + 1 + 1 + 1 + 1 + 1 + 1 + 1 + 1 + 1) (by simp) ⟨?_, ?_⟩, by decide, by decide⟩ ⟨_, 1, ?_, SliceR.one (b := w.heap.size + 1 + 1 + 1 + 1 + 1 + 1 + 1 + 1 + 1 + 1) (by simp) ⟨?_, ?_⟩, by decide, by decide⟩, by decide, by decide⟩
    all_goals ((try unfold IntAt); go_simp)
  · repeat' refine Bel.alloc ?_ _
    exact Bel.refl w


end Go.Proofs.YtgemlgpjbclonaaDoor

/- Contracts of the steps and moves that succeed, as the laws of layer 14 use them. -/
namespace Go.Proofs.YtgemlgpjbclonaaDoor
open Go.RowKit

theorem RowsR.get {w : World} {A : Option Addr} {n : Nat} {c : Config} (h : RowsR w A n c) {v : Nat} (hv : v < c.length) {l : List Int} (hl : c.getD v [] = l) :
    ∃ b o R rc, A = some ⟨b, o, none⟩ ∧ b < w.heap.size ∧ w.cell? ⟨b, o + v, none⟩ = some (.slice R l.length rc) ∧ IntsR w R l.length l ∧ l.length ≤ rc ∧ rc ≤ maxLen := by
  obtain ⟨b, o, R, rc, h1, h2, h3, h4, h5, h6⟩ := h.at_ v hv
  rw [getD_eq hv] at hl
  subst hl
  exact ⟨b, o, R, rc, h1, h2, h3, h4, h5, h6⟩
def RetConf (D : Config) (n : Nat) (w : World) (e : Ending) (w' : World) : Prop := ∃ A ca, e = .returned (.tuple #[.slice A n ca, .int .i64 0]) ∧ ConfV w' (.slice A n ca) D ∧ Bel w w'
def RetIntsC (l : List Int) (n : Nat) (w : World) (e : Ending) (w' : World) : Prop := ∃ A ca, e = .returned (.tuple #[.slice A n ca, .int .i64 0]) ∧ IntsR w' A n l ∧ Bel w w'
theorem stepRF_ok {p : Prg} {g : Graph} {c : Config} {T : Nat} (hm : memF p g c = 0) (h0 : T ≠ 0) (hw : within32 T (enabF p g c) = true) : stepRF p g c T = (stepCF p g c T, 0) := by
  unfold stepRF
  rw [if_neg (by simpa using hm), if_neg (by rw [hw]; simpa using h0)]
theorem stepRF_zero {p : Prg} {g : Graph} {c : Config} (hm : memF p g c = 0) : stepRF p g c 0 = ([], 11) := by
  unfold stepRF
  rw [if_neg (by simpa using hm), if_pos (.inl rfl)]
theorem moveRF_ok {p : Prg} {g : Graph} {c : Config} {v : Nat} (hm : memF p g c = 0) (hv : v < c.length) (hf : 0 ≤ firstF p.rules g c v) : moveRF p g c (v : Int) = (moveF p g c v, 0) := by
  unfold moveRF
  rw [if_neg (by simpa using hm), if_neg (by omega), Int.toNat_natCast, if_neg (by omega)]
theorem moveRF_no {p : Prg} {g : Graph} {c : Config} {v : Nat} (hm : memF p g c = 0) (hv : v < c.length) (hf : firstF p.rules g c v < 0) : moveRF p g c (v : Int) = ([], 11) := by
  unfold moveRF
  rw [if_neg (by simpa using hm), if_neg (by omega), Int.toNat_natCast, if_pos hf]
theorem ruleF_ok {p : Prg} {g : Graph} {c : Config} {v : Nat} (hm : memF p g c = 0) (hv : v < c.length) : ruleF p g c (v : Int) = firstF p.rules g c v := by
  unfold ruleF
  rw [if_neg (by simpa using hm), if_neg (by omega), Int.toNat_natCast]
theorem enabledF_ok {p : Prg} {g : Graph} {c : Config} (hm : memF p g c = 0) : enabledF p g c = enabF p g c := by
  unfold enabledF
  rw [if_neg (by simpa using hm)]
theorem enabF_lt {p : Prg} {g : Graph} {c : Config} (hm : memF p g c = 0) : enabF p g c < 4294967296 := setF_lt32 _ (by have := conf_len hm; have := (fits_zero (mem_zero hm).1).2.1.le; omega)
theorem and_within (S T : Nat) : within32 (S &&& T) T = true := by
  rw [within32_iff]
  intro v _ h
  rw [Nat.testBit_and] at h
  simp at h
  exact h.2
theorem has_node {S v : Nat} (hv : v < 32) : hasB S (v : Int) = S.testBit v := by
  unfold hasB; rw [decide_eq_true (show (0 : Int) ≤ v by omega), decide_eq_true (show (v : Int) < 32 by omega), Int.toNat_natCast]; simp
theorem moveF_len {p : Prg} {g : Graph} {c : Config} (v : Nat) : (moveF p g c v).length = (c.getD v []).length := by unfold moveF; exact movesF_length _ _ _ _ _

theorem ints_len {w : World} {A : Option Addr} {n : Nat} {l : List Int} (h : IntsR w A n l) : l.length = n := h.1

end Go.Proofs.YtgemlgpjbclonaaDoor

