/- Merged of: WSo (see NOTES.md). -/
import Derived.Test.YtibfjhhadbkkgaaGreatZ24
import Derived.Test.YtibfjhhadbkkgaaGreatYPEc
set_option linter.unusedSimpArgs false
set_option linter.unnecessarySimpa false
set_option linter.unusedVariables false

/- Two variables of a row of the call's own change places. -/
namespace Go.Proofs.YtibfjhhadbkkgaaGreat
open Go.RowKit

def varCells (x : Var) : List Value := [.string x.name, .int .i64 x.kind, .int .i64 x.lo, .int .i64 x.hi, .int .i64 x.perNode, .int .i64 x.perID]
def set6 (L : List Value) (p : Nat) (x : Var) : List Value := (((((L.set p (.string x.name)).set (p + 1) (.int .i64 x.kind)).set (p + 2) (.int .i64 x.lo)).set (p + 3) (.int .i64 x.hi)).set (p + 4) (.int .i64 x.perNode)).set (p + 5) (.int .i64 x.perID)
def set6W (w : World) (g p : Nat) (x : Var) : World := (((((w.setCell ⟨g, p, none⟩ (.string x.name)).setCell ⟨g, p + 1, none⟩ (.int .i64 x.kind)).setCell ⟨g, p + 2, none⟩ (.int .i64 x.lo)).setCell ⟨g, p + 3, none⟩ (.int .i64 x.hi)).setCell ⟨g, p + 4, none⟩ (.int .i64 x.perNode)).setCell ⟨g, p + 5, none⟩ (.int .i64 x.perID)
theorem set6_length (L : List Value) (p : Nat) (x : Var) : (set6 L p x).length = L.length := by simp [set6]
theorem set6_other (L : List Value) (p m : Nat) (x : Var) (h : m < p ∨ p + 6 ≤ m) : (set6 L p x)[m]? = L[m]? := by
  unfold set6
  rw [List.getElem?_set_ne (by omega), List.getElem?_set_ne (by omega), List.getElem?_set_ne (by omega), List.getElem?_set_ne (by omega), List.getElem?_set_ne (by omega), List.getElem?_set_ne (by omega)]
theorem set6_at (L : List Value) (p : Nat) (x : Var) (h : p + 6 ≤ L.length) (y : Nat) (hy : y < 6) : (set6 L p x)[p + y]? = (varCells x)[y]? := by
  unfold set6 varCells
  match y, hy with
  | 0, _ => rw [List.getElem?_set_ne (by omega), List.getElem?_set_ne (by omega), List.getElem?_set_ne (by omega), List.getElem?_set_ne (by omega), List.getElem?_set_ne (by omega), Nat.add_zero, List.getElem?_set_self (by omega)]; rfl
  | 1, _ => rw [List.getElem?_set_ne (by omega), List.getElem?_set_ne (by omega), List.getElem?_set_ne (by omega), List.getElem?_set_ne (by omega), List.getElem?_set_self (by simp; omega)]; rfl
  | 2, _ => rw [List.getElem?_set_ne (by omega), List.getElem?_set_ne (by omega), List.getElem?_set_ne (by omega), List.getElem?_set_self (by simp; omega)]; rfl
  | 3, _ => rw [List.getElem?_set_ne (by omega), List.getElem?_set_ne (by omega), List.getElem?_set_self (by simp; omega)]; rfl
  | 4, _ => rw [List.getElem?_set_ne (by omega), List.getElem?_set_self (by simp; omega)]; rfl
  | 5, _ => rw [List.getElem?_set_self (by simp; omega)]; rfl
theorem set6_own {w : World} {base g c n : Nat} {e : TypeId} {L : List Value} (h : w.ownsRow base e 6 (.slice (some ⟨g, 0, none⟩) n c) n L) (p : Nat) (x : Var) : (set6W w g p x).ownsRow base e 6 (.slice (some ⟨g, 0, none⟩) n c) n (set6 L p x) :=
  (((((((h.stored p _).1.stored (p + 1) _).1.stored (p + 2) _).1.stored (p + 3) _).1.stored (p + 4) _).1.stored (p + 5) _).1)
theorem Blk.set6 {w : World} {B g p : Nat} {cs : Array Value} {t : TypeId} (h : Blk w B cs t) (hne : B ≠ g) (x : Var) : Blk (set6W w g p x) B cs t :=
  (((((h.other (a := ⟨g, p, none⟩) hne _).other (a := ⟨g, p + 1, none⟩) hne _).other (a := ⟨g, p + 2, none⟩) hne _).other (a := ⟨g, p + 3, none⟩) hne _).other (a := ⟨g, p + 4, none⟩) hne _).other (a := ⟨g, p + 5, none⟩) hne _
theorem Bel.set6 {w0 w : World} {g p : Nat} (h : Bel w0 w) (hg : w0.heap.size ≤ g) (x : Var) : Bel w0 (set6W w g p x) :=
  (((((h.setCell (p := ⟨g, p, none⟩) hg _).setCell (p := ⟨g, p + 1, none⟩) hg _).setCell (p := ⟨g, p + 2, none⟩) hg _).setCell (p := ⟨g, p + 3, none⟩) hg _).setCell (p := ⟨g, p + 4, none⟩) hg _).setCell (p := ⟨g, p + 5, none⟩) hg _
/-- A row whose cells are those of variables. -/
def CellsV (L : List Value) (vs : List Var) : Prop := ∀ j x, vs[j]? = some x → ∀ y, y < 6 → L[j * 6 + y]? = (varCells x)[y]?
theorem own_vars {w : World} {base g c n : Nat} {e : TypeId} {L : List Value} {vs : List Var} (h : w.ownsRow base e 6 (.slice (some ⟨g, 0, none⟩) n c) n L) (hl : vs.length = n) (hc : CellsV L vs) : VarsR w (some ⟨g, 0, none⟩) n vs := by
  refine ⟨hl, fun j x hx => ?_⟩
  have hat : ∀ y u, y < 6 → (varCells x)[y]? = some u → w.cell? ⟨g, 0 + j * 6 + y, none⟩ = some u := fun y u hy hu => by
    obtain ⟨g', e1, _, _, hcl, _⟩ := own_at h ((hc j x hx y hy).trans hu)
    obtain rfl : g = g' := by simpa using e1
    rw [Nat.zero_add]; exact hcl
  exact ⟨g, 0, rfl, (own_base h).2, hat 0 _ (by decide) rfl, hat 1 _ (by decide) rfl, hat 2 _ (by decide) rfl, hat 3 _ (by decide) rfl, hat 4 _ (by decide) rfl, hat 5 _ (by decide) rfl⟩
theorem vars_cells {w : World} {base g c n : Nat} {e : TypeId} {L : List Value} {vs : List Var} (h : w.ownsRow base e 6 (.slice (some ⟨g, 0, none⟩) n c) n L) (hv : VarsR w (some ⟨g, 0, none⟩) n vs) : CellsV L vs := by
  intro j x hx y hy
  have hj : j < vs.length := (List.getElem?_eq_some_iff.1 hx).1
  have hxe : vs[j] = x := (List.getElem?_eq_some_iff.1 hx).2
  have hL : L.length = n * 6 := h.1
  have hn : vs.length = n := hv.1
  have hm : j * 6 + y < L.length := by omega
  obtain ⟨g', e1, _, _, hc, _⟩ := own_at h (List.getElem?_eq_getElem hm)
  obtain rfl : g = g' := by simpa using e1
  obtain ⟨b, o, e2, _, m0, m1, m2, m3, m4, m5⟩ := hv.at_ j hj
  obtain ⟨rfl, rfl⟩ : g = b ∧ 0 = o := by simpa using e2
  rw [Nat.zero_add] at m0 m1 m2 m3 m4 m5
  rw [hxe] at m0 m1 m2 m3 m4 m5
  rw [List.getElem?_eq_getElem hm, ← hc]
  unfold varCells
  match y, hy with
  | 0, _ => exact m0
  | 1, _ => exact m1
  | 2, _ => exact m2
  | 3, _ => exact m3
  | 4, _ => exact m4
  | 5, _ => exact m5
theorem swap_cells {L : List Value} {vs : List Var} {i k : Nat} (hL : L.length = vs.length * 6) (h : CellsV L vs) (hi : i < vs.length) (hk : k < vs.length) : CellsV (set6 (set6 L (i * 6) vs[k]) (k * 6) vs[i]) (swapG default vs i k) := by
  intro j x hx y hy
  rw [swapG_get hi hk] at hx
  unfold sg at hx
  by_cases hkj : k = j
  · subst hkj
    rw [if_pos rfl, List.getElem?_eq_getElem hi] at hx
    simp only [Option.some.injEq] at hx
    subst hx
    exact set6_at _ _ _ (by rw [set6_length]; omega) y hy
  · rw [if_neg hkj] at hx
    rw [set6_other _ _ _ _ (by omega)]
    by_cases hij : i = j
    · subst hij
      rw [if_pos rfl, List.getElem?_eq_getElem hk] at hx
      simp only [Option.some.injEq] at hx
      subst hx
      exact set6_at _ _ _ (by omega) y hy
    · rw [if_neg hij] at hx
      rw [set6_other _ _ _ _ (by omega)]
      exact h j x hx y hy
theorem swap_vars {w : World} {base g c n : Nat} {e : TypeId} {L : List Value} {vs : List Var} {i k : Nat} (h : w.ownsRow base e 6 (.slice (some ⟨g, 0, none⟩) n c) n L) (hv : VarsR w (some ⟨g, 0, none⟩) n vs) (hi : i < vs.length) (hk : k < vs.length) :
    VarsR (set6W (set6W w g (i * 6) vs[k]) g (k * 6) vs[i]) (some ⟨g, 0, none⟩) n (swapG default vs i k) :=
  own_vars (set6_own (set6_own h _ _) _ _) (by rw [swapG_length]; exact hv.1) (swap_cells (by have := h.1; have := hv.1; omega) (vars_cells h hv) hi hk)
theorem swap_vars' {w : World} {base g c n : Nat} {e : TypeId} {L : List Value} {vs : List Var} {i k : Nat} (h : w.ownsRow base e 6 (.slice (some ⟨g, 0, none⟩) n c) n L) (hv : VarsR w (some ⟨g, 0, none⟩) n vs) (hi : i < vs.length) (hk : k < vs.length) (hik : i ≠ k) :
    VarsR (set6W (set6W w g (k * 6) vs[i]) g (i * 6) vs[k]) (some ⟨g, 0, none⟩) n (swapG default vs i k) := by
  have h1 := swap_vars h hv hk hi
  have e1 : swapG default vs k i = swapG default vs i k := by
    apply List.ext_getElem?
    intro j
    rw [swapG_get hk hi, swapG_get hi hk]
    unfold sg
    by_cases h1 : i = j <;> by_cases h2 : k = j
    · omega
    · rw [if_pos h1, if_neg h2, if_pos h1]
    · rw [if_neg h1, if_pos h2, if_pos h2]
    · rw [if_neg h1, if_neg h2, if_neg h2, if_neg h1]
  rwa [e1] at h1

end Go.Proofs.YtibfjhhadbkkgaaGreat

