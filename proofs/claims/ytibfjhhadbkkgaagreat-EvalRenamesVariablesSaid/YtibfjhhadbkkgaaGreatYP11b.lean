/- Merged of: P11b (see NOTES.md). -/
import Derived.Test.YtibfjhhadbkkgaaGreatZ02
set_option linter.unusedSimpArgs false
set_option linter.unnecessarySimpa false
set_option linter.unusedVariables false

/- Plain facts on aggregates: another order of the values, and how the aggregates hang together. -/
namespace Go.Proofs.YtibfjhhadbkkgaaGreat

theorem countF_perm {l m : List Int} (h : l.Perm m) : countF l = countF m := by unfold countF; rw [(h.filter _).length_eq]
theorem foldl_min_perm {l m : List Int} (h : l.Perm m) : ∀ z : Int, l.foldl min z = m.foldl min z := by
  induction h with
  | nil => intro z; rfl
  | cons a _ ih => intro z; exact ih _
  | swap a b l => intro z; show List.foldl min (min (min z b) a) l = List.foldl min (min (min z a) b) l; congr 1; omega
  | trans _ _ i1 i2 => intro z; rw [i1, i2]
theorem foldl_add_perm {l m : List Int} (h : l.Perm m) : ∀ z : Int, l.foldl (· + ·) z = m.foldl (· + ·) z := by
  induction h with
  | nil => intro z; rfl
  | cons a _ ih => intro z; exact ih _
  | swap a b l => intro z; show List.foldl (· + ·) (z + b + a) l = List.foldl (· + ·) (z + a + b) l; congr 1; omega
  | trans _ _ i1 i2 => intro z; rw [i1, i2]
theorem twoGo_cons (a : Int) (l : List Int) (g s : Int) (h : s ≤ g) : twoGo (a :: l) g s = twoGo l (max g a) (max s (min g a)) := by
  show (if g < a then twoGo l a g else twoGo l g (max s a)) = _
  split
  · rw [show max g a = a by omega, show max s (min g a) = g by omega]
  · rw [show max g a = g by omega, show max s (min g a) = max s a by omega]
theorem twoGo_perm {l m : List Int} (h : l.Perm m) : ∀ g s : Int, s ≤ g → twoGo l g s = twoGo m g s := by
  induction h with
  | nil => intro g s _; rfl
  | cons a _ ih => intro g s h; rw [twoGo_cons _ _ _ _ h, twoGo_cons _ _ _ _ h]; exact ih _ _ (by omega)
  | swap a b l =>
    intro g s h
    rw [twoGo_cons _ _ _ _ h, twoGo_cons _ _ _ _ (by omega), twoGo_cons _ _ _ _ h, twoGo_cons _ _ _ _ (by omega)]
    rw [show max (max g b) a = max (max g a) b by omega, show max (max s (min g b)) (min (max g b) a) = max (max s (min g a)) (min (max g a) b) by omega]
  | trans _ _ i1 i2 => intro g s h; rw [i1 _ _ h, i2 _ _ h]
theorem mexF_eq (l : List Int) : 0 ≤ mexF l ∧ mexF l ≤ l.length ∧ mexF l ∉ l ∧ ∀ j, 0 ≤ j → j < mexF l → j ∈ l := by
  obtain ⟨h1, h2, h3, h4⟩ := mexGo_eq l (cntGe l 0) 0 (Nat.le_refl _)
  have := cntGe_le l 0
  exact ⟨h1, by unfold mexF; omega, h3, h4⟩
theorem mexF_perm {l m : List Int} (h : l.Perm m) : mexF l = mexF m := by
  obtain ⟨a1, _, a3, a4⟩ := mexF_eq l
  obtain ⟨b1, _, b3, b4⟩ := mexF_eq m
  rcases Int.lt_trichotomy (mexF l) (mexF m) with hh | hh | hh
  · exact absurd (h.mem_iff.2 (b4 _ a1 hh)) a3
  · exact hh
  · exact absurd (h.mem_iff.1 (a4 _ b1 hh)) b3
theorem foldF_perm {l m : List Int} (h : l.Perm m) (op : Int) (h1 : op ≠ 23) (h2 : 20 ≤ op ∧ op < 29) : foldF op l = foldF op m := by
  unfold foldF
  have e1 := countF_perm h
  have e2 := h.length_eq
  have e3 : minF l = minF m := foldl_min_perm h _
  have e4 : twoF l = twoF m := twoGo_perm h _ _ (by omega)
  have e5 : sumF l = sumF m := foldl_add_perm h _
  have e6 := mexF_perm h
  rw [e1, e2, e3, e4, e5, e6, if_neg h1]
  rw [if_neg h1]
  have : op = 20 ∨ op = 21 ∨ op = 22 ∨ op = 24 ∨ op = 25 ∨ op = 26 ∨ op = 27 ∨ op = 28 := by omega
  rcases this with h | h | h | h | h | h | h | h <;> subst h <;> rfl

def swapI (m : List Int) (i k : Nat) : List Int := (m.set i (m.getD k 0)).set k (m.getD i 0)
theorem swapI_perm (m : List Int) (i k : Nat) (hi : i < m.length) (hk : k < m.length) : (swapI m i k).Perm m := by
  unfold swapI
  rw [List.getD_eq_getElem?_getD, List.getD_eq_getElem?_getD, List.getElem?_eq_getElem hi, List.getElem?_eq_getElem hk]
  exact List.set_set_perm hi hk

theorem foldR_ok {op : Int} {l : List Int} (h1 : 20 ≤ op) (h2 : op ≤ 29) (hl : l.length < 24) (hn : ∀ x ∈ l, Num x) : foldR op l = (foldF op l, 0) := by
  unfold foldR
  rw [if_neg (by unfold aggregate; simp; omega), if_neg (by omega), if_neg (by
    have : l.all numB = true := List.all_eq_true.2 fun x hx => numB_true (hn x hx)
    rw [this]; decide)]
theorem map_satF_num (l : List Int) : ∀ x ∈ l.map satF, Num x := by
  intro x hx
  obtain ⟨y, _, rfl⟩ := List.mem_map.1 hx
  exact satF_num y
end Go.Proofs.YtibfjhhadbkkgaaGreat

