/- The plain form of layer 11's operations: numbers of the rule language, unary and binary operations, aggregates. -/
import Derived.Test.YtdojkmbgmomghaaP05
namespace Go.Proofs.Ytdojkmbgmomghaa

def satF (a : Int) : Int := max (-1073741824) (min a 1073741824)
def numB (a : Int) : Bool := decide (-1073741824 ≤ a ∧ a ≤ 1073741824)
def Num (a : Int) : Prop := -1073741824 ≤ a ∧ a ≤ 1073741824
def truthI (b : Bool) : Int := if b then 1 else 0
theorem satF_num (a : Int) : Num (satF a) := by unfold Num satF; omega
theorem satF_id {a : Int} (h : Num a) : satF a = a := by unfold Num at h; unfold satF; omega
theorem numB_true {a : Int} (h : Num a) : numB a = true := by unfold numB; unfold Num at h; exact decide_eq_true h
theorem num_of_numB {a : Int} (h : numB a = true) : Num a := by unfold numB at h; unfold Num; exact of_decide_eq_true h
theorem truthI_01 (b : Bool) : truthI b = 0 ∨ truthI b = 1 := by cases b <;> simp [truthI]
theorem truthI_num (b : Bool) : Num (truthI b) := by unfold Num; have := truthI_01 b; omega
theorem satF_truthI (b : Bool) : satF (truthI b) = truthI b := satF_id (truthI_num b)

def unaryF (op a : Int) : Int := if op = 18 then -a else truthI (a == 0)
def unaryR (op a : Int) : Int × Int := if (op ≠ 18 ∧ op ≠ 19) ∨ numB a = false then (0, 2) else (unaryF op a, 0)

def quotF (a b : Int) : Int := if b = 0 then 0 else if a.tmod b ≠ 0 ∧ (decide (a < 0) != decide (b < 0)) = true then a.tdiv b - 1 else a.tdiv b

theorem tmod_sign (a b : Int) : (0 ≤ a → 0 ≤ a.tmod b) ∧ (a ≤ 0 → a.tmod b ≤ 0) ∧ (0 < b → -b < a.tmod b ∧ a.tmod b < b) ∧ (b < 0 → b < a.tmod b ∧ a.tmod b < -b) := by
  refine ⟨fun h => Int.tmod_nonneg b h, fun h => ?_, fun h => ⟨Int.lt_tmod_of_pos a h, Int.tmod_lt_of_pos a h⟩, fun h => ?_⟩
  · have := Int.tmod_nonneg b (show 0 ≤ -a by omega)
    rw [Int.neg_tmod] at this; omega
  · have h1 := Int.lt_tmod_of_pos a (show 0 < -b by omega)
    have h2 := Int.tmod_lt_of_pos a (show 0 < -b by omega)
    rw [Int.tmod_neg] at h1 h2
    omega

theorem quotF_div (a b : Int) (hb : b ≠ 0) : (0 < b → 0 ≤ a - b * quotF a b ∧ a - b * quotF a b < b) ∧ (b < 0 → a - b * quotF a b ≤ 0 ∧ b < a - b * quotF a b) := by
  have hm := Int.mul_tdiv_add_tmod a b
  obtain ⟨h1, h2, h3, h4⟩ := tmod_sign a b
  unfold quotF
  rw [if_neg hb]
  split
  · rename_i h
    obtain ⟨hr, hs⟩ := h
    rw [Int.mul_sub, Int.mul_one]
    generalize b * a.tdiv b = P at *
    generalize a.tmod b = r at *
    simp at hs
    constructor
    · intro hp
      have := h3 hp
      have ha : a < 0 := by by_cases ha : a < 0 <;> simp_all <;> omega
      have := h2 (by omega)
      omega
    · intro hp
      have := h4 hp
      have ha : 0 ≤ a := by by_cases ha : a < 0 <;> simp_all
      have := h1 ha
      omega
  · rename_i h
    generalize b * a.tdiv b = P at *
    generalize a.tmod b = r at *
    constructor
    · intro hp
      have := h3 hp
      by_cases hr : r = 0
      · omega
      · have ha : 0 ≤ a := by
          by_cases ha : 0 ≤ a
          · exact ha
          · exfalso; apply h; simp [hr]; omega
        have := h1 ha
        omega
    · intro hp
      have := h4 hp
      by_cases hr : r = 0
      · omega
      · have ha : a < 0 := by
          by_cases ha : a < 0
          · exact ha
          · exfalso; apply h; simp [hr]; omega
        have := h2 (by omega)
        omega

theorem tdiv_bound (a b : Int) (ha : Num a) : -1073741824 ≤ a.tdiv b ∧ a.tdiv b ≤ 1073741824 := by
  have h := Int.natAbs_tdiv_le_natAbs a b
  unfold Num at ha
  omega
theorem quotF_bound (a b : Int) (ha : Num a) : -1073741825 ≤ quotF a b ∧ quotF a b ≤ 1073741824 := by
  unfold quotF
  split
  · omega
  · have := tdiv_bound a b ha
    split <;> omega
theorem mul_bound (a b : Int) (ha : Num a) (hb : -1073741825 ≤ b ∧ b ≤ 1073741825) : -1152921505680588800 ≤ a * b ∧ a * b ≤ 1152921505680588800 := by
  have h : (a * b).natAbs ≤ 1073741824 * 1073741825 := by
    rw [Int.natAbs_mul]
    unfold Num at ha
    exact Nat.mul_le_mul (by omega) (by omega)
  omega

/-- The exact result of a binary operation. -/
def applyF (op a b : Int) : Int :=
  if op = 30 then a * b
  else if op = 31 then quotF a b
  else if op = 32 then (if b = 0 then 0 else a - b * quotF a b)
  else if op = 33 then a + b
  else if op = 34 then a - b
  else if op = 35 then truthI (a == b)
  else if op = 36 then truthI (a != b)
  else if op = 37 then truthI (decide (a < b))
  else if op = 38 then truthI (decide (a ≤ b))
  else if op = 39 then truthI (decide (b < a))
  else if op = 40 then truthI (decide (b ≤ a))
  else if op = 41 then truthI (a != 0 && b != 0)
  else truthI (a != 0 || b != 0)
def binaryF (op a b : Int) : Int := satF (applyF op a b)
def binaryR (op a b : Int) : Int × Int := if op < 30 ∨ 42 < op ∨ numB a = false ∨ numB b = false then (0, 2) else (binaryF op a b, 0)

/- Aggregates. -/
def countF (l : List Int) : Int := (l.filter (fun a => a != 0)).length
def firstGo : List Int → Int → Int
  | [], _ => -1
  | a :: l, i => if a ≠ 0 then i else firstGo l (i + 1)
def minF (l : List Int) : Int := l.foldl min 1073741824
def twoGo : List Int → Int → Int → Int × Int
  | [], g, s => (g, s)
  | a :: l, g, s => if g < a then twoGo l a g else twoGo l g (max s a)
def twoF (l : List Int) : Int × Int := twoGo l (-1073741824) (-1073741824)
def sumF (l : List Int) : Int := l.foldl (· + ·) 0
def cntGe (l : List Int) (k : Int) : Nat := (l.filter (fun x => decide (k ≤ x))).length
def mexGo (l : List Int) : Nat → Int → Int
  | 0, k => k
  | f + 1, k => if k ∈ l then mexGo l f (k + 1) else k
def mexF (l : List Int) : Int := mexGo l (cntGe l 0) 0

def foldF (op : Int) (l : List Int) : Int :=
  if op = 20 then truthI (countF l == l.length)
  else if op = 21 then truthI (decide (0 < countF l))
  else if op = 22 then countF l
  else if op = 23 then firstGo l 0
  else if op = 24 then minF l
  else if op = 25 then (twoF l).1
  else if op = 26 then satF (sumF l)
  else if op = 27 then mexF l
  else if op = 28 then (twoF l).2
  else l.headD 0
def foldR (op : Int) (l : List Int) : Int × Int :=
  if aggregate op = false then (0, 2) else if 24 ≤ l.length then (0, 3) else if l.all numB = false then (0, 2) else (foldF op l, 0)

theorem countF_cons (a : Int) (l : List Int) : countF (a :: l) = (if a = 0 then 0 else 1) + countF l := by
  unfold countF
  by_cases h : a = 0
  · simp [h]
  · simp [h]; omega
theorem countF_le (l : List Int) : 0 ≤ countF l ∧ countF l ≤ l.length := by
  unfold countF
  have := List.length_filter_le (fun a : Int => a != 0) l
  omega

theorem cntGe_lt {l : List Int} {k : Int} (h : k ∈ l) : cntGe l (k + 1) < cntGe l k := by
  unfold cntGe
  induction l with
  | nil => cases h
  | cons x l ih =>
    have hmono : ∀ l : List Int, (l.filter (fun x => decide (k + 1 ≤ x))).length ≤ (l.filter (fun x => decide (k ≤ x))).length := by
      intro l
      induction l with
      | nil => simp
      | cons y l ih =>
        simp only [List.filter_cons]
        by_cases h1 : k + 1 ≤ y <;> by_cases h2 : k ≤ y <;> simp [h1, h2] <;> omega
    rcases List.mem_cons.1 h with e | e
    · subst e
      have := hmono l
      simp only [List.filter_cons]
      rw [if_neg (by simp; omega), if_pos (by simp)]
      simp; omega
    · have := ih e
      simp only [List.filter_cons]
      by_cases h1 : k + 1 ≤ x <;> by_cases h2 : k ≤ x <;> simp [h1, h2] <;> omega
theorem cntGe_le (l : List Int) (k : Int) : cntGe l k ≤ l.length := List.length_filter_le _ _

theorem mexGo_eq (l : List Int) : ∀ (f : Nat) (k : Int), cntGe l k ≤ f → k ≤ mexGo l f k ∧ mexGo l f k ≤ k + f ∧ mexGo l f k ∉ l ∧ ∀ j, k ≤ j → j < mexGo l f k → j ∈ l := by
  intro f
  induction f with
  | zero =>
    intro k h
    have hk : k ∉ l := fun hm => by have := cntGe_lt hm; omega
    exact ⟨Int.le_refl _, by simp [mexGo], hk, fun j h1 h2 => by simp [mexGo] at h2; omega⟩
  | succ f ih =>
    intro k h
    simp only [mexGo]
    by_cases hk : k ∈ l
    · rw [if_pos hk]
      have hc := cntGe_lt hk
      obtain ⟨i1, i2, i3, i4⟩ := ih (k + 1) (by omega)
      refine ⟨by omega, by omega, i3, fun j h1 h2 => ?_⟩
      by_cases e : j = k
      · subst e; exact hk
      · exact i4 j (by omega) h2
    · rw [if_neg hk]
      exact ⟨Int.le_refl _, by omega, hk, fun j h1 h2 => by omega⟩

end Go.Proofs.Ytdojkmbgmomghaa
