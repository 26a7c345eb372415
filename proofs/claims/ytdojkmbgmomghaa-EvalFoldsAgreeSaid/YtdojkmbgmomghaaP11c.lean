/- Plain facts for EvalFoldsAgree. -/
import Derived.Test.YtdojkmbgmomghaaP11b
namespace Go.Proofs.Ytdojkmbgmomghaa

def notI (v : Int) : Int := if v = 0 then 1 else 0
theorem countF_not (m : List Int) : countF m + countF (m.map notI) = m.length := by
  induction m with
  | nil => rfl
  | cons a m ih =>
    rw [List.map_cons, countF_cons, countF_cons, List.length_cons]
    unfold notI at *
    by_cases h : a = 0 <;> simp [h] <;> omega
theorem all_some (m : List Int) : foldF 20 m + foldF 21 (m.map notI) = 1 := by
  have h := countF_not m
  show truthI (countF m == m.length) + truthI (decide (0 < countF (m.map notI))) = 1
  have h2 := countF_le (m.map notI)
  by_cases hz : countF (m.map notI) = 0
  · have e : (countF m == (m.length : Int)) = true := by simp; omega
    have e2 : decide (0 < countF (m.map notI)) = false := by simp; omega
    rw [e, e2]; rfl
  · have e : (countF m == (m.length : Int)) = false := by simp; omega
    have e2 : decide (0 < countF (m.map notI)) = true := by simp; omega
    rw [e, e2]; rfl
theorem notI_num (m : List Int) : ∀ x ∈ m.map notI, Num x := by
  intro x hx
  obtain ⟨y, _, rfl⟩ := List.mem_map.1 hx
  unfold notI Num
  split <;> omega

theorem foldl_min_le (l : List Int) : ∀ z : Int, l.foldl min z ≤ z ∧ (∀ x ∈ l, l.foldl min z ≤ x) ∧ (l.foldl min z = z ∨ l.foldl min z ∈ l) := by
  induction l with
  | nil => intro z; exact ⟨Int.le_refl _, fun x h => (by cases h), .inl rfl⟩
  | cons a l ih =>
    intro z
    obtain ⟨h1, h2, h3⟩ := ih (min z a)
    rw [List.foldl_cons]
    refine ⟨by omega, fun x hx => ?_, ?_⟩
    · rcases List.mem_cons.1 hx with e | e
      · subst e; omega
      · exact h2 x e
    · rcases h3 with e | e
      · by_cases hz : z ≤ a
        · left; rw [e]; omega
        · right; rw [e, show min z a = a by omega]; simp
      · right; simp [e]
theorem minF_facts (m : List Int) (hne : 0 < m.length) (hn : ∀ x ∈ m, Num x) : (∀ x ∈ m, minF m ≤ x) ∧ minF m ∈ m := by
  obtain ⟨h1, h2, h3⟩ := foldl_min_le m 1073741824
  refine ⟨h2, ?_⟩
  rcases h3 with e | e
  · obtain ⟨x, hx⟩ : ∃ x, x ∈ m := ⟨m[0], List.getElem_mem _⟩
    have a1 := h2 x hx
    have a2 := (hn x hx).2
    have : x = minF m := by unfold minF; omega
    rw [← this]; exact hx
  · exact e

def cntGt (l : List Int) (s : Int) : Int := (l.filter (fun x => decide (s < x))).length
theorem cntGt_cons (a : Int) (l : List Int) (s : Int) : cntGt (a :: l) s = (if s < a then 1 else 0) + cntGt l s := by
  unfold cntGt
  by_cases h : s < a
  · simp [h]; omega
  · simp [h]
theorem cntGt_le (l : List Int) (s : Int) : 0 ≤ cntGt l s ∧ cntGt l s ≤ l.length := by
  unfold cntGt
  have := List.length_filter_le (fun x : Int => decide (s < x)) l
  omega
theorem cntGt_mono (l : List Int) {s t : Int} (h : s ≤ t) : cntGt l t ≤ cntGt l s := by
  induction l with
  | nil => exact Int.le_refl _
  | cons a l ih =>
    rw [cntGt_cons, cntGt_cons]
    by_cases h1 : t < a
    · rw [if_pos h1, if_pos (by omega)]; omega
    · rw [if_neg h1]; split <;> omega
theorem twoGo_facts (l : List Int) : ∀ g s : Int, s ≤ g → (twoGo l g s).2 ≤ (twoGo l g s).1 ∧ g ≤ (twoGo l g s).1 ∧ s ≤ (twoGo l g s).2 ∧ (∀ x ∈ l, x ≤ (twoGo l g s).1) ∧ ((twoGo l g s).1 = g ∨ (twoGo l g s).1 ∈ l) ∧
    cntGt l (twoGo l g s).2 + (if (twoGo l g s).2 < g then 1 else 0) ≤ 1 := by
  induction l with
  | nil => intro g s h; refine ⟨h, Int.le_refl _, Int.le_refl _, fun x h => (by cases h), .inl rfl, ?_⟩; show cntGt [] s + (if s < g then 1 else 0) ≤ 1; unfold cntGt; simp; split <;> omega
  | cons a l ih =>
    intro g s h
    rw [twoGo_cons _ _ _ _ h]
    obtain ⟨h1, h2, h3, h4, h5, h6⟩ := ih (max g a) (max s (min g a)) (by omega)
    generalize twoGo l (max g a) (max s (min g a)) = r at *
    refine ⟨h1, by omega, by omega, fun x hx => ?_, ?_, ?_⟩
    · rcases List.mem_cons.1 hx with e | e
      · subst e; omega
      · exact h4 x e
    · rcases h5 with e | e
      · by_cases hg : g < a
        · right; rw [e, show max g a = a by omega]; simp
        · left; rw [e]; omega
      · right; simp [e]
    · rw [cntGt_cons]
      have hc := (cntGt_le l r.2).1
      by_cases c1 : r.2 < a
      · rw [if_pos c1, if_neg (by omega)]
        rw [if_pos (by omega)] at h6
        omega
      · rw [if_neg c1]
        by_cases c2 : r.2 < g
        · rw [if_pos c2]; rw [if_pos (by omega)] at h6; omega
        · rw [if_neg c2]; split at h6 <;> omega
theorem twoF_facts (m : List Int) (hne : 0 < m.length) (hn : ∀ x ∈ m, Num x) : (twoF m).2 ≤ (twoF m).1 ∧ (∀ x ∈ m, x ≤ (twoF m).1) ∧ (twoF m).1 ∈ m ∧ cntGt m (twoF m).2 ≤ 1 := by
  obtain ⟨h1, h2, h3, h4, h5, h6⟩ := twoGo_facts m (-1073741824) (-1073741824) (Int.le_refl _)
  refine ⟨h1, h4, ?_, ?_⟩
  · rcases h5 with e | e
    · obtain ⟨x, hx⟩ : ∃ x, x ∈ m := ⟨m[0], List.getElem_mem _⟩
      have a1 := h4 x hx
      have a2 := (hn x hx).1
      have : x = (twoF m).1 := by unfold twoF; omega
      rw [← this]; exact hx
    · exact e
  · unfold twoF
    split at h6 <;> omega

/-- What the law's loop has gathered. -/
structure Seen (m : List Int) (least most second : Int) (k : Nat) (n seen : Int) (low high : Bool) (below : Int) : Prop where
  n : n + countF (m.drop k) = countF m
  seen : (seen < 0 → seen = -1 ∧ firstGo (m.drop k) k = firstGo m 0) ∧ (0 ≤ seen → seen = firstGo m 0)
  low : low = true ∨ least ∈ m.drop k
  high : high = true ∨ most ∈ m.drop k
  below : below + cntGt (m.drop k) second = cntGt m second

theorem seen_zero (m : List Int) (least most second : Int) (h1 : least ∈ m) (h2 : most ∈ m) : Seen m least most second 0 0 (-1) false false 0 :=
  ⟨by simp, ⟨fun _ => ⟨rfl, rfl⟩, fun h => by omega⟩, .inr h1, .inr h2, by simp⟩

theorem seen_succ {m : List Int} {least most second : Int} {k : Nat} {n seen : Int} {low high : Bool} {below : Int} (h : Seen m least most second k n seen low high below) (hk : k < m.length) :
    Seen m least most second (k + 1) (if m[k] = 0 then n else n + 1) (if m[k] ≠ 0 ∧ seen < 0 then (k : Int) else seen) (low || m[k] == least) (high || m[k] == most) (if second < m[k] then below + 1 else below) := by
  have hd := List.drop_eq_getElem_cons hk
  obtain ⟨h1, ⟨h2a, h2b⟩, h3, h4, h5⟩ := h
  rw [hd] at h1 h3 h4 h5
  rw [countF_cons] at h1
  rw [cntGt_cons] at h5
  refine ⟨?_, ?_, ?_, ?_, ?_⟩
  · split <;> simp_all <;> omega
  · constructor
    · intro hf
      split at hf
      · omega
      · rename_i hc
        rw [if_neg hc]
        obtain ⟨e1, e2⟩ := h2a hf
        refine ⟨e1, ?_⟩
        rw [hd] at e2
        simp only [firstGo] at e2
        rw [if_neg (by intro h0; exact hc ⟨h0, hf⟩)] at e2
        exact e2
    · intro hf
      split
      · rename_i hc
        obtain ⟨e1, e2⟩ := h2a hc.2
        rw [hd] at e2
        simp only [firstGo] at e2
        rw [if_pos hc.1] at e2
        exact e2
      · rename_i hc
        rw [if_neg hc] at hf
        exact h2b hf
  · rcases h3 with e | e
    · left; simp [e]
    · rcases List.mem_cons.1 e with e | e
      · left; simp [e]
      · exact .inr e
  · rcases h4 with e | e
    · left; simp [e]
    · rcases List.mem_cons.1 e with e | e
      · left; simp [e]
      · exact .inr e
  · split <;> rename_i hc
    · rw [if_pos hc] at h5; omega
    · rw [if_neg hc] at h5; omega
theorem seen_end {m : List Int} {least most second : Int} {n seen : Int} {low high : Bool} {below : Int} {k : Nat} (hk : m.length ≤ k) (h : Seen m least most second k n seen low high below) :
    n = countF m ∧ seen = firstGo m 0 ∧ low = true ∧ high = true ∧ below = cntGt m second := by
  obtain ⟨h1, ⟨h2a, h2b⟩, h3, h4, h5⟩ := h
  rw [List.drop_eq_nil_of_le hk] at h1 h2a h3 h4 h5
  refine ⟨by simpa [countF] using h1, ?_, by simpa using h3, by simpa using h4, by simpa [cntGt] using h5⟩
  by_cases hf : seen < 0
  · obtain ⟨a, b⟩ := h2a hf; rw [a, ← b]; rfl
  · exact h2b (by omega)
end Go.Proofs.Ytdojkmbgmomghaa
