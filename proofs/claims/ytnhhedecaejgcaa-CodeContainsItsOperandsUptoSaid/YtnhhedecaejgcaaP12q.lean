/- Bounds of the numbers in compiled code. -/
import Derived.Test.YtnhhedecaejgcaaP12o
namespace Go.Proofs.Ytnhhedecaejgcaa

theorem code_args {x : Ex} (hok : x.ok) : ∀ f : Nat, f + x.size ≤ 100000 → (∀ t ∈ x.terms, argF t 6 = true) → ∀ z ∈ x.code f, -1073741824 ≤ z.arg ∧ z.arg ≤ 1073741824 := by
  induction x with
  | leaf t =>
    intro f hf ha z hz
    have h0 : arity t.op = 0 := hok
    have hop : 1 ≤ t.op ∧ t.op ≤ 17 := by unfold arity at h0; repeat' split at h0 <;> omega
    simp only [Ex.code, List.mem_singleton] at hz
    subst hz
    have := ha t (by simp [Ex.terms])
    unfold argF at this
    unfold leafI
    by_cases h1 : t.op = 1
    · rw [if_pos h1] at this ⊢; simp at this ⊢; omega
    rw [if_neg h1] at this ⊢
    by_cases h2 : t.op = 2
    · rw [if_pos h2]; simp
    rw [if_neg h2]
    by_cases h3 : t.op = 3
    · rw [if_pos h3]; simp
    rw [if_neg h3]
    by_cases h4 : t.op = 4
    · rw [if_pos h4]; simp
    rw [if_neg h4]
    by_cases h5 : t.op = 5
    · rw [if_pos (.inl h5)] at this; rw [if_pos h5]; simp at this ⊢; omega
    rw [if_neg h5]
    by_cases h12 : t.op = 12
    · rw [if_pos (.inr h12)] at this; rw [if_pos h12]; simp at this ⊢; omega
    rw [if_neg h12]; simp; omega
  | un t a ih =>
    intro f hf ha z hz
    obtain ⟨h0, hoka⟩ := hok
    have hop : 1 ≤ t.op ∧ t.op ≤ 43 := by unfold arity at h0; repeat' split at h0 <;> omega
    have haa : ∀ t ∈ a.terms, argF t 6 = true := fun u hu => ha u (by simp [Ex.terms, hu])
    simp only [Ex.code, Ex.size] at hz hf
    split at hz
    · rename_i hag
      rw [if_pos hag] at hf
      rcases List.mem_cons.1 hz with e | e
      · subst e; simp; omega
      · rcases List.mem_append.1 e with e | e
        · exact ih hoka _ (by omega) haa z e
        · simp at e; subst e; simp; omega
    · rename_i hag
      rw [if_neg hag] at hf
      rcases List.mem_append.1 hz with e | e
      · exact ih hoka _ (by omega) haa z e
      · simp at e; subst e; simp; omega
  | bin t a b iha ihb =>
    intro f hf ha z hz
    obtain ⟨h0, hoka, hokb⟩ := hok
    have hop : 1 ≤ t.op ∧ t.op ≤ 43 := by unfold arity at h0; repeat' split at h0 <;> omega
    have haa : ∀ t ∈ a.terms, argF t 6 = true := fun u hu => ha u (by simp [Ex.terms, hu])
    have hab : ∀ t ∈ b.terms, argF t 6 = true := fun u hu => ha u (by simp [Ex.terms, hu])
    simp only [Ex.code, Ex.size] at hz hf
    rcases List.mem_append.1 hz with e | e
    · rcases List.mem_append.1 e with e | e
      · exact iha hoka _ (by omega) haa z e
      · exact ihb hokb _ (by omega) hab z e
    · simp at e; subst e; simp; omega
  | tri t a b c iha ihb ihc =>
    intro f hf ha z hz
    obtain ⟨h0, hoka, hokb, hokc⟩ := hok
    have haa : ∀ t ∈ a.terms, argF t 6 = true := fun u hu => ha u (by simp [Ex.terms, hu])
    have hab : ∀ t ∈ b.terms, argF t 6 = true := fun u hu => ha u (by simp [Ex.terms, hu])
    have hac : ∀ t ∈ c.terms, argF t 6 = true := fun u hu => ha u (by simp [Ex.terms, hu])
    simp only [Ex.code, Ex.size] at hz hf
    rcases List.mem_append.1 hz with e | e
    · rcases List.mem_append.1 e with e | e
      · rcases List.mem_append.1 e with e | e
        · rcases List.mem_append.1 e with e | e
          · exact iha hoka _ (by omega) haa z e
          · simp at e; subst e; simp; omega
        · exact ihb hokb _ (by omega) hab z e
      · simp at e; subst e; simp; omega
    · exact ihc hokc _ (by omega) hac z e

/-- The code of a binary operation, in parts. -/
theorem bin_parts (t : Term) (x y : Ex) : ((Ex.bin t x y).code 0).take x.size = x.code 0 ∧ (((Ex.bin t x y).code 0).drop x.size).take y.size = y.code x.size ∧ ((Ex.bin t x y).code 0)[x.size + y.size]? = some ⟨6, t.op⟩ ∧ ((Ex.bin t x y).code 0).length = x.size + y.size + 1 := by
  have hx := x.code_length 0
  have hy := y.code_length (0 + x.size)
  simp only [Ex.code]
  rw [Nat.zero_add] at hy ⊢
  refine ⟨?_, ?_, ?_, ?_⟩
  · rw [List.append_assoc, List.take_append_of_le_length (by omega), List.take_of_length_le (by omega)]
  · rw [List.append_assoc, ← hx, List.drop_left, List.take_append_of_le_length (by rw [hx]; omega), List.take_of_length_le (by rw [hx]; omega)]
  · rw [List.getElem?_append_right (by simp [hx, hy])]
    simp [hx, hy]
  · simp [hx, hy]; omega

end Go.Proofs.Ytnhhedecaejgcaa
