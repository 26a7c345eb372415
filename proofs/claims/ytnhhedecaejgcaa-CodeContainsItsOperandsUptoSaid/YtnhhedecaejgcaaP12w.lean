/- What holds between the steps of Verify. -/
import Derived.Test.YtnhhedecaejgcaaP12v
namespace Go.Proofs.Ytnhhedecaejgcaa

def VInv (l : List Term) (hs : List Int) (tr : List Tr) : Prop :=
  hs.length = l.length + 1 ∧ (∀ x ∈ hs, -1 ≤ x ∧ x ≤ 64) ∧ tr.length ≤ 2 ∧ ∀ t ∈ tr, t.2.1 < l.length ∧ 0 ≤ t.2.2 ∧ t.2.2 ≤ 64

theorem giveF_all {P : Int → Prop} : ∀ {gs : List Term} {hs hs' : List Int}, giveF hs gs = some hs' → (∀ x ∈ hs, P x) → (∀ g ∈ gs, P g.arg) → ∀ x ∈ hs', P x := by
  intro gs
  induction gs with
  | nil => intro hs hs' h h1 _; simp [giveF] at h; subst h; exact h1
  | cons g gs ih =>
    intro hs hs' h h1 h2
    simp only [giveF] at h
    split at h
    · cases h
    · refine ih h (fun x hx => ?_) (fun g' hg' => h2 g' (by simp [hg']))
      rcases List.mem_or_eq_of_mem_set hx with h3 | h3
      · exact h1 x h3
      · rw [h3]; exact h2 g (by simp)
theorem giveF_len {gs : List Term} : ∀ {hs hs' : List Int}, giveF hs gs = some hs' → hs'.length = hs.length := by
  induction gs with
  | nil => intro hs hs' h; simp [giveF] at h; rw [h]
  | cons g gs ih =>
    intro hs hs' h
    simp only [giveF] at h
    split at h
    · cases h
    · have := ih h
      simpa using this
theorem mostF_all : ∀ {gs : List Term} {m m' : Int}, mostF m gs = some m' → ∀ g ∈ gs, g.arg ≤ 64 := by
  intro gs
  induction gs with
  | nil => intro m m' _ g hg; simp at hg
  | cons g gs ih =>
    intro m m' h g' hg'
    simp only [mostF] at h
    split at h
    · cases h
    · rcases List.mem_cons.1 hg' with e | e
      · subst e; omega
      · exact ih h g' e
theorem giveR_some {hs : List Int} {most : Int} {gs : List Term} {hs' : List Int} {m : Int} {e : Int} (h : giveR hs most gs = (some (hs', m), e)) : giveF hs gs = some hs' ∧ mostF most gs = some m ∧ e = 0 := by
  unfold giveR at h
  cases h1 : giveF hs gs with
  | none => rw [h1] at h; cases h
  | some a =>
    rw [h1] at h
    cases h2 : mostF most gs with
    | none => rw [h2] at h; cases h
    | some b =>
      rw [h2] at h
      simp at h
      obtain ⟨⟨rfl, rfl⟩, rfl⟩ := h
      exact ⟨rfl, rfl, rfl⟩
theorem giveR_none {hs : List Int} {most : Int} {gs : List Term} {e : Int} (h : giveR hs most gs = (none, e)) : e = 7 ∨ e = 3 := by
  unfold giveR at h
  cases h1 : giveF hs gs with
  | none => rw [h1] at h; simp at h; exact .inl h.symm
  | some a =>
    rw [h1] at h
    cases h2 : mostF most gs with
    | none => rw [h2] at h; simp at h; exact .inr h.symm
    | some b => rw [h2] at h; simp at h

theorem stepP_some {l : List Term} {v : Int} {i : Nat} {hs : List Int} {tr : List Tr} {most : Int} {hs' : List Int} {tr' : List Tr} {m e : Int} (h : stepP l v i hs tr most = (some (hs', tr', m), e)) :
    checksF l v tr i (insAt l i) (ig hs i) = true ∧ giveF hs (giftsF (insAt l i) i (ig hs i)) = some hs' ∧ mostF most (giftsF (insAt l i) i (ig hs i)) = some m ∧ tr' = trNext (insAt l i) i (ig hs i) tr ∧ e = 0 := by
  unfold stepP at h
  split at h
  · cases h
  · rename_i hc
    cases hg : giveR hs most (giftsF (insAt l i) i (ig hs i)) with
    | mk r e' =>
      rw [hg] at h
      cases r with
      | none => simp at h
      | some p =>
        obtain ⟨hs1, m1⟩ := p
        simp at h
        obtain ⟨⟨rfl, rfl, rfl⟩, rfl⟩ := h
        obtain ⟨g1, g2, _⟩ := giveR_some hg
        exact ⟨by simpa using hc, g1, g2, rfl, rfl⟩
theorem stepP_none {l : List Term} {v : Int} {i : Nat} {hs : List Int} {tr : List Tr} {most e : Int} (h : stepP l v i hs tr most = (none, e)) : e = 7 ∨ e = 3 := by
  unfold stepP at h
  split at h
  · simp at h; exact .inl h.symm
  · cases hg : giveR hs most (giftsF (insAt l i) i (ig hs i)) with
    | mk r e' =>
      rw [hg] at h
      cases r with
      | none => simp at h; subst h; exact giveR_none hg
      | some p => obtain ⟨hs1, m1⟩ := p; simp at h

theorem checks_parts {l : List Term} {v : Int} {tr : List Tr} {i : Int} {x : Term} {h : Int} (hc : checksF l v tr i x h = true) :
    0 ≤ h ∧ knownF x v = true ∧ (needsF x && tr.isEmpty) = false ∧ wantsF x.op ≤ h ∧ eachF l tr i x = true ∧ nextF l tr i x h = true ∧ jumpF l tr i x = true := by
  unfold checksF at hc
  simp only [Bool.and_eq_true, decide_eq_true_eq, Bool.not_eq_true'] at hc
  obtain ⟨⟨⟨⟨⟨⟨a, b⟩, c⟩, d⟩, e⟩, f⟩, g⟩ := hc
  exact ⟨a, b, c, d, e, f, g⟩

theorem gifts_low {x : Term} {i h : Int} (h0 : 0 ≤ h) (hw : wantsF x.op ≤ h) : ∀ g ∈ giftsF x i h, 0 ≤ g.arg := by
  intro g hg
  unfold giftsF at hg
  unfold wantsF at hw
  split at hg
  · simp at hg; subst hg; simp; omega
  · split at hg
    · simp at hg; subst hg; rename_i e; rw [if_neg (by omega), if_pos e] at hw; simp; omega
    · split at hg
      · rename_i e; rw [if_pos (.inr e)] at hw
        simp at hg; rcases hg with rfl | rfl <;> simp <;> omega
      · split at hg
        · simp at hg; subst hg; simp; omega
        · split at hg
          · simp at hg; rcases hg with rfl | rfl <;> simp <;> omega
          · simp at hg; subst hg; simp; omega

theorem each_parts {l : List Term} {tr : List Tr} {i : Int} {x : Term} (h : eachF l tr i x = true) (h9 : x.op = 9) : i < x.arg ∧ x.arg < l.length ∧ (insAt l x.arg).op = 10 ∧ tr.length < 2 ∧ x.arg < (innerF tr l.length).2.1 := by
  unfold eachF at h
  rw [show decide (x.op ≠ 9) = false by simp [h9]] at h
  simp only [Bool.false_or, Bool.and_eq_true, decide_eq_true_eq] at h
  obtain ⟨⟨⟨⟨a, b⟩, c⟩, d⟩, e⟩ := h
  exact ⟨a, b, c, d, e⟩

theorem stepP_inv {l : List Term} {v : Int} {i : Nat} {hs : List Int} {tr : List Tr} {most : Int} {hs' : List Int} {tr' : List Tr} {m e : Int} (hi : i < l.length) (hv : VInv l hs tr) (h : stepP l v i hs tr most = (some (hs', tr', m), e)) : VInv l hs' tr' := by
  obtain ⟨hc, hg, hm, rfl, _⟩ := stepP_some h
  obtain ⟨v1, v2, v3, v4⟩ := hv
  obtain ⟨c1, c2, c3, c4, c5, c6, c7⟩ := checks_parts hc
  have hy : ig hs (i : Int) ≤ 64 := by
    have hil : i < hs.length := by omega
    rw [ig_get hil]
    exact (v2 _ (List.getElem_mem _)).2
  refine ⟨by rw [giveF_len hg, v1], giveF_all (P := fun x => -1 ≤ x ∧ x ≤ 64) hg v2 (fun g hgm => ⟨by have := gifts_low c1 c4 g hgm; omega, mostF_all hm g hgm⟩), ?_, ?_⟩
  · unfold trNext
    split
    · rename_i h9
      have := each_parts c5 h9
      simp; omega
    · split
      · simp; omega
      · exact v3
  · intro t ht
    unfold trNext at ht
    split at ht
    · rename_i h9
      have := each_parts c5 h9
      rcases List.mem_append.1 ht with h1 | h1
      · exact v4 t h1
      · simp at h1; subst h1; simp; omega
    · split at ht
      · exact v4 t (List.dropLast_subset _ ht)
      · exact v4 t ht

theorem inner_inv {l : List Term} {hs : List Int} {tr : List Tr} (hv : VInv l hs tr) : (innerF tr l.length).2.1 ≤ l.length ∧ 0 ≤ (innerF tr l.length).2.2 ∧ (innerF tr l.length).2.2 ≤ 64 := by
  rcases List.eq_nil_or_concat tr with rfl | ⟨a, t, rfl⟩
  · simp [innerF]
  · have := hv.2.2.2 t (by simp)
    simp [innerF]
    omega

theorem start_inv (l : List Term) : VInv l (0 :: List.replicate l.length (-1)) [] := by
  refine ⟨by simp, fun x hx => ?_, by simp, fun t ht => by simp at ht⟩
  rcases List.mem_cons.1 hx with e | e
  · omega
  · have := (List.mem_replicate.1 e).2; omega

end Go.Proofs.Ytnhhedecaejgcaa
