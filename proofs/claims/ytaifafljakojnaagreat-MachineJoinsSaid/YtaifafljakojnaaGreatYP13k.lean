/- Merged of: P13k (see NOTES.md). -/
import Derived.Test.YtaifafljakojnaaGreatZ19
set_option linter.unusedSimpArgs false
set_option linter.unnecessarySimpa false
set_option linter.unusedVariables false

/- The height that Verify returns lies between 0 and 64. -/
namespace Go.Proofs.YtaifafljakojnaaGreat

theorem mostF_le : ∀ {gs : List Term} {m m' : Int}, mostF m gs = some m' → 0 ≤ m → m ≤ 64 → 0 ≤ m' ∧ m' ≤ 64 := by
  intro gs
  induction gs with
  | nil => intro m m' h h0 h1; simp [mostF] at h; omega
  | cons g gs ih =>
    intro m m' h h0 h1
    unfold mostF at h
    split at h
    · cases h
    · exact ih h (by omega) (by omega)
theorem verGo_le {l : List Term} {v : Int} : ∀ (n i : Nat) (hs : List Int) (tr : List Tr) (m : Int), 0 ≤ m → m ≤ 64 → 0 ≤ (verGo l v n i hs tr m).1 ∧ (verGo l v n i hs tr m).1 ≤ 64 := by
  intro n
  induction n with
  | zero =>
    intro i hs tr m h0 h1
    unfold verGo
    split
    · exact ⟨Int.le_refl 0, show (0 : Int) ≤ 64 by decide⟩
    · exact ⟨h0, h1⟩
  | succ n ih =>
    intro i hs tr m h0 h1
    unfold verGo
    cases hst : stepP l v i hs tr m with
    | mk r e =>
      cases r with
      | none => exact ⟨Int.le_refl 0, show (0 : Int) ≤ 64 by decide⟩
      | some r =>
        obtain ⟨hs', tr', m'⟩ := r
        unfold stepP at hst
        split at hst
        · cases hst
        · unfold giveR at hst
          cases hg : giveF hs (giftsF (insAt l i) i (ig hs i)) with
          | none => rw [hg] at hst; cases hst
          | some hs2 =>
            rw [hg] at hst
            cases hmo : mostF m (giftsF (insAt l i) i (ig hs i)) with
            | none => rw [hmo] at hst; cases hst
            | some m2 =>
              rw [hmo] at hst
              obtain ⟨k0, k1⟩ := mostF_le hmo h0 h1
              simp only [Prod.mk.injEq, Option.some.injEq] at hst
              obtain ⟨⟨_, _, rfl⟩, _⟩ := hst
              exact ih _ _ _ _ k0 k1
theorem verify_le (l : List Term) (v : Int) : 0 ≤ (verifyF l v).1 ∧ (verifyF l v).1 ≤ 64 := by
  unfold verifyF
  split
  · exact ⟨Int.le_refl 0, show (0 : Int) ≤ 64 by decide⟩
  · exact verGo_le _ _ _ _ _ (by decide) (by decide)
/-- The places that verified code names are places of the code. -/
theorem moved_bound {l : List Term} {v : Int} (h : (verifyF l v).2.2 = 0) {i : Nat} (hi : i < l.length) (ho : l[i].op = 7 ∨ l[i].op = 8 ∨ l[i].op = 9) : 0 ≤ l[i].arg ∧ l[i].arg ≤ 1024 := by
  obtain ⟨_, h1, H, T, hv, _⟩ := verify_ver h
  rw [← insAt_get hi] at ho ⊢
  rcases ho with ho | ho | ho
  · obtain ⟨j1, j2, j3, _⟩ := same_jump hv hi (.inl ho)
    omega
  · obtain ⟨j1, j2, j3, _⟩ := same_jump hv hi (.inr ho)
    omega
  · obtain ⟨a, a1, a2, a3, _⟩ := loop_place hv hi ho
    omega

end Go.Proofs.YtaifafljakojnaaGreat

