/- An expression has one tree. -/
import Derived.Test.YtnhhedecaejgcaaP12
namespace Go.Proofs.Ytnhhedecaejgcaa

theorem Ex.inj (x : Ex) : ∀ (y : Ex) (r r' : List Term), x.ok → y.ok → x.terms ++ r = y.terms ++ r' → x = y ∧ r = r' := by
  induction x with
  | leaf t =>
    intro y r r' hx hy h
    cases y with
    | leaf t' => simp [Ex.terms] at h; exact ⟨by rw [h.1], h.2⟩
    | un t' a => simp [Ex.terms] at h; have hx' : arity t.op = 0 := hx; have hy' := hy.1; rw [← h.1] at hy'; omega
    | bin t' a b => simp [Ex.terms] at h; have hx' : arity t.op = 0 := hx; have hy' := hy.1; rw [← h.1] at hy'; omega
    | tri t' a b c => simp [Ex.terms] at h; have hx' : arity t.op = 0 := hx; have hy' := hy.1; rw [← h.1] at hy'; omega
  | un t a ih =>
    intro y r r' hx hy h
    cases y with
    | leaf t' => simp [Ex.terms] at h; have hx' := hx.1; have hy' : arity t'.op = 0 := hy; rw [← h.1] at hy'; omega
    | un t' a' =>
      simp [Ex.terms] at h
      obtain ⟨rfl, h⟩ := h
      obtain ⟨rfl, e⟩ := ih a' r r' hx.2 hy.2 h
      exact ⟨rfl, e⟩
    | bin t' a' b' => simp [Ex.terms] at h; have hx' := hx.1; have hy' := hy.1; rw [← h.1] at hy'; omega
    | tri t' a' b' c' => simp [Ex.terms] at h; have hx' := hx.1; have hy' := hy.1; rw [← h.1] at hy'; omega
  | bin t a b iha ihb =>
    intro y r r' hx hy h
    cases y with
    | leaf t' => simp [Ex.terms] at h; have hx' := hx.1; have hy' : arity t'.op = 0 := hy; rw [← h.1] at hy'; omega
    | un t' a' => simp [Ex.terms] at h; have hx' := hx.1; have hy' := hy.1; rw [← h.1] at hy'; omega
    | bin t' a' b' =>
      simp [Ex.terms] at h
      obtain ⟨rfl, h⟩ := h
      obtain ⟨rfl, h2⟩ := iha a' _ _ hx.2.1 hy.2.1 h
      obtain ⟨rfl, h3⟩ := ihb b' _ _ hx.2.2 hy.2.2 h2
      exact ⟨rfl, h3⟩
    | tri t' a' b' c' => simp [Ex.terms] at h; have hx' := hx.1; have hy' := hy.1; rw [← h.1] at hy'; omega
  | tri t a b c iha ihb ihc =>
    intro y r r' hx hy h
    cases y with
    | leaf t' => simp [Ex.terms] at h; have hx' := hx.1; have hy' : arity t'.op = 0 := hy; rw [← h.1] at hy'; omega
    | un t' a' => simp [Ex.terms] at h; have hx' := hx.1; have hy' := hy.1; rw [← h.1] at hy'; omega
    | bin t' a' b' => simp [Ex.terms] at h; have hx' := hx.1; have hy' := hy.1; rw [← h.1] at hy'; omega
    | tri t' a' b' c' =>
      simp [Ex.terms] at h
      obtain ⟨rfl, h⟩ := h
      obtain ⟨rfl, h2⟩ := iha a' _ _ hx.2.1 hy.2.1 h
      obtain ⟨rfl, h3⟩ := ihb b' _ _ hx.2.2.1 hy.2.2.1 h2
      obtain ⟨rfl, h4⟩ := ihc c' _ _ hx.2.2.2 hy.2.2.2 h3
      exact ⟨rfl, h4⟩

theorem Ex.one {x y : Ex} (hx : x.ok) (hy : y.ok) (h : x.terms = y.terms) : x = y := (Ex.inj x y [] [] hx hy (by simp [h])).1

end Go.Proofs.Ytnhhedecaejgcaa
