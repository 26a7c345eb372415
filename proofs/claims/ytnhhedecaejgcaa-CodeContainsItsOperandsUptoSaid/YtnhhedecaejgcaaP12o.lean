/- Terms that look at a bound neighbour outside of all aggregates. -/
import Derived.Test.YtnhhedecaejgcaaP12z
namespace Go.Proofs.Ytnhhedecaejgcaa

theorem len_of (y : Ex) : (match y with | .leaf _ => 1 | .un _ a => 1 + a.len | .bin _ a b => 1 + a.len + b.len | .tri _ a b c => 1 + a.len + b.len + c.len) = y.len := by
  cases y <;> simp [Ex.len, Ex.terms] <;> omega

theorem At.sub {es : List Term} (y : Ex) : ∀ {k j : Nat}, y.At es k → k ≤ j → j < k + y.len → ∃ z : Ex, z.At es j ∧ j + z.len ≤ k + y.len := by
  induction y with
  | leaf t =>
    intro k j h h1 h2
    have : (Ex.leaf t).len = 1 := rfl
    obtain rfl : j = k := by omega
    exact ⟨_, h, Nat.le_refl _⟩
  | un t a ih =>
    intro k j h h1 h2
    have hl := len_of (.un t a)
    simp only at hl
    rcases Nat.eq_or_lt_of_le h1 with e | e
    · subst e; exact ⟨_, h, Nat.le_refl _⟩
    · obtain ⟨z, hz, hz2⟩ := ih (j := j) (At.un h).2.2 (by omega) (by omega)
      exact ⟨z, hz, by omega⟩
  | bin t a b iha ihb =>
    intro k j h h1 h2
    have hl := len_of (.bin t a b)
    simp only at hl
    obtain ⟨_, _, ha, hb⟩ := At.bin h
    rcases Nat.eq_or_lt_of_le h1 with e | e
    · subst e; exact ⟨_, h, Nat.le_refl _⟩
    · by_cases hj : j < k + 1 + a.len
      · obtain ⟨z, hz, hz2⟩ := iha (j := j) ha (by omega) (by omega)
        exact ⟨z, hz, by omega⟩
      · obtain ⟨z, hz, hz2⟩ := ihb (j := j) hb (by omega) (by omega)
        exact ⟨z, hz, by omega⟩
  | tri t a b c iha ihb ihc =>
    intro k j h h1 h2
    have hl := len_of (.tri t a b c)
    simp only at hl
    obtain ⟨_, _, ha, hb, hc⟩ := At.tri h
    rcases Nat.eq_or_lt_of_le h1 with e | e
    · subst e; exact ⟨_, h, Nat.le_refl _⟩
    · by_cases hj : j < k + 1 + a.len
      · obtain ⟨z, hz, hz2⟩ := iha (j := j) ha (by omega) (by omega)
        exact ⟨z, hz, by omega⟩
      · by_cases hj : j < k + 1 + a.len + b.len
        · obtain ⟨z, hz, hz2⟩ := ihb (j := j) hb (by omega) (by omega)
          exact ⟨z, hz, by omega⟩
        · obtain ⟨z, hz, hz2⟩ := ihc (j := j) hc (by omega) (by omega)
          exact ⟨z, hz, by omega⟩

theorem end_le_at {es : List Term} {y : Ex} {k j : Nat} (h : y.At es k) (h1 : k ≤ j) (h2 : j < k + y.len) : endF es (j : Int) ≤ ((k + y.len : Nat) : Int) := by
  obtain ⟨z, hz, hz2⟩ := At.sub y h h1 h2
  rw [At.endF hz]; omega

/-- The place i is inside of an aggregate from the place k on, or b says that it is. -/
def Cov (es : List Term) (k i : Nat) (b : Bool) : Prop := b = true ∨ ∃ (k' : Nat) (t' : Term), k ≤ k' ∧ k' < i ∧ es[k']? = some t' ∧ aggregate t'.op = true ∧ (i : Int) < endF es (k' : Int)

theorem inside_of {es : List Term} (y : Ex) : ∀ (k : Nat) (b : Bool), y.At es k → (∀ (i : Nat) (t : Term), k ≤ i → i < k + y.len → es[i]? = some t → nearT t = true → Cov es k i b) → y.inside b := by
  induction y with
  | leaf t =>
    intro k b h hc hn
    have : (Ex.leaf t).len = 1 := rfl
    rcases hc k t (Nat.le_refl _) (by omega) (At.leaf h).1 hn with h1 | ⟨k', t', h1, h2, _⟩
    · exact h1
    · omega
  | un t a ih =>
    intro k b h hc
    have hl := len_of (.un t a)
    simp only at hl
    obtain ⟨hk, har, ha⟩ := At.un h
    refine ih (k + 1) _ ha fun i u h1 h2 h3 h4 => ?_
    cases hag : aggregate t.op with
    | true => exact .inl rfl
    | false =>
      rcases hc i u (by omega) (by omega) h3 h4 with h5 | ⟨k', t', h5, h6, h7, h8, h9⟩
      · exact .inl (by rw [h5]; rfl)
      · refine .inr ⟨k', t', ?_, h6, h7, h8, h9⟩
        rcases Nat.eq_or_lt_of_le h5 with e | e
        · subst e
          rw [hk] at h7
          injection h7 with h7
          subst h7
          rw [hag] at h8; cases h8
        · omega
  | bin t a b iha ihb =>
    intro k bb h hc
    have hl := len_of (.bin t a b)
    simp only at hl
    obtain ⟨hk, har, ha, hb⟩ := At.bin h
    have hna := agg_false (op := t.op) (by omega)
    have hk0 : ∀ (k' : Nat) (t' : Term), k ≤ k' → es[k']? = some t' → aggregate t'.op = true → k + 1 ≤ k' := by
      intro k' t' h5 h7 h8
      rcases Nat.eq_or_lt_of_le h5 with e | e
      · subst e
        rw [hk] at h7
        injection h7 with h7
        subst h7
        rw [hna] at h8; cases h8
      · omega
    refine ⟨iha (k + 1) _ ha fun i u h1 h2 h3 h4 => ?_, ihb _ _ hb fun i u h1 h2 h3 h4 => ?_⟩
    · rcases hc i u (by omega) (by omega) h3 h4 with h5 | ⟨k', t', h5, h6, h7, h8, h9⟩
      · exact .inl h5
      · exact .inr ⟨k', t', hk0 k' t' h5 h7 h8, h6, h7, h8, h9⟩
    · rcases hc i u (by omega) (by omega) h3 h4 with h5 | ⟨k', t', h5, h6, h7, h8, h9⟩
      · exact .inl h5
      · refine .inr ⟨k', t', ?_, h6, h7, h8, h9⟩
        have := hk0 k' t' h5 h7 h8
        by_cases hlt : k' < k + 1 + a.len
        · have := end_le_at ha this hlt; omega
        · omega
  | tri t a b c iha ihb ihc =>
    intro k bb h hc
    have hl := len_of (.tri t a b c)
    simp only at hl
    obtain ⟨hk, har, ha, hb, hcc⟩ := At.tri h
    have hna := agg_false (op := t.op) (by omega)
    have hk0 : ∀ (k' : Nat) (t' : Term), k ≤ k' → es[k']? = some t' → aggregate t'.op = true → k + 1 ≤ k' := by
      intro k' t' h5 h7 h8
      rcases Nat.eq_or_lt_of_le h5 with e | e
      · subst e
        rw [hk] at h7
        injection h7 with h7
        subst h7
        rw [hna] at h8; cases h8
      · omega
    refine ⟨iha (k + 1) _ ha fun i u h1 h2 h3 h4 => ?_, ihb _ _ hb fun i u h1 h2 h3 h4 => ?_, ihc _ _ hcc fun i u h1 h2 h3 h4 => ?_⟩
    · rcases hc i u (by omega) (by omega) h3 h4 with h5 | ⟨k', t', h5, h6, h7, h8, h9⟩
      · exact .inl h5
      · exact .inr ⟨k', t', hk0 k' t' h5 h7 h8, h6, h7, h8, h9⟩
    · rcases hc i u (by omega) (by omega) h3 h4 with h5 | ⟨k', t', h5, h6, h7, h8, h9⟩
      · exact .inl h5
      · refine .inr ⟨k', t', ?_, h6, h7, h8, h9⟩
        have := hk0 k' t' h5 h7 h8
        by_cases hlt : k' < k + 1 + a.len
        · have := end_le_at ha this hlt; omega
        · omega
    · rcases hc i u (by omega) (by omega) h3 h4 with h5 | ⟨k', t', h5, h6, h7, h8, h9⟩
      · exact .inl h5
      · refine .inr ⟨k', t', ?_, h6, h7, h8, h9⟩
        have := hk0 k' t' h5 h7 h8
        by_cases hlt : k' < k + 1 + a.len
        · have := end_le_at ha this hlt; omega
        · by_cases hlt2 : k' < k + 1 + a.len + b.len
          · have := end_le_at hb (by omega) hlt2; omega
          · omega

/-- What the statement's own loops compute. -/
def covB (es : List Term) (i k : Nat) : Bool := aggregate (opAt es (k : Int)) && decide ((i : Int) < endF es (k : Int))
def insB (es : List Term) (i n : Nat) : Bool := (List.range n).any fun k => covB es i k
def outB (es : List Term) (n : Nat) : Bool := (List.range n).any fun i => (nearT (es.getD i default)) && !insB es i i
theorem insB_succ (es : List Term) (i n : Nat) : insB es i (n + 1) = (insB es i n || covB es i n) := by unfold insB; rw [List.range_succ, List.any_append]; simp
theorem outB_succ (es : List Term) (n : Nat) : outB es (n + 1) = (outB es n || ((nearT (es.getD n default)) && !insB es n n)) := by unfold outB; rw [List.range_succ, List.any_append]; simp
theorem insB_zero (es : List Term) (i : Nat) : insB es i 0 = false := rfl
theorem outB_zero (es : List Term) : outB es 0 = false := rfl
theorem outB_mono {es : List Term} {k n : Nat} (h : outB es k = true) (hk : k ≤ n) : outB es n = true := by
  unfold outB at *
  rw [List.any_eq_true] at *
  obtain ⟨x, hx, hx2⟩ := h
  exact ⟨x, by simp at hx ⊢; omega, hx2⟩

theorem inside_of_out {es : List Term} {x : Ex} (hok : x.ok) (hx : x.terms = es) (h : outB es es.length = false) : x.inside false := by
  refine inside_of x 0 false (At.whole hok hx) fun i t _ hi ht hn => ?_
  have hil : i < es.length := by rw [← hx]; simpa [Ex.len] using hi
  have hb : insB es i i = true := by
    unfold outB at h
    rw [List.any_eq_false] at h
    have := h i (by simpa using hil)
    rw [List.getD_eq_getElem?_getD, ht] at this
    simp only [Option.getD_some, hn, Bool.true_and, Bool.not_eq_true', Bool.not_eq_false] at this
    exact this
  unfold insB at hb
  rw [List.any_eq_true] at hb
  obtain ⟨k, hk, hc⟩ := hb
  simp at hk
  unfold covB at hc
  rw [Bool.and_eq_true] at hc
  have hkl : k < es.length := by omega
  refine .inr ⟨k, es[k], by omega, hk, List.getElem?_eq_getElem hkl, ?_, by simpa using hc.2⟩
  have := hc.1
  rw [opAt_get hkl] at this
  exact this

/- Code that is moved. -/
def movT (d : Int) (t : Term) : Term := if t.op = 7 ∨ t.op = 8 ∨ t.op = 9 then ⟨t.op, t.arg + d⟩ else t
theorem leafI_op (t : Term) : (leafI t).op = 1 ∨ (leafI t).op = 2 ∨ (leafI t).op = 3 ∨ (leafI t).op = 4 := by
  unfold leafI
  by_cases h1 : t.op = 1
  · rw [if_pos h1]; simp
  by_cases h2 : t.op = 2
  · rw [if_neg h1, if_pos h2]; simp
  by_cases h3 : t.op = 3
  · rw [if_neg h1, if_neg h2, if_pos h3]; simp
  by_cases h4 : t.op = 4
  · rw [if_neg h1, if_neg h2, if_neg h3, if_pos h4]; simp
  by_cases h5 : t.op = 5
  · rw [if_neg h1, if_neg h2, if_neg h3, if_neg h4, if_pos h5]; simp
  by_cases h12 : t.op = 12
  · rw [if_neg h1, if_neg h2, if_neg h3, if_neg h4, if_neg h5, if_pos h12]; simp
  rw [if_neg h1, if_neg h2, if_neg h3, if_neg h4, if_neg h5, if_neg h12]; simp
theorem code_moved (x : Ex) : ∀ (f d : Nat), (x.code f).map (movT d) = x.code (f + d) := by
  induction x with
  | leaf t =>
    intro f d
    have := leafI_op t
    simp only [Ex.code, List.map_cons, List.map_nil, movT]
    rw [if_neg (by omega)]
  | un t a ih =>
    intro f d
    simp only [Ex.code]
    split
    · simp only [List.map_cons, List.map_append, List.map_nil, ih, movT]
      simp
      refine ⟨by omega, by congr 1; omega⟩
    · simp [ih, movT]
  | bin t a b iha ihb =>
    intro f d
    simp only [Ex.code, List.map_append, iha, ihb, List.map_cons, List.map_nil, movT]
    simp
    congr 1; omega
  | tri t a b c iha ihb ihc =>
    intro f d
    simp only [Ex.code, List.map_append, iha, ihb, ihc, List.map_cons, List.map_nil, movT]
    simp
    refine ⟨by omega, ?_⟩
    rw [show f + a.size + 1 + d = f + d + a.size + 1 by omega, show f + a.size + 1 + b.size + 1 + d = f + d + a.size + 1 + b.size + 1 by omega]
    congr 2
    congr 1
    omega

end Go.Proofs.Ytnhhedecaejgcaa
