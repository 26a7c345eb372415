/- Expressions as trees: every list of terms that is one expression is a tree, each operation ahead of its operands. -/
import Derived.Test.YtnhhedecaejgcaaP05d
namespace Go.Proofs.Ytnhhedecaejgcaa

inductive Ex where
  | leaf (t : Term)
  | un (t : Term) (a : Ex)
  | bin (t : Term) (a b : Ex)
  | tri (t : Term) (a b c : Ex)

def Ex.terms : Ex → List Term
  | .leaf t => [t]
  | .un t a => t :: a.terms
  | .bin t a b => t :: (a.terms ++ b.terms)
  | .tri t a b c => t :: (a.terms ++ (b.terms ++ c.terms))

def Ex.len (x : Ex) : Nat := x.terms.length

def Ex.ok : Ex → Prop
  | .leaf t => arity t.op = 0
  | .un t a => arity t.op = 1 ∧ a.ok
  | .bin t a b => arity t.op = 2 ∧ a.ok ∧ b.ok
  | .tri t a b c => arity t.op = 3 ∧ a.ok ∧ b.ok ∧ c.ok

theorem Ex.pos (x : Ex) : 0 < x.len := by cases x <;> simp [Ex.len, Ex.terms]

theorem Ex.full {x : Ex} (h : x.ok) : Full x.terms 1 := by
  induction x with
  | leaf t =>
    simp only [Ex.ok] at h
    right
    refine ⟨by omega, ?_⟩
    simp [Ex.terms, scan, h]
  | un t a ih =>
    obtain ⟨h1, h2⟩ := h
    exact Full.mk (by rw [h1]; exact ih h2) (by omega)
  | bin t a b iha ihb =>
    obtain ⟨h1, h2, h3⟩ := h
    exact Full.mk (by rw [h1]; exact Full.add (m1 := 1) (m2 := 1) (iha h2) (ihb h3) (by omega) (by omega)) (by omega)
  | tri t a b c iha ihb ihc =>
    obtain ⟨h1, h2, h3, h4⟩ := h
    exact Full.mk (by rw [h1]; exact Full.add (m1 := 1) (m2 := 2) (iha h2) (Full.add (m1 := 1) (m2 := 1) (ihb h3) (ihc h4) (by omega) (by omega)) (by omega) (by omega)) (by omega)

theorem parse (l : List Term) : ∀ m, Full l m → ∃ xs : List Ex, (∀ x ∈ xs, x.ok) ∧ xs.flatMap Ex.terms = l ∧ (xs.length : Int) = m := by
  induction l with
  | nil =>
    intro m h
    rcases h with ⟨_, h⟩ | ⟨_, h⟩
    · exact ⟨[], fun _ h => by simp at h, rfl, by simp [h]⟩
    · simp [scan] at h
  | cons t ts ih =>
    intro m h
    obtain ⟨h1, h2, h3⟩ := h.cons
    obtain ⟨xs, hok, hfl, hlen⟩ := ih _ h3
    have h4 := (arity_le t.op).2
    rcases (show arity t.op = 0 ∨ arity t.op = 1 ∨ arity t.op = 2 ∨ arity t.op = 3 by omega) with ha | ha | ha | ha
    · refine ⟨.leaf t :: xs, ?_, by simp [Ex.terms, hfl], by simp; omega⟩
      intro x hx
      rcases List.mem_cons.1 hx with e | e
      · subst e; exact ha
      · exact hok x e
    · match xs, hok, hfl, hlen with
      | [], _, _, hlen => simp at hlen; omega
      | a :: xs, hok, hfl, hlen =>
        refine ⟨.un t a :: xs, ?_, by simp [Ex.terms, ← hfl], by simp at hlen ⊢; omega⟩
        intro x hx
        rcases List.mem_cons.1 hx with e | e
        · subst e; exact ⟨ha, hok a (by simp)⟩
        · exact hok x (by simp [e])
    · match xs, hok, hfl, hlen with
      | [], _, _, hlen => simp at hlen; omega
      | [a], _, _, hlen => simp at hlen; omega
      | a :: b :: xs, hok, hfl, hlen =>
        refine ⟨.bin t a b :: xs, ?_, by simp [Ex.terms, ← hfl], by simp at hlen ⊢; omega⟩
        intro x hx
        rcases List.mem_cons.1 hx with e | e
        · subst e; exact ⟨ha, hok a (by simp), hok b (by simp)⟩
        · exact hok x (by simp [e])
    · match xs, hok, hfl, hlen with
      | [], _, _, hlen => simp at hlen; omega
      | [a], _, _, hlen => simp at hlen; omega
      | [a, b], _, _, hlen => simp at hlen; omega
      | a :: b :: c :: xs, hok, hfl, hlen =>
        refine ⟨.tri t a b c :: xs, ?_, by simp [Ex.terms, ← hfl], by simp at hlen ⊢; omega⟩
        intro x hx
        rcases List.mem_cons.1 hx with e | e
        · subst e; exact ⟨ha, hok a (by simp), hok b (by simp), hok c (by simp)⟩
        · exact hok x (by simp [e])

theorem parse1 {l : List Term} (h : Full l 1) : ∃ x : Ex, x.ok ∧ x.terms = l := by
  obtain ⟨xs, h1, h2, h3⟩ := parse l 1 h
  obtain ⟨x, rfl⟩ : ∃ x, xs = [x] := List.length_eq_one_iff.1 (by omega)
  exact ⟨x, h1 x (by simp), by simpa using h2⟩

/-- The expression stands at a place of a list. -/
def Ex.At (es : List Term) (k : Nat) (x : Ex) : Prop := x.ok ∧ ∃ r, es.drop k = x.terms ++ r

theorem At.whole {es : List Term} {x : Ex} (h : x.ok) (he : x.terms = es) : x.At es 0 := ⟨h, [], by simp [he]⟩

theorem drop_of_drop {es r : List Term} {k n : Nat} {p : List Term} (h : es.drop k = p ++ r) (hn : p.length = n) : es.drop (k + n) = r := by
  rw [← List.drop_drop, h, ← hn, List.drop_left]

theorem At.bound {es : List Term} {k : Nat} {x : Ex} (h : x.At es k) : k + x.len ≤ es.length := by
  obtain ⟨_, r, hr⟩ := h
  have := congrArg List.length hr
  have hp := x.pos
  simp only [List.length_drop, List.length_append] at this
  unfold Ex.len at *
  omega
theorem At.lt {es : List Term} {k : Nat} {x : Ex} (h : x.At es k) : k < es.length := by
  have := At.bound h
  have := x.pos
  omega

theorem drop_head {es r : List Term} {k : Nat} {t : Term} (h : es.drop k = t :: r) : es[k]? = some t ∧ es.drop (k + 1) = r := by
  refine ⟨?_, ?_⟩
  · have := congrArg (·[0]?) h
    simpa using this
  · exact drop_of_drop (p := [t]) h rfl

theorem At.leaf {es : List Term} {k : Nat} {t : Term} (h : (Ex.leaf t).At es k) : es[k]? = some t ∧ arity t.op = 0 := by
  obtain ⟨h1, r, hr⟩ := h
  exact ⟨(drop_head hr).1, h1⟩
theorem At.un {es : List Term} {k : Nat} {t : Term} {a : Ex} (h : (Ex.un t a).At es k) : es[k]? = some t ∧ arity t.op = 1 ∧ a.At es (k + 1) := by
  obtain ⟨⟨h1, h2⟩, r, hr⟩ := h
  obtain ⟨g1, g2⟩ := drop_head hr
  exact ⟨g1, h1, h2, r, g2⟩
theorem At.bin {es : List Term} {k : Nat} {t : Term} {a b : Ex} (h : (Ex.bin t a b).At es k) : es[k]? = some t ∧ arity t.op = 2 ∧ a.At es (k + 1) ∧ b.At es (k + 1 + a.len) := by
  obtain ⟨⟨h1, h2, h3⟩, r, hr⟩ := h
  obtain ⟨g1, g2⟩ := drop_head (r := _ ++ r) hr
  rw [List.append_assoc] at g2
  exact ⟨g1, h1, ⟨h2, _, g2⟩, h3, r, drop_of_drop g2 rfl⟩
theorem At.tri {es : List Term} {k : Nat} {t : Term} {a b c : Ex} (h : (Ex.tri t a b c).At es k) : es[k]? = some t ∧ arity t.op = 3 ∧ a.At es (k + 1) ∧ b.At es (k + 1 + a.len) ∧ c.At es (k + 1 + a.len + b.len) := by
  obtain ⟨⟨h1, h2, h3, h4⟩, r, hr⟩ := h
  obtain ⟨g1, g2⟩ := drop_head (r := _ ++ r) hr
  rw [List.append_assoc] at g2
  have g3 := drop_of_drop g2 rfl
  rw [List.append_assoc] at g3
  exact ⟨g1, h1, ⟨h2, _, g2⟩, ⟨h3, _, g3⟩, h4, r, drop_of_drop g3 rfl⟩

theorem At.endF {es : List Term} {k : Nat} {x : Ex} (h : x.At es k) : endF es (k : Int) = ((k + x.len : Nat) : Int) := by
  have hlt := At.lt h
  obtain ⟨hok, r, hr⟩ := h
  rw [endF_nat es k hlt]
  unfold scanAt
  rcases Ex.full hok with ⟨_, h⟩ | ⟨_, h⟩
  · omega
  · rw [hr, scan_append _ r _ _ h]; simp [Ex.len]

theorem opAt_some {es : List Term} {k : Nat} {t : Term} (h : es[k]? = some t) : opAt es (k : Int) = t.op := by
  obtain ⟨h1, h2⟩ := List.getElem?_eq_some_iff.1 h
  rw [opAt_get h1, h2]

theorem At.operand1 {es : List Term} {k : Nat} {x a : Ex} {t : Term} (h : x.At es k) (ht : es[k]? = some t) (har : 2 ≤ arity t.op) (ha : a.At es (k + 1)) : operandF es (k : Int) 1 = ((k + 1 + a.len : Nat) : Int) := by
  unfold operandF
  rw [At.endF h, opAt_some ht, if_neg (by omega)]
  show Go.Proofs.Ytnhhedecaejgcaa.endF es ((k : Int) + 1) = _
  rw [show (k : Int) + 1 = ((k + 1 : Nat) : Int) by omega, At.endF ha]
theorem At.operand2 {es : List Term} {k : Nat} {x a b : Ex} {t : Term} (h : x.At es k) (ht : es[k]? = some t) (har : 3 ≤ arity t.op) (ha : a.At es (k + 1)) (hb : b.At es (k + 1 + a.len)) : operandF es (k : Int) 2 = ((k + 1 + a.len + b.len : Nat) : Int) := by
  unfold operandF
  rw [At.endF h, opAt_some ht, if_neg (by omega)]
  show Go.Proofs.Ytnhhedecaejgcaa.endF es (Go.Proofs.Ytnhhedecaejgcaa.endF es ((k : Int) + 1)) = _
  rw [show (k : Int) + 1 = ((k + 1 : Nat) : Int) by omega, At.endF ha, At.endF hb]

def Ex.depth : Ex → Int
  | .leaf _ => 1
  | .un _ a => a.depth + 1
  | .bin _ a b => max a.depth b.depth + 1
  | .tri _ a b c => max a.depth (max b.depth c.depth) + 1
def Ex.nest : Ex → Int
  | .leaf _ => 0
  | .un t a => if aggregate t.op then a.nest + 1 else a.nest
  | .bin _ a b => max a.nest b.nest
  | .tri _ a b c => max a.nest (max b.nest c.nest)

theorem Ex.depth_pos (x : Ex) : 1 ≤ x.depth := by
  induction x <;> simp only [Ex.depth] <;> omega
theorem Ex.nest_pos (x : Ex) : 0 ≤ x.nest := by
  induction x with
  | leaf t => simp [Ex.nest]
  | un t a ih => simp only [Ex.nest]; split <;> omega
  | bin t a b iha ihb => simp only [Ex.nest]; omega
  | tri t a b c iha ihb ihc => simp only [Ex.nest]; omega

theorem agg_arity {op : Int} (h : aggregate op = true) : arity op = 1 := by
  unfold aggregate at h
  have : 20 ≤ op ∧ op ≤ 29 := by simpa using h
  unfold arity
  rw [if_neg (by omega), if_neg (by omega), if_pos (by omega)]
theorem agg_false {op : Int} (h : arity op ≠ 1) : aggregate op = false := by
  cases hb : aggregate op with
  | false => rfl
  | true => exact absurd (agg_arity hb) h

theorem levels_leaf (num : Int → Int → Int) {t : Term} (h : arity t.op = 0) : levelsF num [t] = num t.op 0 := by
  have hF : Full [t] 1 := Ex.full (x := .leaf t) h
  have := rl_single num hF
  simp only [rl] at this
  injection this with h1 _
  rw [← h1, h]; rfl
theorem Ex.levels_depth {x : Ex} (h : x.ok) : depthF x.terms = x.depth := by
  unfold depthF
  induction x with
  | leaf t => simp only [Ex.terms]; rw [levels_leaf _ h]; rfl
  | un t a ih =>
    obtain ⟨h1, h2⟩ := h
    have hp := a.depth_pos
    simp only [Ex.terms]
    rw [grow_levels _ (by rw [h1]; exact Ex.full h2) (by omega), rl_single _ (Ex.full h2), ih h2]
    simp [gmax, depthNum, Ex.depth]; omega
  | bin t a b iha ihb =>
    obtain ⟨h1, h2, h3⟩ := h
    have hp := a.depth_pos
    have hq := b.depth_pos
    simp only [Ex.terms]
    rw [grow_levels _ (by rw [h1]; exact Full.add (m1 := 1) (m2 := 1) (Ex.full h2) (Ex.full h3) (by omega) (by omega)) (by omega), rl_append _ _ _ 1 (Ex.full h2), rl_single _ (Ex.full h2), rl_single _ (Ex.full h3), iha h2, ihb h3]
    simp [gmax, depthNum, Ex.depth]; omega
  | tri t a b c iha ihb ihc =>
    obtain ⟨h1, h2, h3, h4⟩ := h
    have hp := a.depth_pos
    have hq := b.depth_pos
    have hr := c.depth_pos
    simp only [Ex.terms]
    rw [grow_levels _ (by rw [h1]; exact Full.add (m1 := 1) (m2 := 2) (Ex.full h2) (Full.add (m1 := 1) (m2 := 1) (Ex.full h3) (Ex.full h4) (by omega) (by omega)) (by omega) (by omega)) (by omega), rl_append _ _ _ 1 (Ex.full h2), rl_append _ _ _ 1 (Ex.full h3), rl_single _ (Ex.full h2), rl_single _ (Ex.full h3), rl_single _ (Ex.full h4), iha h2, ihb h3, ihc h4]
    simp [gmax, depthNum, Ex.depth]; omega
theorem Ex.levels_nest {x : Ex} (h : x.ok) : nestF x.terms = x.nest := by
  unfold nestF
  induction x with
  | leaf t =>
    simp only [Ex.terms]; rw [levels_leaf _ h]
    have := agg_false (op := t.op) (by rw [h]; omega)
    simp [nestNum, this, Ex.nest]
  | un t a ih =>
    obtain ⟨h1, h2⟩ := h
    have hp := a.nest_pos
    simp only [Ex.terms]
    rw [grow_levels _ (by rw [h1]; exact Ex.full h2) (by omega), rl_single _ (Ex.full h2), ih h2]
    have : gmax [a.nest] = a.nest := by simp [gmax]; omega
    rw [this]; simp [nestNum, Ex.nest]
  | bin t a b iha ihb =>
    obtain ⟨h1, h2, h3⟩ := h
    have hp := a.nest_pos
    have hq := b.nest_pos
    have hag := agg_false (op := t.op) (by rw [h1]; omega)
    simp only [Ex.terms]
    rw [grow_levels _ (by rw [h1]; exact Full.add (m1 := 1) (m2 := 1) (Ex.full h2) (Ex.full h3) (by omega) (by omega)) (by omega), rl_append _ _ _ 1 (Ex.full h2), rl_single _ (Ex.full h2), rl_single _ (Ex.full h3), iha h2, ihb h3]
    simp [gmax, nestNum, hag, Ex.nest]; omega
  | tri t a b c iha ihb ihc =>
    obtain ⟨h1, h2, h3, h4⟩ := h
    have hp := a.nest_pos
    have hq := b.nest_pos
    have hr := c.nest_pos
    have hag := agg_false (op := t.op) (by rw [h1]; omega)
    simp only [Ex.terms]
    rw [grow_levels _ (by rw [h1]; exact Full.add (m1 := 1) (m2 := 2) (Ex.full h2) (Full.add (m1 := 1) (m2 := 1) (Ex.full h3) (Ex.full h4) (by omega) (by omega)) (by omega) (by omega)) (by omega), rl_append _ _ _ 1 (Ex.full h2), rl_append _ _ _ 1 (Ex.full h3), rl_single _ (Ex.full h2), rl_single _ (Ex.full h3), rl_single _ (Ex.full h4), iha h2, ihb h3, ihc h4]
    simp [gmax, nestNum, hag, Ex.nest]; omega

/-- A valid expression, as a tree. -/
theorem valid_tree {es : List Term} {vars : Int} (h : validF es vars = true) : ∃ x : Ex, x.ok ∧ x.terms = es ∧ es.length ≤ 200 ∧ (∀ t ∈ es, argF t vars = true) ∧ x.depth ≤ 24 ∧ x.nest ≤ 2 := by
  obtain ⟨h1, h2, h3, h4, h5⟩ := (validF_parts es vars).1 h
  obtain ⟨x, hx, rfl⟩ := parse1 h2
  exact ⟨x, hx, rfl, h1, h3, by rw [← Ex.levels_depth hx]; exact h4, by rw [← Ex.levels_nest hx]; exact h5⟩

end Go.Proofs.Ytnhhedecaejgcaa
