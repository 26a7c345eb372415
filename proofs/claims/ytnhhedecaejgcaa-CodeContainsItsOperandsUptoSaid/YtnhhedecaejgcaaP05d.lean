/- Plain laws of layer 5: parts, growth and cuts of expressions. -/
import Derived.Test.YtnhhedecaejgcaaP05c
namespace Go.Proofs.Ytnhhedecaejgcaa

theorem scan_take (l : List Term) : ∀ (m : Int) (n : Nat), scan l m = some n → scan (l.take n) m = some n := by
  induction l with
  | nil => intro m n h; simp [scan] at h
  | cons t ts ih =>
    intro m n h
    simp only [scan] at h
    split at h
    · cases h
    · rename_i ha
      split at h
      · rename_i h0
        injection h with h; subst h
        simp only [List.take_succ_cons, List.take_zero, scan, if_neg ha, if_pos h0]
      · rename_i h0
        cases hs : scan ts (m + (arity t.op - 1)) with
        | none => rw [hs] at h; cases h
        | some q =>
          rw [hs] at h; injection h with h; subst h
          simp only [List.take_succ_cons, scan, if_neg ha, if_neg h0, ih _ _ hs]
          rfl

theorem scan_take_lt (l : List Term) : ∀ (m : Int) (n k : Nat), scan l m = some n → k < n → scan (l.take k) m = none := by
  induction l with
  | nil => intro m n k h; simp [scan] at h
  | cons t ts ih =>
    intro m n k h hk
    cases k with
    | zero => simp [scan]
    | succ k =>
      simp only [scan] at h
      split at h
      · cases h
      · rename_i ha
        split at h
        · injection h with h; omega
        · rename_i h0
          cases hs : scan ts (m + (arity t.op - 1)) with
          | none => rw [hs] at h; cases h
          | some q =>
            rw [hs] at h; injection h with h
            simp only at h
            simp only [List.take_succ_cons, scan, if_neg ha, if_neg h0, ih _ _ k hs (by omega)]
            rfl

theorem scan_append (l r : List Term) : ∀ (m : Int) (n : Nat), scan l m = some n → scan (l ++ r) m = some n := by
  induction l with
  | nil => intro m n h; simp [scan] at h
  | cons t ts ih =>
    intro m n h
    simp only [scan] at h
    split at h
    · cases h
    · rename_i ha
      split at h
      · rename_i h0
        simp only [List.cons_append, scan, if_neg ha, if_pos h0]; exact h
      · rename_i h0
        cases hs : scan ts (m + (arity t.op - 1)) with
        | none => rw [hs] at h; cases h
        | some q =>
          rw [hs] at h
          simp only [List.cons_append, scan, if_neg ha, if_neg h0, ih _ _ hs]; exact h

theorem full_end {p : List Term} (h : Full p 1) : endF p 0 = p.length := by
  rcases h with ⟨_, h⟩ | ⟨_, h⟩
  · omega
  · have := scan_le _ _ _ h
    unfold endF scanAt
    rw [if_neg (by omega)]
    simp only [Int.toNat_zero, List.drop_zero, h]
    simp

theorem Full.pos {p : List Term} (h : Full p 1) : 0 < p.length := by
  rcases h with ⟨_, h⟩ | ⟨_, h⟩
  · omega
  · exact (scan_le _ _ _ h).1

theorem Full.add {p q : List Term} {m1 m2 : Int} (hp : Full p m1) (hq : Full q m2) (h1 : 1 ≤ m1) (h2 : 1 ≤ m2) : Full (p ++ q) (m1 + m2) := by
  rcases hp with ⟨_, h⟩ | ⟨_, hp⟩
  · omega
  · rcases hq with ⟨_, h⟩ | ⟨_, hq⟩
    · omega
    · right
      refine ⟨by omega, ?_⟩
      rw [scan_add _ _ _ h1 h2, scan_append p q _ _ hp]
      simp only [List.drop_left, hq, Option.map_some, List.length_append]

theorem Full.mk {t : Term} {ts : List Term} (h : Full ts (arity t.op)) (h1 : 1 ≤ arity t.op) : Full (t :: ts) 1 := by
  rcases h with ⟨_, h⟩ | ⟨_, h⟩
  · omega
  · right
    refine ⟨by omega, ?_⟩
    simp only [scan]
    rw [if_neg (by omega), if_neg (by omega), show 1 + (arity t.op - 1) = arity t.op by omega, h]
    rfl

theorem rl_append (num : Int → Int → Int) (p r : List Term) : ∀ m, Full p m → rl num (p ++ r) = rl num p ++ rl num r := by
  induction p with
  | nil => intro m _; rfl
  | cons t ts ih =>
    intro m h
    obtain ⟨h1, h2, h3⟩ := h.cons
    have hl := rl_length num ts _ h3
    simp only [List.cons_append, rl]
    rw [ih _ h3, List.take_append_of_le_length (by omega), List.drop_append_of_le_length (by omega)]

theorem rl_single (num : Int → Int → Int) {p : List Term} (h : Full p 1) : rl num p = [levelsF num p] := by
  have hl := rl_length num p 1 h
  obtain ⟨x, hx⟩ : ∃ x, rl num p = [x] := List.length_eq_one_iff.1 (by omega)
  have hlev := lev_eq_rl num p 1 h
  unfold levelsF
  rw [if_pos (full_end h), hlev, hx]
  rfl

theorem gmax_mem_le (l : List Int) : ∀ x ∈ l, x ≤ gmax l := by
  induction l with
  | nil => intro x hx; simp at hx
  | cons a l ih =>
    intro x hx
    rw [gmax_cons']
    rcases List.mem_cons.1 hx with e | e
    · subst e; omega
    · have := ih x e; omega

/-- What bounds the numbers of the expressions from one place on bounds them from the next place on. -/
theorem rl_next (num : Int → Int → Int) (hn : ∀ op g, 0 ≤ g → g ≤ num op g) (es : List Term) (i : Nat) (hi : i < es.length) (B : Int) (h : ∀ x ∈ rl num (es.drop i), x ≤ B) : ∀ x ∈ rl num (es.drop (i + 1)), x ≤ B := by
  intro x hx
  rw [List.drop_eq_getElem_cons hi] at h
  simp only [rl] at h
  rw [← List.take_append_drop (arity es[i].op).toNat (rl num (es.drop (i + 1)))] at hx
  rcases List.mem_append.1 hx with e | e
  · have h1 := gmax_mem_le _ x e
    have h2 := hn es[i].op _ (gmax_nonneg ((rl num (es.drop (i + 1))).take (arity es[i].op).toNat))
    have h3 := h _ (List.mem_cons_self ..)
    omega
  · exact h x (List.mem_cons_of_mem _ e)

theorem rl_from (num : Int → Int → Int) (hn : ∀ op g, 0 ≤ g → g ≤ num op g) (es : List Term) (B : Int) (j : Nat) (h : ∀ x ∈ rl num (es.drop j), x ≤ B) : ∀ i, j ≤ i → i ≤ es.length → ∀ x ∈ rl num (es.drop i), x ≤ B := by
  intro i hji
  induction i with
  | zero => intro _; have : j = 0 := by omega
            subst this; exact h
  | succ i ih =>
    intro hi
    rcases Nat.lt_or_ge i j with hlt | hge
    · have : j = i + 1 := by omega
      subst this; exact h
    · exact rl_next num hn es i (by omega) B (ih hge (by omega))

theorem depthNum_ge (op g : Int) (_ : 0 ≤ g) : g ≤ depthNum op g := by unfold depthNum; omega
theorem nestNum_ge (op g : Int) (_ : 0 ≤ g) : g ≤ nestNum op g := by unfold nestNum; split <;> omega

/-- The part of an expression from a place to its end. -/
def partOf (es : List Term) (i : Nat) : List Term := (es.drop i).take ((endF es i).toNat - i)

theorem part_full {es : List Term} (h : Full es 1) {i : Nat} (hi : i < es.length) : Full (partOf es i) 1 ∧ ∃ r, es.drop i = partOf es i ++ r := by
  obtain ⟨n, hn⟩ := end_some h hi
  have e : (endF es i).toNat - i = n := by
    rw [endF_nat es i hi]; unfold scanAt; rw [hn]; simp; omega
  have hle := scan_le _ _ _ hn
  unfold partOf
  rw [e]
  refine ⟨?_, (es.drop i).drop n, (List.take_append_drop n _).symm⟩
  right
  refine ⟨by omega, ?_⟩
  rw [scan_take _ _ _ hn, List.length_take]
  simp at hle ⊢; omega

theorem part_level (num : Int → Int → Int) {es : List Term} (h : Full es 1) {i : Nat} (hi : i < es.length) : levelsF num (partOf es i) ∈ rl num (es.drop i) := by
  obtain ⟨hF, r, hr⟩ := part_full h hi
  rw [hr, rl_append num _ r 1 hF, rl_single num hF]
  simp

theorem part_le (num : Int → Int → Int) (hn : ∀ op g, 0 ≤ g → g ≤ num op g) {es : List Term} (h : Full es 1) {i : Nat} (hi : i < es.length) : levelsF num (partOf es i) ≤ levelsF num es := by
  refine rl_from num hn es _ 0 (fun x hx => ?_) i (by omega) (by omega) _ (part_level num h hi)
  rw [List.drop_zero, rl_single num h] at hx
  simp at hx; omega

theorem part_lt {es : List Term} (h : Full es 1) {i : Nat} (hi : i < es.length) (h0 : i ≠ 0) : depthF (partOf es i) < depthF es := by
  have hb : levelsF depthNum (partOf es i) ≤ levelsF depthNum es - 1 := by
    refine rl_from depthNum depthNum_ge es _ 1 (fun x hx => ?_) i (by omega) (by omega) _ (part_level depthNum h hi)
    have hs := rl_single depthNum h
    have hp := h.pos
    cases es with
    | nil => simp at hp
    | cons t ts =>
      simp only [rl] at hs
      injection hs with h1 h2
      simp only [List.drop_succ_cons, List.drop_zero] at hx
      rw [← List.take_append_drop (arity t.op).toNat (rl depthNum ts), h2, List.append_nil] at hx
      have hg := gmax_mem_le _ x hx
      rw [show depthNum t.op (gmax ((rl depthNum ts).take (arity t.op).toNat)) = gmax ((rl depthNum ts).take (arity t.op).toNat) + 1 from rfl] at h1
      omega
  unfold depthF; omega

theorem validF_parts (es : List Term) (vars : Int) : validF es vars = true ↔ es.length ≤ 200 ∧ Full es 1 ∧ (∀ t ∈ es, argF t vars = true) ∧ depthF es ≤ 24 ∧ nestF es ≤ 2 := by
  unfold validF
  simp only [Bool.and_eq_true, decide_eq_true_eq, beq_iff_eq, List.all_eq_true]
  constructor
  · rintro ⟨⟨⟨⟨a, b⟩, c⟩, d⟩, e⟩
    exact ⟨a, full_of_end b, c, d, e⟩
  · rintro ⟨a, b, c, d, e⟩
    exact ⟨⟨⟨⟨a, full_end b⟩, c⟩, d⟩, e⟩

theorem part_valid {es : List Term} {vars : Int} (h : validF es vars = true) {i : Nat} (hi : i < es.length) : validF (partOf es i) vars = true := by
  obtain ⟨h1, h2, h3, h4, h5⟩ := (validF_parts es vars).1 h
  have hsub : ∀ t ∈ partOf es i, t ∈ es := fun t ht => List.mem_of_mem_drop (List.mem_of_mem_take ht)
  refine (validF_parts _ _).2 ⟨?_, (part_full h2 hi).1, fun t ht => h3 t (hsub t ht), Int.le_trans (part_le depthNum depthNum_ge h2 hi) h4, Int.le_trans (part_le nestNum nestNum_ge h2 hi) h5⟩
  unfold partOf
  rw [List.length_take, List.length_drop]; omega

/-- A cut expression is none. -/
theorem cut_end {es : List Term} (h : Full es 1) (k : Nat) (hk : k < es.length) : endF (es.take k) 0 = -1 := by
  rcases h with ⟨_, h⟩ | ⟨_, h⟩
  · omega
  · unfold endF
    split
    · rfl
    · unfold scanAt
      simp only [Int.toNat_zero, List.drop_zero]
      rw [scan_take_lt es 1 _ k h hk]
theorem long_end {es : List Term} (h : Full es 1) (t : Term) : endF (es ++ [t]) 0 = es.length := by
  have hp := h.pos
  rcases h with ⟨_, h⟩ | ⟨_, h⟩
  · omega
  · unfold endF
    rw [if_neg (by simp)]
    unfold scanAt
    simp only [Int.toNat_zero, List.drop_zero]
    rw [scan_append es [t] 1 _ h]; simp
theorem not_end {es : List Term} (h : endF es 0 ≠ es.length) : depthF es = 0 ∧ nestF es = 0 ∧ ∀ vars, validF es vars = false := by
  refine ⟨by unfold depthF levelsF; rw [if_neg h], by unfold nestF levelsF; rw [if_neg h], fun vars => ?_⟩
  unfold validF
  rw [show (endF es 0 == (es.length : Int)) = false by simpa using h]
  simp

/-- An operation ahead of whole expressions. -/
theorem grow_levels (num : Int → Int → Int) {t : Term} {ts : List Term} (h : Full ts (arity t.op)) (h1 : 1 ≤ arity t.op) : levelsF num (t :: ts) = num t.op (gmax (rl num ts)) := by
  have hs := rl_single num (Full.mk h h1)
  have hl := rl_length num ts _ h
  simp only [rl] at hs
  injection hs with h2 _
  rw [← h2, List.take_of_length_le (by omega)]

/- Renaming variables. -/
def renTerm (m : List Int) (t : Term) : Term := if t.op = 5 ∨ t.op = 12 then ⟨t.op, m.getD t.arg.toNat 0⟩ else t
def inVars (m : List Int) : Bool := m.all fun x => decide (0 ≤ x ∧ x < 6)
def renameF (es : List Term) (m : List Int) : List Term × Int :=
  if validF es m.length = false then ([], 7) else if inVars m = false then ([], 2) else (es.map (renTerm m), 0)
def renPart (m : List Int) (es : List Term) (k : Nat) : List Term := (es.take k).map (renTerm m) ++ es.drop k

theorem renPart_zero (m : List Int) (es : List Term) : renPart m es 0 = es := by simp [renPart]
theorem renPart_full (m : List Int) (es : List Term) (k : Nat) (h : es.length ≤ k) : renPart m es k = es.map (renTerm m) := by
  unfold renPart; rw [List.take_of_length_le h, List.drop_eq_nil_of_le h, List.append_nil]
theorem renPart_length (m : List Int) (es : List Term) (k : Nat) : (renPart m es k).length = es.length := by
  unfold renPart; simp; omega
theorem renPart_get (m : List Int) (es : List Term) (k : Nat) (h : k < es.length) : (renPart m es k)[k]? = some es[k] := by
  unfold renPart
  rw [List.getElem?_append_right (by simp; omega)]
  simp [Nat.min_eq_left (Nat.le_of_lt h), List.getElem?_eq_getElem h]
theorem renPart_succ (m : List Int) (es : List Term) (k : Nat) (h : k < es.length) : renPart m es (k + 1) = (renPart m es k).set k (renTerm m es[k]) := by
  unfold renPart
  have hl : ((es.take k).map (renTerm m)).length = k := by simp; omega
  rw [List.take_succ_eq_append_getElem h, List.map_append, List.append_assoc, List.set_append_right _ _ (by omega), hl, Nat.sub_self, List.drop_eq_getElem_cons h]
  rfl

/- The variables that are read. -/
def readGo : List Term → Nat → Nat → Nat × Nat
  | [], o, n => (o, n)
  | t :: ts, o, n => if t.op = 5 then readGo ts (o ||| 1 <<< t.arg.toNat) n else if t.op = 12 then readGo ts o (n ||| 1 <<< t.arg.toNat) else readGo ts o n
def readsF (es : List Term) : Nat × Nat := if validF es 6 = false then (0, 0) else readGo es 0 0

end Go.Proofs.Ytnhhedecaejgcaa
