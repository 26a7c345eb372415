/- Merged of: P05e (see NOTES.md). -/
import Derived.Test.YtibfjhhadbkkgaaGreatZ04
set_option linter.unusedSimpArgs false
set_option linter.unnecessarySimpa false
set_option linter.unusedVariables false

/- Plain laws of layer 5: renaming with a permutation of the variables and back. -/
namespace Go.Proofs.YtibfjhhadbkkgaaGreat

def IsPerm (m : List Int) : Prop := m.length = 6 ∧ (∀ j, j < 6 → 0 ≤ m.getD j 0 ∧ m.getD j 0 < 6) ∧ ∀ i j, i < 6 → j < 6 → m.getD i 0 = m.getD j 0 → i = j
def swapL (m : List Int) (i k : Nat) : List Int := (m.set i (m.getD k 0)).set k (m.getD i 0)

theorem swapL_length (m : List Int) (i k : Nat) : (swapL m i k).length = m.length := by simp [swapL]
theorem getD_set (m : List Int) (i j : Nat) (v : Int) (hi : i < m.length) : (m.set i v).getD j 0 = if i = j then v else m.getD j 0 := by
  rw [List.getD_eq_getElem?_getD, List.getElem?_set]
  split
  · rename_i h; subst h; simp
  · rw [List.getD_eq_getElem?_getD]
theorem swapL_get (m : List Int) (i k j : Nat) (hi : i < m.length) (hk : k < m.length) : (swapL m i k).getD j 0 = if k = j then m.getD i 0 else if i = j then m.getD k 0 else m.getD j 0 := by
  unfold swapL
  rw [getD_set _ _ _ _ (by simpa using hk)]
  split
  · rfl
  · rw [getD_set _ _ _ _ hi]

theorem isPerm_start : IsPerm [0, 1, 2, 3, 4, 5] := by
  refine ⟨rfl, fun j hj => ?_, fun i j hi hj => ?_⟩
  · have : j = 0 ∨ j = 1 ∨ j = 2 ∨ j = 3 ∨ j = 4 ∨ j = 5 := by omega
    rcases this with h | h | h | h | h | h <;> subst h <;> decide
  · have : i = 0 ∨ i = 1 ∨ i = 2 ∨ i = 3 ∨ i = 4 ∨ i = 5 := by omega
    have : j = 0 ∨ j = 1 ∨ j = 2 ∨ j = 3 ∨ j = 4 ∨ j = 5 := by omega
    rcases ‹i = 0 ∨ _› with h | h | h | h | h | h <;> rcases ‹j = 0 ∨ _› with h' | h' | h' | h' | h' | h' <;> subst h <;> subst h' <;> decide

theorem isPerm_swap {m : List Int} (h : IsPerm m) {i k : Nat} (hi : i < 6) (hk : k < 6) : IsPerm (swapL m i k) := by
  obtain ⟨hl, hr, hj⟩ := h
  refine ⟨by rw [swapL_length, hl], fun j hj' => ?_, fun a b ha hb => ?_⟩
  · rw [swapL_get m i k j (by omega) (by omega)]
    repeat' split
    · exact hr i hi
    · exact hr k hk
    · exact hr j hj'
  · rw [swapL_get m i k a (by omega) (by omega), swapL_get m i k b (by omega) (by omega)]
    intro he
    have key : ∀ x y, x < 6 → y < 6 → m.getD x 0 = m.getD y 0 → x = y := hj
    repeat' split at he
    all_goals first
      | omega
      | (have := key _ _ hi hk he; omega)
      | (have := key _ _ hk hi he; omega)
      | (have := key _ _ hi hb he; omega)
      | (have := key _ _ hk hb he; omega)
      | (have := key _ _ ha hi he; omega)
      | (have := key _ _ ha hk he; omega)
      | (exact key _ _ ha hb he)

theorem isPerm_inVars {m : List Int} (h : IsPerm m) : inVars m = true := by
  unfold inVars
  rw [List.all_eq_true]
  intro x hx
  obtain ⟨i, hi, rfl⟩ := List.getElem_of_mem hx
  have := h.2.1 i (by have := h.1; omega)
  rw [List.getD_eq_getElem?_getD, List.getElem?_eq_getElem hi] at this
  simpa using this

/-- A list of six numbers below 6. -/
def SixVars (m : List Int) : Prop := m.length = 6 ∧ ∀ j, j < 6 → 0 ≤ m.getD j 0 ∧ m.getD j 0 < 6
theorem sixVars_inVars {m : List Int} (h : SixVars m) : inVars m = true := by
  unfold inVars
  rw [List.all_eq_true]
  intro x hx
  obtain ⟨i, hi, rfl⟩ := List.getElem_of_mem hx
  have := h.2 i (by have := h.1; omega)
  rw [List.getD_eq_getElem?_getD, List.getElem?_eq_getElem hi] at this
  simpa using this

theorem renTerm_op (m : List Int) (t : Term) : (renTerm m t).op = t.op := by unfold renTerm; split <;> rfl
theorem scan_map (f : Term → Term) (hf : ∀ t, (f t).op = t.op) (l : List Term) : ∀ k, scan (l.map f) k = scan l k := by
  induction l with
  | nil => intro k; rfl
  | cons t ts ih => intro k; simp only [List.map_cons, scan, hf, ih]
theorem lev_map (num : Int → Int → Int) (f : Term → Term) (hf : ∀ t, (f t).op = t.op) (l : List Term) : lev num (l.map f) = lev num l := by
  induction l with
  | nil => rfl
  | cons t ts ih => simp only [List.map_cons, lev, hf, ih]
theorem endF_map (f : Term → Term) (hf : ∀ t, (f t).op = t.op) (l : List Term) (p : Int) : endF (l.map f) p = endF l p := by
  unfold endF scanAt
  rw [← List.map_drop, scan_map f hf, List.length_map]
theorem levelsF_map (num : Int → Int → Int) (f : Term → Term) (hf : ∀ t, (f t).op = t.op) (l : List Term) : levelsF num (l.map f) = levelsF num l := by
  unfold levelsF
  rw [endF_map f hf, lev_map num f hf, List.length_map]

theorem argF_ren {m : List Int} (h : SixVars m) {t : Term} (ht : argF t 6 = true) : argF (renTerm m t) 6 = true := by
  unfold renTerm
  split
  · rename_i hop
    have ha : 0 ≤ t.arg ∧ t.arg < 6 := by
      unfold argF at ht
      rw [if_neg (by omega), if_pos hop] at ht
      simpa using ht
    have := h.2 t.arg.toNat (by omega)
    unfold argF
    rw [if_neg (by show ¬ t.op = 1; omega), if_pos (by exact hop)]
    simpa using this
  · exact ht

theorem valid_ren {m : List Int} (h : SixVars m) {es : List Term} (hv : validF es 6 = true) : validF (es.map (renTerm m)) 6 = true := by
  obtain ⟨h1, h2, h3, h4, h5⟩ := (validF_parts es 6).1 hv
  refine (validF_parts _ _).2 ⟨by simpa using h1, full_of_end ?_, ?_, ?_, ?_⟩
  · rw [endF_map _ (renTerm_op m), full_end h2, List.length_map]
  · intro t ht
    obtain ⟨u, hu, rfl⟩ := List.mem_map.1 ht
    exact argF_ren h (h3 u hu)
  · unfold depthF; rw [levelsF_map _ _ (renTerm_op m)]; exact h4
  · unfold nestF; rw [levelsF_map _ _ (renTerm_op m)]; exact h5

theorem rename_six {m : List Int} (h : SixVars m) {es : List Term} (hv : validF es 6 = true) : renameF es m = (es.map (renTerm m), 0) := by
  unfold renameF
  rw [if_neg (by rw [h.1]; show ¬ validF es 6 = false; rw [hv]; decide), if_neg (by rw [sixVars_inVars h]; decide)]

/-- back undoes m. -/
theorem ren_back {m back : List Int} (hb : ∀ i, i < 6 → back.getD (m.getD i 0).toNat 0 = i) {es : List Term} (hv : validF es 6 = true) : (es.map (renTerm m)).map (renTerm back) = es := by
  obtain ⟨_, _, h3, _, _⟩ := (validF_parts es 6).1 hv
  rw [List.map_map]
  conv => rhs; rw [← List.map_id es]
  refine List.map_congr_left fun t ht => ?_
  show renTerm back (renTerm m t) = t
  by_cases hop : t.op = 5 ∨ t.op = 12
  · have ha : 0 ≤ t.arg ∧ t.arg < 6 := by
      have := h3 t ht
      unfold argF at this
      rw [if_neg (by omega), if_pos hop] at this
      simpa using this
    have e : renTerm m t = ⟨t.op, m.getD t.arg.toNat 0⟩ := by unfold renTerm; rw [if_pos hop]
    rw [e]
    unfold renTerm
    rw [if_pos (by exact hop)]
    have := hb t.arg.toNat (by omega)
    obtain ⟨op, arg⟩ := t
    simp only at this ⊢
    rw [this]
    simp only [Term.mk.injEq, true_and]
    simp only at ha
    omega
  · have e : renTerm m t = t := by unfold renTerm; rw [if_neg hop]
    rw [e]; unfold renTerm; rw [if_neg hop]

/- Which variables are read. -/
theorem readGo_bits (es : List Term) : ∀ (o n j : Nat), ((readGo es o n).1.testBit j = true ↔ o.testBit j = true ∨ ∃ t ∈ es, t.op = 5 ∧ t.arg.toNat = j) ∧ ((readGo es o n).2.testBit j = true ↔ n.testBit j = true ∨ ∃ t ∈ es, t.op = 12 ∧ t.arg.toNat = j) := by
  induction es with
  | nil => intro o n j; simp [readGo]
  | cons t ts ih =>
    intro o n j
    simp only [readGo]
    by_cases h5 : t.op = 5
    · rw [if_pos h5]
      obtain ⟨i1, i2⟩ := ih (o ||| 1 <<< t.arg.toNat) n j
      rw [i1, i2]
      constructor
      · rw [Nat.testBit_or, Nat.one_shiftLeft, Nat.testBit_two_pow]
        simp [h5]
        constructor
        · rintro ((h | h) | h)
          · exact .inl h
          · exact .inr (.inl h)
          · exact .inr (.inr h)
        · rintro (h | h | h)
          · exact .inl (.inl h)
          · exact .inl (.inr h)
          · exact .inr h
      · simp [show ¬ t.op = 12 by omega]
    · rw [if_neg h5]
      by_cases h12 : t.op = 12
      · rw [if_pos h12]
        obtain ⟨i1, i2⟩ := ih o (n ||| 1 <<< t.arg.toNat) j
        rw [i1, i2]
        constructor
        · simp [h5]
        · rw [Nat.testBit_or, Nat.one_shiftLeft, Nat.testBit_two_pow]
          simp [h12]
          constructor
          · rintro ((h | h) | h)
            · exact .inl h
            · exact .inr (.inl h)
            · exact .inr (.inr h)
          · rintro (h | h | h)
            · exact .inl (.inl h)
            · exact .inl (.inr h)
            · exact .inr h
      · rw [if_neg h12]
        obtain ⟨i1, i2⟩ := ih o n j
        rw [i1, i2]
        simp [h5, h12]

theorem readGo_lt (es : List Term) (h : ∀ t ∈ es, argF t 6 = true) : ∀ o n, o < 64 → n < 64 → (readGo es o n).1 < 64 ∧ (readGo es o n).2 < 64 := by
  induction es with
  | nil => intro o n ho hn; exact ⟨ho, hn⟩
  | cons t ts ih =>
    intro o n ho hn
    have ht := h t (by simp)
    have hor : ∀ x, x < 64 → (t.op = 5 ∨ t.op = 12) → x ||| 1 <<< t.arg.toNat < 64 := by
      intro x hx hop
      have ha : 0 ≤ t.arg ∧ t.arg < 6 := by
        unfold argF at ht
        rw [if_neg (by omega), if_pos hop] at ht
        simpa using ht
      have hq : (1 <<< t.arg.toNat : Nat) < 2 ^ 6 := by rw [Nat.one_shiftLeft]; exact Nat.pow_lt_pow_right (by decide) (by omega)
      exact Nat.or_lt_two_pow (n := 6) (by simpa using hx) hq
    simp only [readGo]
    split
    · exact ih (fun u hu => h u (by simp [hu])) _ _ (hor o ho (.inl (by assumption))) hn
    · split
      · exact ih (fun u hu => h u (by simp [hu])) _ _ ho (hor n hn (.inr (by assumption)))
      · exact ih (fun u hu => h u (by simp [hu])) _ _ ho hn

theorem readsF_lt (es : List Term) : (readsF es).1 < 64 ∧ (readsF es).2 < 64 := by
  unfold readsF
  split
  · decide
  · rename_i hv
    exact readGo_lt es ((validF_parts es 6).1 (by simpa using hv)).2.2.1 0 0 (by decide) (by decide)

/-- The variables that are read are renamed. -/
theorem reads_ren {m : List Int} (hm : IsPerm m) {es : List Term} (hv : validF es 6 = true) (i : Nat) (hi : i < 6) :
    (readsF es).1.testBit i = (readsF (es.map (renTerm m))).1.testBit (m.getD i 0).toNat ∧ (readsF es).2.testBit i = (readsF (es.map (renTerm m))).2.testBit (m.getD i 0).toNat := by
  have hs : SixVars m := ⟨hm.1, hm.2.1⟩
  have hv2 := valid_ren hs hv
  obtain ⟨_, _, h3, _, _⟩ := (validF_parts es 6).1 hv
  have e1 : readsF es = readGo es 0 0 := by unfold readsF; rw [if_neg (by rw [hv]; decide)]
  have e2 : readsF (es.map (renTerm m)) = readGo (es.map (renTerm m)) 0 0 := by unfold readsF; rw [if_neg (by rw [hv2]; decide)]
  rw [e1, e2]
  obtain ⟨a1, a2⟩ := readGo_bits es 0 0 i
  obtain ⟨b1, b2⟩ := readGo_bits (es.map (renTerm m)) 0 0 (m.getD i 0).toNat
  have key : ∀ c : Int, c = 5 ∨ c = 12 → ((∃ t ∈ es, t.op = c ∧ t.arg.toNat = i) ↔ ∃ t ∈ es.map (renTerm m), t.op = c ∧ t.arg.toNat = (m.getD i 0).toNat) := by
    intro c hc
    constructor
    · rintro ⟨t, ht, hop, ha⟩
      refine ⟨renTerm m t, List.mem_map_of_mem ht, by rw [renTerm_op]; exact hop, ?_⟩
      unfold renTerm
      rw [if_pos (by omega)]
      simp only [ha]
    · rintro ⟨u, hu, hop, ha⟩
      obtain ⟨t, ht, rfl⟩ := List.mem_map.1 hu
      rw [renTerm_op] at hop
      have hopc : t.op = 5 ∨ t.op = 12 := by omega
      have hr : 0 ≤ t.arg ∧ t.arg < 6 := by
        have := h3 t ht
        unfold argF at this
        rw [if_neg (by omega), if_pos hopc] at this
        simpa using this
      refine ⟨t, ht, hop, ?_⟩
      unfold renTerm at ha
      rw [if_pos hopc] at ha
      simp only at ha
      have g1 := hm.2.1 t.arg.toNat (by omega)
      have g2 := hm.2.1 i hi
      exact hm.2.2 _ _ (by omega) hi (by omega)
  simp only [Nat.zero_testBit, Bool.false_eq_true, false_or] at a1 a2 b1 b2
  exact ⟨by rw [Bool.eq_iff_iff, a1, b1]; exact key 5 (.inl rfl), by rw [Bool.eq_iff_iff, a2, b2]; exact key 12 (.inr rfl)⟩

theorem shift_bit (x i : Nat) : (x >>> i) &&& 1 = if x.testBit i then 1 else 0 := by
  rw [Nat.and_one_is_mod, Nat.testBit, Nat.and_comm, Nat.and_one_is_mod]
  have : (x >>> i) % 2 = 0 ∨ (x >>> i) % 2 = 1 := by omega
  rcases this with h | h <;> simp [h]

end Go.Proofs.YtibfjhhadbkkgaaGreat

