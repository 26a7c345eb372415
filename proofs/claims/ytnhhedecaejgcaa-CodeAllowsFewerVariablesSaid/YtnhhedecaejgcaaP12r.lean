/- The reference's Verify, and that it finds what the program's finds. -/
import Derived.Test.YtnhhedecaejgcaaP12w
namespace Go.Proofs.Ytnhhedecaejgcaa

def permF (x : Term) (v : Int) : Bool :=
  if x.op = 1 then decide (-1073741824 ≤ x.arg ∧ x.arg ≤ 1073741824) else if x.op = 2 ∨ x.op = 3 then decide (0 ≤ x.arg ∧ x.arg < v)
  else if x.op = 4 then decide ((6 ≤ x.arg ∧ x.arg ≤ 11) ∨ (13 ≤ x.arg ∧ x.arg ≤ 17)) else if x.op = 5 then decide (x.arg = 18 ∨ x.arg = 19)
  else if x.op = 6 then decide (30 ≤ x.arg ∧ x.arg ≤ 42) else if x.op = 10 then aggregate x.arg else decide (x.op = 7 ∨ x.op = 8 ∨ x.op = 9)
def nearI (x : Term) : Bool := decide (x.op = 3 ∨ (x.op = 4 ∧ (x.arg = 11 ∨ (13 ≤ x.arg ∧ x.arg ≤ 17))))
def lastP (op : List Int) : Int := op.getLastD 0
def loopRF (l : List Term) (i : Int) (op : List Int) : Bool :=
  decide (i < (insAt l i).arg) && decide ((insAt l i).arg < l.length) && decide ((insAt l (insAt l i).arg).op = 10) && decide (op.length ≠ 2) && (op.isEmpty || decide ((insAt l i).arg < (insAt l (lastP op)).arg))
def nextRF (l : List Term) (i : Int) (hs op : List Int) (h : Int) : Bool := !op.isEmpty && decide ((insAt l (lastP op)).arg = i) && decide (h = ig hs (lastP op) + 1)
def jumpRF (l : List Term) (i : Int) (op : List Int) : Bool :=
  decide (i < (insAt l i).arg) && decide ((insAt l i).arg ≤ l.length) && (op.isEmpty || decide ((insAt l i).arg ≤ (insAt l (lastP op)).arg)) && clearF l i (insAt l i).arg
def checksR (l : List Term) (v : Int) (hs op : List Int) (i : Int) (x : Term) (h : Int) : Bool :=
  decide (0 ≤ h) && permF x v && !(nearI x && op.isEmpty) && decide (wantsF x.op ≤ h) && (decide (x.op ≠ 9) || loopRF l i op) && (decide (x.op ≠ 10) || nextRF l i hs op h) && (decide (x.op ≠ 7 ∧ x.op ≠ 8) || jumpRF l i op)

def trOf (l : List Term) (hs op : List Int) : List Tr := op.map fun e => (e, (insAt l e).arg, ig hs e)
theorem trOf_length (l : List Term) (hs op : List Int) : (trOf l hs op).length = op.length := by simp [trOf]
theorem trOf_isEmpty (l : List Term) (hs op : List Int) : (trOf l hs op).isEmpty = op.isEmpty := by simp [trOf]
theorem inner_trOf (l : List Term) (hs op : List Int) (n : Int) : (op = [] ∧ innerF (trOf l hs op) n = (-1, n, 0)) ∨ (op.isEmpty = false ∧ innerF (trOf l hs op) n = (lastP op, (insAt l (lastP op)).arg, ig hs (lastP op))) := by
  rcases List.eq_nil_or_concat op with rfl | ⟨a, e, rfl⟩
  · left; exact ⟨rfl, rfl⟩
  · right
    simp [trOf, innerF, lastP]

theorem known_perm {x : Term} {v : Int} (h : knownF x v = true) : permF x v = true := by
  obtain ⟨op, arg⟩ := x
  unfold knownF at h
  simp only [Bool.and_eq_true, decide_eq_true_eq, Bool.not_eq_true'] at h
  obtain ⟨⟨⟨h1, h2⟩, h3⟩, h4⟩ := h
  rcases (show op = 1 ∨ op = 2 ∨ op = 3 ∨ op = 4 ∨ op = 5 ∨ op = 6 ∨ op = 7 ∨ op = 8 ∨ op = 9 ∨ op = 10 by omega) with e | e | e | e | e | e | e | e | e | e <;> subst e <;> simp [boundsV] at h3 h4 <;> simp [permF, aggregate]
  · omega
  · omega
  · omega
  · simp at h2; omega
  · omega
  · omega
  · omega
theorem perm_known {x : Term} {v : Int} (h : permF x v = true) (hj : x.op = 7 ∨ x.op = 8 ∨ x.op = 9 → 0 ≤ x.arg ∧ x.arg ≤ 1024) : knownF x v = true := by
  obtain ⟨op, arg⟩ := x
  simp only at hj
  have hop : op = 1 ∨ op = 2 ∨ op = 3 ∨ op = 4 ∨ op = 5 ∨ op = 6 ∨ op = 7 ∨ op = 8 ∨ op = 9 ∨ op = 10 := by
    unfold permF at h
    simp only at h
    by_cases h1 : op = 1
    · omega
    by_cases h2 : op = 2 ∨ op = 3
    · omega
    by_cases h4 : op = 4
    · omega
    by_cases h5 : op = 5
    · omega
    by_cases h6 : op = 6
    · omega
    by_cases h10 : op = 10
    · omega
    rw [if_neg h1, if_neg h2, if_neg h4, if_neg h5, if_neg h6, if_neg h10] at h
    simp at h
    omega
  rcases hop with e | e | e | e | e | e | e | e | e | e <;> subst e <;> simp [permF, aggregate] at h <;> simp [knownF, boundsV]
  · omega
  · omega
  · omega
  · omega
  · omega
  · omega
  · omega
  · omega
  · omega
  · omega
theorem needs_near {x : Term} {v : Int} (h : permF x v = true) : needsF x = nearI x := by
  obtain ⟨op, arg⟩ := x
  rw [Bool.eq_iff_iff]
  unfold needsF nearI
  simp only [decide_eq_true_eq]
  by_cases h3 : op = 3
  · simp [h3]
  · by_cases h4 : op = 4
    · subst h4
      simp [permF] at h
      omega
    · simp [h3, h4]

/-- What holds of open loops. -/
def OInv (l : List Term) (hs op : List Int) : Prop := op.length ≤ 2 ∧ ∀ e ∈ op, 0 ≤ e ∧ e < l.length ∧ (insAt l e).arg < l.length ∧ 0 ≤ ig hs e

theorem last_mem {op : List Int} (h : op.isEmpty = false) : lastP op ∈ op := by
  rcases List.eq_nil_or_concat op with rfl | ⟨a, e, rfl⟩
  · simp at h
  · simp [lastP]

theorem checks_eq {l : List Term} {v : Int} {hs op : List Int} {i : Nat} (hl : l.length ≤ 1024) (hi : i < l.length) (ho : OInv l hs op) (h : Int) :
    checksF l v (trOf l hs op) i (insAt l i) h = checksR l v hs op i (insAt l i) h := by
  obtain ⟨ho1, ho2⟩ := ho
  rw [Bool.eq_iff_iff]
  have hlen := trOf_length l hs op
  have hemp := trOf_isEmpty l hs op
  have hin := inner_trOf l hs op l.length
  constructor
  · intro hc
    obtain ⟨c1, c2, c3, c4, c5, c6, c7⟩ := checks_parts hc
    have hperm := known_perm c2
    unfold checksR
    simp only [Bool.and_eq_true, decide_eq_true_eq, Bool.not_eq_true', Bool.or_eq_true]
    refine ⟨⟨⟨⟨⟨⟨c1, hperm⟩, ?_⟩, c4⟩, ?_⟩, ?_⟩, ?_⟩
    · rw [← needs_near hperm, ← hemp]; exact c3
    · by_cases h9 : (insAt l i).op = 9
      · right
        obtain ⟨e1, e2, e3, e4, e5⟩ := each_parts c5 h9
        unfold loopRF
        simp only [Bool.and_eq_true, decide_eq_true_eq, Bool.or_eq_true]
        refine ⟨⟨⟨⟨e1, e2⟩, e3⟩, by omega⟩, ?_⟩
        rcases hin with ⟨g1, _⟩ | ⟨g1, g2⟩
        · left; rw [g1]; rfl
        · right; rw [g2] at e5; exact e5
      · left; exact h9
    · by_cases h10 : (insAt l i).op = 10
      · right
        unfold nextF at c6
        rw [show decide ((insAt l i).op ≠ 10) = false by simp [h10]] at c6
        simp only [Bool.false_or, Bool.and_eq_true, decide_eq_true_eq] at c6
        unfold nextRF
        rcases hin with ⟨_, g2⟩ | ⟨g1, g2⟩
        · rw [g2] at c6; simp at c6; omega
        · rw [g2] at c6
          simp only [g1, Bool.not_false, Bool.true_and, Bool.and_eq_true, decide_eq_true_eq]
          exact c6
      · left; exact h10
    · by_cases h78 : (insAt l i).op ≠ 7 ∧ (insAt l i).op ≠ 8
      · left; exact h78
      · right
        unfold jumpF at c7
        rw [show decide ((insAt l i).op ≠ 7 ∧ (insAt l i).op ≠ 8) = false by simpa using h78] at c7
        simp only [Bool.false_or, Bool.and_eq_true, decide_eq_true_eq] at c7
        obtain ⟨⟨e1, e2⟩, e3⟩ := c7
        unfold jumpRF
        simp only [Bool.and_eq_true, decide_eq_true_eq, Bool.or_eq_true]
        rcases hin with ⟨g1, g2⟩ | ⟨g1, g2⟩
        · rw [g2] at e2
          exact ⟨⟨⟨e1, e2⟩, .inl (by rw [g1]; rfl)⟩, e3⟩
        · rw [g2] at e2
          have := (ho2 _ (last_mem g1)).2.2.1
          exact ⟨⟨⟨e1, by simp at e2; omega⟩, .inr e2⟩, e3⟩
  · intro hc
    unfold checksR at hc
    simp only [Bool.and_eq_true, decide_eq_true_eq, Bool.not_eq_true', Bool.or_eq_true] at hc
    obtain ⟨⟨⟨⟨⟨⟨c1, c2⟩, c3⟩, c4⟩, c5⟩, c6⟩, c7⟩ := hc
    have hloop : (insAt l i).op = 9 → loopRF l i op = true := fun e => by
      rcases c5 with c5 | c5
      · exact absurd e c5
      · exact c5
    have hjump : (insAt l i).op = 7 ∨ (insAt l i).op = 8 → jumpRF l i op = true := fun e => by
      rcases c7 with c7 | c7
      · omega
      · exact c7
    have harg : (insAt l i).op = 7 ∨ (insAt l i).op = 8 ∨ (insAt l i).op = 9 → 0 ≤ (insAt l i).arg ∧ (insAt l i).arg ≤ 1024 := by
      intro e
      by_cases h9 : (insAt l i).op = 9
      · have := hloop h9
        unfold loopRF at this
        simp only [Bool.and_eq_true, decide_eq_true_eq] at this
        omega
      · have := hjump (by omega)
        unfold jumpRF at this
        simp only [Bool.and_eq_true, decide_eq_true_eq] at this
        omega
    unfold checksF
    simp only [Bool.and_eq_true, decide_eq_true_eq, Bool.not_eq_true']
    refine ⟨⟨⟨⟨⟨⟨c1, perm_known c2 harg⟩, ?_⟩, c4⟩, ?_⟩, ?_⟩, ?_⟩
    · rw [needs_near c2, hemp]; exact c3
    · unfold eachF
      by_cases h9 : (insAt l i).op = 9
      · have := hloop h9
        unfold loopRF at this
        simp only [Bool.and_eq_true, decide_eq_true_eq, Bool.or_eq_true] at this
        obtain ⟨⟨⟨⟨e1, e2⟩, e3⟩, e4⟩, e5⟩ := this
        simp only [Bool.and_eq_true, decide_eq_true_eq, Bool.or_eq_true]
        right
        refine ⟨⟨⟨⟨e1, e2⟩, e3⟩, by omega⟩, ?_⟩
        rcases hin with ⟨g1, g2⟩ | ⟨g1, g2⟩
        · rw [g2]; exact e2
        · rw [g2]
          rcases e5 with e5 | e5
          · rw [g1] at e5; cases e5
          · exact e5
      · simp [h9]
    · unfold nextF
      by_cases h10 : (insAt l i).op = 10
      · have : nextRF l i hs op h = true := by
          rcases c6 with c6 | c6
          · exact absurd h10 c6
          · exact c6
        unfold nextRF at this
        simp only [Bool.and_eq_true, decide_eq_true_eq, Bool.not_eq_true'] at this
        obtain ⟨⟨e1, e2⟩, e3⟩ := this
        simp only [Bool.and_eq_true, decide_eq_true_eq, Bool.or_eq_true]
        right
        rcases hin with ⟨g1, g2⟩ | ⟨g1, g2⟩
        · rw [g1] at e1; cases e1
        · rw [g2]; exact ⟨e2, e3⟩
      · simp [h10]
    · unfold jumpF
      by_cases h78 : (insAt l i).op = 7 ∨ (insAt l i).op = 8
      · have := hjump h78
        unfold jumpRF at this
        simp only [Bool.and_eq_true, decide_eq_true_eq, Bool.or_eq_true] at this
        obtain ⟨⟨⟨e1, e2⟩, e3⟩, e4⟩ := this
        simp only [Bool.and_eq_true, decide_eq_true_eq, Bool.or_eq_true]
        right
        refine ⟨⟨e1, ?_⟩, e4⟩
        rcases hin with ⟨g1, g2⟩ | ⟨g1, g2⟩
        · rw [g2]; exact e2
        · rw [g2]
          rcases e3 with e3 | e3
          · rw [g1] at e3; cases e3
          · exact e3
      · simp only [Bool.or_eq_true, decide_eq_true_eq]
        left; omega

/-- A height that has been given stays. -/
theorem giveF_keep {gs : List Term} : ∀ {hs hs' : List Int}, giveF hs gs = some hs' → ∀ j : Nat, 0 ≤ ig hs (j : Int) → j < hs.length → ig hs' (j : Int) = ig hs (j : Int) := by
  induction gs with
  | nil => intro hs hs' h j _ _; simp [giveF] at h; rw [h]
  | cons g gs ih =>
    intro hs hs' h j hj hl
    simp only [giveF] at h
    split at h
    · cases h
    · rename_i hn
      have hset : ig (hs.set g.op.toNat g.arg) (j : Int) = ig hs (j : Int) := by
        unfold ig
        simp only [Int.toNat_natCast, List.getD_eq_getElem?_getD, List.getElem?_set]
        by_cases e : g.op.toNat = j
        · rw [if_pos e, if_pos (by omega)]
          have h1 : ig hs g.op = ig hs (j : Int) := by unfold ig; rw [e, Int.toNat_natCast]
          have h2 : ig hs (j : Int) = g.arg := by
            rw [h1] at hn
            by_cases h3 : ig hs (j : Int) = g.arg
            · exact h3
            · exact absurd ⟨hj, h3⟩ hn
          rw [Option.getD_some, ← h2]
          unfold ig
          simp [List.getD_eq_getElem?_getD]
        · rw [if_neg e]
      rw [← hset]
      exact ih h j (by rw [hset]; exact hj) (by simpa using hl)

def opNext (x : Term) (i : Int) (op : List Int) : List Int := if x.op = 9 then op ++ [i] else if x.op = 10 then op.dropLast else op

theorem step_open {l : List Term} {v : Int} {hs op hs' : List Int} {i : Nat} {m m' : Int} {tr' : List Tr} {e : Int} (hlen : hs.length = l.length + 1) (hi : i < l.length) (ho : OInv l hs op)
    (h : stepP l v i hs (trOf l hs op) m = (some (hs', tr', m'), e)) : tr' = trOf l hs' (opNext (insAt l i) i op) ∧ OInv l hs' (opNext (insAt l i) i op) := by
  obtain ⟨hc, hg, hm, rfl, _⟩ := stepP_some h
  obtain ⟨c1, c2, c3, c4, c5, c6, c7⟩ := checks_parts hc
  obtain ⟨ho1, ho2⟩ := ho
  have hkeep : ∀ e ∈ op, ig hs' e = ig hs e := by
    intro e he
    obtain ⟨h1, h2, _, h4⟩ := ho2 e he
    obtain ⟨k, rfl⟩ := Int.eq_ofNat_of_zero_le h1
    exact giveF_keep hg k h4 (by omega)
  have hki := giveF_keep hg i c1 (by omega)
  have hmap : trOf l hs op = trOf l hs' op := by
    unfold trOf
    apply List.map_congr_left
    intro e he
    rw [hkeep e he]
  unfold trNext opNext
  by_cases h9 : (insAt l i).op = 9
  · obtain ⟨e1, e2, e3, e4, e5⟩ := each_parts c5 h9
    rw [if_pos h9, if_pos h9, hmap]
    refine ⟨by simp [trOf, hki], ?_, ?_⟩
    · rw [trOf_length] at e4; simp; omega
    · intro e he
      rcases List.mem_append.1 he with h1 | h1
      · obtain ⟨a1, a2, a3, a4⟩ := ho2 e h1
        exact ⟨a1, a2, a3, by rw [hkeep e h1]; exact a4⟩
      · simp at h1; subst h1
        exact ⟨by omega, by omega, e2, by rw [hki]; exact c1⟩
  · rw [if_neg h9, if_neg h9]
    have hall : ∀ e ∈ op, 0 ≤ e ∧ e < l.length ∧ (insAt l e).arg < l.length ∧ 0 ≤ ig hs' e := fun e he => by
      obtain ⟨a1, a2, a3, a4⟩ := ho2 e he
      exact ⟨a1, a2, a3, by rw [hkeep e he]; exact a4⟩
    by_cases h10 : (insAt l i).op = 10
    · rw [if_pos h10, if_pos h10, hmap]
      refine ⟨by simp [trOf, List.map_dropLast], by simp; omega, fun e he => hall e (List.dropLast_subset _ he)⟩
    · rw [if_neg h10, if_neg h10]
      exact ⟨hmap, ho1, hall⟩

/- More variables. -/
theorem known_more {x : Term} {v d : Int} (hd : 0 ≤ d) (h : knownF x v = true) : knownF x (v + d) = true := by
  have hp := known_perm h
  refine perm_known ?_ ?_
  · unfold permF at hp ⊢
    split
    · rename_i e; rw [if_pos e] at hp; exact hp
    · rename_i e; rw [if_neg e] at hp
      split
      · rename_i e2; rw [if_pos e2] at hp; simp at hp ⊢; omega
      · rename_i e2; rw [if_neg e2] at hp; exact hp
  · intro e
    unfold knownF at h
    simp only [Bool.and_eq_true, decide_eq_true_eq, Bool.not_eq_true'] at h
    obtain ⟨⟨⟨h1, h2⟩, h3⟩, h4⟩ := h
    obtain ⟨op, arg⟩ := x
    simp only at *
    rcases e with e | e | e <;> subst e <;> simp [boundsV] at h3 h4 <;> omega
theorem checks_more {l : List Term} {v d : Int} {tr : List Tr} {i : Int} {x : Term} {h : Int} (hd : 0 ≤ d) (hc : checksF l v tr i x h = true) : checksF l (v + d) tr i x h = true := by
  unfold checksF at hc ⊢
  simp only [Bool.and_eq_true] at hc ⊢
  obtain ⟨⟨⟨⟨⟨⟨c1, c2⟩, c3⟩, c4⟩, c5⟩, c6⟩, c7⟩ := hc
  exact ⟨⟨⟨⟨⟨⟨c1, known_more hd c2⟩, c3⟩, c4⟩, c5⟩, c6⟩, c7⟩
theorem step_more {l : List Term} {v d : Int} (hd : 0 ≤ d) {i : Nat} {hs : List Int} {tr : List Tr} {m : Int} {r : List Int × List Tr × Int} {e : Int} (h : stepP l v i hs tr m = (some r, e)) : stepP l (v + d) i hs tr m = (some r, e) := by
  obtain ⟨hs', tr', m'⟩ := r
  obtain ⟨hc, hg, hm, rfl, rfl⟩ := stepP_some h
  unfold stepP
  rw [if_neg (by rw [checks_more hd hc]; simp)]
  simp only [giveR, hg, hm]
theorem verGo_more {l : List Term} {v d : Int} (hd : 0 ≤ d) : ∀ (n i : Nat) (hs : List Int) (tr : List Tr) (m : Int), (verGo l v n i hs tr m).2.2 = 0 → verGo l (v + d) n i hs tr m = verGo l v n i hs tr m := by
  intro n
  induction n with
  | zero => intro i hs tr m _; rfl
  | succ n ih =>
    intro i hs tr m h
    rcases hst : stepP l v i hs tr m with ⟨_ | ⟨hs', tr', m'⟩, e⟩
    · simp only [verGo, hst] at h
      rcases stepP_none hst with e' | e' <;> omega
    · simp only [verGo, hst, step_more hd hst] at h ⊢
      exact ih _ _ _ _ h
theorem verify_more {l : List Term} {v d : Int} (hv : 0 ≤ v) (hd : 0 ≤ d) (h : (verifyF l v).2.2 = 0) : verifyF l (v + d) = verifyF l v := by
  unfold verifyF at h ⊢
  split
  · rfl
  · rename_i hn
    rw [if_neg hn, Int.max_eq_left hv] at h
    rw [Int.max_eq_left hv, Int.max_eq_left (by omega)]
    exact verGo_more hd _ _ _ _ _ h
theorem verGo_zero {l : List Term} {v : Int} : ∀ (n i : Nat) (hs : List Int) (tr : List Tr) (m : Int), (verGo l v n i hs tr m).2.2 ≠ 0 → (verGo l v n i hs tr m).1 = 0 := by
  intro n
  induction n with
  | zero => intro i hs tr m h; simp only [verGo] at h ⊢; split at h <;> simp_all
  | succ n ih =>
    intro i hs tr m h
    rcases hst : stepP l v i hs tr m with ⟨_ | ⟨hs', tr', m'⟩, e⟩
    · simp only [verGo, hst]
    · simp only [verGo, hst] at h ⊢
      exact ih _ _ _ _ h
theorem verify_zero {l : List Term} {v : Int} (h : (verifyF l v).2.2 ≠ 0) : (verifyF l v).1 = 0 := by
  unfold verifyF at h ⊢
  split
  · rfl
  · rename_i hn
    rw [if_neg hn] at h
    exact verGo_zero _ _ _ _ _ h

end Go.Proofs.Ytnhhedecaejgcaa
