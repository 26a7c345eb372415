/- The plain law of P12.3: Verify accepts the code of a valid expression. -/
import Derived.Test.YtnhhedecaejgcaaP12w
import Derived.Test.YtnhhedecaejgcaaP12x
namespace Go.Proofs.Ytnhhedecaejgcaa

theorem ig_set {hs : List Int} {p : Nat} {v : Int} (hp : p < hs.length) (j : Nat) : ig (hs.set p v) (j : Int) = if j = p then v else ig hs (j : Int) := by
  unfold ig
  simp only [Int.toNat_natCast, List.getD_eq_getElem?_getD, List.getElem?_set]
  by_cases h : p = j
  · subst h; simp [hp]
  · rw [if_neg h, if_neg (fun e => h e.symm)]

/-- Neither below f nor above e has a height changed, and e has its height. -/
structure Hts (hs hs' : List Int) (f e : Nat) (h : Int) : Prop where
  len : hs'.length = hs.length
  low : ∀ j : Nat, j ≤ f → ig hs' (j : Int) = ig hs (j : Int)
  high : ∀ j : Nat, e < j → ig hs' (j : Int) = ig hs (j : Int)
  at_ : ig hs' (e : Int) = h

/-- What is known ahead of the code of a part. -/
structure Pre (l : List Term) (hs : List Int) (tr : List Tr) (f e : Nat) (h : Int) : Prop where
  len : hs.length = l.length + 1
  el : e ≤ l.length
  lt : f < e
  now : ig hs (f : Int) = h
  h0 : 0 ≤ h
  free : ∀ j : Nat, f < j → j < e → ig hs (j : Int) = -1
  goal : ig hs (e : Int) = -1 ∨ ig hs (e : Int) = h + 1
  inn : (e : Int) ≤ (innerF tr l.length).2.1

theorem stepGo {l : List Term} {v : Int} {i : Nat} {hs hs' : List Int} {tr : List Tr} {m m' : Int} {x : Term} {h : Int} (hx : insAt l (i : Int) = x) (hh : ig hs (i : Int) = h)
    (hc : checksF l v tr i x h = true) (hg : giveF hs (giftsF x i h) = some hs') (hm : mostF m (giftsF x i h) = some m') :
    ∀ q, verGo l v (q + 1) i hs tr m = verGo l v q (i + 1) hs' (trNext x i h tr) m' := by
  intro q
  have : stepP l v i hs tr m = (some (hs', trNext x i h tr, m'), 0) := by
    unfold stepP
    rw [hx, hh, if_neg (by rw [hc]; simp)]
    simp only [giveR, hg, hm]
  simp only [verGo, this]

/-- The first instruction of what is left. -/
theorem ins_of_drop {l r : List Term} {f : Nat} {x : Term} (h : l.drop f = x :: r) : insAt l (f : Int) = x ∧ l.drop (f + 1) = r ∧ f < l.length := by
  obtain ⟨h1, h2⟩ := drop_head h
  obtain ⟨h3, h4⟩ := List.getElem?_eq_some_iff.1 h1
  exact ⟨by rw [insAt_get h3, h4], h2, h3⟩

theorem give_one {hs : List Int} {p : Nat} {v : Int} (hg : ig hs (p : Int) = -1 ∨ ig hs (p : Int) = v) : giveF hs [⟨(p : Int), v⟩] = some (hs.set p v) := by
  simp only [giveF]
  rw [if_neg (by rintro ⟨h1, h2⟩; rcases hg with h | h <;> omega), Int.toNat_natCast]
theorem give_two {hs : List Int} {p q : Nat} {v u : Int} (hl : p < hs.length) (hne : q ≠ p) (hp : ig hs (p : Int) = -1 ∨ ig hs (p : Int) = v) (hq : ig hs (q : Int) = -1 ∨ ig hs (q : Int) = u) : giveF hs [⟨(p : Int), v⟩, ⟨(q : Int), u⟩] = some ((hs.set p v).set q u) := by
  have h2 := ig_set (v := v) hl q
  rw [if_neg hne] at h2
  simp only [giveF]
  rw [if_neg (by rintro ⟨h1, h2⟩; rcases hp with h | h <;> omega), Int.toNat_natCast, h2, if_neg (by rintro ⟨h1, h2⟩; rcases hq with h | h <;> omega), Int.toNat_natCast]
theorem most_one {m p v : Int} (h : v ≤ 64) : mostF m [⟨p, v⟩] = some (max m v) := by
  simp only [mostF]; rw [if_neg (by omega)]
theorem most_two {m p v q u : Int} (h : v ≤ 64) (h' : u ≤ 64) : mostF m [⟨p, v⟩, ⟨q, u⟩] = some (max (max m v) u) := by
  simp only [mostF]; rw [if_neg (by omega), if_neg (by omega)]

def nearT (t : Term) : Bool := decide (t.op = 11 ∨ (12 ≤ t.op ∧ t.op ≤ 17))
/-- Terms that look at the bound neighbour stand inside of aggregates. -/
def Ex.inside : Ex → Bool → Prop
  | .leaf t, b => nearT t = true → b = true
  | .un t a, b => a.inside (aggregate t.op || b)
  | .bin _ x y, b => x.inside b ∧ y.inside b
  | .tri _ x y z, b => x.inside b ∧ y.inside b ∧ z.inside b

theorem checks_mk {l : List Term} {v : Int} {tr : List Tr} {i : Int} {x : Term} {h : Int} (a : 0 ≤ h) (b : knownF x v = true) (c : (needsF x && tr.isEmpty) = false) (d : wantsF x.op ≤ h) (e : eachF l tr i x = true) (f : nextF l tr i x h = true) (g : jumpF l tr i x = true) : checksF l v tr i x h = true := by
  unfold checksF
  simp only [a, b, c, d, e, f, g, decide_true]; rfl

theorem each_skip {l : List Term} {tr : List Tr} {i : Int} {x : Term} (h : x.op ≠ 9) : eachF l tr i x = true := by simp [eachF, h]
theorem next_skip {l : List Term} {tr : List Tr} {i : Int} {x : Term} {y : Int} (h : x.op ≠ 10) : nextF l tr i x y = true := by simp [nextF, h]
theorem jump_skip {l : List Term} {tr : List Tr} {i : Int} {x : Term} (h : x.op ≠ 7) (h' : x.op ≠ 8) : jumpF l tr i x = true := by simp [jumpF, h, h']

theorem known_mk {op arg v lo hi : Int} (k : Nat) (hk : op = k) (h1 : 1 ≤ k) (h2 : k ≤ 10) (h4 : ¬ (op = 4 ∧ arg = 12)) (hlo : (boundsV v).getD (k * 2) 0 = lo) (hhi : (boundsV v).getD (k * 2 + 1) 0 = hi) (g1 : lo ≤ arg) (g2 : arg ≤ hi) : knownF ⟨op, arg⟩ v = true := by
  unfold knownF
  subst hk
  simp only [Int.toNat_natCast, hlo, hhi]
  rw [show decide (1 ≤ (k : Int) ∧ (k : Int) ≤ 10) = true by simp; omega, show (decide ((k : Int) = 4) && decide (arg = 12)) = false by rw [Bool.eq_false_iff]; intro hh; simp at hh; exact h4 ⟨by omega, hh.2⟩]
  simp [g1, g2]

theorem leaf_known {t : Term} {v : Int} (ha : arity t.op = 0) (harg : argF t v = true) : knownF (leafI t) v = true ∧ ((leafI t).op = 1 ∨ (leafI t).op = 2 ∨ (leafI t).op = 3 ∨ (leafI t).op = 4) ∧ (needsF (leafI t) = true → nearT t = true) := by
  obtain ⟨op, arg⟩ := t
  have hop : 1 ≤ op ∧ op ≤ 17 := by
    unfold arity at ha
    simp only at ha
    repeat' split at ha <;> omega
  unfold argF at harg
  simp only at harg
  unfold leafI
  simp only
  by_cases h1 : op = 1
  · rw [if_pos h1] at harg ⊢
    simp at harg
    exact ⟨known_mk (lo := -1073741824) (hi := 1073741824) 1 rfl (by omega) (by omega) (by omega) rfl rfl (by omega) (by omega), by simp, by simp [needsF]⟩
  rw [if_neg h1]
  by_cases h2 : op = 2
  · rw [if_pos h2]; exact ⟨known_mk (lo := -1073741824) (hi := 1073741824) 1 rfl (by omega) (by omega) (by omega) rfl rfl (by omega) (by omega), by simp, by simp [needsF]⟩
  rw [if_neg h2]
  by_cases h3 : op = 3
  · rw [if_pos h3]; exact ⟨known_mk (lo := -1073741824) (hi := 1073741824) 1 rfl (by omega) (by omega) (by omega) rfl rfl (by omega) (by omega), by simp, by simp [needsF]⟩
  rw [if_neg h3]
  by_cases h4 : op = 4
  · rw [if_pos h4]; exact ⟨known_mk (lo := -1073741824) (hi := 1073741824) 1 rfl (by omega) (by omega) (by omega) rfl rfl (by omega) (by omega), by simp, by simp [needsF]⟩
  rw [if_neg h4]
  by_cases h5 : op = 5
  · rw [if_neg h1, if_pos (.inl h5)] at harg
    simp at harg
    rw [if_pos h5]; exact ⟨known_mk (lo := 0) (hi := v - 1) 2 rfl (by omega) (by omega) (by omega) rfl rfl (by omega) (by omega), by simp, by simp [needsF]⟩
  rw [if_neg h5]
  by_cases h12 : op = 12
  · rw [if_neg h1, if_pos (.inr h12)] at harg
    simp at harg
    rw [if_pos h12]; exact ⟨known_mk (lo := 0) (hi := v - 1) 3 rfl (by omega) (by omega) (by omega) rfl rfl (by omega) (by omega), by simp, by simp [nearT, h12]⟩
  rw [if_neg h12]
  refine ⟨known_mk (lo := 6) (hi := 17) 4 rfl (by omega) (by omega) (by omega) rfl rfl (by omega) (by omega), by simp, ?_⟩
  simp [needsF, nearT]; omega

theorem gifts_leaf {x : Term} {i h : Int} (hx : x.op = 1 ∨ x.op = 2 ∨ x.op = 3 ∨ x.op = 4) : giftsF x i h = [⟨i + 1, h + 1⟩] := by simp only [giftsF]; rw [if_pos hx]
theorem trNext_same {x : Term} {i h : Int} {tr : List Tr} (h9 : x.op ≠ 9) (h10 : x.op ≠ 10) : trNext x i h tr = tr := by simp [trNext, h9, h10]

/-- Loops inside of a part's code end inside of it. -/
theorem code_loops (y : Ex) : ∀ f, ∀ z ∈ y.code f, z.op = 9 → z.arg < ((f + y.size : Nat) : Int) := by
  induction y with
  | leaf t =>
    intro f z hz h9
    simp only [Ex.code, List.mem_singleton] at hz
    subst hz
    exfalso
    have : (leafI t).op = 1 ∨ (leafI t).op = 2 ∨ (leafI t).op = 3 ∨ (leafI t).op = 4 := by
      unfold leafI
      by_cases h1 : t.op = 1
      · rw [if_pos h1]; simp
      by_cases h2 : t.op = 2
      · rw [if_neg h1, if_pos h2]; simp
      by_cases h3 : t.op = 3
      · rw [if_neg h1, if_neg h2, if_pos h3]; simp
      by_cases h4 : t.op = 4
      · rw [if_neg h1, if_neg h2, if_neg h3, if_pos h4]; simp
      by_cases h5 : t.op = 5
      · rw [if_neg h1, if_neg h2, if_neg h3, if_neg h4, if_pos h5]; simp
      by_cases h12 : t.op = 12
      · rw [if_neg h1, if_neg h2, if_neg h3, if_neg h4, if_neg h5, if_pos h12]; simp
      rw [if_neg h1, if_neg h2, if_neg h3, if_neg h4, if_neg h5, if_neg h12]; simp
    omega
  | un t a ih =>
    intro f z hz h9
    simp only [Ex.code, Ex.size] at hz ⊢
    split at hz
    · rename_i hag
      rw [if_pos hag]
      rcases List.mem_cons.1 hz with e | e
      · subst e; simp; omega
      · rcases List.mem_append.1 e with e | e
        · have := ih _ z e h9; omega
        · simp at e; subst e; simp at h9
    · rename_i hag
      rw [if_neg hag]
      rcases List.mem_append.1 hz with e | e
      · have := ih _ z e h9; omega
      · simp at e; subst e; simp at h9
  | bin t a b iha ihb =>
    intro f z hz h9
    simp only [Ex.code, Ex.size] at hz ⊢
    rcases List.mem_append.1 hz with e | e
    · rcases List.mem_append.1 e with e | e
      · have := iha _ z e h9; omega
      · have := ihb _ z e h9; omega
    · simp at e; subst e; simp at h9
  | tri t a b c iha ihb ihc =>
    intro f z hz h9
    simp only [Ex.code, Ex.size] at hz ⊢
    rcases List.mem_append.1 hz with e | e
    · rcases List.mem_append.1 e with e | e
      · rcases List.mem_append.1 e with e | e
        · rcases List.mem_append.1 e with e | e
          · have := iha _ z e h9; omega
          · simp at e; subst e; simp at h9
        · have := ihb _ z e h9; omega
      · simp at e; subst e; simp at h9
    · have := ihc _ z e h9; omega

/-- Code with no loop over its end lets a jump over it. -/
theorem jump_over {l : List Term} {tr : List Tr} {i a : Nat} {op : Int} {mid r : List Term} (hl : l.drop (i + 1) = mid ++ r) (ha : a = i + 1 + mid.length) (hin : (a : Int) ≤ (innerF tr l.length).2.1) (hmid : ∀ z ∈ mid, z.op = 9 → z.arg < (a : Int)) : jumpF l tr i ⟨op, (a : Int)⟩ = true := by
  unfold jumpF
  rw [Bool.or_eq_true]
  right
  rw [Bool.and_eq_true, Bool.and_eq_true]
  refine ⟨⟨by simp; omega, by simpa using hin⟩, ?_⟩
  unfold clearF
  rw [show ((i : Int) + 1).toNat = i + 1 by omega, show ((a : Int) - ((i : Int) + 1)).toNat = mid.length by omega, hl, List.take_left]
  rw [List.all_eq_true]
  intro z hz
  by_cases h9 : z.op = 9
  · have := hmid z hz h9
    simp [h9]; omega
  · simp [h9]

end Go.Proofs.Ytnhhedecaejgcaa
