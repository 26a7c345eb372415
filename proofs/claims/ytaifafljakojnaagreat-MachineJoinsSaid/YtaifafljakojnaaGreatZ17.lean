/- Merged of: P12x P12y P13a P11b (see NOTES.md). -/
import Derived.Test.YtaifafljakojnaaGreatZ16
import Derived.Test.YtaifafljakojnaaGreatZ11
set_option linter.unusedSimpArgs false
set_option linter.unnecessarySimpa false
set_option linter.unusedVariables false

/- An expression has one tree. -/
namespace Go.Proofs.YtaifafljakojnaaGreat

theorem Ex.inj (x : Ex) : ∀ (y : Ex) (r r' : List Term), x.ok → y.ok → x.terms ++ r = y.terms ++ r' → x = y ∧ r = r' := by
  induction x with
  | leaf t =>
    intro y r r' hx hy h
    cases y with
    | leaf t' => simp [Ex.terms] at h; exact ⟨by rw [h.1], h.2⟩
    | un t' a => simp [Ex.terms] at h; have hx' : arity t.op = 0 := hx; have hy' := hy.1; rw [← h.1] at hy'; omega
    | bin t' a b => simp [Ex.terms] at h; have hx' : arity t.op = 0 := hx; have hy' := hy.1; rw [← h.1] at hy'; omega
    | tri t' a b c => simp [Ex.terms] at h; have hx' : arity t.op = 0 := hx; have hy' := hy.1; rw [← h.1] at hy'; omega
  | un t a ih =>
    intro y r r' hx hy h
    cases y with
    | leaf t' => simp [Ex.terms] at h; have hx' := hx.1; have hy' : arity t'.op = 0 := hy; rw [← h.1] at hy'; omega
    | un t' a' =>
      simp [Ex.terms] at h
      obtain ⟨rfl, h⟩ := h
      obtain ⟨rfl, e⟩ := ih a' r r' hx.2 hy.2 h
      exact ⟨rfl, e⟩
    | bin t' a' b' => simp [Ex.terms] at h; have hx' := hx.1; have hy' := hy.1; rw [← h.1] at hy'; omega
    | tri t' a' b' c' => simp [Ex.terms] at h; have hx' := hx.1; have hy' := hy.1; rw [← h.1] at hy'; omega
  | bin t a b iha ihb =>
    intro y r r' hx hy h
    cases y with
    | leaf t' => simp [Ex.terms] at h; have hx' := hx.1; have hy' : arity t'.op = 0 := hy; rw [← h.1] at hy'; omega
    | un t' a' => simp [Ex.terms] at h; have hx' := hx.1; have hy' := hy.1; rw [← h.1] at hy'; omega
    | bin t' a' b' =>
      simp [Ex.terms] at h
      obtain ⟨rfl, h⟩ := h
      obtain ⟨rfl, h2⟩ := iha a' _ _ hx.2.1 hy.2.1 h
      obtain ⟨rfl, h3⟩ := ihb b' _ _ hx.2.2 hy.2.2 h2
      exact ⟨rfl, h3⟩
    | tri t' a' b' c' => simp [Ex.terms] at h; have hx' := hx.1; have hy' := hy.1; rw [← h.1] at hy'; omega
  | tri t a b c iha ihb ihc =>
    intro y r r' hx hy h
    cases y with
    | leaf t' => simp [Ex.terms] at h; have hx' := hx.1; have hy' : arity t'.op = 0 := hy; rw [← h.1] at hy'; omega
    | un t' a' => simp [Ex.terms] at h; have hx' := hx.1; have hy' := hy.1; rw [← h.1] at hy'; omega
    | bin t' a' b' => simp [Ex.terms] at h; have hx' := hx.1; have hy' := hy.1; rw [← h.1] at hy'; omega
    | tri t' a' b' c' =>
      simp [Ex.terms] at h
      obtain ⟨rfl, h⟩ := h
      obtain ⟨rfl, h2⟩ := iha a' _ _ hx.2.1 hy.2.1 h
      obtain ⟨rfl, h3⟩ := ihb b' _ _ hx.2.2.1 hy.2.2.1 h2
      obtain ⟨rfl, h4⟩ := ihc c' _ _ hx.2.2.2 hy.2.2.2 h3
      exact ⟨rfl, h4⟩

theorem Ex.one {x y : Ex} (hx : x.ok) (hy : y.ok) (h : x.terms = y.terms) : x = y := (Ex.inj x y [] [] hx hy (by simp [h])).1

end Go.Proofs.YtaifafljakojnaaGreat

/- The plain law of P12.3: Verify accepts the code of a valid expression. -/
namespace Go.Proofs.YtaifafljakojnaaGreat

theorem ig_set {hs : List Int} {p : Nat} {v : Int} (hp : p < hs.length) (j : Nat) : ig (hs.set p v) (j : Int) = if j = p then v else ig hs (j : Int) := by
  unfold ig
  simp only [Int.toNat_natCast, List.getD_eq_getElem?_getD, List.getElem?_set]
  by_cases h : p = j
  · subst h; simp [hp]
  · rw [if_neg h, if_neg (fun e => h e.symm)]

/-- Neither below f nor above e has a height changed, and e has its height. -/
structure Hts (hs hs' : List Int) (f e : Nat) (h : Int) : Prop where
  len : hs'.length = hs.length
  low : ∀ j : Nat, j ≤ f → ig hs' (j : Int) = ig hs (j : Int)
  high : ∀ j : Nat, e < j → ig hs' (j : Int) = ig hs (j : Int)
  at_ : ig hs' (e : Int) = h

/-- What is known ahead of the code of a part. -/
structure Pre (l : List Term) (hs : List Int) (tr : List Tr) (f e : Nat) (h : Int) : Prop where
  len : hs.length = l.length + 1
  el : e ≤ l.length
  lt : f < e
  now : ig hs (f : Int) = h
  h0 : 0 ≤ h
  free : ∀ j : Nat, f < j → j < e → ig hs (j : Int) = -1
  goal : ig hs (e : Int) = -1 ∨ ig hs (e : Int) = h + 1
  inn : (e : Int) ≤ (innerF tr l.length).2.1

theorem stepGo {l : List Term} {v : Int} {i : Nat} {hs hs' : List Int} {tr : List Tr} {m m' : Int} {x : Term} {h : Int} (hx : insAt l (i : Int) = x) (hh : ig hs (i : Int) = h)
    (hc : checksF l v tr i x h = true) (hg : giveF hs (giftsF x i h) = some hs') (hm : mostF m (giftsF x i h) = some m') :
    ∀ q, verGo l v (q + 1) i hs tr m = verGo l v q (i + 1) hs' (trNext x i h tr) m' := by
  intro q
  have : stepP l v i hs tr m = (some (hs', trNext x i h tr, m'), 0) := by
    unfold stepP
    rw [hx, hh, if_neg (by rw [hc]; simp)]
    simp only [giveR, hg, hm]
  simp only [verGo, this]

/-- The first instruction of what is left. -/
theorem ins_of_drop {l r : List Term} {f : Nat} {x : Term} (h : l.drop f = x :: r) : insAt l (f : Int) = x ∧ l.drop (f + 1) = r ∧ f < l.length := by
  obtain ⟨h1, h2⟩ := drop_head h
  obtain ⟨h3, h4⟩ := List.getElem?_eq_some_iff.1 h1
  exact ⟨by rw [insAt_get h3, h4], h2, h3⟩

theorem give_one {hs : List Int} {p : Nat} {v : Int} (hg : ig hs (p : Int) = -1 ∨ ig hs (p : Int) = v) : giveF hs [⟨(p : Int), v⟩] = some (hs.set p v) := by
  simp only [giveF]
  rw [if_neg (by rintro ⟨h1, h2⟩; rcases hg with h | h <;> omega), Int.toNat_natCast]
theorem give_two {hs : List Int} {p q : Nat} {v u : Int} (hl : p < hs.length) (hne : q ≠ p) (hp : ig hs (p : Int) = -1 ∨ ig hs (p : Int) = v) (hq : ig hs (q : Int) = -1 ∨ ig hs (q : Int) = u) : giveF hs [⟨(p : Int), v⟩, ⟨(q : Int), u⟩] = some ((hs.set p v).set q u) := by
  have h2 := ig_set (v := v) hl q
  rw [if_neg hne] at h2
  simp only [giveF]
  rw [if_neg (by rintro ⟨h1, h2⟩; rcases hp with h | h <;> omega), Int.toNat_natCast, h2, if_neg (by rintro ⟨h1, h2⟩; rcases hq with h | h <;> omega), Int.toNat_natCast]
theorem most_one {m p v : Int} (h : v ≤ 64) : mostF m [⟨p, v⟩] = some (max m v) := by
  simp only [mostF]; rw [if_neg (by omega)]
theorem most_two {m p v q u : Int} (h : v ≤ 64) (h' : u ≤ 64) : mostF m [⟨p, v⟩, ⟨q, u⟩] = some (max (max m v) u) := by
  simp only [mostF]; rw [if_neg (by omega), if_neg (by omega)]

def nearT (t : Term) : Bool := decide (t.op = 11 ∨ (12 ≤ t.op ∧ t.op ≤ 17))
/-- Terms that look at the bound neighbour stand inside of aggregates. -/
def Ex.inside : Ex → Bool → Prop
  | .leaf t, b => nearT t = true → b = true
  | .un t a, b => a.inside (aggregate t.op || b)
  | .bin _ x y, b => x.inside b ∧ y.inside b
  | .tri _ x y z, b => x.inside b ∧ y.inside b ∧ z.inside b

theorem checks_mk {l : List Term} {v : Int} {tr : List Tr} {i : Int} {x : Term} {h : Int} (a : 0 ≤ h) (b : knownF x v = true) (c : (needsF x && tr.isEmpty) = false) (d : wantsF x.op ≤ h) (e : eachF l tr i x = true) (f : nextF l tr i x h = true) (g : jumpF l tr i x = true) : checksF l v tr i x h = true := by
  unfold checksF
  simp only [a, b, c, d, e, f, g, decide_true]; rfl

theorem each_skip {l : List Term} {tr : List Tr} {i : Int} {x : Term} (h : x.op ≠ 9) : eachF l tr i x = true := by simp [eachF, h]
theorem next_skip {l : List Term} {tr : List Tr} {i : Int} {x : Term} {y : Int} (h : x.op ≠ 10) : nextF l tr i x y = true := by simp [nextF, h]
theorem jump_skip {l : List Term} {tr : List Tr} {i : Int} {x : Term} (h : x.op ≠ 7) (h' : x.op ≠ 8) : jumpF l tr i x = true := by simp [jumpF, h, h']

theorem known_mk {op arg v lo hi : Int} (k : Nat) (hk : op = k) (h1 : 1 ≤ k) (h2 : k ≤ 10) (h4 : ¬ (op = 4 ∧ arg = 12)) (hlo : (boundsV v).getD (k * 2) 0 = lo) (hhi : (boundsV v).getD (k * 2 + 1) 0 = hi) (g1 : lo ≤ arg) (g2 : arg ≤ hi) : knownF ⟨op, arg⟩ v = true := by
  unfold knownF
  subst hk
  simp only [Int.toNat_natCast, hlo, hhi]
  rw [show decide (1 ≤ (k : Int) ∧ (k : Int) ≤ 10) = true by simp; omega, show (decide ((k : Int) = 4) && decide (arg = 12)) = false by rw [Bool.eq_false_iff]; intro hh; simp at hh; exact h4 ⟨by omega, hh.2⟩]
  simp [g1, g2]

theorem leaf_known {t : Term} {v : Int} (ha : arity t.op = 0) (harg : argF t v = true) : knownF (leafI t) v = true ∧ ((leafI t).op = 1 ∨ (leafI t).op = 2 ∨ (leafI t).op = 3 ∨ (leafI t).op = 4) ∧ (needsF (leafI t) = true → nearT t = true) := by
  obtain ⟨op, arg⟩ := t
  have hop : 1 ≤ op ∧ op ≤ 17 := by
    unfold arity at ha
    simp only at ha
    repeat' split at ha <;> omega
  unfold argF at harg
  simp only at harg
  unfold leafI
  simp only
  by_cases h1 : op = 1
  · rw [if_pos h1] at harg ⊢
    simp at harg
    exact ⟨known_mk (lo := -1073741824) (hi := 1073741824) 1 rfl (by omega) (by omega) (by omega) rfl rfl (by omega) (by omega), by simp, by simp [needsF]⟩
  rw [if_neg h1]
  by_cases h2 : op = 2
  · rw [if_pos h2]; exact ⟨known_mk (lo := -1073741824) (hi := 1073741824) 1 rfl (by omega) (by omega) (by omega) rfl rfl (by omega) (by omega), by simp, by simp [needsF]⟩
  rw [if_neg h2]
  by_cases h3 : op = 3
  · rw [if_pos h3]; exact ⟨known_mk (lo := -1073741824) (hi := 1073741824) 1 rfl (by omega) (by omega) (by omega) rfl rfl (by omega) (by omega), by simp, by simp [needsF]⟩
  rw [if_neg h3]
  by_cases h4 : op = 4
  · rw [if_pos h4]; exact ⟨known_mk (lo := -1073741824) (hi := 1073741824) 1 rfl (by omega) (by omega) (by omega) rfl rfl (by omega) (by omega), by simp, by simp [needsF]⟩
  rw [if_neg h4]
  by_cases h5 : op = 5
  · rw [if_neg h1, if_pos (.inl h5)] at harg
    simp at harg
    rw [if_pos h5]; exact ⟨known_mk (lo := 0) (hi := v - 1) 2 rfl (by omega) (by omega) (by omega) rfl rfl (by omega) (by omega), by simp, by simp [needsF]⟩
  rw [if_neg h5]
  by_cases h12 : op = 12
  · rw [if_neg h1, if_pos (.inr h12)] at harg
    simp at harg
    rw [if_pos h12]; exact ⟨known_mk (lo := 0) (hi := v - 1) 3 rfl (by omega) (by omega) (by omega) rfl rfl (by omega) (by omega), by simp, by simp [nearT, h12]⟩
  rw [if_neg h12]
  refine ⟨known_mk (lo := 6) (hi := 17) 4 rfl (by omega) (by omega) (by omega) rfl rfl (by omega) (by omega), by simp, ?_⟩
  simp [needsF, nearT]; omega

theorem gifts_leaf {x : Term} {i h : Int} (hx : x.op = 1 ∨ x.op = 2 ∨ x.op = 3 ∨ x.op = 4) : giftsF x i h = [⟨i + 1, h + 1⟩] := by simp only [giftsF]; rw [if_pos hx]
theorem trNext_same {x : Term} {i h : Int} {tr : List Tr} (h9 : x.op ≠ 9) (h10 : x.op ≠ 10) : trNext x i h tr = tr := by simp [trNext, h9, h10]

/-- Loops inside of a part's code end inside of it. -/
theorem code_loops (y : Ex) : ∀ f, ∀ z ∈ y.code f, z.op = 9 → z.arg < ((f + y.size : Nat) : Int) := by
  induction y with
  | leaf t =>
    intro f z hz h9
    simp only [Ex.code, List.mem_singleton] at hz
    subst hz
    exfalso
    have : (leafI t).op = 1 ∨ (leafI t).op = 2 ∨ (leafI t).op = 3 ∨ (leafI t).op = 4 := by
      unfold leafI
      by_cases h1 : t.op = 1
      · rw [if_pos h1]; simp
      by_cases h2 : t.op = 2
      · rw [if_neg h1, if_pos h2]; simp
      by_cases h3 : t.op = 3
      · rw [if_neg h1, if_neg h2, if_pos h3]; simp
      by_cases h4 : t.op = 4
      · rw [if_neg h1, if_neg h2, if_neg h3, if_pos h4]; simp
      by_cases h5 : t.op = 5
      · rw [if_neg h1, if_neg h2, if_neg h3, if_neg h4, if_pos h5]; simp
      by_cases h12 : t.op = 12
      · rw [if_neg h1, if_neg h2, if_neg h3, if_neg h4, if_neg h5, if_pos h12]; simp
      rw [if_neg h1, if_neg h2, if_neg h3, if_neg h4, if_neg h5, if_neg h12]; simp
    omega
  | un t a ih =>
    intro f z hz h9
    simp only [Ex.code, Ex.size] at hz ⊢
    split at hz
    · rename_i hag
      rw [if_pos hag]
      rcases List.mem_cons.1 hz with e | e
      · subst e; simp; omega
      · rcases List.mem_append.1 e with e | e
        · have := ih _ z e h9; omega
        · simp at e; subst e; simp at h9
    · rename_i hag
      rw [if_neg hag]
      rcases List.mem_append.1 hz with e | e
      · have := ih _ z e h9; omega
      · simp at e; subst e; simp at h9
  | bin t a b iha ihb =>
    intro f z hz h9
    simp only [Ex.code, Ex.size] at hz ⊢
    rcases List.mem_append.1 hz with e | e
    · rcases List.mem_append.1 e with e | e
      · have := iha _ z e h9; omega
      · have := ihb _ z e h9; omega
    · simp at e; subst e; simp at h9
  | tri t a b c iha ihb ihc =>
    intro f z hz h9
    simp only [Ex.code, Ex.size] at hz ⊢
    rcases List.mem_append.1 hz with e | e
    · rcases List.mem_append.1 e with e | e
      · rcases List.mem_append.1 e with e | e
        · rcases List.mem_append.1 e with e | e
          · have := iha _ z e h9; omega
          · simp at e; subst e; simp at h9
        · have := ihb _ z e h9; omega
      · simp at e; subst e; simp at h9
    · have := ihc _ z e h9; omega

/-- Code with no loop over its end lets a jump over it. -/
theorem jump_over {l : List Term} {tr : List Tr} {i a : Nat} {op : Int} {mid r : List Term} (hl : l.drop (i + 1) = mid ++ r) (ha : a = i + 1 + mid.length) (hin : (a : Int) ≤ (innerF tr l.length).2.1) (hmid : ∀ z ∈ mid, z.op = 9 → z.arg < (a : Int)) : jumpF l tr i ⟨op, (a : Int)⟩ = true := by
  unfold jumpF
  rw [Bool.or_eq_true]
  right
  rw [Bool.and_eq_true, Bool.and_eq_true]
  refine ⟨⟨by simp; omega, by simpa using hin⟩, ?_⟩
  unfold clearF
  rw [show ((i : Int) + 1).toNat = i + 1 by omega, show ((a : Int) - ((i : Int) + 1)).toNat = mid.length by omega, hl, List.take_left]
  rw [List.all_eq_true]
  intro z hz
  by_cases h9 : z.op = 9
  · have := hmid z hz h9
    simp [h9]; omega
  · simp [h9]

end Go.Proofs.YtaifafljakojnaaGreat

/- What Verify leaves behind for a list that it accepts: the heights of all places, and the open loops ahead of each. -/
namespace Go.Proofs.YtaifafljakojnaaGreat

structure Ver (l : List Term) (v : Int) (H : List Int) (T : Nat → List Tr) : Prop where
  len : H.length = l.length + 1
  zero : ig H 0 = 0
  last : ig H l.length = 1
  start : T 0 = []
  next : ∀ i : Nat, i < l.length → T (i + 1) = trNext (insAt l i) i (ig H i) (T i)
  checks : ∀ i : Nat, i < l.length → checksF l v (T i) i (insAt l i) (ig H i) = true
  gifts : ∀ i : Nat, i < l.length → ∀ g ∈ giftsF (insAt l i) i (ig H i), ig H g.op = g.arg ∧ g.arg ≤ 64
  given : ∀ j : Nat, j ≤ l.length → j ≠ 0 → ∃ k : Nat, k < l.length ∧ ∃ g ∈ giftsF (insAt l k) k (ig H k), g.op = (j : Int)

theorem nil_or_concat' {α : Type} (l : List α) : l = [] ∨ ∃ X x, l = X ++ [x] := by
  rcases List.eq_nil_or_concat l with h | ⟨X, x, h⟩
  · exact .inl h
  · exact .inr ⟨X, x, by rw [h]; simp⟩
theorem jump_parts {l : List Term} {tr : List Tr} {i : Int} {x : Term} (h : jumpF l tr i x = true) (h78 : x.op = 7 ∨ x.op = 8) : i < x.arg ∧ x.arg ≤ (innerF tr l.length).2.1 ∧ clearF l i x.arg = true := by
  unfold jumpF at h
  rw [Bool.or_eq_true] at h
  rcases h with h | h
  · simp at h; omega
  · simp only [Bool.and_eq_true, decide_eq_true_eq] at h
    exact ⟨h.1.1, h.1.2, h.2⟩
theorem next_parts {l : List Term} {tr : List Tr} {i : Int} {x : Term} {h : Int} (hn : nextF l tr i x h = true) (h10 : x.op = 10) : (innerF tr l.length).2.1 = i ∧ h = (innerF tr l.length).2.2 + 1 := by
  unfold nextF at hn
  rw [Bool.or_eq_true] at hn
  rcases hn with hn | hn
  · simp at hn; omega
  · simpa using hn
theorem gifts_place {l : List Term} {v : Int} {hs : List Int} {tr : List Tr} {i : Nat} (hi : i < l.length) (hv : VInv l hs tr) {h : Int} (hc : checksF l v tr i (insAt l i) h = true) : ∀ g ∈ giftsF (insAt l i) i h, 0 ≤ g.op ∧ g.op ≤ l.length := by
  obtain ⟨_, _, _, _, h5, h6, h7⟩ := checks_parts hc
  have hin := inner_inv hv
  intro g hg
  unfold giftsF at hg
  split at hg
  · simp at hg; subst hg; dsimp only; omega
  split at hg
  · simp at hg; subst hg; dsimp only; omega
  split at hg
  · rename_i e7
    have := jump_parts h7 (.inl e7)
    simp at hg
    rcases hg with rfl | rfl <;> dsimp only <;> omega
  split at hg
  · rename_i e8
    have := jump_parts h7 (.inr e8)
    simp at hg; subst hg; dsimp only; omega
  split at hg
  · rename_i e9
    have := each_parts h5 e9
    simp at hg
    rcases hg with rfl | rfl <;> dsimp only <;> omega
  · simp at hg; subst hg; dsimp only; omega
theorem giveF_gets {gs : List Term} : ∀ {hs hs' : List Int}, giveF hs gs = some hs' → (∀ g ∈ gs, 0 ≤ g.arg ∧ 0 ≤ g.op ∧ g.op < hs.length) → ∀ g ∈ gs, ig hs' g.op = g.arg := by
  induction gs with
  | nil => intro hs hs' _ _ g hg; cases hg
  | cons a gs ih =>
    intro hs hs' h hp g hg
    unfold giveF at h
    split at h
    · cases h
    · have ha := hp a (List.mem_cons_self ..)
      rcases List.mem_cons.1 hg with rfl | hg
      · obtain ⟨k, hk⟩ := Int.eq_ofNat_of_zero_le ha.2.1
        have hkl : k < hs.length := by omega
        have e1 : ig (hs.set g.op.toNat g.arg) (k : Int) = g.arg := by
          rw [hk, Int.toNat_natCast, ig_set hkl, if_pos rfl]
        have := giveF_keep h k (by rw [e1]; exact ha.1) (by rw [List.length_set]; exact hkl)
        rw [hk, this]
        exact e1
      · exact ih h (fun g hg => by rw [List.length_set]; exact hp g (List.mem_cons_of_mem _ hg)) g hg
theorem giveF_from {gs : List Term} : ∀ {hs hs' : List Int}, giveF hs gs = some hs' → (∀ g ∈ gs, 0 ≤ g.op ∧ g.op < hs.length) → ∀ j : Nat, 0 ≤ ig hs' (j : Int) → 0 ≤ ig hs (j : Int) ∨ ∃ g ∈ gs, g.op = (j : Int) := by
  induction gs with
  | nil => intro hs hs' h _ j hj; simp [giveF] at h; rw [h]; exact .inl hj
  | cons a gs ih =>
    intro hs hs' h hp j hj
    unfold giveF at h
    split at h
    · cases h
    · have ha := hp a (List.mem_cons_self ..)
      rcases ih h (fun g hg => by rw [List.length_set]; exact hp g (List.mem_cons_of_mem _ hg)) j hj with h1 | ⟨g, hg, e⟩
      · obtain ⟨k, hk⟩ := Int.eq_ofNat_of_zero_le ha.1
        rw [hk, Int.toNat_natCast, ig_set (by omega)] at h1
        by_cases hjk : j = k
        · subst hjk; exact .inr ⟨a, List.mem_cons_self .., hk⟩
        · rw [if_neg hjk] at h1; exact .inl h1
      · exact .inr ⟨g, List.mem_cons_of_mem _ hg, e⟩
theorem mostF_ge : ∀ {gs : List Term} {m m' : Int}, mostF m gs = some m' → m ≤ m' ∧ ∀ g ∈ gs, g.arg ≤ m' := by
  intro gs
  induction gs with
  | nil => intro m m' h; simp [mostF] at h; subst h; exact ⟨Int.le_refl _, fun g hg => by cases hg⟩
  | cons a gs ih =>
    intro m m' h
    unfold mostF at h
    split at h
    · cases h
    · obtain ⟨h1, h2⟩ := ih h
      refine ⟨by omega, fun g hg => ?_⟩
      rcases List.mem_cons.1 hg with rfl | hg
      · omega
      · exact h2 g hg
theorem verGo_ver {l : List Term} {v : Int} : ∀ (n i : Nat) (hs : List Int) (tr : List Tr) (m : Int), i + n = l.length → VInv l hs tr → (verGo l v n i hs tr m).2.2 = 0 →
    ∃ (H : List Int) (T : Nat → List Tr), H.length = l.length + 1 ∧ (∀ j : Nat, 0 ≤ ig hs (j : Int) → j < hs.length → ig H (j : Int) = ig hs (j : Int)) ∧ ig H l.length = 1 ∧ T i = tr
      ∧ (∀ k : Nat, i ≤ k → k < l.length → T (k + 1) = trNext (insAt l k) k (ig H k) (T k) ∧ checksF l v (T k) k (insAt l k) (ig H k) = true ∧ ∀ g ∈ giftsF (insAt l k) k (ig H k), ig H g.op = g.arg ∧ g.arg ≤ 64 ∧ g.arg ≤ (verGo l v n i hs tr m).1) ∧ m ≤ (verGo l v n i hs tr m).1
      ∧ (∀ j : Nat, j < hs.length → 0 ≤ ig H (j : Int) → 0 ≤ ig hs (j : Int) ∨ ∃ k : Nat, i ≤ k ∧ k < l.length ∧ ∃ g ∈ giftsF (insAt l k) k (ig H k), g.op = (j : Int)) := by
  intro n
  induction n with
  | zero =>
    intro i hs tr m hn hv h
    unfold verGo at h ⊢
    split at h
    · cases h
    · rename_i h1
      rw [if_neg h1]
      exact ⟨hs, fun _ => tr, hv.1, fun _ _ _ => rfl, by omega, rfl, (fun k h1 h2 => by omega), Int.le_refl _, fun j _ hj => .inl hj⟩
  | succ n ih =>
    intro i hs tr m hn hv h
    unfold verGo at h ⊢
    cases hs1 : stepP l v i hs tr m with
    | mk r e =>
      rw [hs1] at h
      cases r with
      | none =>
        simp at h
        rcases stepP_none hs1 with h1 | h1 <;> omega
      | some p =>
        obtain ⟨hs', tr', m'⟩ := p
        obtain ⟨c1, c2, c3, c4, _⟩ := stepP_some hs1
        have hi : i < l.length := by omega
        have hv' := stepP_inv hi hv hs1
        obtain ⟨H, T, a1, a2, a3, a4, a5, a6, a7⟩ := ih (i + 1) hs' tr' m' (by omega) hv' h
        dsimp only
        obtain ⟨d1, _, _, d4, _⟩ := checks_parts c1
        have hil : i < hs.length := by rw [hv.1]; omega
        have hk1 := giveF_keep c2 i d1 hil
        have hl' := giveF_len c2
        have hHi : ig H (i : Int) = ig hs (i : Int) := by rw [a2 i (by omega) (by omega), hk1]
        have hmg := mostF_ge c3
        refine ⟨H, fun k => if k = i then tr else T k, a1, fun j h1 h2 => ?_, a3, if_pos rfl, fun k h1 h2 => ?_, by omega, fun j h1 h2 => ?_⟩
        · have := giveF_keep c2 j h1 h2
          rw [a2 j (by omega) (by omega), this]
        · by_cases hk : k = i
          · subst hk
            dsimp only
            rw [if_neg (by omega), if_pos rfl, hHi, a4]
            refine ⟨c4, c1, fun g hg => ?_⟩
            have hlow : ∀ g ∈ giftsF (insAt l k) k (ig hs k), 0 ≤ g.arg := gifts_low d1 d4
            have hpl : ∀ g ∈ giftsF (insAt l k) k (ig hs k), 0 ≤ g.op ∧ g.op ≤ l.length := gifts_place hi hv c1
            have hge : ig hs' g.op = g.arg := giveF_gets c2 (fun g hg => ⟨hlow g hg, (hpl g hg).1, by have := (hpl g hg).2; have := hv.1; omega⟩) g hg
            refine ⟨?_, mostF_all c3 g hg, by have := hmg.2 g hg; omega⟩
            obtain ⟨q, hq⟩ := Int.eq_ofNat_of_zero_le (hpl g hg).1
            have h0 := hlow g hg
            have h3 := (hpl g hg).2
            have := hv'.1
            rw [hq] at hge ⊢
            rw [a2 q (by omega) (by omega), hge]
          · dsimp only
            rw [if_neg (by omega), if_neg hk]
            exact a5 k (by omega) h2
        · rcases a7 j (by omega) h2 with h3 | ⟨k, k1, k2, k3⟩
          · have hpl : ∀ g ∈ giftsF (insAt l i) i (ig hs i), 0 ≤ g.op ∧ g.op ≤ l.length := gifts_place hi hv c1
            rcases giveF_from c2 (fun g hg => ⟨(hpl g hg).1, by have := (hpl g hg).2; have := hv.1; omega⟩) j h3 with h4 | ⟨g, hg, e⟩
            · exact .inl h4
            · exact .inr ⟨i, Nat.le_refl _, hi, g, by rw [hHi]; exact hg, e⟩
          · exact .inr ⟨k, by omega, k2, k3⟩
theorem verify_ver {l : List Term} {v : Int} (h : (verifyF l v).2.2 = 0) : 0 < l.length ∧ l.length ≤ 1024 ∧ ∃ H T, Ver l (max v 0) H T ∧ ∀ i : Nat, i < l.length → ∀ g ∈ giftsF (insAt l i) i (ig H i), g.arg ≤ (verifyF l v).1 := by
  unfold verifyF at h ⊢
  split at h
  · cases h
  · rename_i h1
    rw [if_neg h1]
    obtain ⟨H, T, a1, a2, a3, a4, a5, a6, a7⟩ := verGo_ver l.length 0 _ _ _ (by omega) (start_inv l) h
    refine ⟨by omega, by omega, H, T, ⟨a1, ?_, a3, a4, fun i hi => (a5 i (by omega) hi).1, fun i hi => (a5 i (by omega) hi).2.1, fun i hi g hg => ⟨((a5 i (by omega) hi).2.2 g hg).1, ((a5 i (by omega) hi).2.2 g hg).2.1⟩, fun j hj h0 => ?_⟩, fun i hi g hg => ((a5 i (by omega) hi).2.2 g hg).2.2⟩
    · have := a2 0 (by simp [ig]) (by simp)
      simpa [ig] using this
    · have hH : 0 ≤ ig H (j : Int) := by
        rcases Nat.lt_or_ge j l.length with hlt | hge
        · exact (checks_parts (a5 j (by omega) hlt).2.1).1
        · have : j = l.length := by omega
          subst this; omega
      rcases a7 j (by simp; omega) hH with h3 | ⟨k, _, k2, k3⟩
      · exfalso
        obtain ⟨q, rfl⟩ : ∃ q, j = q + 1 := ⟨j - 1, by omega⟩
        unfold ig at h3
        rw [Int.toNat_natCast, List.getD_cons_succ, List.getD_eq_getElem?_getD, List.getElem?_replicate, if_pos (by omega)] at h3
        simp at h3
      · exact ⟨k, k2, k3⟩

/-- How the loops that are open ahead of a place lie. -/
def Nested (l : List Term) (H : List Int) (T : Nat → List Tr) (p : Nat) : Prop :=
  ∀ X t Y, T p = X ++ t :: Y → ∃ e nx : Nat, t = ((e : Int), (nx : Int), ig H e) ∧ X = T e ∧ e < p ∧ p ≤ nx ∧ nx < l.length ∧ insAt l e = ⟨9, nx⟩ ∧ (insAt l nx).op = 10 ∧ ∀ y ∈ Y, y.2.1 < (nx : Int)
theorem inner_last (X : List Tr) (t : Tr) (n : Int) : innerF (X ++ [t]) n = t := by simp [innerF]
theorem ver_nested {l : List Term} {v : Int} {H : List Int} {T : Nat → List Tr} (hv : Ver l v H T) : ∀ p, p ≤ l.length → Nested l H T p := by
  intro p
  induction p with
  | zero => intro _ X t Y h; rw [hv.start] at h; simp at h
  | succ p ih =>
    intro hp X t Y h
    have ih := ih (by omega)
    have hpl : p < l.length := by omega
    rw [hv.next p hpl] at h
    obtain ⟨_, _, _, _, h5, h6, _⟩ := checks_parts (hv.checks p hpl)
    unfold trNext at h
    split at h
    · rename_i h9
      obtain ⟨e1, e2, e3, e4, e5⟩ := each_parts h5 h9
      rcases nil_or_concat' Y with hY | ⟨Y', y, hY⟩
      · subst hY
        obtain ⟨hX, ht⟩ := List.append_inj' h rfl
        simp only [List.cons.injEq, and_true] at ht
        obtain ⟨nx, hnx⟩ := Int.eq_ofNat_of_zero_le (show 0 ≤ (insAt l p).arg by omega)
        refine ⟨p, nx, by rw [← ht, hnx], hX.symm, by omega, by omega, by omega, ?_, by rw [← hnx]; exact e3, fun y hy => by cases hy⟩
        cases hx : insAt l p with
        | mk o a => rw [hx] at h9 hnx; simp at h9 hnx; subst h9; subst hnx; rfl
      · subst hY
        rw [← List.cons_append, ← List.append_assoc] at h
        obtain ⟨hX, hy⟩ := List.append_inj' h rfl
        simp only [List.cons.injEq, and_true] at hy
        obtain ⟨e, nx, a1, a2, a3, a4, a5, a6, a7, a8⟩ := ih X t Y' hX
        refine ⟨e, nx, a1, a2, by omega, ?_, a5, a6, a7, ?_⟩
        · rcases Nat.lt_or_ge p nx with hlt | hge
          · omega
          · have : p = nx := by omega
            subst this; omega
        · intro z hz
          rw [List.mem_append] at hz
          rcases hz with hz | hz
          · exact a8 z hz
          · simp at hz
            subst hz
            rw [← hy]
            dsimp only
            rcases nil_or_concat' Y' with hY' | ⟨Y2, y2, hY'⟩
            · subst hY'
              rw [hX, inner_last, a1] at e5
              exact e5
            · subst hY'
              rw [hX, ← List.cons_append, ← List.append_assoc, inner_last] at e5
              have := a8 y2 (by simp)
              omega
    · split at h
      · rename_i h9 h10
        obtain ⟨n1, n2⟩ := next_parts h6 h10
        rcases nil_or_concat' (T p) with hT | ⟨D, d, hT⟩
        · rw [hT] at n1; simp [innerF] at n1; omega
        · rw [hT] at h n1
          rw [inner_last] at n1
          rw [List.dropLast_concat] at h
          have hT2 : T p = X ++ t :: (Y ++ [d]) := by rw [hT, h]; simp
          obtain ⟨e, nx, a1, a2, a3, a4, a5, a6, a7, a8⟩ := ih X t (Y ++ [d]) hT2
          have := a8 d (by simp)
          exact ⟨e, nx, a1, a2, by omega, by omega, a5, a6, a7, fun y hy => a8 y (by simp [hy])⟩
      · rename_i h9 h10
        obtain ⟨e, nx, a1, a2, a3, a4, a5, a6, a7, a8⟩ := ih X t Y h
        refine ⟨e, nx, a1, a2, by omega, ?_, a5, a6, a7, a8⟩
        rcases Nat.lt_or_ge p nx with hlt | hge
        · omega
        · have : p = nx := by omega
          subst this; exact absurd a7 h10
/-- Ahead of the place of a jump the same loops are open as ahead of the jump. -/
theorem ver_jump {l : List Term} {v : Int} {H : List Int} {T : Nat → List Tr} (hv : Ver l v H T) {i a : Nat} (hia : i ≤ a) (ha : a ≤ l.length) (hin : (a : Int) ≤ (innerF (T i) l.length).2.1) (hcl : ∀ k : Nat, i ≤ k → k < a → (insAt l k).op = 9 → (insAt l k).arg < (a : Int)) : T a = T i := by
  have main : ∀ n, i + n ≤ a → ∃ E, T (i + n) = T i ++ E ∧ ∀ t ∈ E, (i : Int) ≤ t.1 := by
    intro n
    induction n with
    | zero => intro _; exact ⟨[], by simp, fun t ht => by cases ht⟩
    | succ n ih =>
      intro hn
      obtain ⟨E, hE, hEi⟩ := ih (by omega)
      have hpl : i + n < l.length := by omega
      have hnx := hv.next (i + n) hpl
      rw [show i + (n + 1) = i + n + 1 from rfl, hnx]
      obtain ⟨_, _, _, _, h5, h6, _⟩ := checks_parts (hv.checks (i + n) hpl)
      unfold trNext
      split
      · refine ⟨E ++ [(((i + n : Nat) : Int), (insAt l (i + n : Nat)).arg, ig H (i + n : Nat))], by rw [hE, List.append_assoc], fun t ht => ?_⟩
        rw [List.mem_append] at ht
        rcases ht with ht | ht
        · exact hEi t ht
        · simp at ht; subst ht; dsimp only; omega
      · split
        · rename_i h9 h10
          obtain ⟨n1, n2⟩ := next_parts h6 h10
          rcases nil_or_concat' E with hE0 | ⟨D, d, hE0⟩
          · subst hE0
            rw [List.append_nil] at hE
            rw [hE] at n1
            omega
          · subst hE0
            rw [hE, ← List.append_assoc, List.dropLast_concat]
            exact ⟨D, rfl, fun t ht => hEi t (by simp [ht])⟩
        · exact ⟨E, hE, hEi⟩
  obtain ⟨E, hE, hEi⟩ := main (a - i) (by omega)
  rw [show i + (a - i) = a by omega] at hE
  cases E with
  | nil => rw [hE, List.append_nil]
  | cons t Y =>
    obtain ⟨e, nx, a1, a2, a3, a4, a5, a6, a7, a8⟩ := ver_nested hv a ha (T i) t Y hE
    have h1 := hEi t (List.mem_cons_self ..)
    rw [a1] at h1
    dsimp only at h1
    have h2 := hcl e (by omega) a3 (by rw [a6])
    rw [a6] at h2
    dsimp only at h2
    omega
theorem clear_parts {l : List Term} {i a : Nat} (h : clearF l i a = true) : ∀ k : Nat, i + 1 ≤ k → k < a → k < l.length → (insAt l k).op = 9 → (insAt l k).arg < (a : Int) := by
  intro k h1 h2 h3 h9
  unfold clearF at h
  rw [List.all_eq_true] at h
  have hm : insAt l k ∈ (l.drop ((i : Int) + 1).toNat).take ((a : Int) - ((i : Int) + 1)).toNat := by
    have e1 : ((i : Int) + 1).toNat = i + 1 := by omega
    have e2 : ((a : Int) - ((i : Int) + 1)).toNat = a - (i + 1) := by omega
    rw [e1, e2, insAt_get h3]
    apply List.mem_of_getElem? (i := k - (i + 1))
    rw [List.getElem?_take, if_pos (by omega), List.getElem?_drop, show i + 1 + (k - (i + 1)) = k by omega]
    exact List.getElem?_eq_getElem h3
  have := h _ hm
  simp [h9] at this
  omega

end Go.Proofs.YtaifafljakojnaaGreat

/- Plain facts on aggregates: another order of the values, and how the aggregates hang together. -/
namespace Go.Proofs.YtaifafljakojnaaGreat

theorem countF_perm {l m : List Int} (h : l.Perm m) : countF l = countF m := by unfold countF; rw [(h.filter _).length_eq]
theorem foldl_min_perm {l m : List Int} (h : l.Perm m) : ∀ z : Int, l.foldl min z = m.foldl min z := by
  induction h with
  | nil => intro z; rfl
  | cons a _ ih => intro z; exact ih _
  | swap a b l => intro z; show List.foldl min (min (min z b) a) l = List.foldl min (min (min z a) b) l; congr 1; omega
  | trans _ _ i1 i2 => intro z; rw [i1, i2]
theorem foldl_add_perm {l m : List Int} (h : l.Perm m) : ∀ z : Int, l.foldl (· + ·) z = m.foldl (· + ·) z := by
  induction h with
  | nil => intro z; rfl
  | cons a _ ih => intro z; exact ih _
  | swap a b l => intro z; show List.foldl (· + ·) (z + b + a) l = List.foldl (· + ·) (z + a + b) l; congr 1; omega
  | trans _ _ i1 i2 => intro z; rw [i1, i2]
theorem twoGo_cons (a : Int) (l : List Int) (g s : Int) (h : s ≤ g) : twoGo (a :: l) g s = twoGo l (max g a) (max s (min g a)) := by
  show (if g < a then twoGo l a g else twoGo l g (max s a)) = _
  split
  · rw [show max g a = a by omega, show max s (min g a) = g by omega]
  · rw [show max g a = g by omega, show max s (min g a) = max s a by omega]
theorem twoGo_perm {l m : List Int} (h : l.Perm m) : ∀ g s : Int, s ≤ g → twoGo l g s = twoGo m g s := by
  induction h with
  | nil => intro g s _; rfl
  | cons a _ ih => intro g s h; rw [twoGo_cons _ _ _ _ h, twoGo_cons _ _ _ _ h]; exact ih _ _ (by omega)
  | swap a b l =>
    intro g s h
    rw [twoGo_cons _ _ _ _ h, twoGo_cons _ _ _ _ (by omega), twoGo_cons _ _ _ _ h, twoGo_cons _ _ _ _ (by omega)]
    rw [show max (max g b) a = max (max g a) b by omega, show max (max s (min g b)) (min (max g b) a) = max (max s (min g a)) (min (max g a) b) by omega]
  | trans _ _ i1 i2 => intro g s h; rw [i1 _ _ h, i2 _ _ h]
theorem mexF_eq (l : List Int) : 0 ≤ mexF l ∧ mexF l ≤ l.length ∧ mexF l ∉ l ∧ ∀ j, 0 ≤ j → j < mexF l → j ∈ l := by
  obtain ⟨h1, h2, h3, h4⟩ := mexGo_eq l (cntGe l 0) 0 (Nat.le_refl _)
  have := cntGe_le l 0
  exact ⟨h1, by unfold mexF; omega, h3, h4⟩
theorem mexF_perm {l m : List Int} (h : l.Perm m) : mexF l = mexF m := by
  obtain ⟨a1, _, a3, a4⟩ := mexF_eq l
  obtain ⟨b1, _, b3, b4⟩ := mexF_eq m
  rcases Int.lt_trichotomy (mexF l) (mexF m) with hh | hh | hh
  · exact absurd (h.mem_iff.2 (b4 _ a1 hh)) a3
  · exact hh
  · exact absurd (h.mem_iff.1 (a4 _ b1 hh)) b3
theorem foldF_perm {l m : List Int} (h : l.Perm m) (op : Int) (h1 : op ≠ 23) (h2 : 20 ≤ op ∧ op < 29) : foldF op l = foldF op m := by
  unfold foldF
  have e1 := countF_perm h
  have e2 := h.length_eq
  have e3 : minF l = minF m := foldl_min_perm h _
  have e4 : twoF l = twoF m := twoGo_perm h _ _ (by omega)
  have e5 : sumF l = sumF m := foldl_add_perm h _
  have e6 := mexF_perm h
  rw [e1, e2, e3, e4, e5, e6, if_neg h1]
  rw [if_neg h1]
  have : op = 20 ∨ op = 21 ∨ op = 22 ∨ op = 24 ∨ op = 25 ∨ op = 26 ∨ op = 27 ∨ op = 28 := by omega
  rcases this with h | h | h | h | h | h | h | h <;> subst h <;> rfl

def swapI (m : List Int) (i k : Nat) : List Int := (m.set i (m.getD k 0)).set k (m.getD i 0)
theorem swapI_perm (m : List Int) (i k : Nat) (hi : i < m.length) (hk : k < m.length) : (swapI m i k).Perm m := by
  unfold swapI
  rw [List.getD_eq_getElem?_getD, List.getD_eq_getElem?_getD, List.getElem?_eq_getElem hi, List.getElem?_eq_getElem hk]
  exact List.set_set_perm hi hk

theorem foldR_ok {op : Int} {l : List Int} (h1 : 20 ≤ op) (h2 : op ≤ 29) (hl : l.length < 24) (hn : ∀ x ∈ l, Num x) : foldR op l = (foldF op l, 0) := by
  unfold foldR
  rw [if_neg (by unfold aggregate; simp; omega), if_neg (by omega), if_neg (by
    have : l.all numB = true := List.all_eq_true.2 fun x hx => numB_true (hn x hx)
    rw [this]; decide)]
theorem map_satF_num (l : List Int) : ∀ x ∈ l.map satF, Num x := by
  intro x hx
  obtain ⟨y, _, rfl⟩ := List.mem_map.1 hx
  exact satF_num y
end Go.Proofs.YtaifafljakojnaaGreat

