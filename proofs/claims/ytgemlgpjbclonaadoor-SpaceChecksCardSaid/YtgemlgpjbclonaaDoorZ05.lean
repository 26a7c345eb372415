/- Merged of: P05b P05c P05d PX (see NOTES.md). -/
import Derived.Test.YtgemlgpjbclonaaDoorZ04
set_option linter.unusedSimpArgs false
set_option linter.unnecessarySimpa false
set_option linter.unusedVariables false

/- The plain law of P5.3: the reference's way to count levels gives what the program's way gives. -/
namespace Go.Proofs.YtgemlgpjbclonaaDoor

theorem foldl_max_max (l : List Int) (a b : Int) : l.foldl max (max a b) = max a (l.foldl max b) := by
  induction l generalizing b with
  | nil => rfl
  | cons x l ih => simp only [List.foldl_cons]; rw [Int.max_assoc]; exact ih _
theorem gmax_snoc (x : Int) (l : List Int) : gmax (l ++ [x]) = max (gmax l) x := by
  unfold gmax; rw [List.foldl_append]; rfl
theorem gmax_cons' (x : Int) (l : List Int) : gmax (x :: l) = max x (gmax l) := by
  have h := foldl_max_max l x 0
  unfold gmax
  rw [List.foldl_cons, Int.max_comm 0 x]; exact h
theorem gmax_reverse (l : List Int) : gmax l.reverse = gmax l := by
  induction l with
  | nil => rfl
  | cons x l ih => rw [List.reverse_cons, gmax_snoc, ih, gmax_cons', Int.max_comm]

/-- The numbers of the expressions that a list consists of, in their order. -/
def rl (num : Int → Int → Int) : List Term → List Int
  | [] => []
  | t :: ts => num t.op (gmax ((rl num ts).take (arity t.op).toNat)) :: (rl num ts).drop (arity t.op).toNat

theorem lev_eq_rl (num : Int → Int → Int) (l : List Term) : ∀ m, Full l m → lev num l = (rl num l).reverse := by
  induction l with
  | nil => intro m _; rfl
  | cons t ts ih =>
    intro m h
    obtain ⟨h1, h2, h3⟩ := h.cons
    have hlen := h3.lev_length num
    have e := ih _ h3
    rw [e, List.length_reverse] at hlen
    simp only [lev, rl]
    rw [e, List.length_reverse, List.reverse_cons, List.take_reverse, List.drop_reverse, gmax_reverse]
    have hsub : (rl num ts).length - ((rl num ts).length - (arity t.op).toNat) = (arity t.op).toNat := by omega
    rw [hsub]

theorem rl_length (num : Int → Int → Int) (l : List Term) (m : Int) (h : Full l m) : ((rl num l).length : Int) = m := by
  have := h.lev_length num
  rw [lev_eq_rl num l m h, List.length_reverse] at this
  exact this

/-- The weight of the open terms. -/
def wt (om : Bool → Int) (s : List (Int × Bool)) : Int := (s.map fun x => om x.2).sum
def placeIn (om : Bool → Int) : List (Int × Bool) → List Int
  | [] => []
  | (c, b) :: r => List.replicate (c - 1).toNat (wt om ((c, b) :: r)) ++ placeIn om r
def plOf (om : Bool → Int) (s : List (Int × Bool)) (more : Bool) : List Int := if more then wt om s :: placeIn om s else []
def fin (d : Int) (pl ds : List Int) : Int := (List.zipWith (· + ·) pl ds).foldl max d

theorem wt_cons (om : Bool → Int) (c : Int) (b : Bool) (s : List (Int × Bool)) : wt om ((c, b) :: s) = om b + wt om s := by simp [wt]

theorem placeIn_pop (s : List (Int × Bool)) (h : Wait s) : ∃ more, ∀ om, placeIn om s = plOf om (popN s) more := by
  induction s with
  | nil => exact ⟨false, fun om => rfl⟩
  | cons x r ih =>
    obtain ⟨c, b⟩ := x
    have hc := h (c, b) (by simp)
    simp only at hc
    by_cases h1 : c - 1 = 0
    · obtain ⟨more, hm⟩ := ih h.tail
      refine ⟨more, fun om => ?_⟩
      simp only [placeIn, popN, if_pos h1]
      rw [h1]
      exact hm om
    · refine ⟨true, fun om => ?_⟩
      simp only [placeIn, popN, if_neg h1, plOf, if_true]
      have e : (c - 1).toNat = (c - 1 - 1).toNat + 1 := by omega
      rw [e, List.replicate_succ, List.cons_append, wt_cons, wt_cons]

theorem place_push (om : Bool → Int) (a : Int) (b : Bool) (s : List (Int × Bool)) (ha : 1 ≤ a) : plOf om ((a, b) :: s) true = List.replicate a.toNat (wt om ((a, b) :: s)) ++ placeIn om s := by
  simp only [plOf, if_true, placeIn]
  have e : a.toNat = (a - 1).toNat + 1 := by omega
  rw [e, List.replicate_succ, List.cons_append]

theorem foldl_map_add (l : List Int) (d c x : Int) : (l.map (c + ·)).foldl max (max d (c + x)) = max d (c + l.foldl max x) := by
  induction l generalizing x with
  | nil => rfl
  | cons y l ih =>
    simp only [List.map_cons, List.foldl_cons]
    rw [Int.max_assoc, show max (c + x) (c + y) = c + max x y by omega]
    exact ih _

theorem fin_step (d p de : Int) (pl R : List Int) (a : Nat) (h : a ≤ R.length) :
    fin d (p :: pl) ((gmax (R.take a) + de) :: R.drop a) = fin (max d (p + de)) (List.replicate a (p + de) ++ pl) R := by
  unfold fin
  have hz : List.zipWith (· + ·) (List.replicate a (p + de) ++ pl) R = (R.take a).map ((p + de) + ·) ++ List.zipWith (· + ·) pl (R.drop a) := by
    have hR := (List.take_append_drop a R).symm
    have hl : (List.replicate a (p + de)).length = (R.take a).length := by rw [List.length_replicate, List.length_take]; omega
    have e : List.zipWith (· + ·) (List.replicate a (p + de) ++ pl) R = List.zipWith (· + ·) (List.replicate a (p + de) ++ pl) (R.take a ++ R.drop a) := by rw [List.take_append_drop]
    rw [e, List.zipWith_append hl]
    congr 1
    generalize hQ : R.take a = Q at *
    have : Q.length = a := by rw [← hl, List.length_replicate]
    clear hQ hR e hl h
    subst this
    induction Q with
    | nil => rfl
    | cons y Q ih => simp only [List.length_cons, List.replicate_succ, List.zipWith_cons_cons, List.map_cons, ih]
  rw [hz, List.foldl_append]
  simp only [List.zipWith_cons_cons, List.foldl_cons]
  have := foldl_map_add (R.take a) d (p + de) 0
  rw [Int.add_zero] at this
  rw [this]
  congr 1
  unfold gmax
  omega

def omD (_ : Bool) : Int := 1
def omN (b : Bool) : Int := if b then 1 else 0
theorem wt_omD (s : List (Int × Bool)) : wt omD s = s.length := by
  induction s with
  | nil => rfl
  | cons x s ih => obtain ⟨c, b⟩ := x; rw [wt_cons, ih]; simp [omD]; omega
theorem wt_omN (s : List (Int × Bool)) : wt omN s = insideS s := by
  induction s with
  | nil => rfl
  | cons x s ih =>
    obtain ⟨c, b⟩ := x
    rw [wt_cons, ih]
    unfold insideS omN
    cases b
    · simp
    · simp; omega
theorem depthNum_om (op g : Int) : depthNum op g = g + omD (aggregate op) := rfl
theorem nestNum_om (op g : Int) : nestNum op g = g + omN (aggregate op) := by unfold nestNum omN; split <;> simp

theorem step_num (num : Int → Int → Int) (om : Bool → Int) (hnum : ∀ op g, num op g = g + om (aggregate op)) (d : Int) (t : Term) (ts : List Term) (s : List (Int × Bool)) (hl : (arity t.op).toNat ≤ (rl num ts).length) :
    fin d (plOf om s true) (rl num (t :: ts)) = fin (max d (wt om ((arity t.op, aggregate t.op) :: s))) (List.replicate (arity t.op).toNat (wt om ((arity t.op, aggregate t.op) :: s)) ++ placeIn om s) (rl num ts) := by
  simp only [rl, plOf, if_true]
  rw [hnum, fin_step _ _ _ _ _ _ hl, wt_cons, Int.add_comm (om _) (wt om s)]

theorem refGo_spec (ts : List Term) : ∀ (s : List (Int × Bool)) (d n : Int) (more : Bool), Wait s → Full ts (plOf omD s more).length → Full ts (plOf omN s more).length →
    refGo ts s d n = (fin d (plOf omD s more) (rl depthNum ts), fin n (plOf omN s more) (rl nestNum ts)) := by
  induction ts with
  | nil =>
    intro s d n more _ h _
    cases more with
    | false => rfl
    | true =>
      rcases h with ⟨_, h⟩ | ⟨_, h⟩
      · simp [plOf] at h; omega
      · simp [scan] at h
  | cons t ts ih =>
    intro s d n more hw hD hN
    cases more with
    | false => have := hD.cons.1; simp [plOf] at this
    | true =>
      obtain ⟨_, h0, hD2⟩ := hD.cons
      obtain ⟨_, _, hN2⟩ := hN.cons
      have lD := rl_length depthNum ts _ hD2
      have lN := rl_length nestNum ts _ hN2
      have eD : ((plOf omD s true).length : Int) = 1 + (placeIn omD s).length := by simp [plOf]; omega
      have eN : ((plOf omN s true).length : Int) = 1 + (placeIn omN s).length := by simp [plOf]; omega
      rw [step_num depthNum omD depthNum_om d t ts s (by omega), step_num nestNum omN nestNum_om n t ts s (by omega)]
      simp only [refGo]
      rw [← wt_omN, ← wt_omD]
      rcases Int.lt_or_eq_of_le h0 with ha | ha
      · have hne : normS ((arity t.op, aggregate t.op) :: s) = (arity t.op, aggregate t.op) :: s := normS_pos _ _ _ (by omega)
        rw [hne, ← place_push omD _ _ _ (by omega), ← place_push omN _ _ _ (by omega)]
        refine ih _ _ _ _ ?_ ?_ ?_
        · have := normS_wait (b := aggregate t.op) hw h0 (arity_le t.op).2
          rw [hne] at this
          exact this.1
        · rw [place_push _ _ _ _ (by omega), List.length_append, List.length_replicate]
          rw [eD] at hD2
          have : (((arity t.op).toNat + (placeIn omD s).length : Nat) : Int) = 1 + (placeIn omD s).length + (arity t.op - 1) := by omega
          rw [this]; exact hD2
        · rw [place_push _ _ _ _ (by omega), List.length_append, List.length_replicate]
          rw [eN] at hN2
          have : (((arity t.op).toNat + (placeIn omN s).length : Nat) : Int) = 1 + (placeIn omN s).length + (arity t.op - 1) := by omega
          rw [this]; exact hN2
      · have hne : normS ((arity t.op, aggregate t.op) :: s) = popN s := by simp [normS, ← ha]
        obtain ⟨more, hm⟩ := placeIn_pop s hw
        rw [hne, ← ha]
        simp only [Int.toNat_zero, List.replicate_zero, List.nil_append]
        rw [hm omD, hm omN]
        refine ih _ _ _ _ (popN_wait hw).1 ?_ ?_
        · rw [← hm omD]; rw [eD, ← ha] at hD2
          have : (1 + ((placeIn omD s).length : Int) + (0 - 1)) = (placeIn omD s).length := by omega
          rw [this] at hD2; exact hD2
        · rw [← hm omN]; rw [eN, ← ha] at hN2
          have : (1 + ((placeIn omN s).length : Int) + (0 - 1)) = (placeIn omN s).length := by omega
          rw [this] at hN2; exact hN2

theorem levelsF_fin (num : Int → Int → Int) (hn : ∀ op g, 0 ≤ g → 0 ≤ num op g ∧ num op g ≤ g + 1) (es : List Term) (h : endF es 0 = es.length) : fin 0 [0] (rl num es) = levelsF num es := by
  have hF := full_of_end h
  have hl := rl_length num es 1 hF
  obtain ⟨x, hx⟩ : ∃ x, rl num es = [x] := List.length_eq_one_iff.1 (by omega)
  have hlev := lev_eq_rl num es 1 hF
  unfold levelsF
  rw [if_pos h, hlev, hx]
  have hb := (lev_bound num hn es).2 x (by rw [hlev, hx]; simp)
  simp [fin]; omega

/-- P5.3: both ways agree. -/
theorem refGo_eq (es : List Term) (h : endF es 0 = es.length) : refGo es [] 0 0 = (depthF es, nestF es) := by
  have hF := full_of_end h
  rw [refGo_spec es [] 0 0 true (fun _ h => by simp at h) hF hF]
  show (fin 0 [0] (rl depthNum es), fin 0 [0] (rl nestNum es)) = _
  rw [levelsF_fin depthNum depthNum_ok es h, levelsF_fin nestNum nestNum_ok es h]
  rfl

theorem one_iff (es : List Term) : oneF es = (endF es 0 == es.length) := by
  unfold oneF
  rw [Bool.eq_iff_iff]
  simp
  intro h
  have := endF_le es 0
  omega

theorem arity_of_end (es : List Term) (h : endF es 0 = es.length) : ∀ t ∈ es, 0 ≤ arity t.op := by
  intro t ht
  obtain ⟨i, hi, rfl⟩ := List.getElem_of_mem ht
  exact (lev_at depthNum (full_of_end h) hi).1

end Go.Proofs.YtgemlgpjbclonaaDoor

/- Plain laws of layer 5: operands follow one another; parts of an expression. -/
namespace Go.Proofs.YtgemlgpjbclonaaDoor

theorem scan_add (l : List Term) : ∀ (m1 m2 : Int), 1 ≤ m1 → 1 ≤ m2 → scan l (m1 + m2) = (match scan l m1 with | none => none | some n => (scan (l.drop n) m2).map (n + ·)) := by
  induction l with
  | nil => intro m1 m2 _ _; rfl
  | cons t ts ih =>
    intro m1 m2 h1 h2
    simp only [scan]
    by_cases ha : arity t.op < 0
    · simp only [if_pos ha]
    · simp only [if_neg ha]
      rw [if_neg (by omega)]
      by_cases h0 : m1 + (arity t.op - 1) = 0
      · rw [if_pos h0]
        simp only [List.drop_succ_cons, List.drop_zero]
        rw [show m1 + m2 + (arity t.op - 1) = m2 by omega]
        congr 1; funext x; omega
      · rw [if_neg h0, show m1 + m2 + (arity t.op - 1) = (m1 + (arity t.op - 1)) + m2 by omega, ih _ _ (by omega) h2]
        cases scan ts (m1 + (arity t.op - 1)) with
        | none => rfl
        | some n =>
          simp only [Option.map_some, List.drop_succ_cons, Option.map_map]
          congr 1; funext x; simp; omega

theorem endF_nat (es : List Term) (k : Nat) (h : k < es.length) : endF es (k : Int) = scanAt es k 1 := by
  unfold endF
  rw [if_neg (by omega), Int.toNat_natCast]

theorem iterEnd_scan (es : List Term) : ∀ (a : Nat) (p n : Nat), 1 ≤ a → scan (es.drop p) (a : Int) = some n → iterEnd es a (p : Int) = ((p + n : Nat) : Int) := by
  intro a
  induction a with
  | zero => intro p n h; omega
  | succ a ih =>
    intro p n _ h
    have hp : p < es.length := by
      rcases Nat.lt_or_ge p es.length with hlt | hge
      · exact hlt
      · rw [List.drop_eq_nil_of_le hge] at h; simp [scan] at h
    rcases Nat.eq_zero_or_pos a with h0 | h0
    · subst h0
      simp only [iterEnd]
      rw [endF_nat es p hp]
      unfold scanAt
      rw [show ((0 + 1 : Nat) : Int) = 1 from rfl] at h
      rw [h]; simp
    · rw [show ((a + 1 : Nat) : Int) = 1 + (a : Int) by omega, scan_add _ 1 a (by omega) (by omega)] at h
      cases hs : scan (es.drop p) 1 with
      | none => rw [hs] at h; cases h
      | some q =>
        rw [hs] at h
        simp only [List.drop_drop] at h
        cases hr : scan (es.drop (p + q)) (a : Int) with
        | none => rw [hr] at h; cases h
        | some r =>
          rw [hr] at h
          simp at h
          simp only [iterEnd]
          have e : endF es (p : Int) = ((p + q : Nat) : Int) := by
            rw [endF_nat es p hp]; unfold scanAt; rw [hs]; simp
          rw [e, ih _ _ h0 hr]; omega

theorem iterEnd_snoc (es : List Term) (k : Nat) (p : Int) : iterEnd es (k + 1) p = endF es (iterEnd es k p) := by
  induction k generalizing p with
  | zero => rfl
  | succ k ih => exact ih (endF es p)

/-- Each place of a whole expression begins one. -/
theorem end_some {es : List Term} (h : Full es 1) {i : Nat} (hi : i < es.length) : ∃ n, scan (es.drop i) 1 = some n := by
  obtain ⟨m, hm⟩ := h.drop i (by omega)
  have hm' := hm
  rw [List.drop_eq_getElem_cons hi] at hm'
  have h1 := hm'.cons.1
  rcases hm with ⟨hn, _⟩ | ⟨_, hs⟩
  · have := congrArg List.length hn; simp at this; omega
  · rcases Int.lt_or_eq_of_le h1 with hlt | heq
    · rw [show m = 1 + (m - 1) by omega, scan_add _ 1 (m - 1) (by omega) (by omega)] at hs
      cases hq : scan (es.drop i) 1 with
      | none => rw [hq] at hs; cases hs
      | some n => exact ⟨n, rfl⟩
    · rw [← heq] at hs; exact ⟨_, hs⟩

theorem end_nonneg {es : List Term} (h : Full es 1) {i : Nat} (hi : i < es.length) : (i : Int) < endF es i ∧ endF es i ≤ es.length := by
  obtain ⟨n, hn⟩ := end_some h hi
  have := scan_le _ _ _ hn
  rw [endF_nat es i hi]
  unfold scanAt
  rw [hn]
  simp at this ⊢; omega

theorem iterEnd_arity {es : List Term} (h : Full es 1) {i : Nat} (hi : i < es.length) : iterEnd es (arity es[i].op).toNat ((i : Int) + 1) = endF es i := by
  obtain ⟨n, hn⟩ := end_some h hi
  have h0 := (lev_at depthNum h hi).1
  rw [endF_nat es i hi]
  unfold scanAt
  rw [hn]
  have hn' := hn
  rw [List.drop_eq_getElem_cons hi] at hn'
  simp only [scan] at hn'
  rw [if_neg (by omega)] at hn'
  by_cases ha : arity es[i].op = 0
  · rw [ha] at hn' ⊢
    simp at hn'
    subst hn'
    rfl
  · rw [if_neg (by omega)] at hn'
    cases hs : scan (es.drop (i + 1)) (1 + (arity es[i].op - 1)) with
    | none => rw [hs] at hn'; cases hn'
    | some q =>
      rw [hs] at hn'
      simp at hn'
      have := iterEnd_scan es (arity es[i].op).toNat (i + 1) q (by omega) (by rw [Int.toNat_of_nonneg h0, ← hs]; congr 1; omega)
      rw [show ((i : Int) + 1) = ((i + 1 : Nat) : Int) by omega, this]
      simp; omega

theorem operand_iter {es : List Term} (h : Full es 1) {i : Nat} (hi : i < es.length) (k : Nat) (hk : (k : Int) < arity es[i].op) : operandF es i k = iterEnd es k ((i : Int) + 1) := by
  unfold operandF
  have := end_nonneg h hi
  rw [if_neg (by rw [opAt_get hi]; omega), Int.toNat_natCast]

theorem operand_none {es : List Term} {i : Nat} (hi : i < es.length) : operandF es i (arity es[i].op) = -1 := by
  unfold operandF
  rw [if_pos (by rw [opAt_get hi]; omega)]

theorem end_of_depth {es : List Term} (h : depthF es ≠ 0) : endF es 0 = es.length := by
  unfold depthF levelsF at h
  by_cases he : endF es 0 = es.length
  · exact he
  · rw [if_neg he] at h; omega

end Go.Proofs.YtgemlgpjbclonaaDoor

/- Plain laws of layer 5: parts, growth and cuts of expressions. -/
namespace Go.Proofs.YtgemlgpjbclonaaDoor

theorem scan_take (l : List Term) : ∀ (m : Int) (n : Nat), scan l m = some n → scan (l.take n) m = some n := by
  induction l with
  | nil => intro m n h; simp [scan] at h
  | cons t ts ih =>
    intro m n h
    simp only [scan] at h
    split at h
    · cases h
    · rename_i ha
      split at h
      · rename_i h0
        injection h with h; subst h
        simp only [List.take_succ_cons, List.take_zero, scan, if_neg ha, if_pos h0]
      · rename_i h0
        cases hs : scan ts (m + (arity t.op - 1)) with
        | none => rw [hs] at h; cases h
        | some q =>
          rw [hs] at h; injection h with h; subst h
          simp only [List.take_succ_cons, scan, if_neg ha, if_neg h0, ih _ _ hs]
          rfl

theorem scan_take_lt (l : List Term) : ∀ (m : Int) (n k : Nat), scan l m = some n → k < n → scan (l.take k) m = none := by
  induction l with
  | nil => intro m n k h; simp [scan] at h
  | cons t ts ih =>
    intro m n k h hk
    cases k with
    | zero => simp [scan]
    | succ k =>
      simp only [scan] at h
      split at h
      · cases h
      · rename_i ha
        split at h
        · injection h with h; omega
        · rename_i h0
          cases hs : scan ts (m + (arity t.op - 1)) with
          | none => rw [hs] at h; cases h
          | some q =>
            rw [hs] at h; injection h with h
            simp only at h
            simp only [List.take_succ_cons, scan, if_neg ha, if_neg h0, ih _ _ k hs (by omega)]
            rfl

theorem scan_append (l r : List Term) : ∀ (m : Int) (n : Nat), scan l m = some n → scan (l ++ r) m = some n := by
  induction l with
  | nil => intro m n h; simp [scan] at h
  | cons t ts ih =>
    intro m n h
    simp only [scan] at h
    split at h
    · cases h
    · rename_i ha
      split at h
      · rename_i h0
        simp only [List.cons_append, scan, if_neg ha, if_pos h0]; exact h
      · rename_i h0
        cases hs : scan ts (m + (arity t.op - 1)) with
        | none => rw [hs] at h; cases h
        | some q =>
          rw [hs] at h
          simp only [List.cons_append, scan, if_neg ha, if_neg h0, ih _ _ hs]; exact h

theorem full_end {p : List Term} (h : Full p 1) : endF p 0 = p.length := by
  rcases h with ⟨_, h⟩ | ⟨_, h⟩
  · omega
  · have := scan_le _ _ _ h
    unfold endF scanAt
    rw [if_neg (by omega)]
    simp only [Int.toNat_zero, List.drop_zero, h]
    simp

theorem Full.pos {p : List Term} (h : Full p 1) : 0 < p.length := by
  rcases h with ⟨_, h⟩ | ⟨_, h⟩
  · omega
  · exact (scan_le _ _ _ h).1

theorem Full.add {p q : List Term} {m1 m2 : Int} (hp : Full p m1) (hq : Full q m2) (h1 : 1 ≤ m1) (h2 : 1 ≤ m2) : Full (p ++ q) (m1 + m2) := by
  rcases hp with ⟨_, h⟩ | ⟨_, hp⟩
  · omega
  · rcases hq with ⟨_, h⟩ | ⟨_, hq⟩
    · omega
    · right
      refine ⟨by omega, ?_⟩
      rw [scan_add _ _ _ h1 h2, scan_append p q _ _ hp]
      simp only [List.drop_left, hq, Option.map_some, List.length_append]

theorem Full.mk {t : Term} {ts : List Term} (h : Full ts (arity t.op)) (h1 : 1 ≤ arity t.op) : Full (t :: ts) 1 := by
  rcases h with ⟨_, h⟩ | ⟨_, h⟩
  · omega
  · right
    refine ⟨by omega, ?_⟩
    simp only [scan]
    rw [if_neg (by omega), if_neg (by omega), show 1 + (arity t.op - 1) = arity t.op by omega, h]
    rfl

theorem rl_append (num : Int → Int → Int) (p r : List Term) : ∀ m, Full p m → rl num (p ++ r) = rl num p ++ rl num r := by
  induction p with
  | nil => intro m _; rfl
  | cons t ts ih =>
    intro m h
    obtain ⟨h1, h2, h3⟩ := h.cons
    have hl := rl_length num ts _ h3
    simp only [List.cons_append, rl]
    rw [ih _ h3, List.take_append_of_le_length (by omega), List.drop_append_of_le_length (by omega)]

theorem rl_single (num : Int → Int → Int) {p : List Term} (h : Full p 1) : rl num p = [levelsF num p] := by
  have hl := rl_length num p 1 h
  obtain ⟨x, hx⟩ : ∃ x, rl num p = [x] := List.length_eq_one_iff.1 (by omega)
  have hlev := lev_eq_rl num p 1 h
  unfold levelsF
  rw [if_pos (full_end h), hlev, hx]
  rfl

theorem gmax_mem_le (l : List Int) : ∀ x ∈ l, x ≤ gmax l := by
  induction l with
  | nil => intro x hx; simp at hx
  | cons a l ih =>
    intro x hx
    rw [gmax_cons']
    rcases List.mem_cons.1 hx with e | e
    · subst e; omega
    · have := ih x e; omega

/-- What bounds the numbers of the expressions from one place on bounds them from the next place on. -/
theorem rl_next (num : Int → Int → Int) (hn : ∀ op g, 0 ≤ g → g ≤ num op g) (es : List Term) (i : Nat) (hi : i < es.length) (B : Int) (h : ∀ x ∈ rl num (es.drop i), x ≤ B) : ∀ x ∈ rl num (es.drop (i + 1)), x ≤ B := by
  intro x hx
  rw [List.drop_eq_getElem_cons hi] at h
  simp only [rl] at h
  rw [← List.take_append_drop (arity es[i].op).toNat (rl num (es.drop (i + 1)))] at hx
  rcases List.mem_append.1 hx with e | e
  · have h1 := gmax_mem_le _ x e
    have h2 := hn es[i].op _ (gmax_nonneg ((rl num (es.drop (i + 1))).take (arity es[i].op).toNat))
    have h3 := h _ (List.mem_cons_self ..)
    omega
  · exact h x (List.mem_cons_of_mem _ e)

theorem rl_from (num : Int → Int → Int) (hn : ∀ op g, 0 ≤ g → g ≤ num op g) (es : List Term) (B : Int) (j : Nat) (h : ∀ x ∈ rl num (es.drop j), x ≤ B) : ∀ i, j ≤ i → i ≤ es.length → ∀ x ∈ rl num (es.drop i), x ≤ B := by
  intro i hji
  induction i with
  | zero => intro _; have : j = 0 := by omega
            subst this; exact h
  | succ i ih =>
    intro hi
    rcases Nat.lt_or_ge i j with hlt | hge
    · have : j = i + 1 := by omega
      subst this; exact h
    · exact rl_next num hn es i (by omega) B (ih hge (by omega))

theorem depthNum_ge (op g : Int) (_ : 0 ≤ g) : g ≤ depthNum op g := by unfold depthNum; omega
theorem nestNum_ge (op g : Int) (_ : 0 ≤ g) : g ≤ nestNum op g := by unfold nestNum; split <;> omega

/-- The part of an expression from a place to its end. -/
def partOf (es : List Term) (i : Nat) : List Term := (es.drop i).take ((endF es i).toNat - i)

theorem part_full {es : List Term} (h : Full es 1) {i : Nat} (hi : i < es.length) : Full (partOf es i) 1 ∧ ∃ r, es.drop i = partOf es i ++ r := by
  obtain ⟨n, hn⟩ := end_some h hi
  have e : (endF es i).toNat - i = n := by
    rw [endF_nat es i hi]; unfold scanAt; rw [hn]; simp; omega
  have hle := scan_le _ _ _ hn
  unfold partOf
  rw [e]
  refine ⟨?_, (es.drop i).drop n, (List.take_append_drop n _).symm⟩
  right
  refine ⟨by omega, ?_⟩
  rw [scan_take _ _ _ hn, List.length_take]
  simp at hle ⊢; omega

theorem part_level (num : Int → Int → Int) {es : List Term} (h : Full es 1) {i : Nat} (hi : i < es.length) : levelsF num (partOf es i) ∈ rl num (es.drop i) := by
  obtain ⟨hF, r, hr⟩ := part_full h hi
  rw [hr, rl_append num _ r 1 hF, rl_single num hF]
  simp

theorem part_le (num : Int → Int → Int) (hn : ∀ op g, 0 ≤ g → g ≤ num op g) {es : List Term} (h : Full es 1) {i : Nat} (hi : i < es.length) : levelsF num (partOf es i) ≤ levelsF num es := by
  refine rl_from num hn es _ 0 (fun x hx => ?_) i (by omega) (by omega) _ (part_level num h hi)
  rw [List.drop_zero, rl_single num h] at hx
  simp at hx; omega

theorem part_lt {es : List Term} (h : Full es 1) {i : Nat} (hi : i < es.length) (h0 : i ≠ 0) : depthF (partOf es i) < depthF es := by
  have hb : levelsF depthNum (partOf es i) ≤ levelsF depthNum es - 1 := by
    refine rl_from depthNum depthNum_ge es _ 1 (fun x hx => ?_) i (by omega) (by omega) _ (part_level depthNum h hi)
    have hs := rl_single depthNum h
    have hp := h.pos
    cases es with
    | nil => simp at hp
    | cons t ts =>
      simp only [rl] at hs
      injection hs with h1 h2
      simp only [List.drop_succ_cons, List.drop_zero] at hx
      rw [← List.take_append_drop (arity t.op).toNat (rl depthNum ts), h2, List.append_nil] at hx
      have hg := gmax_mem_le _ x hx
      rw [show depthNum t.op (gmax ((rl depthNum ts).take (arity t.op).toNat)) = gmax ((rl depthNum ts).take (arity t.op).toNat) + 1 from rfl] at h1
      omega
  unfold depthF; omega

theorem validF_parts (es : List Term) (vars : Int) : validF es vars = true ↔ es.length ≤ 200 ∧ Full es 1 ∧ (∀ t ∈ es, argF t vars = true) ∧ depthF es ≤ 24 ∧ nestF es ≤ 2 := by
  unfold validF
  simp only [Bool.and_eq_true, decide_eq_true_eq, beq_iff_eq, List.all_eq_true]
  constructor
  · rintro ⟨⟨⟨⟨a, b⟩, c⟩, d⟩, e⟩
    exact ⟨a, full_of_end b, c, d, e⟩
  · rintro ⟨a, b, c, d, e⟩
    exact ⟨⟨⟨⟨a, full_end b⟩, c⟩, d⟩, e⟩

theorem part_valid {es : List Term} {vars : Int} (h : validF es vars = true) {i : Nat} (hi : i < es.length) : validF (partOf es i) vars = true := by
  obtain ⟨h1, h2, h3, h4, h5⟩ := (validF_parts es vars).1 h
  have hsub : ∀ t ∈ partOf es i, t ∈ es := fun t ht => List.mem_of_mem_drop (List.mem_of_mem_take ht)
  refine (validF_parts _ _).2 ⟨?_, (part_full h2 hi).1, fun t ht => h3 t (hsub t ht), Int.le_trans (part_le depthNum depthNum_ge h2 hi) h4, Int.le_trans (part_le nestNum nestNum_ge h2 hi) h5⟩
  unfold partOf
  rw [List.length_take, List.length_drop]; omega

/-- A cut expression is none. -/
theorem cut_end {es : List Term} (h : Full es 1) (k : Nat) (hk : k < es.length) : endF (es.take k) 0 = -1 := by
  rcases h with ⟨_, h⟩ | ⟨_, h⟩
  · omega
  · unfold endF
    split
    · rfl
    · unfold scanAt
      simp only [Int.toNat_zero, List.drop_zero]
      rw [scan_take_lt es 1 _ k h hk]
theorem long_end {es : List Term} (h : Full es 1) (t : Term) : endF (es ++ [t]) 0 = es.length := by
  have hp := h.pos
  rcases h with ⟨_, h⟩ | ⟨_, h⟩
  · omega
  · unfold endF
    rw [if_neg (by simp)]
    unfold scanAt
    simp only [Int.toNat_zero, List.drop_zero]
    rw [scan_append es [t] 1 _ h]; simp
theorem not_end {es : List Term} (h : endF es 0 ≠ es.length) : depthF es = 0 ∧ nestF es = 0 ∧ ∀ vars, validF es vars = false := by
  refine ⟨by unfold depthF levelsF; rw [if_neg h], by unfold nestF levelsF; rw [if_neg h], fun vars => ?_⟩
  unfold validF
  rw [show (endF es 0 == (es.length : Int)) = false by simpa using h]
  simp

/-- An operation ahead of whole expressions. -/
theorem grow_levels (num : Int → Int → Int) {t : Term} {ts : List Term} (h : Full ts (arity t.op)) (h1 : 1 ≤ arity t.op) : levelsF num (t :: ts) = num t.op (gmax (rl num ts)) := by
  have hs := rl_single num (Full.mk h h1)
  have hl := rl_length num ts _ h
  simp only [rl] at hs
  injection hs with h2 _
  rw [← h2, List.take_of_length_le (by omega)]

/- Renaming variables. -/
def renTerm (m : List Int) (t : Term) : Term := if t.op = 5 ∨ t.op = 12 then ⟨t.op, m.getD t.arg.toNat 0⟩ else t
def inVars (m : List Int) : Bool := m.all fun x => decide (0 ≤ x ∧ x < 6)
def renameF (es : List Term) (m : List Int) : List Term × Int :=
  if validF es m.length = false then ([], 7) else if inVars m = false then ([], 2) else (es.map (renTerm m), 0)
def renPart (m : List Int) (es : List Term) (k : Nat) : List Term := (es.take k).map (renTerm m) ++ es.drop k

theorem renPart_zero (m : List Int) (es : List Term) : renPart m es 0 = es := by simp [renPart]
theorem renPart_full (m : List Int) (es : List Term) (k : Nat) (h : es.length ≤ k) : renPart m es k = es.map (renTerm m) := by
  unfold renPart; rw [List.take_of_length_le h, List.drop_eq_nil_of_le h, List.append_nil]
theorem renPart_length (m : List Int) (es : List Term) (k : Nat) : (renPart m es k).length = es.length := by
  unfold renPart; simp; omega
theorem renPart_get (m : List Int) (es : List Term) (k : Nat) (h : k < es.length) : (renPart m es k)[k]? = some es[k] := by
  unfold renPart
  rw [List.getElem?_append_right (by simp; omega)]
  simp [Nat.min_eq_left (Nat.le_of_lt h), List.getElem?_eq_getElem h]
theorem renPart_succ (m : List Int) (es : List Term) (k : Nat) (h : k < es.length) : renPart m es (k + 1) = (renPart m es k).set k (renTerm m es[k]) := by
  unfold renPart
  have hl : ((es.take k).map (renTerm m)).length = k := by simp; omega
  rw [List.take_succ_eq_append_getElem h, List.map_append, List.append_assoc, List.set_append_right _ _ (by omega), hl, Nat.sub_self, List.drop_eq_getElem_cons h]
  rfl

/- The variables that are read. -/
def readGo : List Term → Nat → Nat → Nat × Nat
  | [], o, n => (o, n)
  | t :: ts, o, n => if t.op = 5 then readGo ts (o ||| 1 <<< t.arg.toNat) n else if t.op = 12 then readGo ts o (n ||| 1 <<< t.arg.toNat) else readGo ts o n
def readsF (es : List Term) : Nat × Nat := if validF es 6 = false then (0, 0) else readGo es 0 0

end Go.Proofs.YtgemlgpjbclonaaDoor

/- Expressions as trees: every list of terms that is one expression is a tree, each operation ahead of its operands. -/
namespace Go.Proofs.YtgemlgpjbclonaaDoor

inductive Ex where
  | leaf (t : Term)
  | un (t : Term) (a : Ex)
  | bin (t : Term) (a b : Ex)
  | tri (t : Term) (a b c : Ex)

def Ex.terms : Ex → List Term
  | .leaf t => [t]
  | .un t a => t :: a.terms
  | .bin t a b => t :: (a.terms ++ b.terms)
  | .tri t a b c => t :: (a.terms ++ (b.terms ++ c.terms))

def Ex.len (x : Ex) : Nat := x.terms.length

def Ex.ok : Ex → Prop
  | .leaf t => arity t.op = 0
  | .un t a => arity t.op = 1 ∧ a.ok
  | .bin t a b => arity t.op = 2 ∧ a.ok ∧ b.ok
  | .tri t a b c => arity t.op = 3 ∧ a.ok ∧ b.ok ∧ c.ok

theorem Ex.pos (x : Ex) : 0 < x.len := by cases x <;> simp [Ex.len, Ex.terms]

theorem Ex.full {x : Ex} (h : x.ok) : Full x.terms 1 := by
  induction x with
  | leaf t =>
    simp only [Ex.ok] at h
    right
    refine ⟨by omega, ?_⟩
    simp [Ex.terms, scan, h]
  | un t a ih =>
    obtain ⟨h1, h2⟩ := h
    exact Full.mk (by rw [h1]; exact ih h2) (by omega)
  | bin t a b iha ihb =>
    obtain ⟨h1, h2, h3⟩ := h
    exact Full.mk (by rw [h1]; exact Full.add (m1 := 1) (m2 := 1) (iha h2) (ihb h3) (by omega) (by omega)) (by omega)
  | tri t a b c iha ihb ihc =>
    obtain ⟨h1, h2, h3, h4⟩ := h
    exact Full.mk (by rw [h1]; exact Full.add (m1 := 1) (m2 := 2) (iha h2) (Full.add (m1 := 1) (m2 := 1) (ihb h3) (ihc h4) (by omega) (by omega)) (by omega) (by omega)) (by omega)

theorem parse (l : List Term) : ∀ m, Full l m → ∃ xs : List Ex, (∀ x ∈ xs, x.ok) ∧ xs.flatMap Ex.terms = l ∧ (xs.length : Int) = m := by
  induction l with
  | nil =>
    intro m h
    rcases h with ⟨_, h⟩ | ⟨_, h⟩
    · exact ⟨[], fun _ h => by simp at h, rfl, by simp [h]⟩
    · simp [scan] at h
  | cons t ts ih =>
    intro m h
    obtain ⟨h1, h2, h3⟩ := h.cons
    obtain ⟨xs, hok, hfl, hlen⟩ := ih _ h3
    have h4 := (arity_le t.op).2
    rcases (show arity t.op = 0 ∨ arity t.op = 1 ∨ arity t.op = 2 ∨ arity t.op = 3 by omega) with ha | ha | ha | ha
    · refine ⟨.leaf t :: xs, ?_, by simp [Ex.terms, hfl], by simp; omega⟩
      intro x hx
      rcases List.mem_cons.1 hx with e | e
      · subst e; exact ha
      · exact hok x e
    · match xs, hok, hfl, hlen with
      | [], _, _, hlen => simp at hlen; omega
      | a :: xs, hok, hfl, hlen =>
        refine ⟨.un t a :: xs, ?_, by simp [Ex.terms, ← hfl], by simp at hlen ⊢; omega⟩
        intro x hx
        rcases List.mem_cons.1 hx with e | e
        · subst e; exact ⟨ha, hok a (by simp)⟩
        · exact hok x (by simp [e])
    · match xs, hok, hfl, hlen with
      | [], _, _, hlen => simp at hlen; omega
      | [a], _, _, hlen => simp at hlen; omega
      | a :: b :: xs, hok, hfl, hlen =>
        refine ⟨.bin t a b :: xs, ?_, by simp [Ex.terms, ← hfl], by simp at hlen ⊢; omega⟩
        intro x hx
        rcases List.mem_cons.1 hx with e | e
        · subst e; exact ⟨ha, hok a (by simp), hok b (by simp)⟩
        · exact hok x (by simp [e])
    · match xs, hok, hfl, hlen with
      | [], _, _, hlen => simp at hlen; omega
      | [a], _, _, hlen => simp at hlen; omega
      | [a, b], _, _, hlen => simp at hlen; omega
      | a :: b :: c :: xs, hok, hfl, hlen =>
        refine ⟨.tri t a b c :: xs, ?_, by simp [Ex.terms, ← hfl], by simp at hlen ⊢; omega⟩
        intro x hx
        rcases List.mem_cons.1 hx with e | e
        · subst e; exact ⟨ha, hok a (by simp), hok b (by simp), hok c (by simp)⟩
        · exact hok x (by simp [e])

theorem parse1 {l : List Term} (h : Full l 1) : ∃ x : Ex, x.ok ∧ x.terms = l := by
  obtain ⟨xs, h1, h2, h3⟩ := parse l 1 h
  obtain ⟨x, rfl⟩ : ∃ x, xs = [x] := List.length_eq_one_iff.1 (by omega)
  exact ⟨x, h1 x (by simp), by simpa using h2⟩

/-- The expression stands at a place of a list. -/
def Ex.At (es : List Term) (k : Nat) (x : Ex) : Prop := x.ok ∧ ∃ r, es.drop k = x.terms ++ r

theorem At.whole {es : List Term} {x : Ex} (h : x.ok) (he : x.terms = es) : x.At es 0 := ⟨h, [], by simp [he]⟩

theorem drop_of_drop {es r : List Term} {k n : Nat} {p : List Term} (h : es.drop k = p ++ r) (hn : p.length = n) : es.drop (k + n) = r := by
  rw [← List.drop_drop, h, ← hn, List.drop_left]

theorem At.bound {es : List Term} {k : Nat} {x : Ex} (h : x.At es k) : k + x.len ≤ es.length := by
  obtain ⟨_, r, hr⟩ := h
  have := congrArg List.length hr
  have hp := x.pos
  simp only [List.length_drop, List.length_append] at this
  unfold Ex.len at *
  omega
theorem At.lt {es : List Term} {k : Nat} {x : Ex} (h : x.At es k) : k < es.length := by
  have := At.bound h
  have := x.pos
  omega

theorem drop_head {es r : List Term} {k : Nat} {t : Term} (h : es.drop k = t :: r) : es[k]? = some t ∧ es.drop (k + 1) = r := by
  refine ⟨?_, ?_⟩
  · have := congrArg (·[0]?) h
    simpa using this
  · exact drop_of_drop (p := [t]) h rfl

theorem At.leaf {es : List Term} {k : Nat} {t : Term} (h : (Ex.leaf t).At es k) : es[k]? = some t ∧ arity t.op = 0 := by
  obtain ⟨h1, r, hr⟩ := h
  exact ⟨(drop_head hr).1, h1⟩
theorem At.un {es : List Term} {k : Nat} {t : Term} {a : Ex} (h : (Ex.un t a).At es k) : es[k]? = some t ∧ arity t.op = 1 ∧ a.At es (k + 1) := by
  obtain ⟨⟨h1, h2⟩, r, hr⟩ := h
  obtain ⟨g1, g2⟩ := drop_head hr
  exact ⟨g1, h1, h2, r, g2⟩
theorem At.bin {es : List Term} {k : Nat} {t : Term} {a b : Ex} (h : (Ex.bin t a b).At es k) : es[k]? = some t ∧ arity t.op = 2 ∧ a.At es (k + 1) ∧ b.At es (k + 1 + a.len) := by
  obtain ⟨⟨h1, h2, h3⟩, r, hr⟩ := h
  obtain ⟨g1, g2⟩ := drop_head (r := _ ++ r) hr
  rw [List.append_assoc] at g2
  exact ⟨g1, h1, ⟨h2, _, g2⟩, h3, r, drop_of_drop g2 rfl⟩
theorem At.tri {es : List Term} {k : Nat} {t : Term} {a b c : Ex} (h : (Ex.tri t a b c).At es k) : es[k]? = some t ∧ arity t.op = 3 ∧ a.At es (k + 1) ∧ b.At es (k + 1 + a.len) ∧ c.At es (k + 1 + a.len + b.len) := by
  obtain ⟨⟨h1, h2, h3, h4⟩, r, hr⟩ := h
  obtain ⟨g1, g2⟩ := drop_head (r := _ ++ r) hr
  rw [List.append_assoc] at g2
  have g3 := drop_of_drop g2 rfl
  rw [List.append_assoc] at g3
  exact ⟨g1, h1, ⟨h2, _, g2⟩, ⟨h3, _, g3⟩, h4, r, drop_of_drop g3 rfl⟩

theorem At.endF {es : List Term} {k : Nat} {x : Ex} (h : x.At es k) : endF es (k : Int) = ((k + x.len : Nat) : Int) := by
  have hlt := At.lt h
  obtain ⟨hok, r, hr⟩ := h
  rw [endF_nat es k hlt]
  unfold scanAt
  rcases Ex.full hok with ⟨_, h⟩ | ⟨_, h⟩
  · omega
  · rw [hr, scan_append _ r _ _ h]; simp [Ex.len]

theorem opAt_some {es : List Term} {k : Nat} {t : Term} (h : es[k]? = some t) : opAt es (k : Int) = t.op := by
  obtain ⟨h1, h2⟩ := List.getElem?_eq_some_iff.1 h
  rw [opAt_get h1, h2]

theorem At.operand1 {es : List Term} {k : Nat} {x a : Ex} {t : Term} (h : x.At es k) (ht : es[k]? = some t) (har : 2 ≤ arity t.op) (ha : a.At es (k + 1)) : operandF es (k : Int) 1 = ((k + 1 + a.len : Nat) : Int) := by
  unfold operandF
  rw [At.endF h, opAt_some ht, if_neg (by omega)]
  show Go.Proofs.YtgemlgpjbclonaaDoor.endF es ((k : Int) + 1) = _
  rw [show (k : Int) + 1 = ((k + 1 : Nat) : Int) by omega, At.endF ha]
theorem At.operand2 {es : List Term} {k : Nat} {x a b : Ex} {t : Term} (h : x.At es k) (ht : es[k]? = some t) (har : 3 ≤ arity t.op) (ha : a.At es (k + 1)) (hb : b.At es (k + 1 + a.len)) : operandF es (k : Int) 2 = ((k + 1 + a.len + b.len : Nat) : Int) := by
  unfold operandF
  rw [At.endF h, opAt_some ht, if_neg (by omega)]
  show Go.Proofs.YtgemlgpjbclonaaDoor.endF es (Go.Proofs.YtgemlgpjbclonaaDoor.endF es ((k : Int) + 1)) = _
  rw [show (k : Int) + 1 = ((k + 1 : Nat) : Int) by omega, At.endF ha, At.endF hb]

def Ex.depth : Ex → Int
  | .leaf _ => 1
  | .un _ a => a.depth + 1
  | .bin _ a b => max a.depth b.depth + 1
  | .tri _ a b c => max a.depth (max b.depth c.depth) + 1
def Ex.nest : Ex → Int
  | .leaf _ => 0
  | .un t a => if aggregate t.op then a.nest + 1 else a.nest
  | .bin _ a b => max a.nest b.nest
  | .tri _ a b c => max a.nest (max b.nest c.nest)

theorem Ex.depth_pos (x : Ex) : 1 ≤ x.depth := by
  induction x <;> simp only [Ex.depth] <;> omega
theorem Ex.nest_pos (x : Ex) : 0 ≤ x.nest := by
  induction x with
  | leaf t => simp [Ex.nest]
  | un t a ih => simp only [Ex.nest]; split <;> omega
  | bin t a b iha ihb => simp only [Ex.nest]; omega
  | tri t a b c iha ihb ihc => simp only [Ex.nest]; omega

theorem agg_arity {op : Int} (h : aggregate op = true) : arity op = 1 := by
  unfold aggregate at h
  have : 20 ≤ op ∧ op ≤ 29 := by simpa using h
  unfold arity
  rw [if_neg (by omega), if_neg (by omega), if_pos (by omega)]
theorem agg_false {op : Int} (h : arity op ≠ 1) : aggregate op = false := by
  cases hb : aggregate op with
  | false => rfl
  | true => exact absurd (agg_arity hb) h

theorem levels_leaf (num : Int → Int → Int) {t : Term} (h : arity t.op = 0) : levelsF num [t] = num t.op 0 := by
  have hF : Full [t] 1 := Ex.full (x := .leaf t) h
  have := rl_single num hF
  simp only [rl] at this
  injection this with h1 _
  rw [← h1, h]; rfl
theorem Ex.levels_depth {x : Ex} (h : x.ok) : depthF x.terms = x.depth := by
  unfold depthF
  induction x with
  | leaf t => simp only [Ex.terms]; rw [levels_leaf _ h]; rfl
  | un t a ih =>
    obtain ⟨h1, h2⟩ := h
    have hp := a.depth_pos
    simp only [Ex.terms]
    rw [grow_levels _ (by rw [h1]; exact Ex.full h2) (by omega), rl_single _ (Ex.full h2), ih h2]
    simp [gmax, depthNum, Ex.depth]; omega
  | bin t a b iha ihb =>
    obtain ⟨h1, h2, h3⟩ := h
    have hp := a.depth_pos
    have hq := b.depth_pos
    simp only [Ex.terms]
    rw [grow_levels _ (by rw [h1]; exact Full.add (m1 := 1) (m2 := 1) (Ex.full h2) (Ex.full h3) (by omega) (by omega)) (by omega), rl_append _ _ _ 1 (Ex.full h2), rl_single _ (Ex.full h2), rl_single _ (Ex.full h3), iha h2, ihb h3]
    simp [gmax, depthNum, Ex.depth]; omega
  | tri t a b c iha ihb ihc =>
    obtain ⟨h1, h2, h3, h4⟩ := h
    have hp := a.depth_pos
    have hq := b.depth_pos
    have hr := c.depth_pos
    simp only [Ex.terms]
    rw [grow_levels _ (by rw [h1]; exact Full.add (m1 := 1) (m2 := 2) (Ex.full h2) (Full.add (m1 := 1) (m2 := 1) (Ex.full h3) (Ex.full h4) (by omega) (by omega)) (by omega) (by omega)) (by omega), rl_append _ _ _ 1 (Ex.full h2), rl_append _ _ _ 1 (Ex.full h3), rl_single _ (Ex.full h2), rl_single _ (Ex.full h3), rl_single _ (Ex.full h4), iha h2, ihb h3, ihc h4]
    simp [gmax, depthNum, Ex.depth]; omega
theorem Ex.levels_nest {x : Ex} (h : x.ok) : nestF x.terms = x.nest := by
  unfold nestF
  induction x with
  | leaf t =>
    simp only [Ex.terms]; rw [levels_leaf _ h]
    have := agg_false (op := t.op) (by rw [h]; omega)
    simp [nestNum, this, Ex.nest]
  | un t a ih =>
    obtain ⟨h1, h2⟩ := h
    have hp := a.nest_pos
    simp only [Ex.terms]
    rw [grow_levels _ (by rw [h1]; exact Ex.full h2) (by omega), rl_single _ (Ex.full h2), ih h2]
    have : gmax [a.nest] = a.nest := by simp [gmax]; omega
    rw [this]; simp [nestNum, Ex.nest]
  | bin t a b iha ihb =>
    obtain ⟨h1, h2, h3⟩ := h
    have hp := a.nest_pos
    have hq := b.nest_pos
    have hag := agg_false (op := t.op) (by rw [h1]; omega)
    simp only [Ex.terms]
    rw [grow_levels _ (by rw [h1]; exact Full.add (m1 := 1) (m2 := 1) (Ex.full h2) (Ex.full h3) (by omega) (by omega)) (by omega), rl_append _ _ _ 1 (Ex.full h2), rl_single _ (Ex.full h2), rl_single _ (Ex.full h3), iha h2, ihb h3]
    simp [gmax, nestNum, hag, Ex.nest]; omega
  | tri t a b c iha ihb ihc =>
    obtain ⟨h1, h2, h3, h4⟩ := h
    have hp := a.nest_pos
    have hq := b.nest_pos
    have hr := c.nest_pos
    have hag := agg_false (op := t.op) (by rw [h1]; omega)
    simp only [Ex.terms]
    rw [grow_levels _ (by rw [h1]; exact Full.add (m1 := 1) (m2 := 2) (Ex.full h2) (Full.add (m1 := 1) (m2 := 1) (Ex.full h3) (Ex.full h4) (by omega) (by omega)) (by omega) (by omega)) (by omega), rl_append _ _ _ 1 (Ex.full h2), rl_append _ _ _ 1 (Ex.full h3), rl_single _ (Ex.full h2), rl_single _ (Ex.full h3), rl_single _ (Ex.full h4), iha h2, ihb h3, ihc h4]
    simp [gmax, nestNum, hag, Ex.nest]; omega

/-- A valid expression, as a tree. -/
theorem valid_tree {es : List Term} {vars : Int} (h : validF es vars = true) : ∃ x : Ex, x.ok ∧ x.terms = es ∧ es.length ≤ 200 ∧ (∀ t ∈ es, argF t vars = true) ∧ x.depth ≤ 24 ∧ x.nest ≤ 2 := by
  obtain ⟨h1, h2, h3, h4, h5⟩ := (validF_parts es vars).1 h
  obtain ⟨x, hx, rfl⟩ := parse1 h2
  exact ⟨x, hx, rfl, h1, h3, by rw [← Ex.levels_depth hx]; exact h4, by rw [← Ex.levels_nest hx]; exact h5⟩

end Go.Proofs.YtgemlgpjbclonaaDoor

