/- The plain law of P5.3: the reference's way to count levels gives what the program's way gives. -/
import Derived.Test.YtnhhedecaejgcaaP05
namespace Go.Proofs.Ytnhhedecaejgcaa

theorem foldl_max_max (l : List Int) (a b : Int) : l.foldl max (max a b) = max a (l.foldl max b) := by
  induction l generalizing b with
  | nil => rfl
  | cons x l ih => simp only [List.foldl_cons]; rw [Int.max_assoc]; exact ih _
theorem gmax_snoc (x : Int) (l : List Int) : gmax (l ++ [x]) = max (gmax l) x := by
  unfold gmax; rw [List.foldl_append]; rfl
theorem gmax_cons' (x : Int) (l : List Int) : gmax (x :: l) = max x (gmax l) := by
  have h := foldl_max_max l x 0
  unfold gmax
  rw [List.foldl_cons, Int.max_comm 0 x]; exact h
theorem gmax_reverse (l : List Int) : gmax l.reverse = gmax l := by
  induction l with
  | nil => rfl
  | cons x l ih => rw [List.reverse_cons, gmax_snoc, ih, gmax_cons', Int.max_comm]

/-- The numbers of the expressions that a list consists of, in their order. -/
def rl (num : Int → Int → Int) : List Term → List Int
  | [] => []
  | t :: ts => num t.op (gmax ((rl num ts).take (arity t.op).toNat)) :: (rl num ts).drop (arity t.op).toNat

theorem lev_eq_rl (num : Int → Int → Int) (l : List Term) : ∀ m, Full l m → lev num l = (rl num l).reverse := by
  induction l with
  | nil => intro m _; rfl
  | cons t ts ih =>
    intro m h
    obtain ⟨h1, h2, h3⟩ := h.cons
    have hlen := h3.lev_length num
    have e := ih _ h3
    rw [e, List.length_reverse] at hlen
    simp only [lev, rl]
    rw [e, List.length_reverse, List.reverse_cons, List.take_reverse, List.drop_reverse, gmax_reverse]
    have hsub : (rl num ts).length - ((rl num ts).length - (arity t.op).toNat) = (arity t.op).toNat := by omega
    rw [hsub]

theorem rl_length (num : Int → Int → Int) (l : List Term) (m : Int) (h : Full l m) : ((rl num l).length : Int) = m := by
  have := h.lev_length num
  rw [lev_eq_rl num l m h, List.length_reverse] at this
  exact this

/-- The weight of the open terms. -/
def wt (om : Bool → Int) (s : List (Int × Bool)) : Int := (s.map fun x => om x.2).sum
def placeIn (om : Bool → Int) : List (Int × Bool) → List Int
  | [] => []
  | (c, b) :: r => List.replicate (c - 1).toNat (wt om ((c, b) :: r)) ++ placeIn om r
def plOf (om : Bool → Int) (s : List (Int × Bool)) (more : Bool) : List Int := if more then wt om s :: placeIn om s else []
def fin (d : Int) (pl ds : List Int) : Int := (List.zipWith (· + ·) pl ds).foldl max d

theorem wt_cons (om : Bool → Int) (c : Int) (b : Bool) (s : List (Int × Bool)) : wt om ((c, b) :: s) = om b + wt om s := by simp [wt]

theorem placeIn_pop (s : List (Int × Bool)) (h : Wait s) : ∃ more, ∀ om, placeIn om s = plOf om (popN s) more := by
  induction s with
  | nil => exact ⟨false, fun om => rfl⟩
  | cons x r ih =>
    obtain ⟨c, b⟩ := x
    have hc := h (c, b) (by simp)
    simp only at hc
    by_cases h1 : c - 1 = 0
    · obtain ⟨more, hm⟩ := ih h.tail
      refine ⟨more, fun om => ?_⟩
      simp only [placeIn, popN, if_pos h1]
      rw [h1]
      exact hm om
    · refine ⟨true, fun om => ?_⟩
      simp only [placeIn, popN, if_neg h1, plOf, if_true]
      have e : (c - 1).toNat = (c - 1 - 1).toNat + 1 := by omega
      rw [e, List.replicate_succ, List.cons_append, wt_cons, wt_cons]

theorem place_push (om : Bool → Int) (a : Int) (b : Bool) (s : List (Int × Bool)) (ha : 1 ≤ a) : plOf om ((a, b) :: s) true = List.replicate a.toNat (wt om ((a, b) :: s)) ++ placeIn om s := by
  simp only [plOf, if_true, placeIn]
  have e : a.toNat = (a - 1).toNat + 1 := by omega
  rw [e, List.replicate_succ, List.cons_append]

theorem foldl_map_add (l : List Int) (d c x : Int) : (l.map (c + ·)).foldl max (max d (c + x)) = max d (c + l.foldl max x) := by
  induction l generalizing x with
  | nil => rfl
  | cons y l ih =>
    simp only [List.map_cons, List.foldl_cons]
    rw [Int.max_assoc, show max (c + x) (c + y) = c + max x y by omega]
    exact ih _

theorem fin_step (d p de : Int) (pl R : List Int) (a : Nat) (h : a ≤ R.length) :
    fin d (p :: pl) ((gmax (R.take a) + de) :: R.drop a) = fin (max d (p + de)) (List.replicate a (p + de) ++ pl) R := by
  unfold fin
  have hz : List.zipWith (· + ·) (List.replicate a (p + de) ++ pl) R = (R.take a).map ((p + de) + ·) ++ List.zipWith (· + ·) pl (R.drop a) := by
    have hR := (List.take_append_drop a R).symm
    have hl : (List.replicate a (p + de)).length = (R.take a).length := by rw [List.length_replicate, List.length_take]; omega
    have e : List.zipWith (· + ·) (List.replicate a (p + de) ++ pl) R = List.zipWith (· + ·) (List.replicate a (p + de) ++ pl) (R.take a ++ R.drop a) := by rw [List.take_append_drop]
    rw [e, List.zipWith_append hl]
    congr 1
    generalize hQ : R.take a = Q at *
    have : Q.length = a := by rw [← hl, List.length_replicate]
    clear hQ hR e hl h
    subst this
    induction Q with
    | nil => rfl
    | cons y Q ih => simp only [List.length_cons, List.replicate_succ, List.zipWith_cons_cons, List.map_cons, ih]
  rw [hz, List.foldl_append]
  simp only [List.zipWith_cons_cons, List.foldl_cons]
  have := foldl_map_add (R.take a) d (p + de) 0
  rw [Int.add_zero] at this
  rw [this]
  congr 1
  unfold gmax
  omega

def omD (_ : Bool) : Int := 1
def omN (b : Bool) : Int := if b then 1 else 0
theorem wt_omD (s : List (Int × Bool)) : wt omD s = s.length := by
  induction s with
  | nil => rfl
  | cons x s ih => obtain ⟨c, b⟩ := x; rw [wt_cons, ih]; simp [omD]; omega
theorem wt_omN (s : List (Int × Bool)) : wt omN s = insideS s := by
  induction s with
  | nil => rfl
  | cons x s ih =>
    obtain ⟨c, b⟩ := x
    rw [wt_cons, ih]
    unfold insideS omN
    cases b
    · simp
    · simp; omega
theorem depthNum_om (op g : Int) : depthNum op g = g + omD (aggregate op) := rfl
theorem nestNum_om (op g : Int) : nestNum op g = g + omN (aggregate op) := by unfold nestNum omN; split <;> simp

theorem step_num (num : Int → Int → Int) (om : Bool → Int) (hnum : ∀ op g, num op g = g + om (aggregate op)) (d : Int) (t : Term) (ts : List Term) (s : List (Int × Bool)) (hl : (arity t.op).toNat ≤ (rl num ts).length) :
    fin d (plOf om s true) (rl num (t :: ts)) = fin (max d (wt om ((arity t.op, aggregate t.op) :: s))) (List.replicate (arity t.op).toNat (wt om ((arity t.op, aggregate t.op) :: s)) ++ placeIn om s) (rl num ts) := by
  simp only [rl, plOf, if_true]
  rw [hnum, fin_step _ _ _ _ _ _ hl, wt_cons, Int.add_comm (om _) (wt om s)]

theorem refGo_spec (ts : List Term) : ∀ (s : List (Int × Bool)) (d n : Int) (more : Bool), Wait s → Full ts (plOf omD s more).length → Full ts (plOf omN s more).length →
    refGo ts s d n = (fin d (plOf omD s more) (rl depthNum ts), fin n (plOf omN s more) (rl nestNum ts)) := by
  induction ts with
  | nil =>
    intro s d n more _ h _
    cases more with
    | false => rfl
    | true =>
      rcases h with ⟨_, h⟩ | ⟨_, h⟩
      · simp [plOf] at h; omega
      · simp [scan] at h
  | cons t ts ih =>
    intro s d n more hw hD hN
    cases more with
    | false => have := hD.cons.1; simp [plOf] at this
    | true =>
      obtain ⟨_, h0, hD2⟩ := hD.cons
      obtain ⟨_, _, hN2⟩ := hN.cons
      have lD := rl_length depthNum ts _ hD2
      have lN := rl_length nestNum ts _ hN2
      have eD : ((plOf omD s true).length : Int) = 1 + (placeIn omD s).length := by simp [plOf]; omega
      have eN : ((plOf omN s true).length : Int) = 1 + (placeIn omN s).length := by simp [plOf]; omega
      rw [step_num depthNum omD depthNum_om d t ts s (by omega), step_num nestNum omN nestNum_om n t ts s (by omega)]
      simp only [refGo]
      rw [← wt_omN, ← wt_omD]
      rcases Int.lt_or_eq_of_le h0 with ha | ha
      · have hne : normS ((arity t.op, aggregate t.op) :: s) = (arity t.op, aggregate t.op) :: s := normS_pos _ _ _ (by omega)
        rw [hne, ← place_push omD _ _ _ (by omega), ← place_push omN _ _ _ (by omega)]
        refine ih _ _ _ _ ?_ ?_ ?_
        · have := normS_wait (b := aggregate t.op) hw h0 (arity_le t.op).2
          rw [hne] at this
          exact this.1
        · rw [place_push _ _ _ _ (by omega), List.length_append, List.length_replicate]
          rw [eD] at hD2
          have : (((arity t.op).toNat + (placeIn omD s).length : Nat) : Int) = 1 + (placeIn omD s).length + (arity t.op - 1) := by omega
          rw [this]; exact hD2
        · rw [place_push _ _ _ _ (by omega), List.length_append, List.length_replicate]
          rw [eN] at hN2
          have : (((arity t.op).toNat + (placeIn omN s).length : Nat) : Int) = 1 + (placeIn omN s).length + (arity t.op - 1) := by omega
          rw [this]; exact hN2
      · have hne : normS ((arity t.op, aggregate t.op) :: s) = popN s := by simp [normS, ← ha]
        obtain ⟨more, hm⟩ := placeIn_pop s hw
        rw [hne, ← ha]
        simp only [Int.toNat_zero, List.replicate_zero, List.nil_append]
        rw [hm omD, hm omN]
        refine ih _ _ _ _ (popN_wait hw).1 ?_ ?_
        · rw [← hm omD]; rw [eD, ← ha] at hD2
          have : (1 + ((placeIn omD s).length : Int) + (0 - 1)) = (placeIn omD s).length := by omega
          rw [this] at hD2; exact hD2
        · rw [← hm omN]; rw [eN, ← ha] at hN2
          have : (1 + ((placeIn omN s).length : Int) + (0 - 1)) = (placeIn omN s).length := by omega
          rw [this] at hN2; exact hN2

theorem levelsF_fin (num : Int → Int → Int) (hn : ∀ op g, 0 ≤ g → 0 ≤ num op g ∧ num op g ≤ g + 1) (es : List Term) (h : endF es 0 = es.length) : fin 0 [0] (rl num es) = levelsF num es := by
  have hF := full_of_end h
  have hl := rl_length num es 1 hF
  obtain ⟨x, hx⟩ : ∃ x, rl num es = [x] := List.length_eq_one_iff.1 (by omega)
  have hlev := lev_eq_rl num es 1 hF
  unfold levelsF
  rw [if_pos h, hlev, hx]
  have hb := (lev_bound num hn es).2 x (by rw [hlev, hx]; simp)
  simp [fin]; omega

/-- P5.3: both ways agree. -/
theorem refGo_eq (es : List Term) (h : endF es 0 = es.length) : refGo es [] 0 0 = (depthF es, nestF es) := by
  have hF := full_of_end h
  rw [refGo_spec es [] 0 0 true (fun _ h => by simp at h) hF hF]
  show (fin 0 [0] (rl depthNum es), fin 0 [0] (rl nestNum es)) = _
  rw [levelsF_fin depthNum depthNum_ok es h, levelsF_fin nestNum nestNum_ok es h]
  rfl

theorem one_iff (es : List Term) : oneF es = (endF es 0 == es.length) := by
  unfold oneF
  rw [Bool.eq_iff_iff]
  simp
  intro h
  have := endF_le es 0
  omega

theorem arity_of_end (es : List Term) (h : endF es 0 = es.length) : ∀ t ∈ es, 0 ≤ arity t.op := by
  intro t ht
  obtain ⟨i, hi, rfl⟩ := List.getElem_of_mem ht
  exact (lev_at depthNum (full_of_end h) hi).1

end Go.Proofs.Ytnhhedecaejgcaa
