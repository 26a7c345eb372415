/- Merged of: P05b P05c P05d PX (see NOTES.md). -/
import Derived.Test.YtgemlgpjbclonaaGreatDoorZ04
set_option linter.unusedSimpArgs false
set_option linter.unnecessarySimpa false
set_option linter.unusedVariables false

/- The plain law of P5.3: the reference's way to count levels gives what the program's way gives. -/
namespace Go.Proofs.YtgemlgpjbclonaaGreatDoor

theorem foldl_max_max (l : List Int) (a b : Int) : l.foldl max (max a b) = max a (l.foldl max b) := by
 induction l generalizing b with
 | nil => rfl
 | cons x l ih => simp only [List.foldl_cons]; rw [Int.max_assoc]; exact ih _
theorem gmax_snoc (x : Int) (l : List Int) : gmax (l ++ [x]) = max (gmax l) x := by
 unfold gmax; rw [List.foldl_append]; rfl
theorem gmax_cons' (x : Int) (l : List Int) : gmax (x :: l) = max x (gmax l) := by
 have h := foldl_max_max l x 0
 unfold gmax
 rw [List.foldl_cons, Int.max_comm 0 x]; exact h
theorem gmax_reverse (l : List Int) : gmax l.reverse = gmax l := by
 induction l with
 | nil => rfl
 | cons x l ih => rw [List.reverse_cons, gmax_snoc, ih, gmax_cons', Int.max_comm]

/-- The numbers of the expressions that a list consists of, in their order. -/
def rl (num : Int → Int → Int) : List Term → List Int
 | [] => []
 | t :: ts => num t.op (gmax ((rl num ts).take (arity t.op).toNat)) :: (rl num ts).drop (arity t.op).toNat

theorem lev_eq_rl (num : Int → Int → Int) (l : List Term) : ∀ m, Full l m → lev num l = (rl num l).reverse := by
 induction l with
 | nil => intro m _; rfl
 | cons t ts ih =>
  intro m h
  obtain ⟨h1, h2, h3⟩ := h.cons
  have hlen := h3.lev_length num
  have e := ih _ h3
  rw [e, List.length_reverse] at hlen
  simp only [lev, rl]
  rw [e, List.length_reverse, List.reverse_cons, List.take_reverse, List.drop_reverse, gmax_reverse]
  have hsub : (rl num ts).length - ((rl num ts).length - (arity t.op).toNat) = (arity t.op).toNat := by omega
  rw [hsub]

theorem rl_length (num : Int → Int → Int) (l : List Term) (m : Int) (h : Full l m) : ((rl num l).length : Int) = m := by
 have := h.lev_length num
 rw [lev_eq_rl num l m h, List.length_reverse] at this
 exact this

/-- The weight of the open terms. -/
def wt (om : Bool → Int) (s : List (Int × Bool)) : Int := (s.map fun x => om x.2).sum
def placeIn (om : Bool → Int) : List (Int × Bool) → List Int
 | [] => []
 | (c, b) :: r => List.replicate (c - 1).toNat (wt om ((c, b) :: r)) ++ placeIn om r
def plOf (om : Bool → Int) (s : List (Int × Bool)) (more : Bool) : List Int := if more then wt om s :: placeIn om s else []
def fin (d : Int) (pl ds : List Int) : Int := (List.zipWith (· + ·) pl ds).foldl max d

theorem wt_cons (om : Bool → Int) (c : Int) (b : Bool) (s : List (Int × Bool)) : wt om ((c, b) :: s) = om b + wt om s := by simp [wt]

theorem placeIn_pop (s : List (Int × Bool)) (h : Wait s) : ∃ more, ∀ om, placeIn om s = plOf om (popN s) more := by
 induction s with
 | nil => exact ⟨false, fun om => rfl⟩
 | cons x r ih =>
  obtain ⟨c, b⟩ := x
  have hc := h (c, b) (by simp)
  simp only at hc
  by_cases h1 : c - 1 = 0
  ·obtain ⟨more, hm⟩ := ih h.tail
   refine ⟨more, fun om => ?_⟩
   simp only [placeIn, popN, if_pos h1]
   rw [h1]
   exact hm om
  ·refine ⟨true, fun om => ?_⟩
   simp only [placeIn, popN, if_neg h1, plOf, if_true]
   have e : (c - 1).toNat = (c - 1 - 1).toNat + 1 := by omega
   rw [e, List.replicate_succ, List.cons_append, wt_cons, wt_cons]

theorem place_push (om : Bool → Int) (a : Int) (b : Bool) (s : List (Int × Bool)) (ha : 1 ≤ a) : plOf om ((a, b) :: s) true = List.replicate a.toNat (wt om ((a, b) :: s)) ++ placeIn om s := by
 simp only [plOf, if_true, placeIn]
 have e : a.toNat = (a - 1).toNat + 1 := by omega
 rw [e, List.replicate_succ, List.cons_append]

theorem foldl_map_add (l : List Int) (d c x : Int) : (l.map (c + ·)).foldl max (max d (c + x)) = max d (c + l.foldl max x) := by
 induction l generalizing x with
 | nil => rfl
 | cons y l ih =>
  simp only [List.map_cons, List.foldl_cons]
  rw [Int.max_assoc, show max (c + x) (c + y) = c + max x y by omega]
  exact ih _

theorem fin_step (d p de : Int) (pl R : List Int) (a : Nat) (h : a ≤ R.length) :
  fin d (p :: pl) ((gmax (R.take a) + de) :: R.drop a) = fin (max d (p + de)) (List.replicate a (p + de) ++ pl) R := by
 unfold fin
 have hz : List.zipWith (· + ·) (List.replicate a (p + de) ++ pl) R = (R.take a).map ((p + de) + ·) ++ List.zipWith (· + ·) pl (R.drop a) := by
  have hR := (List.take_append_drop a R).symm
  have hl : (List.replicate a (p + de)).length = (R.take a).length := by rw [List.length_replicate, List.length_take]; omega
  have e : List.zipWith (· + ·) (List.replicate a (p + de) ++ pl) R = List.zipWith (· + ·) (List.replicate a (p + de) ++ pl) (R.take a ++ R.drop a) := by rw [List.take_append_drop]
  rw [e, List.zipWith_append hl]
  congr 1
  generalize hQ : R.take a = Q at *
  have : Q.length = a := by rw [← hl, List.length_replicate]
  clear hQ hR e hl h
  subst this
  induction Q with
  | nil => rfl
  | cons y Q ih => simp only [List.length_cons, List.replicate_succ, List.zipWith_cons_cons, List.map_cons, ih]
 rw [hz, List.foldl_append]
 simp only [List.zipWith_cons_cons, List.foldl_cons]
 have := foldl_map_add (R.take a) d (p + de) 0
 rw [Int.add_zero] at this
 rw [this]
 congr 1
 unfold gmax
 omega

def omD (_ : Bool) : Int := 1
def omN (b : Bool) : Int := if b then 1 else 0
theorem wt_omD (s : List (Int × Bool)) : wt omD s = s.length := by
 induction s with
 | nil => rfl
 | cons x s ih => obtain ⟨c, b⟩ := x; rw [wt_cons, ih]; simp [omD]; omega
theorem wt_omN (s : List (Int × Bool)) : wt omN s = insideS s := by
 induction s with
 | nil => rfl
 | cons x s ih =>
  obtain ⟨c, b⟩ := x
  rw [wt_cons, ih]
  unfold insideS omN
  cases b
  ·simp
  ·simp; omega
theorem depthNum_om (op g : Int) : depthNum op g = g + omD (aggregate op) := rfl
theorem nestNum_om (op g : Int) : nestNum op g = g + omN (aggregate op) := by unfold nestNum omN; split <;> simp

theorem step_num (num : Int → Int → Int) (om : Bool → Int) (hnum : ∀ op g, num op g = g + om (aggregate op)) (d : Int) (t : Term) (ts : List Term) (s : List (Int × Bool)) (hl : (arity t.op).toNat ≤ (rl num ts).length) :
  fin d (plOf om s true) (rl num (t :: ts)) = fin (max d (wt om ((arity t.op, aggregate t.op) :: s))) (List.replicate (arity t.op).toNat (wt om ((arity t.op, aggregate t.op) :: s)) ++ placeIn om s) (rl num ts) := by
 simp only [rl, plOf, if_true]
 rw [hnum, fin_step _ _ _ _ _ _ hl, wt_cons, Int.add_comm (om _) (wt om s)]

theorem refGo_spec (ts : List Term) : ∀ (s : List (Int × Bool)) (d n : Int) (more : Bool), Wait s → Full ts (plOf omD s more).length → Full ts (plOf omN s more).length →
  refGo ts s d n = (fin d (plOf omD s more) (rl depthNum ts), fin n (plOf omN s more) (rl nestNum ts)) := by
 induction ts with
 | nil =>
  intro s d n more _ h _
  cases more with
  | false => rfl
  | true =>
   rcases h with ⟨_, h⟩ | ⟨_, h⟩
   ·simp [plOf] at h; omega
   ·simp [scan] at h
 | cons t ts ih =>
  intro s d n more hw hD hN
  cases more with
  | false => have := hD.cons.1; simp [plOf] at this
  | true =>
   obtain ⟨_, h0, hD2⟩ := hD.cons
   obtain ⟨_, _, hN2⟩ := hN.cons
   have lD := rl_length depthNum ts _ hD2
   have lN := rl_length nestNum ts _ hN2
   have eD : ((plOf omD s true).length : Int) = 1 + (placeIn omD s).length := by simp [plOf]; omega
   have eN : ((plOf omN s true).length : Int) = 1 + (placeIn omN s).length := by simp [plOf]; omega
   rw [step_num depthNum omD depthNum_om d t ts s (by omega), step_num nestNum omN nestNum_om n t ts s (by omega)]
   simp only [refGo]
   rw [← wt_omN, ← wt_omD]
   rcases Int.lt_or_eq_of_le h0 with ha | ha
   ·have hne : normS ((arity t.op, aggregate t.op) :: s) = (arity t.op, aggregate t.op) :: s := normS_pos _ _ _ (by omega)
    rw [hne, ← place_push omD _ _ _ (by omega), ← place_push omN _ _ _ (by omega)]
    refine ih _ _ _ _ ?_ ?_ ?_
    ·have := normS_wait (b := aggregate t.op) hw h0 (arity_le t.op).2
     rw [hne] at this
     exact this.1
    ·rw [place_push _ _ _ _ (by omega), List.length_append, List.length_replicate]
     rw [eD] at hD2
     have : (((arity t.op).toNat + (placeIn omD s).length : Nat) : Int) = 1 + (placeIn omD s).length + (arity t.op - 1) := by omega
     rw [this]; exact hD2
    ·rw [place_push _ _ _ _ (by omega), List.length_append, List.length_replicate]
     rw [eN] at hN2
     have : (((arity t.op).toNat + (placeIn omN s).length : Nat) : Int) = 1 + (placeIn omN s).length + (arity t.op - 1) := by omega
     rw [this]; exact hN2
   ·have hne : normS ((arity t.op, aggregate t.op) :: s) = popN s := by simp [normS, ← ha]
    obtain ⟨more, hm⟩ := placeIn_pop s hw
    rw [hne, ← ha]
    simp only [Int.toNat_zero, List.replicate_zero, List.nil_append]
    rw [hm omD, hm omN]
    refine ih _ _ _ _ (popN_wait hw).1 ?_ ?_
    ·rw [← hm omD]; rw [eD, ← ha] at hD2
     have : (1 + ((placeIn omD s).length : Int) + (0 - 1)) = (placeIn omD s).length := by omega
     rw [this] at hD2; exact hD2
    ·rw [← hm omN]; rw [eN, ← ha] at hN2
     have : (1 + ((placeIn omN s).length : Int) + (0 - 1)) = (placeIn omN s).length := by omega
     rw [this] at hN2; exact hN2

theorem levelsF_fin (num : Int → Int → Int) (hn : ∀ op g, 0 ≤ g → 0 ≤ num op g ∧ num op g ≤ g + 1) (es : List Term) (h : endF es 0 = es.length) : fin 0 [0] (rl num es) = levelsF num es := by
 have hF := full_of_end h
 have hl := rl_length num es 1 hF
 obtain ⟨x, hx⟩ : ∃ x, rl num es = [x] := List.length_eq_one_iff.1 (by omega)
 have hlev := lev_eq_rl num es 1 hF
 unfold levelsF
 rw [if_pos h, hlev, hx]
 have hb := (lev_bound num hn es).2 x (by rw [hlev, hx]; simp)
 simp [fin]; omega

/-- P5.3: both ways agree. -/
theorem refGo_eq (es : List Term) (h : endF es 0 = es.length) : refGo es [] 0 0 = (depthF es, nestF es) := by
 have hF := full_of_end h
 rw [refGo_spec es [] 0 0 true (fun _ h => by simp at h) hF hF]
 show (fin 0 [0] (rl depthNum es), fin 0 [0] (rl nestNum es)) = _
 rw [levelsF_fin depthNum depthNum_ok es h, levelsF_fin nestNum nestNum_ok es h]
 rfl

theorem one_iff (es : List Term) : oneF es = (endF es 0 == es.length) := by
 unfold oneF
 rw [Bool.eq_iff_iff]
 simp
 intro h
 have := endF_le es 0
 omega

theorem arity_of_end (es : List Term) (h : endF es 0 = es.length) : ∀ t ∈ es, 0 ≤ arity t.op := by
 intro t ht
 obtain ⟨i, hi, rfl⟩ := List.getElem_of_mem ht
 exact (lev_at depthNum (full_of_end h) hi).1

end Go.Proofs.YtgemlgpjbclonaaGreatDoor

/- Plain laws of layer 5: operands follow one another; parts of an expression. -/
namespace Go.Proofs.YtgemlgpjbclonaaGreatDoor

theorem scan_add (l : List Term) : ∀ (m1 m2 : Int), 1 ≤ m1 → 1 ≤ m2 → scan l (m1 + m2) = (match scan l m1 with | none => none | some n => (scan (l.drop n) m2).map (n + ·)) := by
 induction l with
 | nil => intro m1 m2 _ _; rfl
 | cons t ts ih =>
  intro m1 m2 h1 h2
  simp only [scan]
  by_cases ha : arity t.op < 0
  ·simp only [if_pos ha]
  ·simp only [if_neg ha]
   rw [if_neg (by omega)]
   by_cases h0 : m1 + (arity t.op - 1) = 0
   ·rw [if_pos h0]
    simp only [List.drop_succ_cons, List.drop_zero]
    rw [show m1 + m2 + (arity t.op - 1) = m2 by omega]
    congr 1; funext x; omega
   ·rw [if_neg h0, show m1 + m2 + (arity t.op - 1) = (m1 + (arity t.op - 1)) + m2 by omega, ih _ _ (by omega) h2]
    cases scan ts (m1 + (arity t.op - 1)) with
    | none => rfl
    | some n =>
     simp only [Option.map_some, List.drop_succ_cons, Option.map_map]
     congr 1; funext x; simp; omega

theorem endF_nat (es : List Term) (k : Nat) (h : k < es.length) : endF es (k : Int) = scanAt es k 1 := by
 unfold endF
 rw [if_neg (by omega), Int.toNat_natCast]

end Go.Proofs.YtgemlgpjbclonaaGreatDoor

/- Plain laws of layer 5: parts, growth and cuts of expressions. -/
namespace Go.Proofs.YtgemlgpjbclonaaGreatDoor

theorem scan_append (l r : List Term) : ∀ (m : Int) (n : Nat), scan l m = some n → scan (l ++ r) m = some n := by
 induction l with
 | nil => intro m n h; simp [scan] at h
 | cons t ts ih =>
  intro m n h
  simp only [scan] at h
  split at h
  ·cases h
  ·rename_i ha
   split at h
   ·rename_i h0
    simp only [List.cons_append, scan, if_neg ha, if_pos h0]; exact h
   ·rename_i h0
    cases hs : scan ts (m + (arity t.op - 1)) with
    | none => rw [hs] at h; cases h
    | some q =>
     rw [hs] at h
     simp only [List.cons_append, scan, if_neg ha, if_neg h0, ih _ _ hs]; exact h

theorem full_end {p : List Term} (h : Full p 1) : endF p 0 = p.length := by
 rcases h with ⟨_, h⟩ | ⟨_, h⟩
 ·omega
 ·have := scan_le _ _ _ h
  unfold endF scanAt
  rw [if_neg (by omega)]
  simp only [Int.toNat_zero, List.drop_zero, h]
  simp

theorem Full.pos {p : List Term} (h : Full p 1) : 0 < p.length := by
 rcases h with ⟨_, h⟩ | ⟨_, h⟩
 ·omega
 ·exact (scan_le _ _ _ h).1

theorem Full.add {p q : List Term} {m1 m2 : Int} (hp : Full p m1) (hq : Full q m2) (h1 : 1 ≤ m1) (h2 : 1 ≤ m2) : Full (p ++ q) (m1 + m2) := by
 rcases hp with ⟨_, h⟩ | ⟨_, hp⟩
 ·omega
 ·rcases hq with ⟨_, h⟩ | ⟨_, hq⟩
  ·omega
  ·right
   refine ⟨by omega, ?_⟩
   rw [scan_add _ _ _ h1 h2, scan_append p q _ _ hp]
   simp only [List.drop_left, hq, Option.map_some, List.length_append]

theorem Full.mk {t : Term} {ts : List Term} (h : Full ts (arity t.op)) (h1 : 1 ≤ arity t.op) : Full (t :: ts) 1 := by
 rcases h with ⟨_, h⟩ | ⟨_, h⟩
 ·omega
 ·right
  refine ⟨by omega, ?_⟩
  simp only [scan]
  rw [if_neg (by omega), if_neg (by omega), show 1 + (arity t.op - 1) = arity t.op by omega, h]
  rfl

theorem rl_append (num : Int → Int → Int) (p r : List Term) : ∀ m, Full p m → rl num (p ++ r) = rl num p ++ rl num r := by
 induction p with
 | nil => intro m _; rfl
 | cons t ts ih =>
  intro m h
  obtain ⟨h1, h2, h3⟩ := h.cons
  have hl := rl_length num ts _ h3
  simp only [List.cons_append, rl]
  rw [ih _ h3, List.take_append_of_le_length (by omega), List.drop_append_of_le_length (by omega)]

theorem rl_single (num : Int → Int → Int) {p : List Term} (h : Full p 1) : rl num p = [levelsF num p] := by
 have hl := rl_length num p 1 h
 obtain ⟨x, hx⟩ : ∃ x, rl num p = [x] := List.length_eq_one_iff.1 (by omega)
 have hlev := lev_eq_rl num p 1 h
 unfold levelsF
 rw [if_pos (full_end h), hlev, hx]
 rfl

theorem validF_parts (es : List Term) (vars : Int) : validF es vars = true ↔ es.length ≤ 200 ∧ Full es 1 ∧ (∀ t ∈ es, argF t vars = true) ∧ depthF es ≤ 24 ∧ nestF es ≤ 2 := by
 unfold validF
 simp only [Bool.and_eq_true, decide_eq_true_eq, beq_iff_eq, List.all_eq_true]
 constructor
 ·rintro ⟨⟨⟨⟨a, b⟩, c⟩, d⟩, e⟩
  exact ⟨a, full_of_end b, c, d, e⟩
 ·rintro ⟨a, b, c, d, e⟩
  exact ⟨⟨⟨⟨a, full_end b⟩, c⟩, d⟩, e⟩

/-- An operation ahead of whole expressions. -/
theorem grow_levels (num : Int → Int → Int) {t : Term} {ts : List Term} (h : Full ts (arity t.op)) (h1 : 1 ≤ arity t.op) : levelsF num (t :: ts) = num t.op (gmax (rl num ts)) := by
 have hs := rl_single num (Full.mk h h1)
 have hl := rl_length num ts _ h
 simp only [rl] at hs
 injection hs with h2 _
 rw [← h2, List.take_of_length_le (by omega)]

end Go.Proofs.YtgemlgpjbclonaaGreatDoor

/- Expressions as trees: every list of terms that is one expression is a tree, each operation ahead of its operands. -/
namespace Go.Proofs.YtgemlgpjbclonaaGreatDoor

inductive Ex where
 | leaf (t : Term)
 | un (t : Term) (a : Ex)
 | bin (t : Term) (a b : Ex)
 | tri (t : Term) (a b c : Ex)

def Ex.terms : Ex → List Term
 | .leaf t => [t]
 | .un t a => t :: a.terms
 | .bin t a b => t :: (a.terms ++ b.terms)
 | .tri t a b c => t :: (a.terms ++ (b.terms ++ c.terms))

def Ex.len (x : Ex) : Nat := x.terms.length

def Ex.ok : Ex → Prop
 | .leaf t => arity t.op = 0
 | .un t a => arity t.op = 1 ∧ a.ok
 | .bin t a b => arity t.op = 2 ∧ a.ok ∧ b.ok
 | .tri t a b c => arity t.op = 3 ∧ a.ok ∧ b.ok ∧ c.ok

theorem Ex.pos (x : Ex) : 0 < x.len := by cases x <;> simp [Ex.len, Ex.terms]

theorem Ex.full {x : Ex} (h : x.ok) : Full x.terms 1 := by
 induction x with
 | leaf t =>
  simp only [Ex.ok] at h
  right
  refine ⟨by omega, ?_⟩
  simp [Ex.terms, scan, h]
 | un t a ih =>
  obtain ⟨h1, h2⟩ := h
  exact Full.mk (by rw [h1]; exact ih h2) (by omega)
 | bin t a b iha ihb =>
  obtain ⟨h1, h2, h3⟩ := h
  exact Full.mk (by rw [h1]; exact Full.add (m1 := 1) (m2 := 1) (iha h2) (ihb h3) (by omega) (by omega)) (by omega)
 | tri t a b c iha ihb ihc =>
  obtain ⟨h1, h2, h3, h4⟩ := h
  exact Full.mk (by rw [h1]; exact Full.add (m1 := 1) (m2 := 2) (iha h2) (Full.add (m1 := 1) (m2 := 1) (ihb h3) (ihc h4) (by omega) (by omega)) (by omega) (by omega)) (by omega)

theorem parse (l : List Term) : ∀ m, Full l m → ∃ xs : List Ex, (∀ x ∈ xs, x.ok) ∧ xs.flatMap Ex.terms = l ∧ (xs.length : Int) = m := by
 induction l with
 | nil =>
  intro m h
  rcases h with ⟨_, h⟩ | ⟨_, h⟩
  ·exact ⟨[], fun _ h => by simp at h, rfl, by simp [h]⟩
  ·simp [scan] at h
 | cons t ts ih =>
  intro m h
  obtain ⟨h1, h2, h3⟩ := h.cons
  obtain ⟨xs, hok, hfl, hlen⟩ := ih _ h3
  have h4 := (arity_le t.op).2
  rcases (show arity t.op = 0 ∨ arity t.op = 1 ∨ arity t.op = 2 ∨ arity t.op = 3 by omega) with ha | ha | ha | ha
  ·refine ⟨.leaf t :: xs, ?_, by simp [Ex.terms, hfl], by simp; omega⟩
   intro x hx
   rcases List.mem_cons.1 hx with e | e
   ·subst e; exact ha
   ·exact hok x e
  ·match xs, hok, hfl, hlen with
   | [], _, _, hlen => simp at hlen; omega
   | a :: xs, hok, hfl, hlen =>
    refine ⟨.un t a :: xs, ?_, by simp [Ex.terms, ← hfl], by simp at hlen ⊢; omega⟩
    intro x hx
    rcases List.mem_cons.1 hx with e | e
    ·subst e; exact ⟨ha, hok a (by simp)⟩
    ·exact hok x (by simp [e])
  ·match xs, hok, hfl, hlen with
   | [], _, _, hlen => simp at hlen; omega
   | [a], _, _, hlen => simp at hlen; omega
   | a :: b :: xs, hok, hfl, hlen =>
    refine ⟨.bin t a b :: xs, ?_, by simp [Ex.terms, ← hfl], by simp at hlen ⊢; omega⟩
    intro x hx
    rcases List.mem_cons.1 hx with e | e
    ·subst e; exact ⟨ha, hok a (by simp), hok b (by simp)⟩
    ·exact hok x (by simp [e])
  ·match xs, hok, hfl, hlen with
   | [], _, _, hlen => simp at hlen; omega
   | [a], _, _, hlen => simp at hlen; omega
   | [a, b], _, _, hlen => simp at hlen; omega
   | a :: b :: c :: xs, hok, hfl, hlen =>
    refine ⟨.tri t a b c :: xs, ?_, by simp [Ex.terms, ← hfl], by simp at hlen ⊢; omega⟩
    intro x hx
    rcases List.mem_cons.1 hx with e | e
    ·subst e; exact ⟨ha, hok a (by simp), hok b (by simp), hok c (by simp)⟩
    ·exact hok x (by simp [e])

theorem parse1 {l : List Term} (h : Full l 1) : ∃ x : Ex, x.ok ∧ x.terms = l := by
 obtain ⟨xs, h1, h2, h3⟩ := parse l 1 h
 obtain ⟨x, rfl⟩ : ∃ x, xs = [x] := List.length_eq_one_iff.1 (by omega)
 exact ⟨x, h1 x (by simp), by simpa using h2⟩

/-- The expression stands at a place of a list. -/
def Ex.At (es : List Term) (k : Nat) (x : Ex) : Prop := x.ok ∧ ∃ r, es.drop k = x.terms ++ r

theorem At.whole {es : List Term} {x : Ex} (h : x.ok) (he : x.terms = es) : x.At es 0 := ⟨h, [], by simp [he]⟩

theorem drop_of_drop {es r : List Term} {k n : Nat} {p : List Term} (h : es.drop k = p ++ r) (hn : p.length = n) : es.drop (k + n) = r := by
 rw [← List.drop_drop, h, ← hn, List.drop_left]

theorem At.bound {es : List Term} {k : Nat} {x : Ex} (h : x.At es k) : k + x.len ≤ es.length := by
 obtain ⟨_, r, hr⟩ := h
 have := congrArg List.length hr
 have hp := x.pos
 simp only [List.length_drop, List.length_append] at this
 unfold Ex.len at *
 omega
theorem At.lt {es : List Term} {k : Nat} {x : Ex} (h : x.At es k) : k < es.length := by
 have := At.bound h
 have := x.pos
 omega

theorem drop_head {es r : List Term} {k : Nat} {t : Term} (h : es.drop k = t :: r) : es[k]? = some t ∧ es.drop (k + 1) = r := by
 refine ⟨?_, ?_⟩
 ·have := congrArg (·[0]?) h
  simpa using this
 ·exact drop_of_drop (p := [t]) h rfl

theorem At.leaf {es : List Term} {k : Nat} {t : Term} (h : (Ex.leaf t).At es k) : es[k]? = some t ∧ arity t.op = 0 := by
 obtain ⟨h1, r, hr⟩ := h
 exact ⟨(drop_head hr).1, h1⟩
theorem At.un {es : List Term} {k : Nat} {t : Term} {a : Ex} (h : (Ex.un t a).At es k) : es[k]? = some t ∧ arity t.op = 1 ∧ a.At es (k + 1) := by
 obtain ⟨⟨h1, h2⟩, r, hr⟩ := h
 obtain ⟨g1, g2⟩ := drop_head hr
 exact ⟨g1, h1, h2, r, g2⟩
theorem At.bin {es : List Term} {k : Nat} {t : Term} {a b : Ex} (h : (Ex.bin t a b).At es k) : es[k]? = some t ∧ arity t.op = 2 ∧ a.At es (k + 1) ∧ b.At es (k + 1 + a.len) := by
 obtain ⟨⟨h1, h2, h3⟩, r, hr⟩ := h
 obtain ⟨g1, g2⟩ := drop_head (r := _ ++ r) hr
 rw [List.append_assoc] at g2
 exact ⟨g1, h1, ⟨h2, _, g2⟩, h3, r, drop_of_drop g2 rfl⟩
theorem At.tri {es : List Term} {k : Nat} {t : Term} {a b c : Ex} (h : (Ex.tri t a b c).At es k) : es[k]? = some t ∧ arity t.op = 3 ∧ a.At es (k + 1) ∧ b.At es (k + 1 + a.len) ∧ c.At es (k + 1 + a.len + b.len) := by
 obtain ⟨⟨h1, h2, h3, h4⟩, r, hr⟩ := h
 obtain ⟨g1, g2⟩ := drop_head (r := _ ++ r) hr
 rw [List.append_assoc] at g2
 have g3 := drop_of_drop g2 rfl
 rw [List.append_assoc] at g3
 exact ⟨g1, h1, ⟨h2, _, g2⟩, ⟨h3, _, g3⟩, h4, r, drop_of_drop g3 rfl⟩

theorem At.endF {es : List Term} {k : Nat} {x : Ex} (h : x.At es k) : endF es (k : Int) = ((k + x.len : Nat) : Int) := by
 have hlt := At.lt h
 obtain ⟨hok, r, hr⟩ := h
 rw [endF_nat es k hlt]
 unfold scanAt
 rcases Ex.full hok with ⟨_, h⟩ | ⟨_, h⟩
 ·omega
 ·rw [hr, scan_append _ r _ _ h]; simp [Ex.len]

theorem opAt_some {es : List Term} {k : Nat} {t : Term} (h : es[k]? = some t) : opAt es (k : Int) = t.op := by
 obtain ⟨h1, h2⟩ := List.getElem?_eq_some_iff.1 h
 rw [opAt_get h1, h2]

theorem At.operand1 {es : List Term} {k : Nat} {x a : Ex} {t : Term} (h : x.At es k) (ht : es[k]? = some t) (har : 2 ≤ arity t.op) (ha : a.At es (k + 1)) : operandF es (k : Int) 1 = ((k + 1 + a.len : Nat) : Int) := by
 unfold operandF
 rw [At.endF h, opAt_some ht, if_neg (by omega)]
 show Go.Proofs.YtgemlgpjbclonaaGreatDoor.endF es ((k : Int) + 1) = _
 rw [show (k : Int) + 1 = ((k + 1 : Nat) : Int) by omega, At.endF ha]
theorem At.operand2 {es : List Term} {k : Nat} {x a b : Ex} {t : Term} (h : x.At es k) (ht : es[k]? = some t) (har : 3 ≤ arity t.op) (ha : a.At es (k + 1)) (hb : b.At es (k + 1 + a.len)) : operandF es (k : Int) 2 = ((k + 1 + a.len + b.len : Nat) : Int) := by
 unfold operandF
 rw [At.endF h, opAt_some ht, if_neg (by omega)]
 show Go.Proofs.YtgemlgpjbclonaaGreatDoor.endF es (Go.Proofs.YtgemlgpjbclonaaGreatDoor.endF es ((k : Int) + 1)) = _
 rw [show (k : Int) + 1 = ((k + 1 : Nat) : Int) by omega, At.endF ha, At.endF hb]

def Ex.depth : Ex → Int
 | .leaf _ => 1
 | .un _ a => a.depth + 1
 | .bin _ a b => max a.depth b.depth + 1
 | .tri _ a b c => max a.depth (max b.depth c.depth) + 1
def Ex.nest : Ex → Int
 | .leaf _ => 0
 | .un t a => if aggregate t.op then a.nest + 1 else a.nest
 | .bin _ a b => max a.nest b.nest
 | .tri _ a b c => max a.nest (max b.nest c.nest)

theorem Ex.depth_pos (x : Ex) : 1 ≤ x.depth := by
 induction x <;> simp only [Ex.depth] <;> omega
theorem Ex.nest_pos (x : Ex) : 0 ≤ x.nest := by
 induction x with
 | leaf t => simp [Ex.nest]
 | un t a ih => simp only [Ex.nest]; split <;> omega
 | bin t a b iha ihb => simp only [Ex.nest]; omega
 | tri t a b c iha ihb ihc => simp only [Ex.nest]; omega

theorem agg_arity {op : Int} (h : aggregate op = true) : arity op = 1 := by
 unfold aggregate at h
 have : 20 ≤ op ∧ op ≤ 29 := by simpa using h
 unfold arity
 rw [if_neg (by omega), if_neg (by omega), if_pos (by omega)]
theorem agg_false {op : Int} (h : arity op ≠ 1) : aggregate op = false := by
 cases hb : aggregate op with
 | false => rfl
 | true => exact absurd (agg_arity hb) h

theorem levels_leaf (num : Int → Int → Int) {t : Term} (h : arity t.op = 0) : levelsF num [t] = num t.op 0 := by
 have hF : Full [t] 1 := Ex.full (x := .leaf t) h
 have := rl_single num hF
 simp only [rl] at this
 injection this with h1 _
 rw [← h1, h]; rfl
theorem Ex.levels_depth {x : Ex} (h : x.ok) : depthF x.terms = x.depth := by
 unfold depthF
 induction x with
 | leaf t => simp only [Ex.terms]; rw [levels_leaf _ h]; rfl
 | un t a ih =>
  obtain ⟨h1, h2⟩ := h
  have hp := a.depth_pos
  simp only [Ex.terms]
  rw [grow_levels _ (by rw [h1]; exact Ex.full h2) (by omega), rl_single _ (Ex.full h2), ih h2]
  simp [gmax, depthNum, Ex.depth]; omega
 | bin t a b iha ihb =>
  obtain ⟨h1, h2, h3⟩ := h
  have hp := a.depth_pos
  have hq := b.depth_pos
  simp only [Ex.terms]
  rw [grow_levels _ (by rw [h1]; exact Full.add (m1 := 1) (m2 := 1) (Ex.full h2) (Ex.full h3) (by omega) (by omega)) (by omega), rl_append _ _ _ 1 (Ex.full h2), rl_single _ (Ex.full h2), rl_single _ (Ex.full h3), iha h2, ihb h3]
  simp [gmax, depthNum, Ex.depth]; omega
 | tri t a b c iha ihb ihc =>
  obtain ⟨h1, h2, h3, h4⟩ := h
  have hp := a.depth_pos
  have hq := b.depth_pos
  have hr := c.depth_pos
  simp only [Ex.terms]
  rw [grow_levels _ (by rw [h1]; exact Full.add (m1 := 1) (m2 := 2) (Ex.full h2) (Full.add (m1 := 1) (m2 := 1) (Ex.full h3) (Ex.full h4) (by omega) (by omega)) (by omega) (by omega)) (by omega), rl_append _ _ _ 1 (Ex.full h2), rl_append _ _ _ 1 (Ex.full h3), rl_single _ (Ex.full h2), rl_single _ (Ex.full h3), rl_single _ (Ex.full h4), iha h2, ihb h3, ihc h4]
  simp [gmax, depthNum, Ex.depth]; omega
theorem Ex.levels_nest {x : Ex} (h : x.ok) : nestF x.terms = x.nest := by
 unfold nestF
 induction x with
 | leaf t =>
  simp only [Ex.terms]; rw [levels_leaf _ h]
  have := agg_false (op := t.op) (by rw [h]; omega)
  simp [nestNum, this, Ex.nest]
 | un t a ih =>
  obtain ⟨h1, h2⟩ := h
  have hp := a.nest_pos
  simp only [Ex.terms]
  rw [grow_levels _ (by rw [h1]; exact Ex.full h2) (by omega), rl_single _ (Ex.full h2), ih h2]
  have : gmax [a.nest] = a.nest := by simp [gmax]; omega
  rw [this]; simp [nestNum, Ex.nest]
 | bin t a b iha ihb =>
  obtain ⟨h1, h2, h3⟩ := h
  have hp := a.nest_pos
  have hq := b.nest_pos
  have hag := agg_false (op := t.op) (by rw [h1]; omega)
  simp only [Ex.terms]
  rw [grow_levels _ (by rw [h1]; exact Full.add (m1 := 1) (m2 := 1) (Ex.full h2) (Ex.full h3) (by omega) (by omega)) (by omega), rl_append _ _ _ 1 (Ex.full h2), rl_single _ (Ex.full h2), rl_single _ (Ex.full h3), iha h2, ihb h3]
  simp [gmax, nestNum, hag, Ex.nest]; omega
 | tri t a b c iha ihb ihc =>
  obtain ⟨h1, h2, h3, h4⟩ := h
  have hp := a.nest_pos
  have hq := b.nest_pos
  have hr := c.nest_pos
  have hag := agg_false (op := t.op) (by rw [h1]; omega)
  simp only [Ex.terms]
  rw [grow_levels _ (by rw [h1]; exact Full.add (m1 := 1) (m2 := 2) (Ex.full h2) (Full.add (m1 := 1) (m2 := 1) (Ex.full h3) (Ex.full h4) (by omega) (by omega)) (by omega) (by omega)) (by omega), rl_append _ _ _ 1 (Ex.full h2), rl_append _ _ _ 1 (Ex.full h3), rl_single _ (Ex.full h2), rl_single _ (Ex.full h3), rl_single _ (Ex.full h4), iha h2, ihb h3, ihc h4]
  simp [gmax, nestNum, hag, Ex.nest]; omega

/-- A valid expression, as a tree. -/
theorem valid_tree {es : List Term} {vars : Int} (h : validF es vars = true) : ∃ x : Ex, x.ok ∧ x.terms = es ∧ es.length ≤ 200 ∧ (∀ t ∈ es, argF t vars = true) ∧ x.depth ≤ 24 ∧ x.nest ≤ 2 := by
 obtain ⟨h1, h2, h3, h4, h5⟩ := (validF_parts es vars).1 h
 obtain ⟨x, hx, rfl⟩ := parse1 h2
 exact ⟨x, hx, rfl, h1, h3, by rw [← Ex.levels_depth hx]; exact h4, by rw [← Ex.levels_nest hx]; exact h5⟩

end Go.Proofs.YtgemlgpjbclonaaGreatDoor

