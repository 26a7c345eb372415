/- Merged of: P05 P05b P05c P05d (see NOTES.md). -/

set_option linter.unusedSimpArgs false
set_option linter.unnecessarySimpa false
set_option linter.unusedVariables false

/- The plain form of layer 5: terms, the place behind an expression, operands. -/
namespace Go.Proofs.YtaifafljakojnaaGreat

structure Term where
  op : Int
  arg : Int
instance : Inhabited Term := ⟨⟨0, 0⟩⟩

def arity (op : Int) : Int :=
  if op < 1 ∨ 43 < op then -1 else if op ≤ 17 then 0 else if op ≤ 29 then 1 else if op ≤ 42 then 2 else 3

theorem arity_le (op : Int) : -1 ≤ arity op ∧ arity op ≤ 3 := by unfold arity; repeat' split <;> omega

def scan : List Term → Int → Option Nat
  | [], _ => none
  | t :: ts, m => if arity t.op < 0 then none else if m + (arity t.op - 1) = 0 then some 1 else (scan ts (m + (arity t.op - 1))).map (· + 1)

def scanAt (es : List Term) (k : Nat) (m : Int) : Int :=
  match scan (es.drop k) m with
  | none => -1
  | some n => k + n

theorem scanAt_done {es : List Term} {k : Nat} {m : Int} (h : es.length ≤ k) : scanAt es k m = -1 := by
  unfold scanAt; rw [List.drop_eq_nil_of_le h]; rfl

theorem scanAt_bad {es : List Term} {k : Nat} {m : Int} (h : k < es.length) (ha : arity es[k].op < 0) : scanAt es k m = -1 := by
  unfold scanAt; rw [List.drop_eq_getElem_cons h]; simp only [scan, if_pos ha]

theorem scanAt_end {es : List Term} {k : Nat} {m : Int} (h : k < es.length) (ha : 0 ≤ arity es[k].op) (hm : m + (arity es[k].op - 1) = 0) : scanAt es k m = k + 1 := by
  unfold scanAt; rw [List.drop_eq_getElem_cons h]; simp only [scan]; rw [if_neg (by omega), if_pos hm]; rfl

theorem scanAt_next {es : List Term} {k : Nat} {m : Int} (h : k < es.length) (ha : 0 ≤ arity es[k].op) (hm : m + (arity es[k].op - 1) ≠ 0) : scanAt es k m = scanAt es (k + 1) (m + (arity es[k].op - 1)) := by
  unfold scanAt; rw [List.drop_eq_getElem_cons h]; simp only [scan]; rw [if_neg (by omega), if_neg hm]
  cases scan (es.drop (k + 1)) (m + (arity es[k].op - 1)) with
  | none => rfl
  | some n => simp; omega

def endF (es : List Term) (p : Int) : Int := if p < 0 ∨ es.length ≤ p then -1 else scanAt es p.toNat 1

theorem scan_le (l : List Term) (m : Int) (n : Nat) (h : scan l m = some n) : 1 ≤ n ∧ n ≤ l.length := by
  induction l generalizing m n with
  | nil => simp [scan] at h
  | cons t ts ih =>
    simp only [scan] at h
    split at h
    · cases h
    · split at h
      · injection h with h; subst h; simp
      · cases hs : scan ts (m + (arity t.op - 1)) with
        | none => rw [hs] at h; cases h
        | some q =>
          rw [hs] at h; injection h with h; subst h
          have := ih _ _ hs
          simp; omega

theorem scanAt_le (es : List Term) (k : Nat) (m : Int) (hk : k ≤ es.length) : scanAt es k m = -1 ∨ (k < scanAt es k m ∧ scanAt es k m ≤ es.length) := by
  unfold scanAt
  cases h : scan (es.drop k) m with
  | none => left; rfl
  | some n =>
    right
    have := scan_le _ _ _ h
    simp at this
    simp; omega

theorem endF_le (es : List Term) (p : Int) : endF es p = -1 ∨ (0 ≤ p ∧ p < es.length ∧ p < endF es p ∧ endF es p ≤ es.length) := by
  unfold endF
  split
  · left; rfl
  · rename_i h
    have := scanAt_le es p.toNat 1 (by omega)
    omega

def iterEnd (es : List Term) : Nat → Int → Int
  | 0, p => p
  | n + 1, p => iterEnd es n (endF es p)

def opAt (es : List Term) (p : Int) : Int := (es.getD p.toNat default).op

theorem opAt_get {es : List Term} {k : Nat} (h : k < es.length) : opAt es (k : Int) = es[k].op := by
  unfold opAt; rw [List.getD_eq_getElem?_getD]; simp [h]

def operandF (es : List Term) (p k : Int) : Int :=
  if endF es p < 0 ∨ k < 0 ∨ arity (opAt es p) ≤ k then -1 else iterEnd es k.toNat (p + 1)

def aggregate (op : Int) : Bool := decide (20 ≤ op ∧ op ≤ 29)

def gmax (l : List Int) : Int := l.foldl max 0

theorem foldl_max_ge (l : List Int) (a : Int) : a ≤ l.foldl max a := by
  induction l generalizing a with
  | nil => exact Int.le_refl _
  | cons x l ih => exact Int.le_trans (Int.le_max_left a x) (ih _)
theorem foldl_max_le (l : List Int) (a b : Int) (ha : a ≤ b) (h : ∀ x ∈ l, x ≤ b) : l.foldl max a ≤ b := by
  induction l generalizing a with
  | nil => exact ha
  | cons x l ih => exact ih _ (Int.max_le.2 ⟨ha, h x (by simp)⟩) (fun y hy => h y (by simp [hy]))
theorem gmax_nonneg (l : List Int) : 0 ≤ gmax l := foldl_max_ge l 0
theorem gmax_le (l : List Int) (b : Int) (hb : 0 ≤ b) (h : ∀ x ∈ l, x ≤ b) : gmax l ≤ b := foldl_max_le l 0 b hb h

/-- The stack behind the terms from the last one to the first one. -/
def lev (num : Int → Int → Int) : List Term → List Int
  | [] => []
  | t :: ts => (lev num ts).take ((lev num ts).length - (arity t.op).toNat) ++ [num t.op (gmax ((lev num ts).drop ((lev num ts).length - (arity t.op).toNat)))]

/-- The list is so many whole expressions. -/
def Full (l : List Term) (m : Int) : Prop := (l = [] ∧ m = 0) ∨ (1 ≤ m ∧ scan l m = some l.length)

theorem Full.cons {t : Term} {ts : List Term} {m : Int} (h : Full (t :: ts) m) : 1 ≤ m ∧ 0 ≤ arity t.op ∧ Full ts (m + (arity t.op - 1)) := by
  rcases h with ⟨h, _⟩ | ⟨hm, h⟩
  · cases h
  · simp only [scan] at h
    split at h
    · cases h
    · rename_i ha
      refine ⟨hm, by omega, ?_⟩
      split at h
      · rename_i h0
        injection h with h
        left
        exact ⟨List.eq_nil_of_length_eq_zero (by simpa using h.symm), h0⟩
      · rename_i h0
        right
        refine ⟨by omega, ?_⟩
        cases hs : scan ts (m + (arity t.op - 1)) with
        | none => rw [hs] at h; cases h
        | some q => rw [hs] at h; injection h with h; simp at h; rw [h]

theorem Full.lev_length (num : Int → Int → Int) (l : List Term) : ∀ m, Full l m → ((lev num l).length : Int) = m := by
  induction l with
  | nil =>
    intro m h
    rcases h with ⟨_, h⟩ | ⟨_, h⟩
    · simp [lev, h]
    · simp [scan] at h
  | cons t ts ih =>
    intro m h
    obtain ⟨h1, h2, h3⟩ := h.cons
    have := ih _ h3
    simp only [lev, List.length_append, List.length_take, List.length_singleton]
    omega

theorem full_of_end {es : List Term} (h : endF es 0 = es.length) : Full es 1 := by
  unfold endF at h
  split at h
  · omega
  · right
    refine ⟨by omega, ?_⟩
    unfold scanAt at h
    simp only [Int.toNat_zero, List.drop_zero] at h
    cases hs : scan es 1 with
    | none => rw [hs] at h; simp at h
    | some n => rw [hs] at h; simp at h; rw [show n = es.length by omega]

theorem Full.drop {es : List Term} (h : Full es 1) : ∀ i, i ≤ es.length → ∃ m, Full (es.drop i) m := by
  intro i
  induction i with
  | zero => intro _; exact ⟨1, by simpa using h⟩
  | succ i ih =>
    intro hi
    obtain ⟨m, hm⟩ := ih (by omega)
    rw [List.drop_eq_getElem_cons (by omega)] at hm
    exact ⟨_, hm.cons.2.2⟩

/-- What holds of the stack at a term of a whole expression. -/
theorem lev_at (num : Int → Int → Int) {es : List Term} (h : Full es 1) {i : Nat} (hi : i < es.length) :
    0 ≤ arity es[i].op ∧ arity es[i].op ≤ (lev num (es.drop (i + 1))).length := by
  obtain ⟨m, hm⟩ := h.drop i (by omega)
  rw [List.drop_eq_getElem_cons hi] at hm
  obtain ⟨h1, h2, h3⟩ := hm.cons
  have := h3.lev_length num
  exact ⟨h2, by omega⟩

theorem lev_bound (num : Int → Int → Int) (hn : ∀ op g, 0 ≤ g → 0 ≤ num op g ∧ num op g ≤ g + 1) (l : List Term) : (lev num l).length ≤ l.length ∧ ∀ x ∈ lev num l, 0 ≤ x ∧ x ≤ l.length := by
  induction l with
  | nil => simp [lev]
  | cons t ts ih =>
    obtain ⟨ih1, ih2⟩ := ih
    refine ⟨by simp only [lev, List.length_append, List.length_take, List.length_cons, List.length_nil]; omega, fun x hx => ?_⟩
    simp only [lev, List.mem_append, List.mem_singleton] at hx
    rcases hx with hx | hx
    · have := ih2 x (List.mem_of_mem_take hx)
      simp; omega
    · have g1 := gmax_nonneg ((lev num ts).drop ((lev num ts).length - (arity t.op).toNat))
      have g2 := gmax_le ((lev num ts).drop ((lev num ts).length - (arity t.op).toNat)) ts.length (by omega) (fun y hy => (ih2 y (List.mem_of_mem_drop hy)).2)
      have := hn t.op _ g1
      rw [hx]; simp; omega

def levelsF (num : Int → Int → Int) (es : List Term) : Int := if endF es 0 = es.length then (lev num es).headD 0 else 0
def depthNum (_ g : Int) : Int := g + 1
def nestNum (op g : Int) : Int := if aggregate op then g + 1 else g
theorem depthNum_ok (op g : Int) (h : 0 ≤ g) : 0 ≤ depthNum op g ∧ depthNum op g ≤ g + 1 := by unfold depthNum; omega
theorem nestNum_ok (op g : Int) (h : 0 ≤ g) : 0 ≤ nestNum op g ∧ nestNum op g ≤ g + 1 := by unfold nestNum; split <;> omega
def depthF (es : List Term) : Int := levelsF depthNum es
def nestF (es : List Term) : Int := levelsF nestNum es

def argF (t : Term) (vars : Int) : Bool :=
  if t.op = 1 then decide (0 ≤ t.arg ∧ t.arg ≤ 1073741824) else if t.op = 5 ∨ t.op = 12 then decide (0 ≤ t.arg ∧ t.arg < vars) else decide (t.arg = 0)

def oneF (es : List Term) : Bool := decide (0 < es.length ∧ endF es 0 = es.length)

def validF (es : List Term) (vars : Int) : Bool :=
  decide (es.length ≤ 200) && (endF es 0 == es.length) && es.all (argF · vars) && decide (depthF es ≤ 24) && decide (nestF es ≤ 2)

theorem headD_mem {l : List Int} {x : Int} (h : l.headD 0 = x) : x = 0 ∨ x ∈ l := by
  cases l with
  | nil => left; exact h.symm
  | cons a l => right; simp at h; simp [h]
theorem levelsF_le (num : Int → Int → Int) (hn : ∀ op g, 0 ≤ g → 0 ≤ num op g ∧ num op g ≤ g + 1) (es : List Term) : 0 ≤ levelsF num es ∧ levelsF num es ≤ es.length := by
  unfold levelsF
  split
  · rcases headD_mem (l := lev num es) rfl with h | h
    · rw [h]; omega
    · exact (lev_bound num hn es).2 _ h
  · omega
theorem depthF_le (es : List Term) : 0 ≤ depthF es ∧ depthF es ≤ es.length := levelsF_le _ depthNum_ok es
theorem nestF_le (es : List Term) : 0 ≤ nestF es ∧ nestF es ≤ es.length := levelsF_le _ nestNum_ok es

/- The reference's levels: open terms with the operands that are still to come, the innermost first. -/
def popN : List (Int × Bool) → List (Int × Bool)
  | [] => []
  | (c, b) :: r => if c - 1 = 0 then popN r else (c - 1, b) :: r
def normS : List (Int × Bool) → List (Int × Bool)
  | [] => []
  | (c, b) :: r => if c = 0 then popN r else (c, b) :: r
def insideS (s : List (Int × Bool)) : Int := (s.filter (·.2)).length
def refGo : List Term → List (Int × Bool) → Int → Int → Int × Int
  | [], _, d, n => (d, n)
  | t :: ts, s, d, n => refGo ts (normS ((arity t.op, aggregate t.op) :: s)) (max d (((arity t.op, aggregate t.op) :: s).length : Nat)) (max n (insideS ((arity t.op, aggregate t.op) :: s)))

/-- Open terms: each waits for at least one operand. -/
def Wait (s : List (Int × Bool)) : Prop := ∀ x ∈ s, 1 ≤ x.1 ∧ x.1 ≤ 3
theorem Wait.tail {x : Int × Bool} {s : List (Int × Bool)} (h : Wait (x :: s)) : Wait s := fun y hy => h y (by simp [hy])
theorem popN_wait {s : List (Int × Bool)} (h : Wait s) : Wait (popN s) ∧ (popN s).length ≤ s.length := by
  induction s with
  | nil => exact ⟨h, Nat.le_refl _⟩
  | cons x s ih =>
    obtain ⟨c, b⟩ := x
    have hc := h (c, b) (by simp)
    simp only [popN]
    split
    · exact ⟨(ih h.tail).1, by have := (ih h.tail).2; simp; omega⟩
    · refine ⟨fun y hy => ?_, by simp⟩
      rcases List.mem_cons.1 hy with e | e
      · subst e; simp at hc ⊢; omega
      · exact h y (by simp [e])
theorem normS_wait {c : Int} {b : Bool} {s : List (Int × Bool)} (h : Wait s) (h0 : 0 ≤ c) (h3 : c ≤ 3) : Wait (normS ((c, b) :: s)) ∧ (normS ((c, b) :: s)).length ≤ s.length + 1 := by
  simp only [normS]
  split
  · exact ⟨(popN_wait h).1, by have := (popN_wait h).2; omega⟩
  · refine ⟨fun y hy => ?_, by simp⟩
    rcases List.mem_cons.1 hy with e | e
    · subst e; simp; omega
    · exact h y e
theorem insideS_le (s : List (Int × Bool)) : 0 ≤ insideS s ∧ insideS s ≤ s.length := by
  unfold insideS
  have := List.length_filter_le (fun x : Int × Bool => x.2) s
  omega

def cntB (l : List Bool) : Int := (l.filter id).length
theorem cntB_reverse (s : List (Int × Bool)) : cntB ((s.map (·.2)).reverse) = insideS s := by
  unfold cntB insideS
  rw [List.filter_reverse, List.length_reverse, List.filter_map, List.length_map]
  rfl
theorem cntB_cons (b : Bool) (l : List Bool) : cntB (b :: l) = (if b then 1 else 0) + cntB l := by
  cases b
  · simp [cntB]
  · simp [cntB]; omega
theorem cntB_le (l : List Bool) : 0 ≤ cntB l ∧ cntB l ≤ l.length := by
  unfold cntB
  have := List.length_filter_le id l
  omega
theorem normS_zero (b : Bool) (c : Int) (b' : Bool) (r : List (Int × Bool)) : normS ((0, b) :: (c, b') :: r) = normS ((c - 1, b') :: r) := by
  simp [normS, popN]
theorem normS_zero_nil (b : Bool) : normS [(0, b)] = [] := by simp [normS, popN]
theorem normS_pos (c : Int) (b : Bool) (r : List (Int × Bool)) (h : c ≠ 0) : normS ((c, b) :: r) = (c, b) :: r := by simp [normS, h]

/-- Open terms while operands end: the innermost one may wait for none. -/
def Shape : List (Int × Bool) → Prop
  | [] => True
  | (c, _) :: r => 0 ≤ c ∧ c ≤ 3 ∧ Wait r

end Go.Proofs.YtaifafljakojnaaGreat

/- The plain law of P5.3: the reference's way to count levels gives what the program's way gives. -/
namespace Go.Proofs.YtaifafljakojnaaGreat

theorem foldl_max_max (l : List Int) (a b : Int) : l.foldl max (max a b) = max a (l.foldl max b) := by
  induction l generalizing b with
  | nil => rfl
  | cons x l ih => simp only [List.foldl_cons]; rw [Int.max_assoc]; exact ih _
theorem gmax_snoc (x : Int) (l : List Int) : gmax (l ++ [x]) = max (gmax l) x := by
  unfold gmax; rw [List.foldl_append]; rfl
theorem gmax_cons' (x : Int) (l : List Int) : gmax (x :: l) = max x (gmax l) := by
  have h := foldl_max_max l x 0
  unfold gmax
  rw [List.foldl_cons, Int.max_comm 0 x]; exact h
theorem gmax_reverse (l : List Int) : gmax l.reverse = gmax l := by
  induction l with
  | nil => rfl
  | cons x l ih => rw [List.reverse_cons, gmax_snoc, ih, gmax_cons', Int.max_comm]

/-- The numbers of the expressions that a list consists of, in their order. -/
def rl (num : Int → Int → Int) : List Term → List Int
  | [] => []
  | t :: ts => num t.op (gmax ((rl num ts).take (arity t.op).toNat)) :: (rl num ts).drop (arity t.op).toNat

theorem lev_eq_rl (num : Int → Int → Int) (l : List Term) : ∀ m, Full l m → lev num l = (rl num l).reverse := by
  induction l with
  | nil => intro m _; rfl
  | cons t ts ih =>
    intro m h
    obtain ⟨h1, h2, h3⟩ := h.cons
    have hlen := h3.lev_length num
    have e := ih _ h3
    rw [e, List.length_reverse] at hlen
    simp only [lev, rl]
    rw [e, List.length_reverse, List.reverse_cons, List.take_reverse, List.drop_reverse, gmax_reverse]
    have hsub : (rl num ts).length - ((rl num ts).length - (arity t.op).toNat) = (arity t.op).toNat := by omega
    rw [hsub]

theorem rl_length (num : Int → Int → Int) (l : List Term) (m : Int) (h : Full l m) : ((rl num l).length : Int) = m := by
  have := h.lev_length num
  rw [lev_eq_rl num l m h, List.length_reverse] at this
  exact this

/-- The weight of the open terms. -/
def wt (om : Bool → Int) (s : List (Int × Bool)) : Int := (s.map fun x => om x.2).sum
def placeIn (om : Bool → Int) : List (Int × Bool) → List Int
  | [] => []
  | (c, b) :: r => List.replicate (c - 1).toNat (wt om ((c, b) :: r)) ++ placeIn om r
def plOf (om : Bool → Int) (s : List (Int × Bool)) (more : Bool) : List Int := if more then wt om s :: placeIn om s else []
def fin (d : Int) (pl ds : List Int) : Int := (List.zipWith (· + ·) pl ds).foldl max d

theorem wt_cons (om : Bool → Int) (c : Int) (b : Bool) (s : List (Int × Bool)) : wt om ((c, b) :: s) = om b + wt om s := by simp [wt]

theorem placeIn_pop (s : List (Int × Bool)) (h : Wait s) : ∃ more, ∀ om, placeIn om s = plOf om (popN s) more := by
  induction s with
  | nil => exact ⟨false, fun om => rfl⟩
  | cons x r ih =>
    obtain ⟨c, b⟩ := x
    have hc := h (c, b) (by simp)
    simp only at hc
    by_cases h1 : c - 1 = 0
    · obtain ⟨more, hm⟩ := ih h.tail
      refine ⟨more, fun om => ?_⟩
      simp only [placeIn, popN, if_pos h1]
      rw [h1]
      exact hm om
    · refine ⟨true, fun om => ?_⟩
      simp only [placeIn, popN, if_neg h1, plOf, if_true]
      have e : (c - 1).toNat = (c - 1 - 1).toNat + 1 := by omega
      rw [e, List.replicate_succ, List.cons_append, wt_cons, wt_cons]

theorem place_push (om : Bool → Int) (a : Int) (b : Bool) (s : List (Int × Bool)) (ha : 1 ≤ a) : plOf om ((a, b) :: s) true = List.replicate a.toNat (wt om ((a, b) :: s)) ++ placeIn om s := by
  simp only [plOf, if_true, placeIn]
  have e : a.toNat = (a - 1).toNat + 1 := by omega
  rw [e, List.replicate_succ, List.cons_append]

theorem foldl_map_add (l : List Int) (d c x : Int) : (l.map (c + ·)).foldl max (max d (c + x)) = max d (c + l.foldl max x) := by
  induction l generalizing x with
  | nil => rfl
  | cons y l ih =>
    simp only [List.map_cons, List.foldl_cons]
    rw [Int.max_assoc, show max (c + x) (c + y) = c + max x y by omega]
    exact ih _

theorem fin_step (d p de : Int) (pl R : List Int) (a : Nat) (h : a ≤ R.length) :
    fin d (p :: pl) ((gmax (R.take a) + de) :: R.drop a) = fin (max d (p + de)) (List.replicate a (p + de) ++ pl) R := by
  unfold fin
  have hz : List.zipWith (· + ·) (List.replicate a (p + de) ++ pl) R = (R.take a).map ((p + de) + ·) ++ List.zipWith (· + ·) pl (R.drop a) := by
    have hR := (List.take_append_drop a R).symm
    have hl : (List.replicate a (p + de)).length = (R.take a).length := by rw [List.length_replicate, List.length_take]; omega
    have e : List.zipWith (· + ·) (List.replicate a (p + de) ++ pl) R = List.zipWith (· + ·) (List.replicate a (p + de) ++ pl) (R.take a ++ R.drop a) := by rw [List.take_append_drop]
    rw [e, List.zipWith_append hl]
    congr 1
    generalize hQ : R.take a = Q at *
    have : Q.length = a := by rw [← hl, List.length_replicate]
    clear hQ hR e hl h
    subst this
    induction Q with
    | nil => rfl
    | cons y Q ih => simp only [List.length_cons, List.replicate_succ, List.zipWith_cons_cons, List.map_cons, ih]
  rw [hz, List.foldl_append]
  simp only [List.zipWith_cons_cons, List.foldl_cons]
  have := foldl_map_add (R.take a) d (p + de) 0
  rw [Int.add_zero] at this
  rw [this]
  congr 1
  unfold gmax
  omega

def omD (_ : Bool) : Int := 1
def omN (b : Bool) : Int := if b then 1 else 0
theorem wt_omD (s : List (Int × Bool)) : wt omD s = s.length := by
  induction s with
  | nil => rfl
  | cons x s ih => obtain ⟨c, b⟩ := x; rw [wt_cons, ih]; simp [omD]; omega
theorem wt_omN (s : List (Int × Bool)) : wt omN s = insideS s := by
  induction s with
  | nil => rfl
  | cons x s ih =>
    obtain ⟨c, b⟩ := x
    rw [wt_cons, ih]
    unfold insideS omN
    cases b
    · simp
    · simp; omega
theorem depthNum_om (op g : Int) : depthNum op g = g + omD (aggregate op) := rfl
theorem nestNum_om (op g : Int) : nestNum op g = g + omN (aggregate op) := by unfold nestNum omN; split <;> simp

theorem step_num (num : Int → Int → Int) (om : Bool → Int) (hnum : ∀ op g, num op g = g + om (aggregate op)) (d : Int) (t : Term) (ts : List Term) (s : List (Int × Bool)) (hl : (arity t.op).toNat ≤ (rl num ts).length) :
    fin d (plOf om s true) (rl num (t :: ts)) = fin (max d (wt om ((arity t.op, aggregate t.op) :: s))) (List.replicate (arity t.op).toNat (wt om ((arity t.op, aggregate t.op) :: s)) ++ placeIn om s) (rl num ts) := by
  simp only [rl, plOf, if_true]
  rw [hnum, fin_step _ _ _ _ _ _ hl, wt_cons, Int.add_comm (om _) (wt om s)]

theorem refGo_spec (ts : List Term) : ∀ (s : List (Int × Bool)) (d n : Int) (more : Bool), Wait s → Full ts (plOf omD s more).length → Full ts (plOf omN s more).length →
    refGo ts s d n = (fin d (plOf omD s more) (rl depthNum ts), fin n (plOf omN s more) (rl nestNum ts)) := by
  induction ts with
  | nil =>
    intro s d n more _ h _
    cases more with
    | false => rfl
    | true =>
      rcases h with ⟨_, h⟩ | ⟨_, h⟩
      · simp [plOf] at h; omega
      · simp [scan] at h
  | cons t ts ih =>
    intro s d n more hw hD hN
    cases more with
    | false => have := hD.cons.1; simp [plOf] at this
    | true =>
      obtain ⟨_, h0, hD2⟩ := hD.cons
      obtain ⟨_, _, hN2⟩ := hN.cons
      have lD := rl_length depthNum ts _ hD2
      have lN := rl_length nestNum ts _ hN2
      have eD : ((plOf omD s true).length : Int) = 1 + (placeIn omD s).length := by simp [plOf]; omega
      have eN : ((plOf omN s true).length : Int) = 1 + (placeIn omN s).length := by simp [plOf]; omega
      rw [step_num depthNum omD depthNum_om d t ts s (by omega), step_num nestNum omN nestNum_om n t ts s (by omega)]
      simp only [refGo]
      rw [← wt_omN, ← wt_omD]
      rcases Int.lt_or_eq_of_le h0 with ha | ha
      · have hne : normS ((arity t.op, aggregate t.op) :: s) = (arity t.op, aggregate t.op) :: s := normS_pos _ _ _ (by omega)
        rw [hne, ← place_push omD _ _ _ (by omega), ← place_push omN _ _ _ (by omega)]
        refine ih _ _ _ _ ?_ ?_ ?_
        · have := normS_wait (b := aggregate t.op) hw h0 (arity_le t.op).2
          rw [hne] at this
          exact this.1
        · rw [place_push _ _ _ _ (by omega), List.length_append, List.length_replicate]
          rw [eD] at hD2
          have : (((arity t.op).toNat + (placeIn omD s).length : Nat) : Int) = 1 + (placeIn omD s).length + (arity t.op - 1) := by omega
          rw [this]; exact hD2
        · rw [place_push _ _ _ _ (by omega), List.length_append, List.length_replicate]
          rw [eN] at hN2
          have : (((arity t.op).toNat + (placeIn omN s).length : Nat) : Int) = 1 + (placeIn omN s).length + (arity t.op - 1) := by omega
          rw [this]; exact hN2
      · have hne : normS ((arity t.op, aggregate t.op) :: s) = popN s := by simp [normS, ← ha]
        obtain ⟨more, hm⟩ := placeIn_pop s hw
        rw [hne, ← ha]
        simp only [Int.toNat_zero, List.replicate_zero, List.nil_append]
        rw [hm omD, hm omN]
        refine ih _ _ _ _ (popN_wait hw).1 ?_ ?_
        · rw [← hm omD]; rw [eD, ← ha] at hD2
          have : (1 + ((placeIn omD s).length : Int) + (0 - 1)) = (placeIn omD s).length := by omega
          rw [this] at hD2; exact hD2
        · rw [← hm omN]; rw [eN, ← ha] at hN2
          have : (1 + ((placeIn omN s).length : Int) + (0 - 1)) = (placeIn omN s).length := by omega
          rw [this] at hN2; exact hN2

theorem levelsF_fin (num : Int → Int → Int) (hn : ∀ op g, 0 ≤ g → 0 ≤ num op g ∧ num op g ≤ g + 1) (es : List Term) (h : endF es 0 = es.length) : fin 0 [0] (rl num es) = levelsF num es := by
  have hF := full_of_end h
  have hl := rl_length num es 1 hF
  obtain ⟨x, hx⟩ : ∃ x, rl num es = [x] := List.length_eq_one_iff.1 (by omega)
  have hlev := lev_eq_rl num es 1 hF
  unfold levelsF
  rw [if_pos h, hlev, hx]
  have hb := (lev_bound num hn es).2 x (by rw [hlev, hx]; simp)
  simp [fin]; omega

/-- P5.3: both ways agree. -/
theorem refGo_eq (es : List Term) (h : endF es 0 = es.length) : refGo es [] 0 0 = (depthF es, nestF es) := by
  have hF := full_of_end h
  rw [refGo_spec es [] 0 0 true (fun _ h => by simp at h) hF hF]
  show (fin 0 [0] (rl depthNum es), fin 0 [0] (rl nestNum es)) = _
  rw [levelsF_fin depthNum depthNum_ok es h, levelsF_fin nestNum nestNum_ok es h]
  rfl

theorem one_iff (es : List Term) : oneF es = (endF es 0 == es.length) := by
  unfold oneF
  rw [Bool.eq_iff_iff]
  simp
  intro h
  have := endF_le es 0
  omega

theorem arity_of_end (es : List Term) (h : endF es 0 = es.length) : ∀ t ∈ es, 0 ≤ arity t.op := by
  intro t ht
  obtain ⟨i, hi, rfl⟩ := List.getElem_of_mem ht
  exact (lev_at depthNum (full_of_end h) hi).1

end Go.Proofs.YtaifafljakojnaaGreat

/- Plain laws of layer 5: operands follow one another; parts of an expression. -/
namespace Go.Proofs.YtaifafljakojnaaGreat

theorem scan_add (l : List Term) : ∀ (m1 m2 : Int), 1 ≤ m1 → 1 ≤ m2 → scan l (m1 + m2) = (match scan l m1 with | none => none | some n => (scan (l.drop n) m2).map (n + ·)) := by
  induction l with
  | nil => intro m1 m2 _ _; rfl
  | cons t ts ih =>
    intro m1 m2 h1 h2
    simp only [scan]
    by_cases ha : arity t.op < 0
    · simp only [if_pos ha]
    · simp only [if_neg ha]
      rw [if_neg (by omega)]
      by_cases h0 : m1 + (arity t.op - 1) = 0
      · rw [if_pos h0]
        simp only [List.drop_succ_cons, List.drop_zero]
        rw [show m1 + m2 + (arity t.op - 1) = m2 by omega]
        congr 1; funext x; omega
      · rw [if_neg h0, show m1 + m2 + (arity t.op - 1) = (m1 + (arity t.op - 1)) + m2 by omega, ih _ _ (by omega) h2]
        cases scan ts (m1 + (arity t.op - 1)) with
        | none => rfl
        | some n =>
          simp only [Option.map_some, List.drop_succ_cons, Option.map_map]
          congr 1; funext x; simp; omega

theorem endF_nat (es : List Term) (k : Nat) (h : k < es.length) : endF es (k : Int) = scanAt es k 1 := by
  unfold endF
  rw [if_neg (by omega), Int.toNat_natCast]

theorem iterEnd_scan (es : List Term) : ∀ (a : Nat) (p n : Nat), 1 ≤ a → scan (es.drop p) (a : Int) = some n → iterEnd es a (p : Int) = ((p + n : Nat) : Int) := by
  intro a
  induction a with
  | zero => intro p n h; omega
  | succ a ih =>
    intro p n _ h
    have hp : p < es.length := by
      rcases Nat.lt_or_ge p es.length with hlt | hge
      · exact hlt
      · rw [List.drop_eq_nil_of_le hge] at h; simp [scan] at h
    rcases Nat.eq_zero_or_pos a with h0 | h0
    · subst h0
      simp only [iterEnd]
      rw [endF_nat es p hp]
      unfold scanAt
      rw [show ((0 + 1 : Nat) : Int) = 1 from rfl] at h
      rw [h]; simp
    · rw [show ((a + 1 : Nat) : Int) = 1 + (a : Int) by omega, scan_add _ 1 a (by omega) (by omega)] at h
      cases hs : scan (es.drop p) 1 with
      | none => rw [hs] at h; cases h
      | some q =>
        rw [hs] at h
        simp only [List.drop_drop] at h
        cases hr : scan (es.drop (p + q)) (a : Int) with
        | none => rw [hr] at h; cases h
        | some r =>
          rw [hr] at h
          simp at h
          simp only [iterEnd]
          have e : endF es (p : Int) = ((p + q : Nat) : Int) := by
            rw [endF_nat es p hp]; unfold scanAt; rw [hs]; simp
          rw [e, ih _ _ h0 hr]; omega

theorem iterEnd_snoc (es : List Term) (k : Nat) (p : Int) : iterEnd es (k + 1) p = endF es (iterEnd es k p) := by
  induction k generalizing p with
  | zero => rfl
  | succ k ih => exact ih (endF es p)

/-- Each place of a whole expression begins one. -/
theorem end_some {es : List Term} (h : Full es 1) {i : Nat} (hi : i < es.length) : ∃ n, scan (es.drop i) 1 = some n := by
  obtain ⟨m, hm⟩ := h.drop i (by omega)
  have hm' := hm
  rw [List.drop_eq_getElem_cons hi] at hm'
  have h1 := hm'.cons.1
  rcases hm with ⟨hn, _⟩ | ⟨_, hs⟩
  · have := congrArg List.length hn; simp at this; omega
  · rcases Int.lt_or_eq_of_le h1 with hlt | heq
    · rw [show m = 1 + (m - 1) by omega, scan_add _ 1 (m - 1) (by omega) (by omega)] at hs
      cases hq : scan (es.drop i) 1 with
      | none => rw [hq] at hs; cases hs
      | some n => exact ⟨n, rfl⟩
    · rw [← heq] at hs; exact ⟨_, hs⟩

theorem end_nonneg {es : List Term} (h : Full es 1) {i : Nat} (hi : i < es.length) : (i : Int) < endF es i ∧ endF es i ≤ es.length := by
  obtain ⟨n, hn⟩ := end_some h hi
  have := scan_le _ _ _ hn
  rw [endF_nat es i hi]
  unfold scanAt
  rw [hn]
  simp at this ⊢; omega

theorem iterEnd_arity {es : List Term} (h : Full es 1) {i : Nat} (hi : i < es.length) : iterEnd es (arity es[i].op).toNat ((i : Int) + 1) = endF es i := by
  obtain ⟨n, hn⟩ := end_some h hi
  have h0 := (lev_at depthNum h hi).1
  rw [endF_nat es i hi]
  unfold scanAt
  rw [hn]
  have hn' := hn
  rw [List.drop_eq_getElem_cons hi] at hn'
  simp only [scan] at hn'
  rw [if_neg (by omega)] at hn'
  by_cases ha : arity es[i].op = 0
  · rw [ha] at hn' ⊢
    simp at hn'
    subst hn'
    rfl
  · rw [if_neg (by omega)] at hn'
    cases hs : scan (es.drop (i + 1)) (1 + (arity es[i].op - 1)) with
    | none => rw [hs] at hn'; cases hn'
    | some q =>
      rw [hs] at hn'
      simp at hn'
      have := iterEnd_scan es (arity es[i].op).toNat (i + 1) q (by omega) (by rw [Int.toNat_of_nonneg h0, ← hs]; congr 1; omega)
      rw [show ((i : Int) + 1) = ((i + 1 : Nat) : Int) by omega, this]
      simp; omega

theorem operand_iter {es : List Term} (h : Full es 1) {i : Nat} (hi : i < es.length) (k : Nat) (hk : (k : Int) < arity es[i].op) : operandF es i k = iterEnd es k ((i : Int) + 1) := by
  unfold operandF
  have := end_nonneg h hi
  rw [if_neg (by rw [opAt_get hi]; omega), Int.toNat_natCast]

theorem operand_none {es : List Term} {i : Nat} (hi : i < es.length) : operandF es i (arity es[i].op) = -1 := by
  unfold operandF
  rw [if_pos (by rw [opAt_get hi]; omega)]

theorem end_of_depth {es : List Term} (h : depthF es ≠ 0) : endF es 0 = es.length := by
  unfold depthF levelsF at h
  by_cases he : endF es 0 = es.length
  · exact he
  · rw [if_neg he] at h; omega

end Go.Proofs.YtaifafljakojnaaGreat

/- Plain laws of layer 5: parts, growth and cuts of expressions. -/
namespace Go.Proofs.YtaifafljakojnaaGreat

theorem scan_take (l : List Term) : ∀ (m : Int) (n : Nat), scan l m = some n → scan (l.take n) m = some n := by
  induction l with
  | nil => intro m n h; simp [scan] at h
  | cons t ts ih =>
    intro m n h
    simp only [scan] at h
    split at h
    · cases h
    · rename_i ha
      split at h
      · rename_i h0
        injection h with h; subst h
        simp only [List.take_succ_cons, List.take_zero, scan, if_neg ha, if_pos h0]
      · rename_i h0
        cases hs : scan ts (m + (arity t.op - 1)) with
        | none => rw [hs] at h; cases h
        | some q =>
          rw [hs] at h; injection h with h; subst h
          simp only [List.take_succ_cons, scan, if_neg ha, if_neg h0, ih _ _ hs]
          rfl

theorem scan_take_lt (l : List Term) : ∀ (m : Int) (n k : Nat), scan l m = some n → k < n → scan (l.take k) m = none := by
  induction l with
  | nil => intro m n k h; simp [scan] at h
  | cons t ts ih =>
    intro m n k h hk
    cases k with
    | zero => simp [scan]
    | succ k =>
      simp only [scan] at h
      split at h
      · cases h
      · rename_i ha
        split at h
        · injection h with h; omega
        · rename_i h0
          cases hs : scan ts (m + (arity t.op - 1)) with
          | none => rw [hs] at h; cases h
          | some q =>
            rw [hs] at h; injection h with h
            simp only at h
            simp only [List.take_succ_cons, scan, if_neg ha, if_neg h0, ih _ _ k hs (by omega)]
            rfl

theorem scan_append (l r : List Term) : ∀ (m : Int) (n : Nat), scan l m = some n → scan (l ++ r) m = some n := by
  induction l with
  | nil => intro m n h; simp [scan] at h
  | cons t ts ih =>
    intro m n h
    simp only [scan] at h
    split at h
    · cases h
    · rename_i ha
      split at h
      · rename_i h0
        simp only [List.cons_append, scan, if_neg ha, if_pos h0]; exact h
      · rename_i h0
        cases hs : scan ts (m + (arity t.op - 1)) with
        | none => rw [hs] at h; cases h
        | some q =>
          rw [hs] at h
          simp only [List.cons_append, scan, if_neg ha, if_neg h0, ih _ _ hs]; exact h

theorem full_end {p : List Term} (h : Full p 1) : endF p 0 = p.length := by
  rcases h with ⟨_, h⟩ | ⟨_, h⟩
  · omega
  · have := scan_le _ _ _ h
    unfold endF scanAt
    rw [if_neg (by omega)]
    simp only [Int.toNat_zero, List.drop_zero, h]
    simp

theorem Full.pos {p : List Term} (h : Full p 1) : 0 < p.length := by
  rcases h with ⟨_, h⟩ | ⟨_, h⟩
  · omega
  · exact (scan_le _ _ _ h).1

theorem Full.add {p q : List Term} {m1 m2 : Int} (hp : Full p m1) (hq : Full q m2) (h1 : 1 ≤ m1) (h2 : 1 ≤ m2) : Full (p ++ q) (m1 + m2) := by
  rcases hp with ⟨_, h⟩ | ⟨_, hp⟩
  · omega
  · rcases hq with ⟨_, h⟩ | ⟨_, hq⟩
    · omega
    · right
      refine ⟨by omega, ?_⟩
      rw [scan_add _ _ _ h1 h2, scan_append p q _ _ hp]
      simp only [List.drop_left, hq, Option.map_some, List.length_append]

theorem Full.mk {t : Term} {ts : List Term} (h : Full ts (arity t.op)) (h1 : 1 ≤ arity t.op) : Full (t :: ts) 1 := by
  rcases h with ⟨_, h⟩ | ⟨_, h⟩
  · omega
  · right
    refine ⟨by omega, ?_⟩
    simp only [scan]
    rw [if_neg (by omega), if_neg (by omega), show 1 + (arity t.op - 1) = arity t.op by omega, h]
    rfl

theorem rl_append (num : Int → Int → Int) (p r : List Term) : ∀ m, Full p m → rl num (p ++ r) = rl num p ++ rl num r := by
  induction p with
  | nil => intro m _; rfl
  | cons t ts ih =>
    intro m h
    obtain ⟨h1, h2, h3⟩ := h.cons
    have hl := rl_length num ts _ h3
    simp only [List.cons_append, rl]
    rw [ih _ h3, List.take_append_of_le_length (by omega), List.drop_append_of_le_length (by omega)]

theorem rl_single (num : Int → Int → Int) {p : List Term} (h : Full p 1) : rl num p = [levelsF num p] := by
  have hl := rl_length num p 1 h
  obtain ⟨x, hx⟩ : ∃ x, rl num p = [x] := List.length_eq_one_iff.1 (by omega)
  have hlev := lev_eq_rl num p 1 h
  unfold levelsF
  rw [if_pos (full_end h), hlev, hx]
  rfl

theorem gmax_mem_le (l : List Int) : ∀ x ∈ l, x ≤ gmax l := by
  induction l with
  | nil => intro x hx; simp at hx
  | cons a l ih =>
    intro x hx
    rw [gmax_cons']
    rcases List.mem_cons.1 hx with e | e
    · subst e; omega
    · have := ih x e; omega

/-- What bounds the numbers of the expressions from one place on bounds them from the next place on. -/
theorem rl_next (num : Int → Int → Int) (hn : ∀ op g, 0 ≤ g → g ≤ num op g) (es : List Term) (i : Nat) (hi : i < es.length) (B : Int) (h : ∀ x ∈ rl num (es.drop i), x ≤ B) : ∀ x ∈ rl num (es.drop (i + 1)), x ≤ B := by
  intro x hx
  rw [List.drop_eq_getElem_cons hi] at h
  simp only [rl] at h
  rw [← List.take_append_drop (arity es[i].op).toNat (rl num (es.drop (i + 1)))] at hx
  rcases List.mem_append.1 hx with e | e
  · have h1 := gmax_mem_le _ x e
    have h2 := hn es[i].op _ (gmax_nonneg ((rl num (es.drop (i + 1))).take (arity es[i].op).toNat))
    have h3 := h _ (List.mem_cons_self ..)
    omega
  · exact h x (List.mem_cons_of_mem _ e)

theorem rl_from (num : Int → Int → Int) (hn : ∀ op g, 0 ≤ g → g ≤ num op g) (es : List Term) (B : Int) (j : Nat) (h : ∀ x ∈ rl num (es.drop j), x ≤ B) : ∀ i, j ≤ i → i ≤ es.length → ∀ x ∈ rl num (es.drop i), x ≤ B := by
  intro i hji
  induction i with
  | zero => intro _; have : j = 0 := by omega
            subst this; exact h
  | succ i ih =>
    intro hi
    rcases Nat.lt_or_ge i j with hlt | hge
    · have : j = i + 1 := by omega
      subst this; exact h
    · exact rl_next num hn es i (by omega) B (ih hge (by omega))

theorem depthNum_ge (op g : Int) (_ : 0 ≤ g) : g ≤ depthNum op g := by unfold depthNum; omega
theorem nestNum_ge (op g : Int) (_ : 0 ≤ g) : g ≤ nestNum op g := by unfold nestNum; split <;> omega

/-- The part of an expression from a place to its end. -/
def partOf (es : List Term) (i : Nat) : List Term := (es.drop i).take ((endF es i).toNat - i)

theorem part_full {es : List Term} (h : Full es 1) {i : Nat} (hi : i < es.length) : Full (partOf es i) 1 ∧ ∃ r, es.drop i = partOf es i ++ r := by
  obtain ⟨n, hn⟩ := end_some h hi
  have e : (endF es i).toNat - i = n := by
    rw [endF_nat es i hi]; unfold scanAt; rw [hn]; simp; omega
  have hle := scan_le _ _ _ hn
  unfold partOf
  rw [e]
  refine ⟨?_, (es.drop i).drop n, (List.take_append_drop n _).symm⟩
  right
  refine ⟨by omega, ?_⟩
  rw [scan_take _ _ _ hn, List.length_take]
  simp at hle ⊢; omega

theorem part_level (num : Int → Int → Int) {es : List Term} (h : Full es 1) {i : Nat} (hi : i < es.length) : levelsF num (partOf es i) ∈ rl num (es.drop i) := by
  obtain ⟨hF, r, hr⟩ := part_full h hi
  rw [hr, rl_append num _ r 1 hF, rl_single num hF]
  simp

theorem part_le (num : Int → Int → Int) (hn : ∀ op g, 0 ≤ g → g ≤ num op g) {es : List Term} (h : Full es 1) {i : Nat} (hi : i < es.length) : levelsF num (partOf es i) ≤ levelsF num es := by
  refine rl_from num hn es _ 0 (fun x hx => ?_) i (by omega) (by omega) _ (part_level num h hi)
  rw [List.drop_zero, rl_single num h] at hx
  simp at hx; omega

theorem part_lt {es : List Term} (h : Full es 1) {i : Nat} (hi : i < es.length) (h0 : i ≠ 0) : depthF (partOf es i) < depthF es := by
  have hb : levelsF depthNum (partOf es i) ≤ levelsF depthNum es - 1 := by
    refine rl_from depthNum depthNum_ge es _ 1 (fun x hx => ?_) i (by omega) (by omega) _ (part_level depthNum h hi)
    have hs := rl_single depthNum h
    have hp := h.pos
    cases es with
    | nil => simp at hp
    | cons t ts =>
      simp only [rl] at hs
      injection hs with h1 h2
      simp only [List.drop_succ_cons, List.drop_zero] at hx
      rw [← List.take_append_drop (arity t.op).toNat (rl depthNum ts), h2, List.append_nil] at hx
      have hg := gmax_mem_le _ x hx
      rw [show depthNum t.op (gmax ((rl depthNum ts).take (arity t.op).toNat)) = gmax ((rl depthNum ts).take (arity t.op).toNat) + 1 from rfl] at h1
      omega
  unfold depthF; omega

theorem validF_parts (es : List Term) (vars : Int) : validF es vars = true ↔ es.length ≤ 200 ∧ Full es 1 ∧ (∀ t ∈ es, argF t vars = true) ∧ depthF es ≤ 24 ∧ nestF es ≤ 2 := by
  unfold validF
  simp only [Bool.and_eq_true, decide_eq_true_eq, beq_iff_eq, List.all_eq_true]
  constructor
  · rintro ⟨⟨⟨⟨a, b⟩, c⟩, d⟩, e⟩
    exact ⟨a, full_of_end b, c, d, e⟩
  · rintro ⟨a, b, c, d, e⟩
    exact ⟨⟨⟨⟨a, full_end b⟩, c⟩, d⟩, e⟩

theorem part_valid {es : List Term} {vars : Int} (h : validF es vars = true) {i : Nat} (hi : i < es.length) : validF (partOf es i) vars = true := by
  obtain ⟨h1, h2, h3, h4, h5⟩ := (validF_parts es vars).1 h
  have hsub : ∀ t ∈ partOf es i, t ∈ es := fun t ht => List.mem_of_mem_drop (List.mem_of_mem_take ht)
  refine (validF_parts _ _).2 ⟨?_, (part_full h2 hi).1, fun t ht => h3 t (hsub t ht), Int.le_trans (part_le depthNum depthNum_ge h2 hi) h4, Int.le_trans (part_le nestNum nestNum_ge h2 hi) h5⟩
  unfold partOf
  rw [List.length_take, List.length_drop]; omega

/-- A cut expression is none. -/
theorem cut_end {es : List Term} (h : Full es 1) (k : Nat) (hk : k < es.length) : endF (es.take k) 0 = -1 := by
  rcases h with ⟨_, h⟩ | ⟨_, h⟩
  · omega
  · unfold endF
    split
    · rfl
    · unfold scanAt
      simp only [Int.toNat_zero, List.drop_zero]
      rw [scan_take_lt es 1 _ k h hk]
theorem long_end {es : List Term} (h : Full es 1) (t : Term) : endF (es ++ [t]) 0 = es.length := by
  have hp := h.pos
  rcases h with ⟨_, h⟩ | ⟨_, h⟩
  · omega
  · unfold endF
    rw [if_neg (by simp)]
    unfold scanAt
    simp only [Int.toNat_zero, List.drop_zero]
    rw [scan_append es [t] 1 _ h]; simp
theorem not_end {es : List Term} (h : endF es 0 ≠ es.length) : depthF es = 0 ∧ nestF es = 0 ∧ ∀ vars, validF es vars = false := by
  refine ⟨by unfold depthF levelsF; rw [if_neg h], by unfold nestF levelsF; rw [if_neg h], fun vars => ?_⟩
  unfold validF
  rw [show (endF es 0 == (es.length : Int)) = false by simpa using h]
  simp

/-- An operation ahead of whole expressions. -/
theorem grow_levels (num : Int → Int → Int) {t : Term} {ts : List Term} (h : Full ts (arity t.op)) (h1 : 1 ≤ arity t.op) : levelsF num (t :: ts) = num t.op (gmax (rl num ts)) := by
  have hs := rl_single num (Full.mk h h1)
  have hl := rl_length num ts _ h
  simp only [rl] at hs
  injection hs with h2 _
  rw [← h2, List.take_of_length_le (by omega)]

/- Renaming variables. -/
def renTerm (m : List Int) (t : Term) : Term := if t.op = 5 ∨ t.op = 12 then ⟨t.op, m.getD t.arg.toNat 0⟩ else t
def inVars (m : List Int) : Bool := m.all fun x => decide (0 ≤ x ∧ x < 6)
def renameF (es : List Term) (m : List Int) : List Term × Int :=
  if validF es m.length = false then ([], 7) else if inVars m = false then ([], 2) else (es.map (renTerm m), 0)
def renPart (m : List Int) (es : List Term) (k : Nat) : List Term := (es.take k).map (renTerm m) ++ es.drop k

theorem renPart_zero (m : List Int) (es : List Term) : renPart m es 0 = es := by simp [renPart]
theorem renPart_full (m : List Int) (es : List Term) (k : Nat) (h : es.length ≤ k) : renPart m es k = es.map (renTerm m) := by
  unfold renPart; rw [List.take_of_length_le h, List.drop_eq_nil_of_le h, List.append_nil]
theorem renPart_length (m : List Int) (es : List Term) (k : Nat) : (renPart m es k).length = es.length := by
  unfold renPart; simp; omega
theorem renPart_get (m : List Int) (es : List Term) (k : Nat) (h : k < es.length) : (renPart m es k)[k]? = some es[k] := by
  unfold renPart
  rw [List.getElem?_append_right (by simp; omega)]
  simp [Nat.min_eq_left (Nat.le_of_lt h), List.getElem?_eq_getElem h]
theorem renPart_succ (m : List Int) (es : List Term) (k : Nat) (h : k < es.length) : renPart m es (k + 1) = (renPart m es k).set k (renTerm m es[k]) := by
  unfold renPart
  have hl : ((es.take k).map (renTerm m)).length = k := by simp; omega
  rw [List.take_succ_eq_append_getElem h, List.map_append, List.append_assoc, List.set_append_right _ _ (by omega), hl, Nat.sub_self, List.drop_eq_getElem_cons h]
  rfl

/- The variables that are read. -/
def readGo : List Term → Nat → Nat → Nat × Nat
  | [], o, n => (o, n)
  | t :: ts, o, n => if t.op = 5 then readGo ts (o ||| 1 <<< t.arg.toNat) n else if t.op = 12 then readGo ts o (n ||| 1 <<< t.arg.toNat) else readGo ts o n
def readsF (es : List Term) : Nat × Nat := if validF es 6 = false then (0, 0) else readGo es 0 0

end Go.Proofs.YtaifafljakojnaaGreat

