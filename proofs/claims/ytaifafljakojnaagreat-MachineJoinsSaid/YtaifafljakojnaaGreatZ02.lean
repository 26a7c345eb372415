/- Merged of: PX PG PGb PGc (see NOTES.md). -/
import Derived.Test.YtaifafljakojnaaGreatZ01
set_option linter.unusedSimpArgs false
set_option linter.unnecessarySimpa false
set_option linter.unusedVariables false

/- Expressions as trees: every list of terms that is one expression is a tree, each operation ahead of its operands. -/
namespace Go.Proofs.YtaifafljakojnaaGreat

inductive Ex where
  | leaf (t : Term)
  | un (t : Term) (a : Ex)
  | bin (t : Term) (a b : Ex)
  | tri (t : Term) (a b c : Ex)

def Ex.terms : Ex → List Term
  | .leaf t => [t]
  | .un t a => t :: a.terms
  | .bin t a b => t :: (a.terms ++ b.terms)
  | .tri t a b c => t :: (a.terms ++ (b.terms ++ c.terms))

def Ex.len (x : Ex) : Nat := x.terms.length

def Ex.ok : Ex → Prop
  | .leaf t => arity t.op = 0
  | .un t a => arity t.op = 1 ∧ a.ok
  | .bin t a b => arity t.op = 2 ∧ a.ok ∧ b.ok
  | .tri t a b c => arity t.op = 3 ∧ a.ok ∧ b.ok ∧ c.ok

theorem Ex.pos (x : Ex) : 0 < x.len := by cases x <;> simp [Ex.len, Ex.terms]

theorem Ex.full {x : Ex} (h : x.ok) : Full x.terms 1 := by
  induction x with
  | leaf t =>
    simp only [Ex.ok] at h
    right
    refine ⟨by omega, ?_⟩
    simp [Ex.terms, scan, h]
  | un t a ih =>
    obtain ⟨h1, h2⟩ := h
    exact Full.mk (by rw [h1]; exact ih h2) (by omega)
  | bin t a b iha ihb =>
    obtain ⟨h1, h2, h3⟩ := h
    exact Full.mk (by rw [h1]; exact Full.add (m1 := 1) (m2 := 1) (iha h2) (ihb h3) (by omega) (by omega)) (by omega)
  | tri t a b c iha ihb ihc =>
    obtain ⟨h1, h2, h3, h4⟩ := h
    exact Full.mk (by rw [h1]; exact Full.add (m1 := 1) (m2 := 2) (iha h2) (Full.add (m1 := 1) (m2 := 1) (ihb h3) (ihc h4) (by omega) (by omega)) (by omega) (by omega)) (by omega)

theorem parse (l : List Term) : ∀ m, Full l m → ∃ xs : List Ex, (∀ x ∈ xs, x.ok) ∧ xs.flatMap Ex.terms = l ∧ (xs.length : Int) = m := by
  induction l with
  | nil =>
    intro m h
    rcases h with ⟨_, h⟩ | ⟨_, h⟩
    · exact ⟨[], fun _ h => by simp at h, rfl, by simp [h]⟩
    · simp [scan] at h
  | cons t ts ih =>
    intro m h
    obtain ⟨h1, h2, h3⟩ := h.cons
    obtain ⟨xs, hok, hfl, hlen⟩ := ih _ h3
    have h4 := (arity_le t.op).2
    rcases (show arity t.op = 0 ∨ arity t.op = 1 ∨ arity t.op = 2 ∨ arity t.op = 3 by omega) with ha | ha | ha | ha
    · refine ⟨.leaf t :: xs, ?_, by simp [Ex.terms, hfl], by simp; omega⟩
      intro x hx
      rcases List.mem_cons.1 hx with e | e
      · subst e; exact ha
      · exact hok x e
    · match xs, hok, hfl, hlen with
      | [], _, _, hlen => simp at hlen; omega
      | a :: xs, hok, hfl, hlen =>
        refine ⟨.un t a :: xs, ?_, by simp [Ex.terms, ← hfl], by simp at hlen ⊢; omega⟩
        intro x hx
        rcases List.mem_cons.1 hx with e | e
        · subst e; exact ⟨ha, hok a (by simp)⟩
        · exact hok x (by simp [e])
    · match xs, hok, hfl, hlen with
      | [], _, _, hlen => simp at hlen; omega
      | [a], _, _, hlen => simp at hlen; omega
      | a :: b :: xs, hok, hfl, hlen =>
        refine ⟨.bin t a b :: xs, ?_, by simp [Ex.terms, ← hfl], by simp at hlen ⊢; omega⟩
        intro x hx
        rcases List.mem_cons.1 hx with e | e
        · subst e; exact ⟨ha, hok a (by simp), hok b (by simp)⟩
        · exact hok x (by simp [e])
    · match xs, hok, hfl, hlen with
      | [], _, _, hlen => simp at hlen; omega
      | [a], _, _, hlen => simp at hlen; omega
      | [a, b], _, _, hlen => simp at hlen; omega
      | a :: b :: c :: xs, hok, hfl, hlen =>
        refine ⟨.tri t a b c :: xs, ?_, by simp [Ex.terms, ← hfl], by simp at hlen ⊢; omega⟩
        intro x hx
        rcases List.mem_cons.1 hx with e | e
        · subst e; exact ⟨ha, hok a (by simp), hok b (by simp), hok c (by simp)⟩
        · exact hok x (by simp [e])

theorem parse1 {l : List Term} (h : Full l 1) : ∃ x : Ex, x.ok ∧ x.terms = l := by
  obtain ⟨xs, h1, h2, h3⟩ := parse l 1 h
  obtain ⟨x, rfl⟩ : ∃ x, xs = [x] := List.length_eq_one_iff.1 (by omega)
  exact ⟨x, h1 x (by simp), by simpa using h2⟩

/-- The expression stands at a place of a list. -/
def Ex.At (es : List Term) (k : Nat) (x : Ex) : Prop := x.ok ∧ ∃ r, es.drop k = x.terms ++ r

theorem At.whole {es : List Term} {x : Ex} (h : x.ok) (he : x.terms = es) : x.At es 0 := ⟨h, [], by simp [he]⟩

theorem drop_of_drop {es r : List Term} {k n : Nat} {p : List Term} (h : es.drop k = p ++ r) (hn : p.length = n) : es.drop (k + n) = r := by
  rw [← List.drop_drop, h, ← hn, List.drop_left]

theorem At.bound {es : List Term} {k : Nat} {x : Ex} (h : x.At es k) : k + x.len ≤ es.length := by
  obtain ⟨_, r, hr⟩ := h
  have := congrArg List.length hr
  have hp := x.pos
  simp only [List.length_drop, List.length_append] at this
  unfold Ex.len at *
  omega
theorem At.lt {es : List Term} {k : Nat} {x : Ex} (h : x.At es k) : k < es.length := by
  have := At.bound h
  have := x.pos
  omega

theorem drop_head {es r : List Term} {k : Nat} {t : Term} (h : es.drop k = t :: r) : es[k]? = some t ∧ es.drop (k + 1) = r := by
  refine ⟨?_, ?_⟩
  · have := congrArg (·[0]?) h
    simpa using this
  · exact drop_of_drop (p := [t]) h rfl

theorem At.leaf {es : List Term} {k : Nat} {t : Term} (h : (Ex.leaf t).At es k) : es[k]? = some t ∧ arity t.op = 0 := by
  obtain ⟨h1, r, hr⟩ := h
  exact ⟨(drop_head hr).1, h1⟩
theorem At.un {es : List Term} {k : Nat} {t : Term} {a : Ex} (h : (Ex.un t a).At es k) : es[k]? = some t ∧ arity t.op = 1 ∧ a.At es (k + 1) := by
  obtain ⟨⟨h1, h2⟩, r, hr⟩ := h
  obtain ⟨g1, g2⟩ := drop_head hr
  exact ⟨g1, h1, h2, r, g2⟩
theorem At.bin {es : List Term} {k : Nat} {t : Term} {a b : Ex} (h : (Ex.bin t a b).At es k) : es[k]? = some t ∧ arity t.op = 2 ∧ a.At es (k + 1) ∧ b.At es (k + 1 + a.len) := by
  obtain ⟨⟨h1, h2, h3⟩, r, hr⟩ := h
  obtain ⟨g1, g2⟩ := drop_head (r := _ ++ r) hr
  rw [List.append_assoc] at g2
  exact ⟨g1, h1, ⟨h2, _, g2⟩, h3, r, drop_of_drop g2 rfl⟩
theorem At.tri {es : List Term} {k : Nat} {t : Term} {a b c : Ex} (h : (Ex.tri t a b c).At es k) : es[k]? = some t ∧ arity t.op = 3 ∧ a.At es (k + 1) ∧ b.At es (k + 1 + a.len) ∧ c.At es (k + 1 + a.len + b.len) := by
  obtain ⟨⟨h1, h2, h3, h4⟩, r, hr⟩ := h
  obtain ⟨g1, g2⟩ := drop_head (r := _ ++ r) hr
  rw [List.append_assoc] at g2
  have g3 := drop_of_drop g2 rfl
  rw [List.append_assoc] at g3
  exact ⟨g1, h1, ⟨h2, _, g2⟩, ⟨h3, _, g3⟩, h4, r, drop_of_drop g3 rfl⟩

theorem At.endF {es : List Term} {k : Nat} {x : Ex} (h : x.At es k) : endF es (k : Int) = ((k + x.len : Nat) : Int) := by
  have hlt := At.lt h
  obtain ⟨hok, r, hr⟩ := h
  rw [endF_nat es k hlt]
  unfold scanAt
  rcases Ex.full hok with ⟨_, h⟩ | ⟨_, h⟩
  · omega
  · rw [hr, scan_append _ r _ _ h]; simp [Ex.len]

theorem opAt_some {es : List Term} {k : Nat} {t : Term} (h : es[k]? = some t) : opAt es (k : Int) = t.op := by
  obtain ⟨h1, h2⟩ := List.getElem?_eq_some_iff.1 h
  rw [opAt_get h1, h2]

theorem At.operand1 {es : List Term} {k : Nat} {x a : Ex} {t : Term} (h : x.At es k) (ht : es[k]? = some t) (har : 2 ≤ arity t.op) (ha : a.At es (k + 1)) : operandF es (k : Int) 1 = ((k + 1 + a.len : Nat) : Int) := by
  unfold operandF
  rw [At.endF h, opAt_some ht, if_neg (by omega)]
  show Go.Proofs.YtaifafljakojnaaGreat.endF es ((k : Int) + 1) = _
  rw [show (k : Int) + 1 = ((k + 1 : Nat) : Int) by omega, At.endF ha]
theorem At.operand2 {es : List Term} {k : Nat} {x a b : Ex} {t : Term} (h : x.At es k) (ht : es[k]? = some t) (har : 3 ≤ arity t.op) (ha : a.At es (k + 1)) (hb : b.At es (k + 1 + a.len)) : operandF es (k : Int) 2 = ((k + 1 + a.len + b.len : Nat) : Int) := by
  unfold operandF
  rw [At.endF h, opAt_some ht, if_neg (by omega)]
  show Go.Proofs.YtaifafljakojnaaGreat.endF es (Go.Proofs.YtaifafljakojnaaGreat.endF es ((k : Int) + 1)) = _
  rw [show (k : Int) + 1 = ((k + 1 : Nat) : Int) by omega, At.endF ha, At.endF hb]

def Ex.depth : Ex → Int
  | .leaf _ => 1
  | .un _ a => a.depth + 1
  | .bin _ a b => max a.depth b.depth + 1
  | .tri _ a b c => max a.depth (max b.depth c.depth) + 1
def Ex.nest : Ex → Int
  | .leaf _ => 0
  | .un t a => if aggregate t.op then a.nest + 1 else a.nest
  | .bin _ a b => max a.nest b.nest
  | .tri _ a b c => max a.nest (max b.nest c.nest)

theorem Ex.depth_pos (x : Ex) : 1 ≤ x.depth := by
  induction x <;> simp only [Ex.depth] <;> omega
theorem Ex.nest_pos (x : Ex) : 0 ≤ x.nest := by
  induction x with
  | leaf t => simp [Ex.nest]
  | un t a ih => simp only [Ex.nest]; split <;> omega
  | bin t a b iha ihb => simp only [Ex.nest]; omega
  | tri t a b c iha ihb ihc => simp only [Ex.nest]; omega

theorem agg_arity {op : Int} (h : aggregate op = true) : arity op = 1 := by
  unfold aggregate at h
  have : 20 ≤ op ∧ op ≤ 29 := by simpa using h
  unfold arity
  rw [if_neg (by omega), if_neg (by omega), if_pos (by omega)]
theorem agg_false {op : Int} (h : arity op ≠ 1) : aggregate op = false := by
  cases hb : aggregate op with
  | false => rfl
  | true => exact absurd (agg_arity hb) h

theorem levels_leaf (num : Int → Int → Int) {t : Term} (h : arity t.op = 0) : levelsF num [t] = num t.op 0 := by
  have hF : Full [t] 1 := Ex.full (x := .leaf t) h
  have := rl_single num hF
  simp only [rl] at this
  injection this with h1 _
  rw [← h1, h]; rfl
theorem Ex.levels_depth {x : Ex} (h : x.ok) : depthF x.terms = x.depth := by
  unfold depthF
  induction x with
  | leaf t => simp only [Ex.terms]; rw [levels_leaf _ h]; rfl
  | un t a ih =>
    obtain ⟨h1, h2⟩ := h
    have hp := a.depth_pos
    simp only [Ex.terms]
    rw [grow_levels _ (by rw [h1]; exact Ex.full h2) (by omega), rl_single _ (Ex.full h2), ih h2]
    simp [gmax, depthNum, Ex.depth]; omega
  | bin t a b iha ihb =>
    obtain ⟨h1, h2, h3⟩ := h
    have hp := a.depth_pos
    have hq := b.depth_pos
    simp only [Ex.terms]
    rw [grow_levels _ (by rw [h1]; exact Full.add (m1 := 1) (m2 := 1) (Ex.full h2) (Ex.full h3) (by omega) (by omega)) (by omega), rl_append _ _ _ 1 (Ex.full h2), rl_single _ (Ex.full h2), rl_single _ (Ex.full h3), iha h2, ihb h3]
    simp [gmax, depthNum, Ex.depth]; omega
  | tri t a b c iha ihb ihc =>
    obtain ⟨h1, h2, h3, h4⟩ := h
    have hp := a.depth_pos
    have hq := b.depth_pos
    have hr := c.depth_pos
    simp only [Ex.terms]
    rw [grow_levels _ (by rw [h1]; exact Full.add (m1 := 1) (m2 := 2) (Ex.full h2) (Full.add (m1 := 1) (m2 := 1) (Ex.full h3) (Ex.full h4) (by omega) (by omega)) (by omega) (by omega)) (by omega), rl_append _ _ _ 1 (Ex.full h2), rl_append _ _ _ 1 (Ex.full h3), rl_single _ (Ex.full h2), rl_single _ (Ex.full h3), rl_single _ (Ex.full h4), iha h2, ihb h3, ihc h4]
    simp [gmax, depthNum, Ex.depth]; omega
theorem Ex.levels_nest {x : Ex} (h : x.ok) : nestF x.terms = x.nest := by
  unfold nestF
  induction x with
  | leaf t =>
    simp only [Ex.terms]; rw [levels_leaf _ h]
    have := agg_false (op := t.op) (by rw [h]; omega)
    simp [nestNum, this, Ex.nest]
  | un t a ih =>
    obtain ⟨h1, h2⟩ := h
    have hp := a.nest_pos
    simp only [Ex.terms]
    rw [grow_levels _ (by rw [h1]; exact Ex.full h2) (by omega), rl_single _ (Ex.full h2), ih h2]
    have : gmax [a.nest] = a.nest := by simp [gmax]; omega
    rw [this]; simp [nestNum, Ex.nest]
  | bin t a b iha ihb =>
    obtain ⟨h1, h2, h3⟩ := h
    have hp := a.nest_pos
    have hq := b.nest_pos
    have hag := agg_false (op := t.op) (by rw [h1]; omega)
    simp only [Ex.terms]
    rw [grow_levels _ (by rw [h1]; exact Full.add (m1 := 1) (m2 := 1) (Ex.full h2) (Ex.full h3) (by omega) (by omega)) (by omega), rl_append _ _ _ 1 (Ex.full h2), rl_single _ (Ex.full h2), rl_single _ (Ex.full h3), iha h2, ihb h3]
    simp [gmax, nestNum, hag, Ex.nest]; omega
  | tri t a b c iha ihb ihc =>
    obtain ⟨h1, h2, h3, h4⟩ := h
    have hp := a.nest_pos
    have hq := b.nest_pos
    have hr := c.nest_pos
    have hag := agg_false (op := t.op) (by rw [h1]; omega)
    simp only [Ex.terms]
    rw [grow_levels _ (by rw [h1]; exact Full.add (m1 := 1) (m2 := 2) (Ex.full h2) (Full.add (m1 := 1) (m2 := 1) (Ex.full h3) (Ex.full h4) (by omega) (by omega)) (by omega) (by omega)) (by omega), rl_append _ _ _ 1 (Ex.full h2), rl_append _ _ _ 1 (Ex.full h3), rl_single _ (Ex.full h2), rl_single _ (Ex.full h3), rl_single _ (Ex.full h4), iha h2, ihb h3, ihc h4]
    simp [gmax, nestNum, hag, Ex.nest]; omega

/-- A valid expression, as a tree. -/
theorem valid_tree {es : List Term} {vars : Int} (h : validF es vars = true) : ∃ x : Ex, x.ok ∧ x.terms = es ∧ es.length ≤ 200 ∧ (∀ t ∈ es, argF t vars = true) ∧ x.depth ≤ 24 ∧ x.nest ≤ 2 := by
  obtain ⟨h1, h2, h3, h4, h5⟩ := (validF_parts es vars).1 h
  obtain ⟨x, hx, rfl⟩ := parse1 h2
  exact ⟨x, hx, rfl, h1, h3, by rw [← Ex.levels_depth hx]; exact h4, by rw [← Ex.levels_nest hx]; exact h5⟩

end Go.Proofs.YtaifafljakojnaaGreat

/- The plain form of graphs, programs and configurations, and of the layers 1, 7, 9 and 10. -/
namespace Go.Proofs.YtaifafljakojnaaGreat

structure Link where
  «to» : Int
  weight : Int
instance : Inhabited Link := ⟨⟨0, 0⟩⟩
structure Graph where
  ids : List Int
  ports : List (List Link)
structure Var where
  name : ByteArray
  kind : Int
  lo : Int
  hi : Int
  perNode : Int
  perID : Int
instance : Inhabited Var := ⟨⟨ByteArray.empty, 0, 0, 0, 0, 0⟩⟩
structure SetT where
  var : Int
  value : List Term
instance : Inhabited SetT := ⟨⟨0, []⟩⟩
structure Rule where
  name : ByteArray
  guard : List Term
  sets : List SetT
instance : Inhabited Rule := ⟨⟨ByteArray.empty, [], []⟩⟩
structure Prg where
  name : ByteArray
  vars : List Var
  rules : List Rule
abbrev Config := List (List Int)

/-! ### Expressions, read from their end -/
def stackEx : List Term → List Ex
  | [] => []
  | t :: ts =>
    let s := stackEx ts
    if arity t.op = 0 then .leaf t :: s
    else if arity t.op = 1 then (match s with | a :: s => .un t a :: s | [] => [])
    else if arity t.op = 2 then (match s with | a :: b :: s => .bin t a b :: s | _ => [])
    else (match s with | a :: b :: c :: s => .tri t a b c :: s | _ => [])
def treeOf (es : List Term) : Ex := (stackEx es).headD (.leaf default)

theorem stackEx_terms {x : Ex} (h : x.ok) (r : List Term) : stackEx (x.terms ++ r) = x :: stackEx r := by
  induction x generalizing r with
  | leaf t => simp only [Ex.ok] at h; simp [Ex.terms, stackEx, h]
  | un t a ih => obtain ⟨h1, h2⟩ := h; simp [Ex.terms, stackEx, h1, ih h2]
  | bin t a b iha ihb => obtain ⟨h1, h2, h3⟩ := h; simp [Ex.terms, stackEx, h1, iha h2, ihb h3]
  | tri t a b c iha ihb ihc => obtain ⟨h1, h2, h3, h4⟩ := h; simp [Ex.terms, stackEx, h1, iha h2, ihb h3, ihc h4]
theorem treeOf_terms {x : Ex} (h : x.ok) : treeOf x.terms = x := by
  have := stackEx_terms h []
  rw [List.append_nil] at this
  simp [treeOf, this]
theorem treeOf_eq {es : List Term} {x : Ex} (h : x.ok) (he : x.terms = es) : treeOf es = x := by rw [← he]; exact treeOf_terms h
/-- A valid expression is its tree. -/
theorem valid_treeOf {es : List Term} {vars : Int} (h : validF es vars = true) : (treeOf es).ok ∧ (treeOf es).terms = es ∧ es.length ≤ 200 ∧ (∀ t ∈ es, argF t vars = true) ∧ (treeOf es).depth ≤ 24 ∧ (treeOf es).nest ≤ 2 := by
  obtain ⟨x, h1, h2, h3, h4, h5, h6⟩ := valid_tree h
  rw [treeOf_eq h1 h2]
  exact ⟨h1, h2, h3, h4, h5, h6⟩

/-! ### Layer 7: types -/
def knownK (k : Int) : Bool := k == 1 || k == 2 || k == 3
def nearOp (op : Int) : Bool := decide (11 ≤ op ∧ op ≤ 17)
def leafK (kinds : List Int) (t : Term) : Int :=
  if t.op = 2 ∨ t.op = 3 ∨ t.op = 10 ∨ t.op = 15 then 2
  else if t.op = 4 ∨ t.op = 11 ∨ t.op = 17 then 3
  else if t.op = 5 ∨ t.op = 12 then kinds.getD t.arg.toNat 0
  else 1
def ifK (b : Bool) (k : Int) : Int := if b then k else 0
def singleK (op a : Int) : Int :=
  if op = 19 ∨ op = 20 ∨ op = 21 then ifK (a == 2) 2
  else if op = 22 then ifK (a == 2) 1
  else if op = 23 then ifK (a == 2) 3
  else ifK (a == 1) 1
def doubleK (op a b : Int) : Int :=
  if op = 35 ∨ op = 36 then ifK (a == b && a != 0) 2
  else if op = 41 ∨ op = 42 then ifK (a == 2 && b == 2) 2
  else if 37 ≤ op ∧ op ≤ 40 then ifK (a == 1 && b == 1) 2
  else ifK (a == 1 && b == 1) 1
def kindF (kinds : List Int) : Bool → Ex → Int
  | bound, .leaf t => if nearOp t.op && !bound then 0 else leafK kinds t
  | bound, .un t a => singleK t.op (kindF kinds (bound || aggregate t.op) a)
  | bound, .bin t a b => doubleK t.op (kindF kinds bound a) (kindF kinds bound b)
  | bound, .tri _ a b c => ifK (kindF kinds bound a == 2 && kindF kinds bound b == kindF kinds bound c) (kindF kinds bound b)
def ofF (es : List Term) (kinds : List Int) (bound : Bool) : Int × Int :=
  if 6 < kinds.length then (0, 7)
  else if kinds.all knownK = false then (0, 7)
  else if validF es kinds.length = false then (0, 7)
  else if kindF kinds bound (treeOf es) = 0 then (0, 6)
  else (kindF kinds bound (treeOf es), 0)
def kindsF (p : Prg) : List Int := p.vars.map Var.kind

end Go.Proofs.YtaifafljakojnaaGreat

/- Valid graphs, plain. -/
namespace Go.Proofs.YtaifafljakojnaaGreat

def portF (ls : List Link) (u : Int) : Int := match ls.findIdx? (fun l => l.to == u) with | some i => (i : Int) | none => -1
theorem portF_found {ls : List Link} {u : Int} {j : Nat} (h : j < ls.length) (ha : (ls.take j).all (fun l => !(l.to == u)) = true) (hj : (ls[j].to == u) = true) : portF ls u = (j : Int) := by
  unfold portF
  have : ls.findIdx? (fun l => l.to == u) = some j := by
    rw [List.findIdx?_eq_some_iff_getElem]
    refine ⟨h, hj, fun k hk => ?_⟩
    have := List.all_eq_true.1 ha ls[k] (by rw [List.mem_take_iff_getElem]; exact ⟨k, by omega, rfl⟩)
    simpa using this
  rw [this]
theorem portF_none {ls : List Link} {u : Int} (ha : ls.all (fun l => !(l.to == u)) = true) : portF ls u = -1 := by
  unfold portF
  have : ls.findIdx? (fun l => l.to == u) = none := by
    rw [List.findIdx?_eq_none_iff]
    intro x hx
    have := List.all_eq_true.1 ha x hx
    simpa using this
  rw [this]


theorem nodup_le : ∀ (n : Nat) (l : List Int), l.Nodup → (∀ x ∈ l, 0 ≤ x ∧ x < (n : Int)) → l.length ≤ n
  | 0, l, _, h => by
    cases l with
    | nil => simp
    | cons x l => have := h x (by simp); omega
  | n + 1, l, hn, h => by
    have h1 := nodup_le n (l.erase (n : Int)) (hn.erase _) (fun x hx => by
      have h2 := h x (List.mem_of_mem_erase hx)
      have h3 : x ≠ (n : Int) := by
        rintro rfl
        exact (List.Nodup.not_mem_erase hn) hx
      omega)
    have h4 : l.length ≤ (l.erase (n : Int)).length + 1 := by
      rw [List.length_erase]; split <;> omega
    omega

def linkOK (n v : Nat) (l : Link) : Bool := decide (0 ≤ l.to ∧ l.to < (n : Int) ∧ l.to ≠ (v : Int) ∧ 1 ≤ l.weight ∧ l.weight ≤ 15)
def linksOK (n v : Nat) (ls : List Link) : Bool := ls.all (linkOK n v) && decide ((ls.map Link.to).Nodup)
def backOK (g : Graph) (v : Nat) (l : Link) : Bool := (g.ports.getD l.to.toNat []).any fun k => k.to == (v : Int) && k.weight == l.weight
def idsOK (ids : List Int) : Bool := ids.all (fun i => decide (0 ≤ i ∧ i ≤ 255)) && decide ids.Nodup
def graphB (g : Graph) : Bool :=
  decide (1 ≤ g.ports.length ∧ g.ports.length ≤ 24 ∧ g.ids.length = g.ports.length) && idsOK g.ids
    && (List.range g.ports.length).all (fun v => linksOK g.ports.length v (g.ports.getD v []))
    && (List.range g.ports.length).all (fun v => (g.ports.getD v []).all (backOK g v))

structure GOK (g : Graph) : Prop where
  pos : 1 ≤ g.ports.length
  le : g.ports.length ≤ 24
  ids : g.ids.length = g.ports.length
  idr : ∀ i ∈ g.ids, 0 ≤ i ∧ i ≤ 255
  idn : g.ids.Nodup
  links : ∀ v, (h : v < g.ports.length) → linksOK g.ports.length v g.ports[v] = true
  back : ∀ v, (h : v < g.ports.length) → ∀ l ∈ g.ports[v], backOK g v l = true

theorem getD_eq {α : Type} {l : List α} {k : Nat} {d : α} (h : k < l.length) : l.getD k d = l[k] := by simp [List.getD_eq_getElem?_getD, h]

theorem graphB_iff (g : Graph) : graphB g = true ↔ GOK g := by
  unfold graphB idsOK
  simp only [Bool.and_eq_true, decide_eq_true_eq, List.all_eq_true, List.mem_range]
  constructor
  · rintro ⟨⟨⟨⟨h1, h2, h3⟩, h4, h5⟩, h6⟩, h7⟩
    exact ⟨h1, h2, h3, h4, h5, fun v hv => by have := h6 v hv; rwa [getD_eq hv] at this, fun v hv l hl => by have := h7 v hv; rw [getD_eq hv] at this; exact this l hl⟩
  · rintro ⟨h1, h2, h3, h4, h5, h6, h7⟩
    exact ⟨⟨⟨⟨h1, h2, h3⟩, h4, h5⟩, fun v hv => by rw [getD_eq hv]; exact h6 v hv⟩, fun v hv => by rw [getD_eq hv]; exact h7 v hv⟩

theorem linksOK_iff {n v : Nat} {ls : List Link} : linksOK n v ls = true ↔ (∀ l ∈ ls, linkOK n v l = true) ∧ (ls.map Link.to).Nodup := by
  unfold linksOK
  simp only [Bool.and_eq_true, decide_eq_true_eq, List.all_eq_true]
theorem linkOK_iff {n v : Nat} {l : Link} : linkOK n v l = true ↔ 0 ≤ l.to ∧ l.to < (n : Int) ∧ l.to ≠ (v : Int) ∧ 1 ≤ l.weight ∧ l.weight ≤ 15 := by
  unfold linkOK; simp only [decide_eq_true_eq]
theorem linksOK_len {n v : Nat} {ls : List Link} (hv : v < n) (h : linksOK n v ls = true) : ls.length < n := by
  obtain ⟨h1, h2⟩ := linksOK_iff.1 h
  have := nodup_le n ((v : Int) :: ls.map Link.to) (by
    rw [List.nodup_cons]
    refine ⟨?_, h2⟩
    intro hm
    obtain ⟨l, hl, he⟩ := List.mem_map.1 hm
    exact (linkOK_iff.1 (h1 l hl)).2.2.1 he) (by
    intro x hx
    rcases List.mem_cons.1 hx with rfl | hx
    · omega
    · obtain ⟨l, hl, rfl⟩ := List.mem_map.1 hx
      have := linkOK_iff.1 (h1 l hl)
      omega)
  simp at this
  omega

theorem nodup_take_succ {l : List Int} {k : Nat} (h : k < l.length) (hn : (l.take k).Nodup) (hne : ∀ j (hj : j < k), l[j] ≠ l[k]) : (l.take (k + 1)).Nodup := by
  rw [List.take_succ_eq_append_getElem h, List.nodup_append]
  refine ⟨hn, by simp, ?_⟩
  intro a ha b hb
  simp at hb
  subst hb
  rw [List.mem_take_iff_getElem] at ha
  obtain ⟨j, hj, rfl⟩ := ha
  exact hne j (by omega)
theorem not_nodup {l : List Int} {j k : Nat} (hj : j < k) (hk : k < l.length) (he : l[j] = l[k]) : ¬ l.Nodup := by
  intro hn
  have := (List.nodup_iff_pairwise_ne.1 hn)
  rw [List.pairwise_iff_getElem] at this
  exact this j k (by omega) hk hj he

/-- The first port that leads to a node is the only one. -/
theorem portF_some {ls : List Link} {u : Int} (h : 0 ≤ portF ls u) : ∃ k : Nat, ∃ hk : k < ls.length, portF ls u = (k : Int) ∧ ls[k].to = u := by
  unfold portF at *
  cases hf : ls.findIdx? (fun l => l.to == u) with
  | none => rw [hf] at h; simp at h
  | some k =>
    rw [List.findIdx?_eq_some_iff_getElem] at hf
    obtain ⟨hk, h1, _⟩ := hf
    exact ⟨k, hk, rfl, by simpa using h1⟩
theorem portF_neg {ls : List Link} {u : Int} (h : portF ls u < 0) : ∀ l ∈ ls, l.to ≠ u := by
  unfold portF at *
  cases hf : ls.findIdx? (fun l => l.to == u) with
  | none =>
    rw [List.findIdx?_eq_none_iff] at hf
    intro l hl
    simpa using hf l hl
  | some k => rw [hf] at h; simp at h; omega
theorem portF_range (ls : List Link) (u : Int) : -1 ≤ portF ls u ∧ portF ls u < ls.length := by
  unfold portF
  cases hf : ls.findIdx? (fun l => l.to == u) with
  | none => simp; omega
  | some k =>
    rw [List.findIdx?_eq_some_iff_getElem] at hf
    obtain ⟨hk, _⟩ := hf
    simp; omega
theorem back_weight {ls : List Link} {v : Nat} {x : Int} (hn : (ls.map Link.to).Nodup) (k : Nat) (hk : k < ls.length) (ht : ls[k].to = (v : Int)) : (ls.any fun k => k.to == (v : Int) && k.weight == x) = (ls[k].weight == x) := by
  rw [Bool.eq_iff_iff, List.any_eq_true]
  constructor
  · rintro ⟨l, hl, hh⟩
    simp at hh
    obtain ⟨h1, h2⟩ := hh
    obtain ⟨j, hj, rfl⟩ := List.getElem_of_mem hl
    have : j = k := by
      rcases Nat.lt_trichotomy j k with h | h | h
      · exact absurd hn (not_nodup (k := k) h (by simpa using hk) (by simp [h1, ht]))
      · exact h
      · exact absurd hn (not_nodup (k := j) h (by simpa using hj) (by simp [h1, ht]))
    subst this
    simpa using h2
  · intro h
    exact ⟨ls[k], List.getElem_mem hk, by simp [ht]; simpa using h⟩
theorem back_none {ls : List Link} {v : Nat} {x : Int} (h : portF ls v < 0) : (ls.any fun k => k.to == (v : Int) && k.weight == x) = false := by
  rw [List.any_eq_false]
  intro l hl
  have := portF_neg h l hl
  simp [this]

end Go.Proofs.YtaifafljakojnaaGreat

/- Symmetric links, plain: as the program's map of weights tells them. -/
namespace Go.Proofs.YtaifafljakojnaaGreat

def wOf (ls : List Link) (b : Int) : Int := match ls.find? (fun l => l.to == b) with | some l => l.weight | none => 0
def mOf (ports : List (List Link)) (v j : Nat) (a b : Int) : Int :=
  if 0 ≤ a ∧ a < (v : Int) then wOf (ports.getD a.toNat []) b else if a = (v : Int) then wOf ((ports.getD v []).take j) b else 0
def symB (ports : List (List Link)) : Bool :=
  (List.range ports.length).all (fun v => linksOK ports.length v (ports.getD v [])) && (List.range ports.length).all (fun v => (ports.getD v []).all (backOK ⟨[], ports⟩ v))
structure SymOK (ports : List (List Link)) : Prop where
  links : ∀ v, (h : v < ports.length) → linksOK ports.length v ports[v] = true
  back : ∀ v, (h : v < ports.length) → ∀ l ∈ ports[v], backOK ⟨[], ports⟩ v l = true
theorem symB_iff (ports : List (List Link)) : symB ports = true ↔ SymOK ports := by
  unfold symB
  simp only [Bool.and_eq_true, List.all_eq_true, List.mem_range]
  constructor
  · rintro ⟨h6, h7⟩
    exact ⟨fun v hv => by have := h6 v hv; rwa [getD_eq hv] at this, fun v hv l hl => by have := h7 v hv; rw [getD_eq hv] at this; exact this l hl⟩
  · rintro ⟨h6, h7⟩
    exact ⟨fun v hv => by rw [getD_eq hv]; exact h6 v hv, fun v hv => by rw [getD_eq hv]; exact h7 v hv⟩
theorem symB_false {ports : List (List Link)} (h : ¬ SymOK ports) : symB ports = false := by
  rw [Bool.eq_false_iff]; intro hb; exact h ((symB_iff ports).1 hb)
theorem graphB_sym (g : Graph) : graphB g = (decide (1 ≤ g.ports.length ∧ g.ports.length ≤ 24 ∧ g.ids.length = g.ports.length) && idsOK g.ids && symB g.ports) := by
  unfold graphB symB
  have : ∀ v, backOK g v = backOK ⟨[], g.ports⟩ v := fun v => rfl
  simp only [this, Bool.and_assoc]

theorem wOf_none {ls : List Link} {b : Int} (h : ∀ l ∈ ls, l.to ≠ b) : wOf ls b = 0 := by
  unfold wOf
  have : ls.find? (fun l => l.to == b) = none := by
    rw [List.find?_eq_none]
    intro l hl; simpa using h l hl
  rw [this]
theorem wOf_pos {ls : List Link} {b : Int} (hw : ∀ l ∈ ls, 1 ≤ l.weight) (h : wOf ls b = 0) : ∀ l ∈ ls, l.to ≠ b := by
  unfold wOf at h
  cases hf : ls.find? (fun l => l.to == b) with
  | none =>
    rw [List.find?_eq_none] at hf
    intro l hl; simpa using hf l hl
  | some l =>
    rw [hf] at h
    simp only [] at h
    have := hw l (List.mem_of_find?_eq_some hf)
    omega
theorem wOf_some {ls : List Link} {b : Int} (h : wOf ls b ≠ 0) : ∃ l ∈ ls, l.to = b ∧ wOf ls b = l.weight := by
  unfold wOf at *
  cases hf : ls.find? (fun l => l.to == b) with
  | none => rw [hf] at h; exact absurd rfl h
  | some l => exact ⟨l, List.mem_of_find?_eq_some hf, by simpa using List.find?_some hf, rfl⟩
theorem wOf_unique {ls : List Link} (hn : (ls.map Link.to).Nodup) {l : Link} (hl : l ∈ ls) : wOf ls l.to = l.weight := by
  unfold wOf
  cases hf : ls.find? (fun k => k.to == l.to) with
  | none =>
    rw [List.find?_eq_none] at hf
    have := hf l hl
    simp at this
  | some k =>
    have h1 : k.to = l.to := by simpa using List.find?_some hf
    have h2 := List.mem_of_find?_eq_some hf
    obtain ⟨i, hi, rfl⟩ := List.getElem_of_mem hl
    obtain ⟨j, hj, rfl⟩ := List.getElem_of_mem h2
    have : i = j := by
      rcases Nat.lt_trichotomy i j with h | h | h
      · exact absurd hn (not_nodup h (by simpa using hj) (by simp [h1]))
      · exact h
      · exact absurd hn (not_nodup h (by simpa using hi) (by simp [h1]))
    subst this; rfl
theorem wOf_snoc {ls : List Link} {j : Nat} (h : j < ls.length) (hno : ∀ l ∈ ls.take j, l.to ≠ ls[j].to) (b : Int) : wOf (ls.take (j + 1)) b = if b = ls[j].to then ls[j].weight else wOf (ls.take j) b := by
  unfold wOf
  rw [List.take_succ_eq_append_getElem h, List.find?_append]
  by_cases hb : b = ls[j].to
  · subst hb
    have : (ls.take j).find? (fun l => l.to == ls[j].to) = none := by
      rw [List.find?_eq_none]; intro l hl; simpa using hno l hl
    rw [this, if_pos rfl]
    simp
  · rw [if_neg hb]
    cases hf : (ls.take j).find? (fun l => l.to == b) with
    | some l => simp
    | none =>
      have : (ls[j].to == b) = false := by simp; exact fun h => hb h.symm
      simp [this]
theorem mOf_step {ports : List (List Link)} {v j : Nat} (hv : v < ports.length) (hj : j < ports[v].length) (hno : ∀ l ∈ ports[v].take j, l.to ≠ ports[v][j].to) (a b : Int) :
    mOf ports v (j + 1) a b = if a = (v : Int) ∧ b = ports[v][j].to then ports[v][j].weight else mOf ports v j a b := by
  unfold mOf
  rw [getD_eq hv]
  by_cases ha : a = (v : Int)
  · subst ha
    have hn : ¬ (0 ≤ (v : Int) ∧ (v : Int) < (v : Int)) := by omega
    simp only [if_neg hn, if_pos, true_and]
    rw [wOf_snoc hj hno]
  · rw [if_neg (c := a = (v : Int) ∧ _) (fun h => ha h.1)]
    simp only [if_neg ha]
theorem mOf_row {ports : List (List Link)} {v j : Nat} (hv : v < ports.length) (hj : ports[v].length ≤ j) (a b : Int) : mOf ports v j a b = mOf ports (v + 1) 0 a b := by
  unfold mOf
  rw [getD_eq hv, List.take_of_length_le hj]
  by_cases ha : a = (v : Int)
  · subst ha
    rw [if_neg (by omega), if_pos rfl, if_pos (by omega), Int.toNat_natCast, getD_eq hv]
  · by_cases h1 : 0 ≤ a ∧ a < (v : Int)
    · rw [if_pos h1, if_pos (by omega)]
    · rw [if_neg h1, if_neg ha, if_neg (by omega)]
      split
      · simp [wOf]
      · rfl
theorem mOf_start (ports : List (List Link)) (a b : Int) : mOf ports 0 0 a b = 0 := by
  unfold mOf
  rw [if_neg (by omega)]
  split
  · simp [wOf]
  · rfl
theorem mOf_at {ports : List (List Link)} {n v j : Nat} (h : v < ports.length) (hn : v < n) (b : Int) : mOf ports n j (v : Int) b = wOf ports[v] b := by
  unfold mOf
  rw [if_pos (by omega), Int.toNat_natCast, getD_eq h]
theorem mOf_out {ports : List (List Link)} {n : Nat} {a b : Int} (h : mOf ports n 0 a b ≠ 0) : 0 ≤ a ∧ a < (n : Int) := by
  unfold mOf at h
  split at h
  · assumption
  · split at h
    · simp [wOf] at h
    · exact absurd rfl h
/-- The map tells symmetry. -/
theorem sym_of_map {ports : List (List Link)} (hl : ∀ v, (h : v < ports.length) → linksOK ports.length v ports[v] = true) : SymOK ports ↔ ∀ a b, mOf ports ports.length 0 a b ≠ 0 → mOf ports ports.length 0 b a = mOf ports ports.length 0 a b := by
  constructor
  · intro hs a b hne
    obtain ⟨h0, h1⟩ := mOf_out hne
    obtain ⟨v, rfl⟩ := Int.eq_ofNat_of_zero_le h0
    have hv : v < ports.length := by omega
    rw [mOf_at hv hv] at hne ⊢
    obtain ⟨l, hlm, rfl, he⟩ := wOf_some hne
    rw [he]
    obtain ⟨k1, k2⟩ := linksOK_iff.1 (hl v hv)
    obtain ⟨t0, t1, _⟩ := linkOK_iff.1 (k1 l hlm)
    obtain ⟨t, ht⟩ := Int.eq_ofNat_of_zero_le t0
    have htl : t < ports.length := by omega
    have hb := hs.back v hv l hlm
    unfold backOK at hb
    simp only [] at hb
    rw [ht, Int.toNat_natCast, getD_eq htl, List.any_eq_true] at hb
    obtain ⟨k, hk, hkk⟩ := hb
    simp at hkk
    rw [ht, mOf_at htl htl]
    have hu := wOf_unique (linksOK_iff.1 (hl t htl)).2 hk
    rw [hkk.1] at hu
    rw [hu, hkk.2]
  · intro h
    refine ⟨hl, fun v hv l hlm => ?_⟩
    obtain ⟨k1, k2⟩ := linksOK_iff.1 (hl v hv)
    obtain ⟨t0, t1, _, t3, _⟩ := linkOK_iff.1 (k1 l hlm)
    obtain ⟨t, ht⟩ := Int.eq_ofNat_of_zero_le t0
    have htl : t < ports.length := by omega
    have hw := wOf_unique k2 hlm
    have h1 : mOf ports ports.length 0 (v : Int) l.to = l.weight := by rw [mOf_at hv hv, hw]
    have h2 := h (v : Int) l.to (by rw [h1]; omega)
    rw [h1, ht, mOf_at htl htl] at h2
    obtain ⟨k, hk, hk1, hk2⟩ := wOf_some (ls := ports[t]) (b := (v : Int)) (by omega)
    unfold backOK
    simp only []
    rw [ht, Int.toNat_natCast, getD_eq htl, List.any_eq_true]
    exact ⟨k, hk, by simp [hk1]; omega⟩

end Go.Proofs.YtaifafljakojnaaGreat

