/- Merged of: PG PGb PGc Mp (see NOTES.md). -/
import Derived.Test.YtgemlgpjbclonaaGreatDoorZ05
import Derived.Test.YtgemlgpjbclonaaGreatDoorZ01
import Derived.Maps.Own
import Derived.Maps.OwnOps
import Derived.Maps.OwnSet
import Derived.Maps.Views
set_option linter.unusedSimpArgs false
set_option linter.unnecessarySimpa false
set_option linter.unusedVariables false

/- The plain form of graphs, programs and configurations, and of the layers 1, 7, 9 and 10. -/
namespace Go.Proofs.YtgemlgpjbclonaaGreatDoor

structure Link where
 «to» : Int
 weight : Int
instance : Inhabited Link := ⟨⟨0, 0⟩⟩
structure Graph where
 ids : List Int
 ports : List (List Link)
structure Var where
 name : ByteArray
 kind : Int
 lo : Int
 hi : Int
 perNode : Int
 perID : Int
instance : Inhabited Var := ⟨⟨ByteArray.empty, 0, 0, 0, 0, 0⟩⟩
structure SetT where
 var : Int
 value : List Term
instance : Inhabited SetT := ⟨⟨0, []⟩⟩
structure Rule where
 name : ByteArray
 guard : List Term
 sets : List SetT
instance : Inhabited Rule := ⟨⟨ByteArray.empty, [], []⟩⟩
structure Prg where
 name : ByteArray
 vars : List Var
 rules : List Rule
abbrev Config := List (List Int)

/-! ### Expressions, read from their end -/
def stackEx : List Term → List Ex
 | [] => []
 | t :: ts =>
  let s := stackEx ts
  if arity t.op = 0 then .leaf t :: s
  else if arity t.op = 1 then (match s with | a :: s => .un t a :: s | [] => [])
  else if arity t.op = 2 then (match s with | a :: b :: s => .bin t a b :: s | _ => [])
  else (match s with | a :: b :: c :: s => .tri t a b c :: s | _ => [])
def treeOf (es : List Term) : Ex := (stackEx es).headD (.leaf default)

theorem stackEx_terms {x : Ex} (h : x.ok) (r : List Term) : stackEx (x.terms ++ r) = x :: stackEx r := by
 induction x generalizing r with
 | leaf t => simp only [Ex.ok] at h; simp [Ex.terms, stackEx, h]
 | un t a ih => obtain ⟨h1, h2⟩ := h; simp [Ex.terms, stackEx, h1, ih h2]
 | bin t a b iha ihb => obtain ⟨h1, h2, h3⟩ := h; simp [Ex.terms, stackEx, h1, iha h2, ihb h3]
 | tri t a b c iha ihb ihc => obtain ⟨h1, h2, h3, h4⟩ := h; simp [Ex.terms, stackEx, h1, iha h2, ihb h3, ihc h4]
theorem treeOf_terms {x : Ex} (h : x.ok) : treeOf x.terms = x := by
 have := stackEx_terms h []
 rw [List.append_nil] at this
 simp [treeOf, this]
theorem treeOf_eq {es : List Term} {x : Ex} (h : x.ok) (he : x.terms = es) : treeOf es = x := by rw [← he]; exact treeOf_terms h
/-- A valid expression is its tree. -/
theorem valid_treeOf {es : List Term} {vars : Int} (h : validF es vars = true) : (treeOf es).ok ∧ (treeOf es).terms = es ∧ es.length ≤ 200 ∧ (∀ t ∈ es, argF t vars = true) ∧ (treeOf es).depth ≤ 24 ∧ (treeOf es).nest ≤ 2 := by
 obtain ⟨x, h1, h2, h3, h4, h5, h6⟩ := valid_tree h
 rw [treeOf_eq h1 h2]
 exact ⟨h1, h2, h3, h4, h5, h6⟩

/-! ### Layer 7: types -/
def knownK (k : Int) : Bool := k == 1 || k == 2 || k == 3
def nearOp (op : Int) : Bool := decide (11 ≤ op ∧ op ≤ 17)
def leafK (kinds : List Int) (t : Term) : Int :=
 if t.op = 2 ∨ t.op = 3 ∨ t.op = 10 ∨ t.op = 15 then 2
 else if t.op = 4 ∨ t.op = 11 ∨ t.op = 17 then 3
 else if t.op = 5 ∨ t.op = 12 then kinds.getD t.arg.toNat 0
 else 1
def ifK (b : Bool) (k : Int) : Int := if b then k else 0
def singleK (op a : Int) : Int :=
 if op = 19 ∨ op = 20 ∨ op = 21 then ifK (a == 2) 2
 else if op = 22 then ifK (a == 2) 1
 else if op = 23 then ifK (a == 2) 3
 else ifK (a == 1) 1
def doubleK (op a b : Int) : Int :=
 if op = 35 ∨ op = 36 then ifK (a == b && a != 0) 2
 else if op = 41 ∨ op = 42 then ifK (a == 2 && b == 2) 2
 else if 37 ≤ op ∧ op ≤ 40 then ifK (a == 1 && b == 1) 2
 else ifK (a == 1 && b == 1) 1
def kindF (kinds : List Int) : Bool → Ex → Int
 | bound, .leaf t => if nearOp t.op && !bound then 0 else leafK kinds t
 | bound, .un t a => singleK t.op (kindF kinds (bound || aggregate t.op) a)
 | bound, .bin t a b => doubleK t.op (kindF kinds bound a) (kindF kinds bound b)
 | bound, .tri _ a b c => ifK (kindF kinds bound a == 2 && kindF kinds bound b == kindF kinds bound c) (kindF kinds bound b)
def ofF (es : List Term) (kinds : List Int) (bound : Bool) : Int × Int :=
 if 6 < kinds.length then (0, 7)
 else if kinds.all knownK = false then (0, 7)
 else if validF es kinds.length = false then (0, 7)
 else if kindF kinds bound (treeOf es) = 0 then (0, 6)
 else (kindF kinds bound (treeOf es), 0)
def kindsF (p : Prg) : List Int := p.vars.map Var.kind

end Go.Proofs.YtgemlgpjbclonaaGreatDoor

/- Valid graphs, plain. -/
namespace Go.Proofs.YtgemlgpjbclonaaGreatDoor

def portF (ls : List Link) (u : Int) : Int := match ls.findIdx? (fun l => l.to == u) with | some i => (i : Int) | none => -1
theorem portF_found {ls : List Link} {u : Int} {j : Nat} (h : j < ls.length) (ha : (ls.take j).all (fun l => !(l.to == u)) = true) (hj : (ls[j].to == u) = true) : portF ls u = (j : Int) := by
 unfold portF
 have : ls.findIdx? (fun l => l.to == u) = some j := by
  rw [List.findIdx?_eq_some_iff_getElem]
  refine ⟨h, hj, fun k hk => ?_⟩
  have := List.all_eq_true.1 ha ls[k] (by rw [List.mem_take_iff_getElem]; exact ⟨k, by omega, rfl⟩)
  simpa using this
 rw [this]
theorem portF_none {ls : List Link} {u : Int} (ha : ls.all (fun l => !(l.to == u)) = true) : portF ls u = -1 := by
 unfold portF
 have : ls.findIdx? (fun l => l.to == u) = none := by
  rw [List.findIdx?_eq_none_iff]
  intro x hx
  have := List.all_eq_true.1 ha x hx
  simpa using this
 rw [this]


theorem nodup_le : ∀ (n : Nat) (l : List Int), l.Nodup → (∀ x ∈ l, 0 ≤ x ∧ x < (n : Int)) → l.length ≤ n
 | 0, l, _, h => by
  cases l with
  | nil => simp
  | cons x l => have := h x (by simp); omega
 | n + 1, l, hn, h => by
  have h1 := nodup_le n (l.erase (n : Int)) (hn.erase _) (fun x hx => by
   have h2 := h x (List.mem_of_mem_erase hx)
   have h3 : x ≠ (n : Int) := by
    rintro rfl
    exact (List.Nodup.not_mem_erase hn) hx
   omega)
  have h4 : l.length ≤ (l.erase (n : Int)).length + 1 := by
   rw [List.length_erase]; split <;> omega
  omega

def linkOK (n v : Nat) (l : Link) : Bool := decide (0 ≤ l.to ∧ l.to < (n : Int) ∧ l.to ≠ (v : Int) ∧ 1 ≤ l.weight ∧ l.weight ≤ 15)
def linksOK (n v : Nat) (ls : List Link) : Bool := ls.all (linkOK n v) && decide ((ls.map Link.to).Nodup)
def backOK (g : Graph) (v : Nat) (l : Link) : Bool := (g.ports.getD l.to.toNat []).any fun k => k.to == (v : Int) && k.weight == l.weight
def idsOK (ids : List Int) : Bool := ids.all (fun i => decide (0 ≤ i ∧ i ≤ 255)) && decide ids.Nodup
def graphB (g : Graph) : Bool :=
 decide (1 ≤ g.ports.length ∧ g.ports.length ≤ 24 ∧ g.ids.length = g.ports.length) && idsOK g.ids
  && (List.range g.ports.length).all (fun v => linksOK g.ports.length v (g.ports.getD v []))
  && (List.range g.ports.length).all (fun v => (g.ports.getD v []).all (backOK g v))

structure GOK (g : Graph) : Prop where
 pos : 1 ≤ g.ports.length
 le : g.ports.length ≤ 24
 ids : g.ids.length = g.ports.length
 idr : ∀ i ∈ g.ids, 0 ≤ i ∧ i ≤ 255
 idn : g.ids.Nodup
 links : ∀ v, (h : v < g.ports.length) → linksOK g.ports.length v g.ports[v] = true
 back : ∀ v, (h : v < g.ports.length) → ∀ l ∈ g.ports[v], backOK g v l = true

theorem getD_eq {α : Type} {l : List α} {k : Nat} {d : α} (h : k < l.length) : l.getD k d = l[k] := by simp [List.getD_eq_getElem?_getD, h]

theorem graphB_iff (g : Graph) : graphB g = true ↔ GOK g := by
 unfold graphB idsOK
 simp only [Bool.and_eq_true, decide_eq_true_eq, List.all_eq_true, List.mem_range]
 constructor
 ·rintro ⟨⟨⟨⟨h1, h2, h3⟩, h4, h5⟩, h6⟩, h7⟩
  exact ⟨h1, h2, h3, h4, h5, fun v hv => by have := h6 v hv; rwa [getD_eq hv] at this, fun v hv l hl => by have := h7 v hv; rw [getD_eq hv] at this; exact this l hl⟩
 ·rintro ⟨h1, h2, h3, h4, h5, h6, h7⟩
  exact ⟨⟨⟨⟨h1, h2, h3⟩, h4, h5⟩, fun v hv => by rw [getD_eq hv]; exact h6 v hv⟩, fun v hv => by rw [getD_eq hv]; exact h7 v hv⟩

theorem linksOK_iff {n v : Nat} {ls : List Link} : linksOK n v ls = true ↔ (∀ l ∈ ls, linkOK n v l = true) ∧ (ls.map Link.to).Nodup := by
 unfold linksOK
 simp only [Bool.and_eq_true, decide_eq_true_eq, List.all_eq_true]
theorem linkOK_iff {n v : Nat} {l : Link} : linkOK n v l = true ↔ 0 ≤ l.to ∧ l.to < (n : Int) ∧ l.to ≠ (v : Int) ∧ 1 ≤ l.weight ∧ l.weight ≤ 15 := by
 unfold linkOK; simp only [decide_eq_true_eq]
theorem linksOK_len {n v : Nat} {ls : List Link} (hv : v < n) (h : linksOK n v ls = true) : ls.length < n := by
 obtain ⟨h1, h2⟩ := linksOK_iff.1 h
 have := nodup_le n ((v : Int) :: ls.map Link.to) (by
  rw [List.nodup_cons]
  refine ⟨?_, h2⟩
  intro hm
  obtain ⟨l, hl, he⟩ := List.mem_map.1 hm
  exact (linkOK_iff.1 (h1 l hl)).2.2.1 he) (by
  intro x hx
  rcases List.mem_cons.1 hx with rfl | hx
  ·omega
  ·obtain ⟨l, hl, rfl⟩ := List.mem_map.1 hx
   have := linkOK_iff.1 (h1 l hl)
   omega)
 simp at this
 omega

theorem nodup_take_succ {l : List Int} {k : Nat} (h : k < l.length) (hn : (l.take k).Nodup) (hne : ∀ j (hj : j < k), l[j] ≠ l[k]) : (l.take (k + 1)).Nodup := by
 rw [List.take_succ_eq_append_getElem h, List.nodup_append]
 refine ⟨hn, by simp, ?_⟩
 intro a ha b hb
 simp at hb
 subst hb
 rw [List.mem_take_iff_getElem] at ha
 obtain ⟨j, hj, rfl⟩ := ha
 exact hne j (by omega)
theorem not_nodup {l : List Int} {j k : Nat} (hj : j < k) (hk : k < l.length) (he : l[j] = l[k]) : ¬ l.Nodup := by
 intro hn
 have := (List.nodup_iff_pairwise_ne.1 hn)
 rw [List.pairwise_iff_getElem] at this
 exact this j k (by omega) hk hj he

/-- The first port that leads to a node is the only one. -/
theorem portF_some {ls : List Link} {u : Int} (h : 0 ≤ portF ls u) : ∃ k : Nat, ∃ hk : k < ls.length, portF ls u = (k : Int) ∧ ls[k].to = u := by
 unfold portF at *
 cases hf : ls.findIdx? (fun l => l.to == u) with
 | none => rw [hf] at h; simp at h
 | some k =>
  rw [List.findIdx?_eq_some_iff_getElem] at hf
  obtain ⟨hk, h1, _⟩ := hf
  exact ⟨k, hk, rfl, by simpa using h1⟩
theorem portF_neg {ls : List Link} {u : Int} (h : portF ls u < 0) : ∀ l ∈ ls, l.to ≠ u := by
 unfold portF at *
 cases hf : ls.findIdx? (fun l => l.to == u) with
 | none =>
  rw [List.findIdx?_eq_none_iff] at hf
  intro l hl
  simpa using hf l hl
 | some k => rw [hf] at h; simp at h; omega
theorem portF_range (ls : List Link) (u : Int) : -1 ≤ portF ls u ∧ portF ls u < ls.length := by
 unfold portF
 cases hf : ls.findIdx? (fun l => l.to == u) with
 | none => simp; omega
 | some k =>
  rw [List.findIdx?_eq_some_iff_getElem] at hf
  obtain ⟨hk, _⟩ := hf
  simp; omega
theorem back_weight {ls : List Link} {v : Nat} {x : Int} (hn : (ls.map Link.to).Nodup) (k : Nat) (hk : k < ls.length) (ht : ls[k].to = (v : Int)) : (ls.any fun k => k.to == (v : Int) && k.weight == x) = (ls[k].weight == x) := by
 rw [Bool.eq_iff_iff, List.any_eq_true]
 constructor
 ·rintro ⟨l, hl, hh⟩
  simp at hh
  obtain ⟨h1, h2⟩ := hh
  obtain ⟨j, hj, rfl⟩ := List.getElem_of_mem hl
  have : j = k := by
   rcases Nat.lt_trichotomy j k with h | h | h
   ·exact absurd hn (not_nodup (k := k) h (by simpa using hk) (by simp [h1, ht]))
   ·exact h
   ·exact absurd hn (not_nodup (k := j) h (by simpa using hj) (by simp [h1, ht]))
  subst this
  simpa using h2
 ·intro h
  exact ⟨ls[k], List.getElem_mem hk, by simp [ht]; simpa using h⟩
theorem back_none {ls : List Link} {v : Nat} {x : Int} (h : portF ls v < 0) : (ls.any fun k => k.to == (v : Int) && k.weight == x) = false := by
 rw [List.any_eq_false]
 intro l hl
 have := portF_neg h l hl
 simp [this]

end Go.Proofs.YtgemlgpjbclonaaGreatDoor

/- Symmetric links, plain: as the program's map of weights tells them. -/
namespace Go.Proofs.YtgemlgpjbclonaaGreatDoor

def wOf (ls : List Link) (b : Int) : Int := match ls.find? (fun l => l.to == b) with | some l => l.weight | none => 0
def mOf (ports : List (List Link)) (v j : Nat) (a b : Int) : Int :=
 if 0 ≤ a ∧ a < (v : Int) then wOf (ports.getD a.toNat []) b else if a = (v : Int) then wOf ((ports.getD v []).take j) b else 0
def symB (ports : List (List Link)) : Bool :=
 (List.range ports.length).all (fun v => linksOK ports.length v (ports.getD v [])) && (List.range ports.length).all (fun v => (ports.getD v []).all (backOK ⟨[], ports⟩ v))
structure SymOK (ports : List (List Link)) : Prop where
 links : ∀ v, (h : v < ports.length) → linksOK ports.length v ports[v] = true
 back : ∀ v, (h : v < ports.length) → ∀ l ∈ ports[v], backOK ⟨[], ports⟩ v l = true
theorem symB_iff (ports : List (List Link)) : symB ports = true ↔ SymOK ports := by
 unfold symB
 simp only [Bool.and_eq_true, List.all_eq_true, List.mem_range]
 constructor
 ·rintro ⟨h6, h7⟩
  exact ⟨fun v hv => by have := h6 v hv; rwa [getD_eq hv] at this, fun v hv l hl => by have := h7 v hv; rw [getD_eq hv] at this; exact this l hl⟩
 ·rintro ⟨h6, h7⟩
  exact ⟨fun v hv => by rw [getD_eq hv]; exact h6 v hv, fun v hv => by rw [getD_eq hv]; exact h7 v hv⟩
theorem symB_false {ports : List (List Link)} (h : ¬ SymOK ports) : symB ports = false := by
 rw [Bool.eq_false_iff]; intro hb; exact h ((symB_iff ports).1 hb)
theorem graphB_sym (g : Graph) : graphB g = (decide (1 ≤ g.ports.length ∧ g.ports.length ≤ 24 ∧ g.ids.length = g.ports.length) && idsOK g.ids && symB g.ports) := by
 unfold graphB symB
 have : ∀ v, backOK g v = backOK ⟨[], g.ports⟩ v := fun v => rfl
 simp only [this, Bool.and_assoc]

theorem wOf_pos {ls : List Link} {b : Int} (hw : ∀ l ∈ ls, 1 ≤ l.weight) (h : wOf ls b = 0) : ∀ l ∈ ls, l.to ≠ b := by
 unfold wOf at h
 cases hf : ls.find? (fun l => l.to == b) with
 | none =>
  rw [List.find?_eq_none] at hf
  intro l hl; simpa using hf l hl
 | some l =>
  rw [hf] at h
  simp only [] at h
  have := hw l (List.mem_of_find?_eq_some hf)
  omega
theorem wOf_some {ls : List Link} {b : Int} (h : wOf ls b ≠ 0) : ∃ l ∈ ls, l.to = b ∧ wOf ls b = l.weight := by
 unfold wOf at *
 cases hf : ls.find? (fun l => l.to == b) with
 | none => rw [hf] at h; exact absurd rfl h
 | some l => exact ⟨l, List.mem_of_find?_eq_some hf, by simpa using List.find?_some hf, rfl⟩
theorem wOf_unique {ls : List Link} (hn : (ls.map Link.to).Nodup) {l : Link} (hl : l ∈ ls) : wOf ls l.to = l.weight := by
 unfold wOf
 cases hf : ls.find? (fun k => k.to == l.to) with
 | none =>
  rw [List.find?_eq_none] at hf
  have := hf l hl
  simp at this
 | some k =>
  have h1 : k.to = l.to := by simpa using List.find?_some hf
  have h2 := List.mem_of_find?_eq_some hf
  obtain ⟨i, hi, rfl⟩ := List.getElem_of_mem hl
  obtain ⟨j, hj, rfl⟩ := List.getElem_of_mem h2
  have : i = j := by
   rcases Nat.lt_trichotomy i j with h | h | h
   ·exact absurd hn (not_nodup h (by simpa using hj) (by simp [h1]))
   ·exact h
   ·exact absurd hn (not_nodup h (by simpa using hi) (by simp [h1]))
  subst this; rfl
theorem wOf_snoc {ls : List Link} {j : Nat} (h : j < ls.length) (hno : ∀ l ∈ ls.take j, l.to ≠ ls[j].to) (b : Int) : wOf (ls.take (j + 1)) b = if b = ls[j].to then ls[j].weight else wOf (ls.take j) b := by
 unfold wOf
 rw [List.take_succ_eq_append_getElem h, List.find?_append]
 by_cases hb : b = ls[j].to
 ·subst hb
  have : (ls.take j).find? (fun l => l.to == ls[j].to) = none := by
   rw [List.find?_eq_none]; intro l hl; simpa using hno l hl
  rw [this, if_pos rfl]
  simp
 ·rw [if_neg hb]
  cases hf : (ls.take j).find? (fun l => l.to == b) with
  | some l => simp
  | none =>
   have : (ls[j].to == b) = false := by simp; exact fun h => hb h.symm
   simp [this]
theorem mOf_step {ports : List (List Link)} {v j : Nat} (hv : v < ports.length) (hj : j < ports[v].length) (hno : ∀ l ∈ ports[v].take j, l.to ≠ ports[v][j].to) (a b : Int) :
  mOf ports v (j + 1) a b = if a = (v : Int) ∧ b = ports[v][j].to then ports[v][j].weight else mOf ports v j a b := by
 unfold mOf
 rw [getD_eq hv]
 by_cases ha : a = (v : Int)
 ·subst ha
  have hn : ¬ (0 ≤ (v : Int) ∧ (v : Int) < (v : Int)) := by omega
  simp only [if_neg hn, if_pos, true_and]
  rw [wOf_snoc hj hno]
 ·rw [if_neg (c := a = (v : Int) ∧ _) (fun h => ha h.1)]
  simp only [if_neg ha]
theorem mOf_row {ports : List (List Link)} {v j : Nat} (hv : v < ports.length) (hj : ports[v].length ≤ j) (a b : Int) : mOf ports v j a b = mOf ports (v + 1) 0 a b := by
 unfold mOf
 rw [getD_eq hv, List.take_of_length_le hj]
 by_cases ha : a = (v : Int)
 ·subst ha
  rw [if_neg (by omega), if_pos rfl, if_pos (by omega), Int.toNat_natCast, getD_eq hv]
 ·by_cases h1 : 0 ≤ a ∧ a < (v : Int)
  ·rw [if_pos h1, if_pos (by omega)]
  ·rw [if_neg h1, if_neg ha, if_neg (by omega)]
   split
   ·simp [wOf]
   ·rfl
theorem mOf_start (ports : List (List Link)) (a b : Int) : mOf ports 0 0 a b = 0 := by
 unfold mOf
 rw [if_neg (by omega)]
 split
 ·simp [wOf]
 ·rfl
theorem mOf_at {ports : List (List Link)} {n v j : Nat} (h : v < ports.length) (hn : v < n) (b : Int) : mOf ports n j (v : Int) b = wOf ports[v] b := by
 unfold mOf
 rw [if_pos (by omega), Int.toNat_natCast, getD_eq h]
theorem mOf_out {ports : List (List Link)} {n : Nat} {a b : Int} (h : mOf ports n 0 a b ≠ 0) : 0 ≤ a ∧ a < (n : Int) := by
 unfold mOf at h
 split at h
 ·assumption
 ·split at h
  ·simp [wOf] at h
  ·exact absurd rfl h
/-- The map tells symmetry. -/
theorem sym_of_map {ports : List (List Link)} (hl : ∀ v, (h : v < ports.length) → linksOK ports.length v ports[v] = true) : SymOK ports ↔ ∀ a b, mOf ports ports.length 0 a b ≠ 0 → mOf ports ports.length 0 b a = mOf ports ports.length 0 a b := by
 constructor
 ·intro hs a b hne
  obtain ⟨h0, h1⟩ := mOf_out hne
  obtain ⟨v, rfl⟩ := Int.eq_ofNat_of_zero_le h0
  have hv : v < ports.length := by omega
  rw [mOf_at hv hv] at hne ⊢
  obtain ⟨l, hlm, rfl, he⟩ := wOf_some hne
  rw [he]
  obtain ⟨k1, k2⟩ := linksOK_iff.1 (hl v hv)
  obtain ⟨t0, t1, _⟩ := linkOK_iff.1 (k1 l hlm)
  obtain ⟨t, ht⟩ := Int.eq_ofNat_of_zero_le t0
  have htl : t < ports.length := by omega
  have hb := hs.back v hv l hlm
  unfold backOK at hb
  simp only [] at hb
  rw [ht, Int.toNat_natCast, getD_eq htl, List.any_eq_true] at hb
  obtain ⟨k, hk, hkk⟩ := hb
  simp at hkk
  rw [ht, mOf_at htl htl]
  have hu := wOf_unique (linksOK_iff.1 (hl t htl)).2 hk
  rw [hkk.1] at hu
  rw [hu, hkk.2]
 ·intro h
  refine ⟨hl, fun v hv l hlm => ?_⟩
  obtain ⟨k1, k2⟩ := linksOK_iff.1 (hl v hv)
  obtain ⟨t0, t1, _, t3, _⟩ := linkOK_iff.1 (k1 l hlm)
  obtain ⟨t, ht⟩ := Int.eq_ofNat_of_zero_le t0
  have htl : t < ports.length := by omega
  have hw := wOf_unique k2 hlm
  have h1 : mOf ports ports.length 0 (v : Int) l.to = l.weight := by rw [mOf_at hv hv, hw]
  have h2 := h (v : Int) l.to (by rw [h1]; omega)
  rw [h1, ht, mOf_at htl htl] at h2
  obtain ⟨k, hk, hk1, hk2⟩ := wOf_some (ls := ports[t]) (b := (v : Int)) (by omega)
  unfold backOK
  simp only []
  rw [ht, Int.toNat_natCast, getD_eq htl, List.any_eq_true]
  exact ⟨k, hk, by simp [hk1]; omega⟩

end Go.Proofs.YtgemlgpjbclonaaGreatDoor

/- Maps of the call's own: sets of keys (map[K]bool that is stored true alone). -/
namespace Go.Proofs.YtgemlgpjbclonaaGreatDoor
open Go.RowKit Go.Maps

/-- The map in block b holds true at these keys, and nothing else. -/
def SetR (P : Program) (k e : TypeId) (w : World) (b n : Nat) (ks : List Lit) : Prop :=
 ∃ D : DataW Unit, w.ownsMap P k (plainElem P e) b n D ∧ IsMap D ∧ ∀ kl, ∃ x, D.atKey kl (.lit (.bool false)) = .lit (.bool x) ∧ (x = true ↔ kl ∈ ks)
theorem SetR.made (P : Program) (k e : TypeId) (w : World) : SetR P k e (w.alloc (.map #[] 0)) w.heap.size 0 [] :=
 ⟨.map [], World.ownsMap_made w P k _, isMap_empty, fun kl => ⟨false, by simp [DataW.atKey], by simp⟩⟩
theorem SetR.kept {P : Program} {k e : TypeId} {w w' : World} {b n : Nat} {ks : List Lit} {row : Option Nat} (h : SetR P k e w b n ks) (hg : w.grownBy w' row) (hne : some b ≠ row) : SetR P k e w' b n ks := by
 obtain ⟨D, h1, h2, h3⟩ := h
 exact ⟨D, h1.kept hg hne, h2, h3⟩
theorem SetR.keep {P : Program} {k e : TypeId} {w w' : World} {b n : Nat} {ks : List Lit} (h : SetR P k e w b n ks) (hb : Bel w w') : SetR P k e w' b n ks := h.kept (hb.grownBy none) (by simp)
theorem SetR.lt {P : Program} {k e : TypeId} {w : World} {b n : Nat} {ks : List Lit} (h : SetR P k e w b n ks) : b < w.heap.size := by
 obtain ⟨D, h1, _, _⟩ := h
 exact h1.lt
theorem plainElem_bool_inv {P : Program} {e : TypeId} (he : P.underlying e = some .bool) {v : Value} {x : Bool} {ps : List MemPlace} (h : plainElem (H := Unit) P e v = some (.lit (.bool x), ps)) : v = .bool x := by
 unfold plainElem at h
 rw [he] at h
 cases v <;> simp at h
 ·rename_i b
  obtain ⟨h1, _⟩ := h
  simp [h1]
theorem SetR.look {P : Program} {k e t : TypeId} {w : World} {b n : Nat} {ks : List Lit} (h : SetR P k e w b n ks) (K : Keyed P k) (ht : P.underlying t = some (.map k e)) (he : P.underlying e = some .bool) (hz : (zeroValue e).run P w = .ok (.bool false) w)
  {key : Value} {kl : Lit} (hkey : keyOf P k key = some kl) : ∃ x, (Instr.lookup t (.map (some b)) key false).run P w = .ok (.bool x) w ∧ (x = true ↔ kl ∈ ks) := by
 obtain ⟨D, h1, _, h3⟩ := h
 obtain ⟨v, ps, hrun, hv⟩ := h1.lookup K ht hz (plainElem_bool he false) hkey
 obtain ⟨x, hx, hi⟩ := h3 kl
 rw [hx] at hv
 exact ⟨x, by rw [hrun, plainElem_bool_inv he hv], hi⟩
theorem wpList_putSet {P : Program} (w : World) {ops : Array Oper} {rest : List Oper} {o : Oper} {a : Act} {Q : Exit → Act → World → Prop}
  (hg : o.guard = none) (m x v : Operand) (t : TypeId) (hop : o.op = Op.mapUpdate t m x v)
  (k e : TypeId) (K : Keyed P k) (ht : P.underlying t = some (.map k e)) (he : P.underlying e = some .bool) (b n : Nat) (ks : List Lit)
  (hm : a.eval m = .map (some b)) (hown : SetR P k e w b n ks) (hn : n < maxLen) (key : Value) (kl : Lit) (hx : a.eval x = key) (hv : a.eval v = .bool true) (hkey : keyOf P k key = some kl) (hkl : WideAt.IsKeyLit kl)
  (hK : ∀ w', SetR P k e w' b (n + 1) (kl :: ks) → w.grownBy w' (some b) → wpList P ops Q rest (a.put o.dst undef) w') :
  wpList P ops Q (o :: rest) a w := by
 obtain ⟨D, h1, h2, h3⟩ := hown
 refine wpList_mapUpdate_own w hg m x v t hop k e K ht _ b n D hm h1 hn key (.bool true) kl hx hv hkey _ [] (plainElem_bool he true) ?_
 intro w' h4 h5
 refine hK w' ⟨_, h4, h2.put _ _, fun kl' => ?_⟩ h5
 by_cases hh : kl' = kl
 ·subst hh
  exact ⟨true, by rw [atKey_put_same h2 hkl], by simp⟩
 ·obtain ⟨x, hx, hi⟩ := h3 kl'
  exact ⟨x, by rw [atKey_put_other hh, hx], by rw [hi]; simp [hh]⟩
theorem Bel.map {w wr w' : World} (h : Bel w wr) {b : Nat} (hb : w.heap.size ≤ b) (hg : wr.grownBy w' (some b)) : Bel w w' := h.grown hg (fun k hk => by injection hk with hk; omega)

end Go.Proofs.YtgemlgpjbclonaaGreatDoor

