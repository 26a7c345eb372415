/- Merged of: P12 P12v P12w P12r (see NOTES.md). -/
import Derived.Test.YtaifafljakojnaaGreatZ02
set_option linter.unusedSimpArgs false
set_option linter.unnecessarySimpa false
set_option linter.unusedVariables false

/- The plain form of layer 12: the code of an expression. -/
namespace Go.Proofs.YtaifafljakojnaaGreat

/-- How many instructions the code of an expression has. -/
def Ex.size : Ex → Nat
  | .leaf _ => 1
  | .un t a => if aggregate t.op then a.size + 2 else a.size + 1
  | .bin _ a b => a.size + b.size + 1
  | .tri _ a b c => a.size + b.size + c.size + 2

def leafI (t : Term) : Term :=
  if t.op = 1 then ⟨1, t.arg⟩ else if t.op = 2 then ⟨1, 1⟩ else if t.op = 3 then ⟨1, 0⟩ else if t.op = 4 then ⟨1, -1⟩ else if t.op = 5 then ⟨2, t.arg⟩ else if t.op = 12 then ⟨3, t.arg⟩ else ⟨4, t.op⟩

/-- The code of an expression whose first instruction has a place. -/
def Ex.code : Ex → Nat → List Term
  | .leaf t, _ => [leafI t]
  | .un t a, f => if aggregate t.op then ⟨9, ((f + 1 + a.size : Nat) : Int)⟩ :: (a.code (f + 1) ++ [⟨10, t.op⟩]) else a.code f ++ [⟨5, t.op⟩]
  | .bin t a b, f => a.code f ++ b.code (f + a.size) ++ [⟨6, t.op⟩]
  | .tri _ a b c, f => a.code f ++ [⟨7, ((f + a.size + 1 + b.size + 1 : Nat) : Int)⟩] ++ b.code (f + a.size + 1) ++ [⟨8, ((f + a.size + 1 + b.size + 1 + c.size : Nat) : Int)⟩] ++ c.code (f + a.size + 1 + b.size + 1)

theorem Ex.code_length (x : Ex) : ∀ f, (x.code f).length = x.size := by
  induction x with
  | leaf t => intro f; rfl
  | un t a ih =>
    intro f
    simp only [Ex.code, Ex.size]
    split
    · simp [ih]
    · simp [ih]
  | bin t a b iha ihb => intro f; simp [Ex.code, Ex.size, iha, ihb]; omega
  | tri t a b c iha ihb ihc => intro f; simp [Ex.code, Ex.size, iha, ihb, ihc]; omega
theorem Ex.size_pos (x : Ex) : 0 < x.size := by
  cases x <;> simp only [Ex.size] <;> (try split) <;> omega
theorem Ex.size_le (x : Ex) : x.size ≤ 2 * x.len := by
  induction x with
  | leaf t => simp [Ex.size, Ex.len, Ex.terms]
  | un t a ih => simp only [Ex.size, Ex.len, Ex.terms, List.length_cons] at *; split <;> omega
  | bin t a b iha ihb => simp only [Ex.size, Ex.len, Ex.terms, List.length_cons, List.length_append] at *; omega
  | tri t a b c iha ihb ihc => simp only [Ex.size, Ex.len, Ex.terms, List.length_cons, List.length_append] at *; omega

theorem tri_list (is a b c : List Term) (p q : Nat) (u v u' v' : Term) (hp : is.length + a.length = p) (hq : p + 1 + b.length = q) :
    ((is ++ a ++ [u] ++ b ++ [v]).set p u' ++ c).set q v' = is ++ (a ++ [u'] ++ b ++ [v'] ++ c) := by
  have h1 : (is ++ a ++ [u] ++ b ++ [v]).set p u' = is ++ a ++ [u'] ++ b ++ [v] := by
    have : is ++ a ++ [u] ++ b ++ [v] = (is ++ a) ++ u :: (b ++ [v]) := by simp
    rw [this, List.set_append_right _ _ (by simp; omega), show p - (is ++ a).length = 0 by simp; omega]
    simp
  rw [h1]
  have : is ++ a ++ [u'] ++ b ++ [v] ++ c = (is ++ a ++ [u'] ++ b) ++ v :: c := by simp
  rw [this, List.set_append_right _ _ (by simp; omega), show q - (is ++ a ++ [u'] ++ b).length = 0 by simp; omega]
  simp

def wtT (t : Term) : Nat := (if aggregate t.op then 2 else 1) + if t.op = 43 then 1 else 0
def wtsT (l : List Term) : Nat := (l.map wtT).sum
theorem wtsT_append (a b : List Term) : wtsT (a ++ b) = wtsT a + wtsT b := by simp [wtsT]
theorem wtsT_cons (t : Term) (a : List Term) : wtsT (t :: a) = wtT t + wtsT a := by simp [wtsT]
theorem arity_three {op : Int} (h : arity op = 3) : op = 43 := by unfold arity at h; repeat' split at h <;> omega
theorem arity_not_three {op : Int} (h : arity op ≠ 3) : op ≠ 43 := by rintro rfl; exact h (by decide)
theorem Ex.size_wts {x : Ex} (h : x.ok) : x.size = wtsT x.terms := by
  induction x with
  | leaf t =>
    have h' : arity t.op = 0 := h
    have h1 := agg_false (op := t.op) (by omega)
    have h2 := arity_not_three (op := t.op) (by omega)
    simp [Ex.size, Ex.terms, wtsT, wtT, h1, h2]
  | un t a ih =>
    obtain ⟨h', h3⟩ := h
    have h2 := arity_not_three (op := t.op) (by omega)
    simp only [Ex.size, Ex.terms, wtsT_cons, ← ih h3, wtT, h2, if_false]
    split <;> omega
  | bin t a b iha ihb =>
    obtain ⟨h', h3, h4⟩ := h
    have h1 := agg_false (op := t.op) (by omega)
    have h2 := arity_not_three (op := t.op) (by omega)
    simp [Ex.size, Ex.terms, wtsT_cons, wtsT_append, ← iha h3, ← ihb h4, wtT, h2, h1]; omega
  | tri t a b c iha ihb ihc =>
    obtain ⟨h', h3, h4, h5⟩ := h
    have h1 := agg_false (op := t.op) (by omega)
    have h2 := arity_three h'
    simp only [Ex.size, Ex.terms, wtsT_cons, wtsT_append, ← iha h3, ← ihb h4, ← ihc h5, wtT, h2]
    rw [h2] at h1
    simp [h1]; omega
theorem wtT_le (t : Term) : 1 ≤ wtT t ∧ wtT t ≤ 3 := by
  have h1 : (if aggregate t.op = true then 2 else 1) = 2 ∨ (if aggregate t.op = true then 2 else 1) = 1 := by split <;> simp
  have h2 : (if t.op = 43 then 1 else 0) = 1 ∨ (if t.op = 43 then 1 else 0) = 0 := by split <;> simp
  unfold wtT; omega
theorem wtsT_le (l : List Term) : wtsT l ≤ 3 * l.length := by
  induction l with
  | nil => simp [wtsT]
  | cons t l ih => rw [wtsT_cons]; have := wtT_le t; simp; omega
theorem At.get {es : List Term} {k : Nat} {x : Ex} (h : x.At es k) (j : Nat) (hj : j < x.len) : es[k + j]? = x.terms[j]? := by
  obtain ⟨_, r, hr⟩ := h
  have := congrArg (·[j]?) hr
  simp only [List.getElem?_drop] at this
  rw [this, List.getElem?_append_left hj]

end Go.Proofs.YtaifafljakojnaaGreat

/- The plain form of Verify: what the program does, and what the reference does. -/
namespace Go.Proofs.YtaifafljakojnaaGreat

def insAt (l : List Term) (i : Int) : Term := l.getD i.toNat default
def ig (hs : List Int) (i : Int) : Int := hs.getD i.toNat 0

theorem insAt_get {l : List Term} {k : Nat} (h : k < l.length) : insAt l (k : Int) = l[k] := by
  unfold insAt; rw [List.getD_eq_getElem?_getD]; simp [h]
theorem ig_get {l : List Int} {k : Nat} (h : k < l.length) : ig l (k : Int) = l[k] := by
  unfold ig; rw [List.getD_eq_getElem?_getD]; simp [h]

/- The program. -/
def boundsV (v : Int) : List Int := [0, -1, -1073741824, 1073741824, 0, v - 1, 0, v - 1, 6, 17, 18, 19, 30, 42, 0, 1024, 0, 1024, 0, 1024, 20, 29]
def knownF (x : Term) (v : Int) : Bool :=
  decide (1 ≤ x.op ∧ x.op ≤ 10) && !(decide (x.op = 4) && decide (x.arg = 12)) && decide ((boundsV v).getD (x.op.toNat * 2) 0 ≤ x.arg) && decide (x.arg ≤ (boundsV v).getD (x.op.toNat * 2 + 1) 0)
def needsF (x : Term) : Bool := decide (x.op = 3 ∨ (x.op = 4 ∧ 11 ≤ x.arg))
abbrev Tr := Int × Int × Int
def innerF (tr : List Tr) (n : Int) : Tr := tr.getLastD (-1, n, 0)
def eachF (l : List Term) (tr : List Tr) (i : Int) (x : Term) : Bool :=
  decide (x.op ≠ 9) || (decide (i < x.arg) && decide (x.arg < l.length) && decide ((insAt l x.arg).op = 10) && decide (tr.length < 2) && decide (x.arg < (innerF tr l.length).2.1))
def nextF (l : List Term) (tr : List Tr) (i : Int) (x : Term) (h : Int) : Bool :=
  decide (x.op ≠ 10) || (decide ((innerF tr l.length).2.1 = i) && decide (h = (innerF tr l.length).2.2 + 1))
def clearF (l : List Term) (i a : Int) : Bool := ((l.drop (i + 1).toNat).take (a - (i + 1)).toNat).all fun y => !(decide (y.op = 9) && decide (a ≤ y.arg))
def jumpF (l : List Term) (tr : List Tr) (i : Int) (x : Term) : Bool :=
  decide (x.op ≠ 7 ∧ x.op ≠ 8) || (decide (i < x.arg) && decide (x.arg ≤ (innerF tr l.length).2.1) && clearF l i x.arg)

/-- Heights that are given: places and heights. -/
def giveF : List Int → List Term → Option (List Int)
  | hs, [] => some hs
  | hs, g :: gs => if 0 ≤ ig hs g.op ∧ ig hs g.op ≠ g.arg then none else giveF (hs.set g.op.toNat g.arg) gs
def mostF : Int → List Term → Option Int
  | m, [] => some m
  | m, g :: gs => if 64 < g.arg then none else mostF (max m g.arg) gs
def giftsF (x : Term) (i h : Int) : List Term :=
  if x.op = 1 ∨ x.op = 2 ∨ x.op = 3 ∨ x.op = 4 then [⟨i + 1, h + 1⟩] else if x.op = 6 then [⟨i + 1, h - 1⟩] else if x.op = 7 then [⟨i + 1, h - 1⟩, ⟨x.arg, h - 1⟩]
  else if x.op = 8 then [⟨x.arg, h⟩] else if x.op = 9 then [⟨i + 1, h⟩, ⟨x.arg + 1, h + 1⟩] else [⟨i + 1, h⟩]
def wantsF (op : Int) : Int := if op = 5 ∨ op = 7 then 1 else if op = 6 then 2 else 0

def trNext (x : Term) (i h : Int) (tr : List Tr) : List Tr := if x.op = 9 then tr ++ [(i, x.arg, h)] else if x.op = 10 then tr.dropLast else tr

/-- What the program checks ahead of an instruction's effect. -/
def checksF (l : List Term) (v : Int) (tr : List Tr) (i : Int) (x : Term) (h : Int) : Bool :=
  decide (0 ≤ h) && knownF x v && !(needsF x && tr.isEmpty) && decide (wantsF x.op ≤ h) && eachF l tr i x && nextF l tr i x h && jumpF l tr i x

/-- Heights given, and the greatest one. -/
def giveR (hs : List Int) (most : Int) (gs : List Term) : Option (List Int × Int) × Int :=
  match giveF hs gs with
  | none => (none, 7)
  | some hs' => match mostF most gs with
    | none => (none, 3)
    | some m => (some (hs', m), 0)

def stepP (l : List Term) (v : Int) (i : Nat) (hs : List Int) (tr : List Tr) (most : Int) : Option (List Int × List Tr × Int) × Int :=
  if checksF l v tr i (insAt l i) (ig hs i) = false then (none, 7)
  else match giveR hs most (giftsF (insAt l i) i (ig hs i)) with
    | (some (hs', m), _) => (some (hs', trNext (insAt l i) i (ig hs i) tr, m), 0)
    | (none, e) => (none, e)

def verGo (l : List Term) (v : Int) : Nat → Nat → List Int → List Tr → Int → Int × Int × Int
  | 0, _, hs, _, most => if ig hs l.length ≠ 1 then (0, l.length, 7) else (most, 0, 0)
  | n + 1, i, hs, tr, most => match stepP l v i hs tr most with
    | (some (hs', tr', m'), _) => verGo l v n (i + 1) hs' tr' m'
    | (none, e) => (0, i, e)

def verifyF (l : List Term) (vars : Int) : Int × Int × Int :=
  if l.length = 0 ∨ 1024 < l.length then (0, 0, 3) else verGo l (max vars 0) l.length 0 (0 :: List.replicate l.length (-1)) [] 0

end Go.Proofs.YtaifafljakojnaaGreat

/- What holds between the steps of Verify. -/
namespace Go.Proofs.YtaifafljakojnaaGreat

def VInv (l : List Term) (hs : List Int) (tr : List Tr) : Prop :=
  hs.length = l.length + 1 ∧ (∀ x ∈ hs, -1 ≤ x ∧ x ≤ 64) ∧ tr.length ≤ 2 ∧ ∀ t ∈ tr, t.2.1 < l.length ∧ 0 ≤ t.2.2 ∧ t.2.2 ≤ 64

theorem giveF_all {P : Int → Prop} : ∀ {gs : List Term} {hs hs' : List Int}, giveF hs gs = some hs' → (∀ x ∈ hs, P x) → (∀ g ∈ gs, P g.arg) → ∀ x ∈ hs', P x := by
  intro gs
  induction gs with
  | nil => intro hs hs' h h1 _; simp [giveF] at h; subst h; exact h1
  | cons g gs ih =>
    intro hs hs' h h1 h2
    simp only [giveF] at h
    split at h
    · cases h
    · refine ih h (fun x hx => ?_) (fun g' hg' => h2 g' (by simp [hg']))
      rcases List.mem_or_eq_of_mem_set hx with h3 | h3
      · exact h1 x h3
      · rw [h3]; exact h2 g (by simp)
theorem giveF_len {gs : List Term} : ∀ {hs hs' : List Int}, giveF hs gs = some hs' → hs'.length = hs.length := by
  induction gs with
  | nil => intro hs hs' h; simp [giveF] at h; rw [h]
  | cons g gs ih =>
    intro hs hs' h
    simp only [giveF] at h
    split at h
    · cases h
    · have := ih h
      simpa using this
theorem mostF_all : ∀ {gs : List Term} {m m' : Int}, mostF m gs = some m' → ∀ g ∈ gs, g.arg ≤ 64 := by
  intro gs
  induction gs with
  | nil => intro m m' _ g hg; simp at hg
  | cons g gs ih =>
    intro m m' h g' hg'
    simp only [mostF] at h
    split at h
    · cases h
    · rcases List.mem_cons.1 hg' with e | e
      · subst e; omega
      · exact ih h g' e
theorem giveR_some {hs : List Int} {most : Int} {gs : List Term} {hs' : List Int} {m : Int} {e : Int} (h : giveR hs most gs = (some (hs', m), e)) : giveF hs gs = some hs' ∧ mostF most gs = some m ∧ e = 0 := by
  unfold giveR at h
  cases h1 : giveF hs gs with
  | none => rw [h1] at h; cases h
  | some a =>
    rw [h1] at h
    cases h2 : mostF most gs with
    | none => rw [h2] at h; cases h
    | some b =>
      rw [h2] at h
      simp at h
      obtain ⟨⟨rfl, rfl⟩, rfl⟩ := h
      exact ⟨rfl, rfl, rfl⟩
theorem giveR_none {hs : List Int} {most : Int} {gs : List Term} {e : Int} (h : giveR hs most gs = (none, e)) : e = 7 ∨ e = 3 := by
  unfold giveR at h
  cases h1 : giveF hs gs with
  | none => rw [h1] at h; simp at h; exact .inl h.symm
  | some a =>
    rw [h1] at h
    cases h2 : mostF most gs with
    | none => rw [h2] at h; simp at h; exact .inr h.symm
    | some b => rw [h2] at h; simp at h

theorem stepP_some {l : List Term} {v : Int} {i : Nat} {hs : List Int} {tr : List Tr} {most : Int} {hs' : List Int} {tr' : List Tr} {m e : Int} (h : stepP l v i hs tr most = (some (hs', tr', m), e)) :
    checksF l v tr i (insAt l i) (ig hs i) = true ∧ giveF hs (giftsF (insAt l i) i (ig hs i)) = some hs' ∧ mostF most (giftsF (insAt l i) i (ig hs i)) = some m ∧ tr' = trNext (insAt l i) i (ig hs i) tr ∧ e = 0 := by
  unfold stepP at h
  split at h
  · cases h
  · rename_i hc
    cases hg : giveR hs most (giftsF (insAt l i) i (ig hs i)) with
    | mk r e' =>
      rw [hg] at h
      cases r with
      | none => simp at h
      | some p =>
        obtain ⟨hs1, m1⟩ := p
        simp at h
        obtain ⟨⟨rfl, rfl, rfl⟩, rfl⟩ := h
        obtain ⟨g1, g2, _⟩ := giveR_some hg
        exact ⟨by simpa using hc, g1, g2, rfl, rfl⟩
theorem stepP_none {l : List Term} {v : Int} {i : Nat} {hs : List Int} {tr : List Tr} {most e : Int} (h : stepP l v i hs tr most = (none, e)) : e = 7 ∨ e = 3 := by
  unfold stepP at h
  split at h
  · simp at h; exact .inl h.symm
  · cases hg : giveR hs most (giftsF (insAt l i) i (ig hs i)) with
    | mk r e' =>
      rw [hg] at h
      cases r with
      | none => simp at h; subst h; exact giveR_none hg
      | some p => obtain ⟨hs1, m1⟩ := p; simp at h

theorem checks_parts {l : List Term} {v : Int} {tr : List Tr} {i : Int} {x : Term} {h : Int} (hc : checksF l v tr i x h = true) :
    0 ≤ h ∧ knownF x v = true ∧ (needsF x && tr.isEmpty) = false ∧ wantsF x.op ≤ h ∧ eachF l tr i x = true ∧ nextF l tr i x h = true ∧ jumpF l tr i x = true := by
  unfold checksF at hc
  simp only [Bool.and_eq_true, decide_eq_true_eq, Bool.not_eq_true'] at hc
  obtain ⟨⟨⟨⟨⟨⟨a, b⟩, c⟩, d⟩, e⟩, f⟩, g⟩ := hc
  exact ⟨a, b, c, d, e, f, g⟩

theorem gifts_low {x : Term} {i h : Int} (h0 : 0 ≤ h) (hw : wantsF x.op ≤ h) : ∀ g ∈ giftsF x i h, 0 ≤ g.arg := by
  intro g hg
  unfold giftsF at hg
  unfold wantsF at hw
  split at hg
  · simp at hg; subst hg; simp; omega
  · split at hg
    · simp at hg; subst hg; rename_i e; rw [if_neg (by omega), if_pos e] at hw; simp; omega
    · split at hg
      · rename_i e; rw [if_pos (.inr e)] at hw
        simp at hg; rcases hg with rfl | rfl <;> simp <;> omega
      · split at hg
        · simp at hg; subst hg; simp; omega
        · split at hg
          · simp at hg; rcases hg with rfl | rfl <;> simp <;> omega
          · simp at hg; subst hg; simp; omega

theorem each_parts {l : List Term} {tr : List Tr} {i : Int} {x : Term} (h : eachF l tr i x = true) (h9 : x.op = 9) : i < x.arg ∧ x.arg < l.length ∧ (insAt l x.arg).op = 10 ∧ tr.length < 2 ∧ x.arg < (innerF tr l.length).2.1 := by
  unfold eachF at h
  rw [show decide (x.op ≠ 9) = false by simp [h9]] at h
  simp only [Bool.false_or, Bool.and_eq_true, decide_eq_true_eq] at h
  obtain ⟨⟨⟨⟨a, b⟩, c⟩, d⟩, e⟩ := h
  exact ⟨a, b, c, d, e⟩

theorem stepP_inv {l : List Term} {v : Int} {i : Nat} {hs : List Int} {tr : List Tr} {most : Int} {hs' : List Int} {tr' : List Tr} {m e : Int} (hi : i < l.length) (hv : VInv l hs tr) (h : stepP l v i hs tr most = (some (hs', tr', m), e)) : VInv l hs' tr' := by
  obtain ⟨hc, hg, hm, rfl, _⟩ := stepP_some h
  obtain ⟨v1, v2, v3, v4⟩ := hv
  obtain ⟨c1, c2, c3, c4, c5, c6, c7⟩ := checks_parts hc
  have hy : ig hs (i : Int) ≤ 64 := by
    have hil : i < hs.length := by omega
    rw [ig_get hil]
    exact (v2 _ (List.getElem_mem _)).2
  refine ⟨by rw [giveF_len hg, v1], giveF_all (P := fun x => -1 ≤ x ∧ x ≤ 64) hg v2 (fun g hgm => ⟨by have := gifts_low c1 c4 g hgm; omega, mostF_all hm g hgm⟩), ?_, ?_⟩
  · unfold trNext
    split
    · rename_i h9
      have := each_parts c5 h9
      simp; omega
    · split
      · simp; omega
      · exact v3
  · intro t ht
    unfold trNext at ht
    split at ht
    · rename_i h9
      have := each_parts c5 h9
      rcases List.mem_append.1 ht with h1 | h1
      · exact v4 t h1
      · simp at h1; subst h1; simp; omega
    · split at ht
      · exact v4 t (List.dropLast_subset _ ht)
      · exact v4 t ht

theorem inner_inv {l : List Term} {hs : List Int} {tr : List Tr} (hv : VInv l hs tr) : (innerF tr l.length).2.1 ≤ l.length ∧ 0 ≤ (innerF tr l.length).2.2 ∧ (innerF tr l.length).2.2 ≤ 64 := by
  rcases List.eq_nil_or_concat tr with rfl | ⟨a, t, rfl⟩
  · simp [innerF]
  · have := hv.2.2.2 t (by simp)
    simp [innerF]
    omega

theorem start_inv (l : List Term) : VInv l (0 :: List.replicate l.length (-1)) [] := by
  refine ⟨by simp, fun x hx => ?_, by simp, fun t ht => by simp at ht⟩
  rcases List.mem_cons.1 hx with e | e
  · omega
  · have := (List.mem_replicate.1 e).2; omega

end Go.Proofs.YtaifafljakojnaaGreat

/- The reference's Verify, and that it finds what the program's finds. -/
namespace Go.Proofs.YtaifafljakojnaaGreat

def permF (x : Term) (v : Int) : Bool :=
  if x.op = 1 then decide (-1073741824 ≤ x.arg ∧ x.arg ≤ 1073741824) else if x.op = 2 ∨ x.op = 3 then decide (0 ≤ x.arg ∧ x.arg < v)
  else if x.op = 4 then decide ((6 ≤ x.arg ∧ x.arg ≤ 11) ∨ (13 ≤ x.arg ∧ x.arg ≤ 17)) else if x.op = 5 then decide (x.arg = 18 ∨ x.arg = 19)
  else if x.op = 6 then decide (30 ≤ x.arg ∧ x.arg ≤ 42) else if x.op = 10 then aggregate x.arg else decide (x.op = 7 ∨ x.op = 8 ∨ x.op = 9)
def nearI (x : Term) : Bool := decide (x.op = 3 ∨ (x.op = 4 ∧ (x.arg = 11 ∨ (13 ≤ x.arg ∧ x.arg ≤ 17))))
def lastP (op : List Int) : Int := op.getLastD 0
def loopRF (l : List Term) (i : Int) (op : List Int) : Bool :=
  decide (i < (insAt l i).arg) && decide ((insAt l i).arg < l.length) && decide ((insAt l (insAt l i).arg).op = 10) && decide (op.length ≠ 2) && (op.isEmpty || decide ((insAt l i).arg < (insAt l (lastP op)).arg))
def nextRF (l : List Term) (i : Int) (hs op : List Int) (h : Int) : Bool := !op.isEmpty && decide ((insAt l (lastP op)).arg = i) && decide (h = ig hs (lastP op) + 1)
def jumpRF (l : List Term) (i : Int) (op : List Int) : Bool :=
  decide (i < (insAt l i).arg) && decide ((insAt l i).arg ≤ l.length) && (op.isEmpty || decide ((insAt l i).arg ≤ (insAt l (lastP op)).arg)) && clearF l i (insAt l i).arg
def checksR (l : List Term) (v : Int) (hs op : List Int) (i : Int) (x : Term) (h : Int) : Bool :=
  decide (0 ≤ h) && permF x v && !(nearI x && op.isEmpty) && decide (wantsF x.op ≤ h) && (decide (x.op ≠ 9) || loopRF l i op) && (decide (x.op ≠ 10) || nextRF l i hs op h) && (decide (x.op ≠ 7 ∧ x.op ≠ 8) || jumpRF l i op)

def trOf (l : List Term) (hs op : List Int) : List Tr := op.map fun e => (e, (insAt l e).arg, ig hs e)
theorem trOf_length (l : List Term) (hs op : List Int) : (trOf l hs op).length = op.length := by simp [trOf]
theorem trOf_isEmpty (l : List Term) (hs op : List Int) : (trOf l hs op).isEmpty = op.isEmpty := by simp [trOf]
theorem inner_trOf (l : List Term) (hs op : List Int) (n : Int) : (op = [] ∧ innerF (trOf l hs op) n = (-1, n, 0)) ∨ (op.isEmpty = false ∧ innerF (trOf l hs op) n = (lastP op, (insAt l (lastP op)).arg, ig hs (lastP op))) := by
  rcases List.eq_nil_or_concat op with rfl | ⟨a, e, rfl⟩
  · left; exact ⟨rfl, rfl⟩
  · right
    simp [trOf, innerF, lastP]

theorem known_perm {x : Term} {v : Int} (h : knownF x v = true) : permF x v = true := by
  obtain ⟨op, arg⟩ := x
  unfold knownF at h
  simp only [Bool.and_eq_true, decide_eq_true_eq, Bool.not_eq_true'] at h
  obtain ⟨⟨⟨h1, h2⟩, h3⟩, h4⟩ := h
  rcases (show op = 1 ∨ op = 2 ∨ op = 3 ∨ op = 4 ∨ op = 5 ∨ op = 6 ∨ op = 7 ∨ op = 8 ∨ op = 9 ∨ op = 10 by omega) with e | e | e | e | e | e | e | e | e | e <;> subst e <;> simp [boundsV] at h3 h4 <;> simp [permF, aggregate]
  · omega
  · omega
  · omega
  · simp at h2; omega
  · omega
  · omega
  · omega
theorem perm_known {x : Term} {v : Int} (h : permF x v = true) (hj : x.op = 7 ∨ x.op = 8 ∨ x.op = 9 → 0 ≤ x.arg ∧ x.arg ≤ 1024) : knownF x v = true := by
  obtain ⟨op, arg⟩ := x
  simp only at hj
  have hop : op = 1 ∨ op = 2 ∨ op = 3 ∨ op = 4 ∨ op = 5 ∨ op = 6 ∨ op = 7 ∨ op = 8 ∨ op = 9 ∨ op = 10 := by
    unfold permF at h
    simp only at h
    by_cases h1 : op = 1
    · omega
    by_cases h2 : op = 2 ∨ op = 3
    · omega
    by_cases h4 : op = 4
    · omega
    by_cases h5 : op = 5
    · omega
    by_cases h6 : op = 6
    · omega
    by_cases h10 : op = 10
    · omega
    rw [if_neg h1, if_neg h2, if_neg h4, if_neg h5, if_neg h6, if_neg h10] at h
    simp at h
    omega
  rcases hop with e | e | e | e | e | e | e | e | e | e <;> subst e <;> simp [permF, aggregate] at h <;> simp [knownF, boundsV]
  · omega
  · omega
  · omega
  · omega
  · omega
  · omega
  · omega
  · omega
  · omega
  · omega
theorem needs_near {x : Term} {v : Int} (h : permF x v = true) : needsF x = nearI x := by
  obtain ⟨op, arg⟩ := x
  rw [Bool.eq_iff_iff]
  unfold needsF nearI
  simp only [decide_eq_true_eq]
  by_cases h3 : op = 3
  · simp [h3]
  · by_cases h4 : op = 4
    · subst h4
      simp [permF] at h
      omega
    · simp [h3, h4]

/-- What holds of open loops. -/
def OInv (l : List Term) (hs op : List Int) : Prop := op.length ≤ 2 ∧ ∀ e ∈ op, 0 ≤ e ∧ e < l.length ∧ (insAt l e).arg < l.length ∧ 0 ≤ ig hs e

theorem last_mem {op : List Int} (h : op.isEmpty = false) : lastP op ∈ op := by
  rcases List.eq_nil_or_concat op with rfl | ⟨a, e, rfl⟩
  · simp at h
  · simp [lastP]

theorem checks_eq {l : List Term} {v : Int} {hs op : List Int} {i : Nat} (hl : l.length ≤ 1024) (hi : i < l.length) (ho : OInv l hs op) (h : Int) :
    checksF l v (trOf l hs op) i (insAt l i) h = checksR l v hs op i (insAt l i) h := by
  obtain ⟨ho1, ho2⟩ := ho
  rw [Bool.eq_iff_iff]
  have hlen := trOf_length l hs op
  have hemp := trOf_isEmpty l hs op
  have hin := inner_trOf l hs op l.length
  constructor
  · intro hc
    obtain ⟨c1, c2, c3, c4, c5, c6, c7⟩ := checks_parts hc
    have hperm := known_perm c2
    unfold checksR
    simp only [Bool.and_eq_true, decide_eq_true_eq, Bool.not_eq_true', Bool.or_eq_true]
    refine ⟨⟨⟨⟨⟨⟨c1, hperm⟩, ?_⟩, c4⟩, ?_⟩, ?_⟩, ?_⟩
    · rw [← needs_near hperm, ← hemp]; exact c3
    · by_cases h9 : (insAt l i).op = 9
      · right
        obtain ⟨e1, e2, e3, e4, e5⟩ := each_parts c5 h9
        unfold loopRF
        simp only [Bool.and_eq_true, decide_eq_true_eq, Bool.or_eq_true]
        refine ⟨⟨⟨⟨e1, e2⟩, e3⟩, by omega⟩, ?_⟩
        rcases hin with ⟨g1, _⟩ | ⟨g1, g2⟩
        · left; rw [g1]; rfl
        · right; rw [g2] at e5; exact e5
      · left; exact h9
    · by_cases h10 : (insAt l i).op = 10
      · right
        unfold nextF at c6
        rw [show decide ((insAt l i).op ≠ 10) = false by simp [h10]] at c6
        simp only [Bool.false_or, Bool.and_eq_true, decide_eq_true_eq] at c6
        unfold nextRF
        rcases hin with ⟨_, g2⟩ | ⟨g1, g2⟩
        · rw [g2] at c6; simp at c6; omega
        · rw [g2] at c6
          simp only [g1, Bool.not_false, Bool.true_and, Bool.and_eq_true, decide_eq_true_eq]
          exact c6
      · left; exact h10
    · by_cases h78 : (insAt l i).op ≠ 7 ∧ (insAt l i).op ≠ 8
      · left; exact h78
      · right
        unfold jumpF at c7
        rw [show decide ((insAt l i).op ≠ 7 ∧ (insAt l i).op ≠ 8) = false by simpa using h78] at c7
        simp only [Bool.false_or, Bool.and_eq_true, decide_eq_true_eq] at c7
        obtain ⟨⟨e1, e2⟩, e3⟩ := c7
        unfold jumpRF
        simp only [Bool.and_eq_true, decide_eq_true_eq, Bool.or_eq_true]
        rcases hin with ⟨g1, g2⟩ | ⟨g1, g2⟩
        · rw [g2] at e2
          exact ⟨⟨⟨e1, e2⟩, .inl (by rw [g1]; rfl)⟩, e3⟩
        · rw [g2] at e2
          have := (ho2 _ (last_mem g1)).2.2.1
          exact ⟨⟨⟨e1, by simp at e2; omega⟩, .inr e2⟩, e3⟩
  · intro hc
    unfold checksR at hc
    simp only [Bool.and_eq_true, decide_eq_true_eq, Bool.not_eq_true', Bool.or_eq_true] at hc
    obtain ⟨⟨⟨⟨⟨⟨c1, c2⟩, c3⟩, c4⟩, c5⟩, c6⟩, c7⟩ := hc
    have hloop : (insAt l i).op = 9 → loopRF l i op = true := fun e => by
      rcases c5 with c5 | c5
      · exact absurd e c5
      · exact c5
    have hjump : (insAt l i).op = 7 ∨ (insAt l i).op = 8 → jumpRF l i op = true := fun e => by
      rcases c7 with c7 | c7
      · omega
      · exact c7
    have harg : (insAt l i).op = 7 ∨ (insAt l i).op = 8 ∨ (insAt l i).op = 9 → 0 ≤ (insAt l i).arg ∧ (insAt l i).arg ≤ 1024 := by
      intro e
      by_cases h9 : (insAt l i).op = 9
      · have := hloop h9
        unfold loopRF at this
        simp only [Bool.and_eq_true, decide_eq_true_eq] at this
        omega
      · have := hjump (by omega)
        unfold jumpRF at this
        simp only [Bool.and_eq_true, decide_eq_true_eq] at this
        omega
    unfold checksF
    simp only [Bool.and_eq_true, decide_eq_true_eq, Bool.not_eq_true']
    refine ⟨⟨⟨⟨⟨⟨c1, perm_known c2 harg⟩, ?_⟩, c4⟩, ?_⟩, ?_⟩, ?_⟩
    · rw [needs_near c2, hemp]; exact c3
    · unfold eachF
      by_cases h9 : (insAt l i).op = 9
      · have := hloop h9
        unfold loopRF at this
        simp only [Bool.and_eq_true, decide_eq_true_eq, Bool.or_eq_true] at this
        obtain ⟨⟨⟨⟨e1, e2⟩, e3⟩, e4⟩, e5⟩ := this
        simp only [Bool.and_eq_true, decide_eq_true_eq, Bool.or_eq_true]
        right
        refine ⟨⟨⟨⟨e1, e2⟩, e3⟩, by omega⟩, ?_⟩
        rcases hin with ⟨g1, g2⟩ | ⟨g1, g2⟩
        · rw [g2]; exact e2
        · rw [g2]
          rcases e5 with e5 | e5
          · rw [g1] at e5; cases e5
          · exact e5
      · simp [h9]
    · unfold nextF
      by_cases h10 : (insAt l i).op = 10
      · have : nextRF l i hs op h = true := by
          rcases c6 with c6 | c6
          · exact absurd h10 c6
          · exact c6
        unfold nextRF at this
        simp only [Bool.and_eq_true, decide_eq_true_eq, Bool.not_eq_true'] at this
        obtain ⟨⟨e1, e2⟩, e3⟩ := this
        simp only [Bool.and_eq_true, decide_eq_true_eq, Bool.or_eq_true]
        right
        rcases hin with ⟨g1, g2⟩ | ⟨g1, g2⟩
        · rw [g1] at e1; cases e1
        · rw [g2]; exact ⟨e2, e3⟩
      · simp [h10]
    · unfold jumpF
      by_cases h78 : (insAt l i).op = 7 ∨ (insAt l i).op = 8
      · have := hjump h78
        unfold jumpRF at this
        simp only [Bool.and_eq_true, decide_eq_true_eq, Bool.or_eq_true] at this
        obtain ⟨⟨⟨e1, e2⟩, e3⟩, e4⟩ := this
        simp only [Bool.and_eq_true, decide_eq_true_eq, Bool.or_eq_true]
        right
        refine ⟨⟨e1, ?_⟩, e4⟩
        rcases hin with ⟨g1, g2⟩ | ⟨g1, g2⟩
        · rw [g2]; exact e2
        · rw [g2]
          rcases e3 with e3 | e3
          · rw [g1] at e3; cases e3
          · exact e3
      · simp only [Bool.or_eq_true, decide_eq_true_eq]
        left; omega

/-- A height that has been given stays. -/
theorem giveF_keep {gs : List Term} : ∀ {hs hs' : List Int}, giveF hs gs = some hs' → ∀ j : Nat, 0 ≤ ig hs (j : Int) → j < hs.length → ig hs' (j : Int) = ig hs (j : Int) := by
  induction gs with
  | nil => intro hs hs' h j _ _; simp [giveF] at h; rw [h]
  | cons g gs ih =>
    intro hs hs' h j hj hl
    simp only [giveF] at h
    split at h
    · cases h
    · rename_i hn
      have hset : ig (hs.set g.op.toNat g.arg) (j : Int) = ig hs (j : Int) := by
        unfold ig
        simp only [Int.toNat_natCast, List.getD_eq_getElem?_getD, List.getElem?_set]
        by_cases e : g.op.toNat = j
        · rw [if_pos e, if_pos (by omega)]
          have h1 : ig hs g.op = ig hs (j : Int) := by unfold ig; rw [e, Int.toNat_natCast]
          have h2 : ig hs (j : Int) = g.arg := by
            rw [h1] at hn
            by_cases h3 : ig hs (j : Int) = g.arg
            · exact h3
            · exact absurd ⟨hj, h3⟩ hn
          rw [Option.getD_some, ← h2]
          unfold ig
          simp [List.getD_eq_getElem?_getD]
        · rw [if_neg e]
      rw [← hset]
      exact ih h j (by rw [hset]; exact hj) (by simpa using hl)

def opNext (x : Term) (i : Int) (op : List Int) : List Int := if x.op = 9 then op ++ [i] else if x.op = 10 then op.dropLast else op

theorem step_open {l : List Term} {v : Int} {hs op hs' : List Int} {i : Nat} {m m' : Int} {tr' : List Tr} {e : Int} (hlen : hs.length = l.length + 1) (hi : i < l.length) (ho : OInv l hs op)
    (h : stepP l v i hs (trOf l hs op) m = (some (hs', tr', m'), e)) : tr' = trOf l hs' (opNext (insAt l i) i op) ∧ OInv l hs' (opNext (insAt l i) i op) := by
  obtain ⟨hc, hg, hm, rfl, _⟩ := stepP_some h
  obtain ⟨c1, c2, c3, c4, c5, c6, c7⟩ := checks_parts hc
  obtain ⟨ho1, ho2⟩ := ho
  have hkeep : ∀ e ∈ op, ig hs' e = ig hs e := by
    intro e he
    obtain ⟨h1, h2, _, h4⟩ := ho2 e he
    obtain ⟨k, rfl⟩ := Int.eq_ofNat_of_zero_le h1
    exact giveF_keep hg k h4 (by omega)
  have hki := giveF_keep hg i c1 (by omega)
  have hmap : trOf l hs op = trOf l hs' op := by
    unfold trOf
    apply List.map_congr_left
    intro e he
    rw [hkeep e he]
  unfold trNext opNext
  by_cases h9 : (insAt l i).op = 9
  · obtain ⟨e1, e2, e3, e4, e5⟩ := each_parts c5 h9
    rw [if_pos h9, if_pos h9, hmap]
    refine ⟨by simp [trOf, hki], ?_, ?_⟩
    · rw [trOf_length] at e4; simp; omega
    · intro e he
      rcases List.mem_append.1 he with h1 | h1
      · obtain ⟨a1, a2, a3, a4⟩ := ho2 e h1
        exact ⟨a1, a2, a3, by rw [hkeep e h1]; exact a4⟩
      · simp at h1; subst h1
        exact ⟨by omega, by omega, e2, by rw [hki]; exact c1⟩
  · rw [if_neg h9, if_neg h9]
    have hall : ∀ e ∈ op, 0 ≤ e ∧ e < l.length ∧ (insAt l e).arg < l.length ∧ 0 ≤ ig hs' e := fun e he => by
      obtain ⟨a1, a2, a3, a4⟩ := ho2 e he
      exact ⟨a1, a2, a3, by rw [hkeep e he]; exact a4⟩
    by_cases h10 : (insAt l i).op = 10
    · rw [if_pos h10, if_pos h10, hmap]
      refine ⟨by simp [trOf, List.map_dropLast], by simp; omega, fun e he => hall e (List.dropLast_subset _ he)⟩
    · rw [if_neg h10, if_neg h10]
      exact ⟨hmap, ho1, hall⟩

/- More variables. -/
theorem known_more {x : Term} {v d : Int} (hd : 0 ≤ d) (h : knownF x v = true) : knownF x (v + d) = true := by
  have hp := known_perm h
  refine perm_known ?_ ?_
  · unfold permF at hp ⊢
    split
    · rename_i e; rw [if_pos e] at hp; exact hp
    · rename_i e; rw [if_neg e] at hp
      split
      · rename_i e2; rw [if_pos e2] at hp; simp at hp ⊢; omega
      · rename_i e2; rw [if_neg e2] at hp; exact hp
  · intro e
    unfold knownF at h
    simp only [Bool.and_eq_true, decide_eq_true_eq, Bool.not_eq_true'] at h
    obtain ⟨⟨⟨h1, h2⟩, h3⟩, h4⟩ := h
    obtain ⟨op, arg⟩ := x
    simp only at *
    rcases e with e | e | e <;> subst e <;> simp [boundsV] at h3 h4 <;> omega
theorem checks_more {l : List Term} {v d : Int} {tr : List Tr} {i : Int} {x : Term} {h : Int} (hd : 0 ≤ d) (hc : checksF l v tr i x h = true) : checksF l (v + d) tr i x h = true := by
  unfold checksF at hc ⊢
  simp only [Bool.and_eq_true] at hc ⊢
  obtain ⟨⟨⟨⟨⟨⟨c1, c2⟩, c3⟩, c4⟩, c5⟩, c6⟩, c7⟩ := hc
  exact ⟨⟨⟨⟨⟨⟨c1, known_more hd c2⟩, c3⟩, c4⟩, c5⟩, c6⟩, c7⟩
theorem step_more {l : List Term} {v d : Int} (hd : 0 ≤ d) {i : Nat} {hs : List Int} {tr : List Tr} {m : Int} {r : List Int × List Tr × Int} {e : Int} (h : stepP l v i hs tr m = (some r, e)) : stepP l (v + d) i hs tr m = (some r, e) := by
  obtain ⟨hs', tr', m'⟩ := r
  obtain ⟨hc, hg, hm, rfl, rfl⟩ := stepP_some h
  unfold stepP
  rw [if_neg (by rw [checks_more hd hc]; simp)]
  simp only [giveR, hg, hm]
theorem verGo_more {l : List Term} {v d : Int} (hd : 0 ≤ d) : ∀ (n i : Nat) (hs : List Int) (tr : List Tr) (m : Int), (verGo l v n i hs tr m).2.2 = 0 → verGo l (v + d) n i hs tr m = verGo l v n i hs tr m := by
  intro n
  induction n with
  | zero => intro i hs tr m _; rfl
  | succ n ih =>
    intro i hs tr m h
    rcases hst : stepP l v i hs tr m with ⟨_ | ⟨hs', tr', m'⟩, e⟩
    · simp only [verGo, hst] at h
      rcases stepP_none hst with e' | e' <;> omega
    · simp only [verGo, hst, step_more hd hst] at h ⊢
      exact ih _ _ _ _ h
theorem verify_more {l : List Term} {v d : Int} (hv : 0 ≤ v) (hd : 0 ≤ d) (h : (verifyF l v).2.2 = 0) : verifyF l (v + d) = verifyF l v := by
  unfold verifyF at h ⊢
  split
  · rfl
  · rename_i hn
    rw [if_neg hn, Int.max_eq_left hv] at h
    rw [Int.max_eq_left hv, Int.max_eq_left (by omega)]
    exact verGo_more hd _ _ _ _ _ h
theorem verGo_zero {l : List Term} {v : Int} : ∀ (n i : Nat) (hs : List Int) (tr : List Tr) (m : Int), (verGo l v n i hs tr m).2.2 ≠ 0 → (verGo l v n i hs tr m).1 = 0 := by
  intro n
  induction n with
  | zero => intro i hs tr m h; simp only [verGo] at h ⊢; split at h <;> simp_all
  | succ n ih =>
    intro i hs tr m h
    rcases hst : stepP l v i hs tr m with ⟨_ | ⟨hs', tr', m'⟩, e⟩
    · simp only [verGo, hst]
    · simp only [verGo, hst] at h ⊢
      exact ih _ _ _ _ h
theorem verify_zero {l : List Term} {v : Int} (h : (verifyF l v).2.2 ≠ 0) : (verifyF l v).1 = 0 := by
  unfold verifyF at h ⊢
  split
  · rfl
  · rename_i hn
    rw [if_neg hn] at h
    exact verGo_zero _ _ _ _ _ h

end Go.Proofs.YtaifafljakojnaaGreat

