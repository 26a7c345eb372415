/- The plain form of layer 12: the code of an expression. -/
import Derived.Test.YtnhhedecaejgcaaPX
namespace Go.Proofs.Ytnhhedecaejgcaa

/-- How many instructions the code of an expression has. -/
def Ex.size : Ex → Nat
  | .leaf _ => 1
  | .un t a => if aggregate t.op then a.size + 2 else a.size + 1
  | .bin _ a b => a.size + b.size + 1
  | .tri _ a b c => a.size + b.size + c.size + 2

def leafI (t : Term) : Term :=
  if t.op = 1 then ⟨1, t.arg⟩ else if t.op = 2 then ⟨1, 1⟩ else if t.op = 3 then ⟨1, 0⟩ else if t.op = 4 then ⟨1, -1⟩ else if t.op = 5 then ⟨2, t.arg⟩ else if t.op = 12 then ⟨3, t.arg⟩ else ⟨4, t.op⟩

/-- The code of an expression whose first instruction has a place. -/
def Ex.code : Ex → Nat → List Term
  | .leaf t, _ => [leafI t]
  | .un t a, f => if aggregate t.op then ⟨9, ((f + 1 + a.size : Nat) : Int)⟩ :: (a.code (f + 1) ++ [⟨10, t.op⟩]) else a.code f ++ [⟨5, t.op⟩]
  | .bin t a b, f => a.code f ++ b.code (f + a.size) ++ [⟨6, t.op⟩]
  | .tri _ a b c, f => a.code f ++ [⟨7, ((f + a.size + 1 + b.size + 1 : Nat) : Int)⟩] ++ b.code (f + a.size + 1) ++ [⟨8, ((f + a.size + 1 + b.size + 1 + c.size : Nat) : Int)⟩] ++ c.code (f + a.size + 1 + b.size + 1)

theorem Ex.code_length (x : Ex) : ∀ f, (x.code f).length = x.size := by
  induction x with
  | leaf t => intro f; rfl
  | un t a ih =>
    intro f
    simp only [Ex.code, Ex.size]
    split
    · simp [ih]
    · simp [ih]
  | bin t a b iha ihb => intro f; simp [Ex.code, Ex.size, iha, ihb]; omega
  | tri t a b c iha ihb ihc => intro f; simp [Ex.code, Ex.size, iha, ihb, ihc]; omega
theorem Ex.size_pos (x : Ex) : 0 < x.size := by
  cases x <;> simp only [Ex.size] <;> (try split) <;> omega
theorem Ex.size_le (x : Ex) : x.size ≤ 2 * x.len := by
  induction x with
  | leaf t => simp [Ex.size, Ex.len, Ex.terms]
  | un t a ih => simp only [Ex.size, Ex.len, Ex.terms, List.length_cons] at *; split <;> omega
  | bin t a b iha ihb => simp only [Ex.size, Ex.len, Ex.terms, List.length_cons, List.length_append] at *; omega
  | tri t a b c iha ihb ihc => simp only [Ex.size, Ex.len, Ex.terms, List.length_cons, List.length_append] at *; omega

theorem tri_list (is a b c : List Term) (p q : Nat) (u v u' v' : Term) (hp : is.length + a.length = p) (hq : p + 1 + b.length = q) :
    ((is ++ a ++ [u] ++ b ++ [v]).set p u' ++ c).set q v' = is ++ (a ++ [u'] ++ b ++ [v'] ++ c) := by
  have h1 : (is ++ a ++ [u] ++ b ++ [v]).set p u' = is ++ a ++ [u'] ++ b ++ [v] := by
    have : is ++ a ++ [u] ++ b ++ [v] = (is ++ a) ++ u :: (b ++ [v]) := by simp
    rw [this, List.set_append_right _ _ (by simp; omega), show p - (is ++ a).length = 0 by simp; omega]
    simp
  rw [h1]
  have : is ++ a ++ [u'] ++ b ++ [v] ++ c = (is ++ a ++ [u'] ++ b) ++ v :: c := by simp
  rw [this, List.set_append_right _ _ (by simp; omega), show q - (is ++ a ++ [u'] ++ b).length = 0 by simp; omega]
  simp

def wtT (t : Term) : Nat := (if aggregate t.op then 2 else 1) + if t.op = 43 then 1 else 0
def wtsT (l : List Term) : Nat := (l.map wtT).sum
theorem wtsT_append (a b : List Term) : wtsT (a ++ b) = wtsT a + wtsT b := by simp [wtsT]
theorem wtsT_cons (t : Term) (a : List Term) : wtsT (t :: a) = wtT t + wtsT a := by simp [wtsT]
theorem arity_three {op : Int} (h : arity op = 3) : op = 43 := by unfold arity at h; repeat' split at h <;> omega
theorem arity_not_three {op : Int} (h : arity op ≠ 3) : op ≠ 43 := by rintro rfl; exact h (by decide)
theorem Ex.size_wts {x : Ex} (h : x.ok) : x.size = wtsT x.terms := by
  induction x with
  | leaf t =>
    have h' : arity t.op = 0 := h
    have h1 := agg_false (op := t.op) (by omega)
    have h2 := arity_not_three (op := t.op) (by omega)
    simp [Ex.size, Ex.terms, wtsT, wtT, h1, h2]
  | un t a ih =>
    obtain ⟨h', h3⟩ := h
    have h2 := arity_not_three (op := t.op) (by omega)
    simp only [Ex.size, Ex.terms, wtsT_cons, ← ih h3, wtT, h2, if_false]
    split <;> omega
  | bin t a b iha ihb =>
    obtain ⟨h', h3, h4⟩ := h
    have h1 := agg_false (op := t.op) (by omega)
    have h2 := arity_not_three (op := t.op) (by omega)
    simp [Ex.size, Ex.terms, wtsT_cons, wtsT_append, ← iha h3, ← ihb h4, wtT, h2, h1]; omega
  | tri t a b c iha ihb ihc =>
    obtain ⟨h', h3, h4, h5⟩ := h
    have h1 := agg_false (op := t.op) (by omega)
    have h2 := arity_three h'
    simp only [Ex.size, Ex.terms, wtsT_cons, wtsT_append, ← iha h3, ← ihb h4, ← ihc h5, wtT, h2]
    rw [h2] at h1
    simp [h1]; omega
theorem wtT_le (t : Term) : 1 ≤ wtT t ∧ wtT t ≤ 3 := by
  have h1 : (if aggregate t.op = true then 2 else 1) = 2 ∨ (if aggregate t.op = true then 2 else 1) = 1 := by split <;> simp
  have h2 : (if t.op = 43 then 1 else 0) = 1 ∨ (if t.op = 43 then 1 else 0) = 0 := by split <;> simp
  unfold wtT; omega
theorem wtsT_le (l : List Term) : wtsT l ≤ 3 * l.length := by
  induction l with
  | nil => simp [wtsT]
  | cons t l ih => rw [wtsT_cons]; have := wtT_le t; simp; omega
theorem At.get {es : List Term} {k : Nat} {x : Ex} (h : x.At es k) (j : Nat) (hj : j < x.len) : es[k + j]? = x.terms[j]? := by
  obtain ⟨_, r, hr⟩ := h
  have := congrArg (·[j]?) hr
  simp only [List.getElem?_drop] at this
  rw [this, List.getElem?_append_left hj]

end Go.Proofs.Ytnhhedecaejgcaa
