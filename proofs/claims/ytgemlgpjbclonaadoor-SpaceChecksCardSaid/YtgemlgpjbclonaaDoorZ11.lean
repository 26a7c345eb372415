/- Merged of: W05f W05g WT WTb (see NOTES.md). -/
import Derived.Test.YtgemlgpjbclonaaDoorZ10
import Derived.OneCell
import Derived.Test.YtgemlgpjbclonaaDoorZ05
import Derived.Test.YtgemlgpjbclonaaDoorZ08
set_option linter.unusedSimpArgs false
set_option linter.unnecessarySimpa false
set_option linter.unusedVariables false

/- The contract of the reference's levels. -/
namespace Go.Proofs.YtgemlgpjbclonaaDoor
open Go.RowKit

end Go.Proofs.YtgemlgpjbclonaaDoor

/- Contracts of Depth, Nest and Valid of the reference. -/
namespace Go.Proofs.YtgemlgpjbclonaaDoor
open Go.RowKit



end Go.Proofs.YtgemlgpjbclonaaDoor

/- Contracts of the small functions on types. -/
namespace Go.Proofs.YtgemlgpjbclonaaDoor
open Go.RowKit

theorem possible_any (k : Int) (w : World) : Calls Tryd.prog 66 #[.int .i64 k] w fun e w' => e = .returned (.bool (knownK k)) ∧ w = w' := by
  go_enter Tryd.func66, Tryd.ntmps66
  go_wp2
  all_goals (go_ret; refine ⟨ret_bool ?_, rfl⟩; unfold knownK; (rw [Bool.eq_iff_iff]) <;> simp [*])
theorem ifTrue_any (b : Bool) (k : Int) (w : World) : Calls Tryd.prog 99 #[.bool b, .int .i64 k] w fun e w' => e = .returned (.int .i64 (ifK b k)) ∧ w = w' := by
  cases b
  all_goals (go_enter Tryd.func99, Tryd.ntmps99; go_wp2; go_ret; exact ⟨rfl, rfl⟩)
theorem near_any (op : Int) (w : World) : Calls Tryd.prog 95 #[.int .i64 op] w fun e w' => e = .returned (.bool (nearOp op)) ∧ w = w' := by
  go_enter Tryd.func95, Tryd.ntmps95
  go_wp2
  all_goals (go_ret; refine ⟨ret_bool ?_, rfl⟩; unfold nearOp; rw [Bool.eq_iff_iff]; simp) <;> omega

theorem arg_var {op arg n : Int} (h : argF ⟨op, arg⟩ n = true) (ho : op = 5 ∨ op = 12) : 0 ≤ arg ∧ arg < n := by
  unfold argF at h
  rcases ho with rfl | rfl <;> simpa using h

set_option maxRecDepth 100000 in
theorem tleaf_any (ev : Value) (A : Option Addr) (c : Nat) (kinds : List Int) (t : Term) (w : World) (h : IntsR w A kinds.length kinds) (ha : argF t kinds.length = true) :
    Calls Tryd.prog 96 #[.agg #[ev, .slice A kinds.length c], .agg #[.int .i64 t.op, .int .i64 t.arg]] w fun e w' => e = .returned (.int .i64 (leafK kinds t)) ∧ Bel w w' := by
  obtain ⟨op, arg⟩ := t
  by_cases ho : op = 5 ∨ op = 12
  · obtain ⟨h0, h1⟩ := arg_var ha ho
    obtain ⟨a, rfl⟩ := Int.eq_ofNat_of_zero_le h0
    have hlt : a < kinds.length := by omega
    obtain ⟨b, o, rfl, hb, hc⟩ := h.at_ a hlt
    have HF : Hid (leafK kinds ⟨op, (a : Int)⟩ = kinds[a]) := by
      show leafK kinds ⟨op, (a : Int)⟩ = kinds[a]
      unfold leafK
      rcases ho with rfl | rfl <;> simp [hlt]
    clear h ha h0 h1
    rcases ho with rfl | rfl
    all_goals
      go_enter Tryd.func96, Tryd.ntmps96
      go_wp2
      go_ret
      exact ⟨ret_int HF.out.symm, ((Bel.refl _).alloc _).alloc _⟩
  · have h5 : (op == 5) = false := by simp; omega
    have h12 : (op == 12) = false := by simp; omega
    clear h ha
    go_enter Tryd.func96, Tryd.ntmps96
    go_wp2
    all_goals (try simp only [beq_iff_eq, beq_eq_false_iff_ne] at *)
    all_goals (go_ret; refine ⟨ret_int ?_, ((Bel.refl _).alloc _).alloc _⟩; unfold leafK; dsimp only; repeat' split) <;> omega



end Go.Proofs.YtgemlgpjbclonaaDoor

/- Contracts: result and read of types. -/
namespace Go.Proofs.YtgemlgpjbclonaaDoor
open Go.RowKit

def resultK (op a b c : Int) : Int := if op ≤ 29 then singleK op a else if op ≤ 42 then doubleK op a b else ifK (a == 2 && b == c) b
def Ex.kids : Ex → List Ex
  | .leaf _ => []
  | .un _ a => [a]
  | .bin _ a b => [a, b]
  | .tri _ a b c => [a, b, c]
def Ex.head : Ex → Term
  | .leaf t => t
  | .un t _ => t
  | .bin t _ _ => t
  | .tri t _ _ _ => t
theorem arity_bounds (op : Int) : (arity op = 0 → 1 ≤ op ∧ op ≤ 17) ∧ (arity op = 1 → 18 ≤ op ∧ op ≤ 29) ∧ (arity op = 2 → 30 ≤ op ∧ op ≤ 42) ∧ (arity op = 3 → op = 43) := by
  unfold arity
  repeat' split
  all_goals omega
theorem kids_kind {kinds : List Int} {bound : Bool} {x : Ex} (h : x.ok) (hk : x.kids ≠ []) :
    kindF kinds bound x = resultK x.head.op ((x.kids.map (kindF kinds (bound || aggregate x.head.op))).getD 0 0) ((x.kids.map (kindF kinds (bound || aggregate x.head.op))).getD 1 0) ((x.kids.map (kindF kinds (bound || aggregate x.head.op))).getD 2 0) := by
  cases x with
  | leaf t => exact absurd rfl hk
  | un t a =>
    obtain ⟨h1, _⟩ := h
    have := (arity_bounds t.op).2.1 h1
    simp [Ex.kids, Ex.head, kindF, resultK, this.2]
  | bin t a b =>
    obtain ⟨h1, _⟩ := h
    have := (arity_bounds t.op).2.2.1 h1
    have ha : aggregate t.op = false := agg_false (by omega)
    simp [Ex.kids, Ex.head, kindF, resultK, this.2, show ¬ t.op ≤ 29 by omega, ha]
  | tri t a b c =>
    obtain ⟨h1, _⟩ := h
    have := (arity_bounds t.op).2.2.2 h1
    have ha : aggregate t.op = false := agg_false (by omega)
    simp [Ex.kids, Ex.head, kindF, resultK, show ¬ t.op ≤ 29 by omega, show ¬ t.op ≤ 42 by omega, ha]
theorem kids_arity {x : Ex} (h : x.ok) : arity x.head.op = (x.kids.length : Int) := by
  cases x with
  | leaf t => exact h
  | un t a => exact h.1
  | bin t a b => exact h.1
  | tri t a b c => exact h.1
def lens (l : List Ex) : Nat := (l.map Ex.len).sum
theorem kids_at {es : List Term} {k : Nat} {x : Ex} (h : x.At es k) : es[k]? = some x.head ∧ (∀ j, (hj : j < x.kids.length) → x.kids[j].At es (k + 1 + lens (x.kids.take j))) ∧ x.len = 1 + lens x.kids := by
  cases x with
  | leaf t => exact ⟨(At.leaf h).1, fun j hj => absurd hj (by simp [Ex.kids]), by simp [Ex.len, Ex.terms, lens, Ex.kids]⟩
  | un t a =>
    obtain ⟨h1, h2, h3⟩ := At.un h
    refine ⟨h1, fun j hj => ?_, by simp [Ex.len, Ex.terms, lens, Ex.kids]; omega⟩
    simp [Ex.kids] at hj
    subst hj
    simpa [Ex.kids, lens] using h3
  | bin t a b =>
    obtain ⟨h1, h2, h3, h4⟩ := At.bin h
    refine ⟨h1, fun j hj => ?_, by simp [Ex.len, Ex.terms, lens, Ex.kids]; omega⟩
    rcases (show j = 0 ∨ j = 1 by simp [Ex.kids] at hj; omega) with rfl | rfl
    · simpa [Ex.kids, lens] using h3
    · simpa [Ex.kids, lens] using h4
  | tri t a b c =>
    obtain ⟨h1, h2, h3, h4, h5⟩ := At.tri h
    refine ⟨h1, fun j hj => ?_, by simp [Ex.len, Ex.terms, lens, Ex.kids]; omega⟩
    rcases (show j = 0 ∨ j = 1 ∨ j = 2 by simp [Ex.kids] at hj; omega) with rfl | rfl | rfl
    · simpa [Ex.kids, lens] using h3
    · simpa [Ex.kids, lens] using h4
    · have e : k + 1 + (a.len + b.len) = k + 1 + a.len + b.len := by omega
      simpa [Ex.kids, lens, e] using h5
theorem Ex.kids_induct {P : Ex → Prop} (h : ∀ x : Ex, (∀ y ∈ x.kids, P y) → P x) (x : Ex) : P x := by
  induction x with
  | leaf t => exact h _ (fun y hy => by simp [Ex.kids] at hy)
  | un t a ih => exact h _ (fun y hy => by simp [Ex.kids] at hy; subst hy; exact ih)
  | bin t a b iha ihb => exact h _ (fun y hy => by simp [Ex.kids] at hy; rcases hy with rfl | rfl <;> assumption)
  | tri t a b c iha ihb ihc => exact h _ (fun y hy => by simp [Ex.kids] at hy; rcases hy with rfl | rfl | rfl <;> assumption)
theorem kids_le (x : Ex) : x.kids.length ≤ 3 := by cases x <;> simp [Ex.kids]

set_option maxRecDepth 100000 in
set_option maxHeartbeats 2000000 in
theorem result_any (op a b c : Int) (w : World) (h1 : 18 ≤ op) (h2 : op ≤ 43) :
    Calls Tryd.prog 97 #[.int .i64 op, .agg #[.int .i64 a, .int .i64 b, .int .i64 c]] w fun e w' => e = .returned (.int .i64 (resultK op a b c)) ∧ Bel w w' := by
  have hi : ∀ j, j < 3 → True := fun _ _ => trivial
  clear hi
  go_enter Tryd.func97, Tryd.ntmps97
  go_wp2
  go_quiet (fail)
  go_wp2_with (go_at_call 99; refine (ifTrue_any _ _ _).mono ?_; rintro e w' ⟨rfl, rfl⟩)
  all_goals (try simp only [beq_iff_eq, beq_eq_false_iff_ne, bne_iff_ne, bne_eq_false_iff_eq] at *)
  all_goals (go_ret; refine ⟨ret_int ?_, ((Bel.refl _).alloc _).drewN _⟩; (by_cases h43 : op = 43); (all_goals first | (exfalso; omega) | (subst h43; simp_all [resultK, ifK]; done) | (simp_all [resultK, singleK, doubleK, ifK]; done) | (simp_all [resultK, singleK, doubleK, ifK]; omega)))

end Go.Proofs.YtgemlgpjbclonaaDoor

