/- Merged of: WEc PS PSb PSc (see NOTES.md). -/
import Derived.Test.YtgemlgpjbclonaaGreatDoorZ18
import Derived.Test.YtgemlgpjbclonaaGreatDoorZ01
set_option linter.unusedSimpArgs false
set_option linter.unnecessarySimpa false
set_option linter.unusedVariables false

/- Contracts: the reference's Value and Guard. -/
namespace Go.Proofs.YtgemlgpjbclonaaGreatDoor
open Go.RowKit

theorem mem_zero {p : Prg} {g : Graph} {c : Config} (h : memF p g c = 0) : fitsF p g = 0 ∧ confB (tableF p g) c = true := by
 unfold memF at h
 split at h
 ·rename_i h1; exact absurd h h1
 ·rename_i h1
  split at h
  ·cases h
  ·rename_i h2; exact ⟨by simpa using h1, by simpa using h2⟩
theorem mem_sok {p : Prg} {g : Graph} {c : Config} (h : memF p g c = 0) {v : Nat} (hv : v < c.length) : SOK p g c v := by
 obtain ⟨h1, h2⟩ := mem_zero h
 refine ⟨h1, h2, ?_⟩
 have := (confB_iff.1 h2).1
 rw [tableF_length, (fits_zero h1).2.1.ids] at this
 omega
theorem portOK_false {g : Graph} {v : Nat} {port : Int} : portOK g v false port := fun h => by cases h


/-- What the guard of a rule of a valid program is. -/
theorem guard_tree {p : Prg} (hc : checkF p = 0) {r : Rule} (hr : r ∈ p.rules) : (treeOf r.guard).ok ∧ (treeOf r.guard).terms = r.guard ∧ (∀ t ∈ r.guard, argF t p.vars.length = true) ∧ boundOK false (treeOf r.guard) := by
 obtain ⟨_, _, _, _, _, h1, h2⟩ := check_numbers hc
 obtain ⟨t1, t2, _, t4, _, _⟩ := valid_treeOf (h1 r hr).guard
 refine ⟨t1, t2, t4, kind_bound (kinds := kindsF p) ?_⟩
 have := h2 r hr
 unfold typedF at this
 simp at this
 rw [this.1]; omega


end Go.Proofs.YtgemlgpjbclonaaGreatDoor

/- The plain form of steps (layer 14). -/
namespace Go.Proofs.YtgemlgpjbclonaaGreatDoor

/-! ### Rules and moves -/
def trueAt (g : Graph) (c : Config) (v : Nat) (e : List Term) : Bool := evalF g c v (-1) (treeOf e) != 0
def firstF (rs : List Rule) (g : Graph) (c : Config) (v : Nat) : Int := match rs.findIdx? (fun r => trueAt g c v r.guard) with | some i => (i : Int) | none => -1
theorem firstF_found {rs : List Rule} {g : Graph} {c : Config} {v j : Nat} (h : j < rs.length) (ha : (rs.take j).all (fun r => !(trueAt g c v r.guard)) = true) (hj : trueAt g c v rs[j].guard = true) : firstF rs g c v = (j : Int) := by
 unfold firstF
 have : rs.findIdx? (fun r => trueAt g c v r.guard) = some j := by
  rw [List.findIdx?_eq_some_iff_getElem]
  refine ⟨h, hj, fun k hk => ?_⟩
  have := List.all_eq_true.1 ha rs[k] (by rw [List.mem_take_iff_getElem]; exact ⟨k, by omega, rfl⟩)
  simpa using this
 rw [this]
theorem firstF_none {rs : List Rule} {g : Graph} {c : Config} {v : Nat} (ha : rs.all (fun r => !(trueAt g c v r.guard)) = true) : firstF rs g c v = -1 := by
 unfold firstF
 have : rs.findIdx? (fun r => trueAt g c v r.guard) = none := by
  rw [List.findIdx?_eq_none_iff]
  intro x hx
  have := List.all_eq_true.1 ha x hx
  simpa using this
 rw [this]
theorem firstF_cases (rs : List Rule) (g : Graph) (c : Config) (v : Nat) :
  (firstF rs g c v = -1 ∧ ∀ r ∈ rs, trueAt g c v r.guard = false) ∨
  ∃ k : Nat, ∃ hk : k < rs.length, firstF rs g c v = (k : Int) ∧ trueAt g c v rs[k].guard = true ∧ ∀ i (hi : i < k), trueAt g c v rs[i].guard = false := by
 unfold firstF
 cases hf : rs.findIdx? (fun r => trueAt g c v r.guard) with
 | none =>
  left
  rw [List.findIdx?_eq_none_iff] at hf
  exact ⟨rfl, fun r hr => by simpa using hf r hr⟩
 | some k =>
  right
  rw [List.findIdx?_eq_some_iff_getElem] at hf
  obtain ⟨hk, h1, h2⟩ := hf
  exact ⟨k, hk, rfl, h1, fun i hi => by simpa using h2 i hi⟩
theorem firstF_range (rs : List Rule) (g : Graph) (c : Config) (v : Nat) : -1 ≤ firstF rs g c v ∧ firstF rs g c v < rs.length := by
 rcases firstF_cases rs g c v with ⟨h, _⟩ | ⟨k, hk, h, _⟩ <;> omega

def bringF (kind : Int) (b : Int × Int) (x : Int) : Int := if b.1 ≤ x ∧ x ≤ b.2 then x else if kind = 3 then -1 else if x < b.1 then b.1 else b.2
def varAt (p : Prg) (x : Int) : Var := p.vars.getD x.toNat default
def setVal (p : Prg) (g : Graph) (c : Config) (v : Nat) (t : SetT) : Int := bringF (varAt p t.var).kind (boundsF (varAt p t.var) g v) (evalF g c v (-1) (treeOf t.value))
def movesF (p : Prg) (g : Graph) (c : Config) (v : Nat) (l : List SetT) : List Int := l.foldl (fun s t => s.set t.var.toNat (setVal p g c v t)) (c.getD v [])
def ruleAt (p : Prg) (k : Int) : Rule := p.rules.getD k.toNat default
def moveF (p : Prg) (g : Graph) (c : Config) (v : Nat) : List Int := movesF p g c v (ruleAt p (firstF p.rules g c v)).sets
def enabF (p : Prg) (g : Graph) (c : Config) : Nat := setF c.length fun v => decide (0 ≤ firstF p.rules g c v)
def stepCF (p : Prg) (g : Graph) (c : Config) (S : Nat) : Config := (List.range c.length).map fun v => if S.testBit v then moveF p g c v else c.getD v []

def enabledF (p : Prg) (g : Graph) (c : Config) : Nat := if memF p g c ≠ 0 then 0 else enabF p g c
def stepRF (p : Prg) (g : Graph) (c : Config) (S : Nat) : Config × Int :=
 if memF p g c ≠ 0 then ([], memF p g c) else if S = 0 ∨ within32 S (enabF p g c) = false then ([], 11) else (stepCF p g c S, 0)

theorem movesF_length (p : Prg) (g : Graph) (c : Config) (v : Nat) (l : List SetT) : (movesF p g c v l).length = (c.getD v []).length := by
 unfold movesF
 suffices ∀ s : List Int, (l.foldl (fun s t => s.set t.var.toNat (setVal p g c v t)) s).length = s.length from this _
 induction l with
 | nil => intro s; rfl
 | cons t l ih => intro s; rw [List.foldl_cons, ih]; simp
theorem movesF_snoc (p : Prg) (g : Graph) (c : Config) (v : Nat) (l : List SetT) (j : Nat) (h : j < l.length) : movesF p g c v (l.take (j + 1)) = (movesF p g c v (l.take j)).set l[j].var.toNat (setVal p g c v l[j]) := by
 unfold movesF
 rw [List.take_succ_eq_append_getElem h, List.foldl_append]; rfl

/-- The bounds are possible where a program fits. -/
theorem fits_bounds {p : Prg} {g : Graph} (hf : fitsF p g = 0) {x : Var} (hx : x ∈ p.vars) (v : Nat) : (boundsF x g v).1 ≤ (boundsF x g v).2 ∧ (x.kind = 3 → (boundsF x g v).1 = -1) := by
 obtain ⟨h1, h2, h3⟩ := fits_zero hf
 have h4 := List.all_eq_true.1 h3 x hx
 have h5 := numbers_parts (List.all_eq_true.1 (check_numbers h1).1 x hx)
 unfold fitsVar at h4
 have h4 := of_decide_eq_true h4
 unfold boundsF at h4 ⊢
 rcases h5 with h | h | h
 ·rw [if_pos h.1]; simp; omega
 ·rw [if_neg (by omega), if_pos h.1]; simp; omega
 ·have hk := h.1
  rw [if_neg (by omega), if_neg (by omega)] at h4 ⊢
  dsimp only at h4 ⊢
  omega
theorem bringF_range {kind : Int} {b : Int × Int} (h : b.1 ≤ b.2) (hk : kind = 3 → b.1 = -1) (x : Int) : b.1 ≤ bringF kind b x ∧ bringF kind b x ≤ b.2 := by
 unfold bringF
 split
 ·assumption
 split
 ·have := hk (by assumption); omega
 split <;> omega
/-- As the reference brings a value into its range. -/
theorem bringF_ref {kind : Int} {b : Int × Int} (h : b.1 ≤ b.2) (x : Int) : bringF kind b x = if kind = 3 ∧ ¬ (b.1 ≤ x ∧ x ≤ b.2) then -1 else min (max x b.1) b.2 := by
 unfold bringF
 by_cases h1 : b.1 ≤ x ∧ x ≤ b.2
 ·rw [if_pos h1, if_neg (by omega)]; omega
 ·rw [if_neg h1]
  by_cases h2 : kind = 3
  ·rw [if_pos h2, if_pos ⟨h2, h1⟩]
  ·rw [if_neg h2, if_neg (show ¬ (kind = 3 ∧ ¬ (b.1 ≤ x ∧ x ≤ b.2)) from fun h => h2 h.1)]
   by_cases h3 : x < b.1
   ·rw [if_pos h3]; omega
   ·rw [if_neg h3]; omega

/-- The part of a rule that is evaluated. -/
theorem set_tree {p : Prg} (hc : checkF p = 0) {r : Rule} (hr : r ∈ p.rules) {s : SetT} (hs : s ∈ r.sets) : (treeOf s.value).ok ∧ (treeOf s.value).terms = s.value ∧ (∀ t ∈ s.value, argF t p.vars.length = true) ∧ boundOK false (treeOf s.value) ∧ 0 ≤ s.var ∧ s.var ≤ (p.vars.length : Int) - 1 := by
 obtain ⟨h1, _, h3, _, _, h6, h7⟩ := check_numbers hc
 obtain ⟨hv, hval⟩ := (h6 r hr).sets s hs
 obtain ⟨t1, t2, _, t4, _, _⟩ := valid_treeOf hval
 refine ⟨t1, t2, t4, kind_bound (kinds := kindsF p) (b := false) ?_, hv.1, hv.2⟩
 have h8 := h7 r hr
 unfold typedF at h8
 simp only [Bool.and_eq_true, List.all_eq_true, beq_iff_eq] at h8
 rw [h8.2 s hs]
 obtain ⟨x, hx⟩ := Int.eq_ofNat_of_zero_le hv.1
 rw [hx, Int.toNat_natCast, getD_eq (by rw [kindsF_length]; omega)]
 have := kinds_known h1
 have hk := List.all_eq_true.1 this _ (List.getElem_mem (show x < (kindsF p).length by rw [kindsF_length]; omega))
 unfold knownK at hk
 simp at hk
 omega

end Go.Proofs.YtgemlgpjbclonaaGreatDoor

/- Plain laws of steps: they lead to configurations, are local, and can be done one after the other. -/
namespace Go.Proofs.YtgemlgpjbclonaaGreatDoor

/-! ### A node's state after its move -/
theorem conf_node {p : Prg} {g : Graph} {c : Config} (hm : memF p g c = 0) {v : Nat} (hv : v < c.length) : stateB (rowF p g v) (c.getD v []) = true := by
 obtain ⟨_, h2⟩ := mem_zero hm
 obtain ⟨h3, h4⟩ := confB_iff.1 h2
 have := h4 v hv (by omega)
 rw [tableF_at] at this
 rwa [getD_eq hv]
theorem mem_of_nodes {p : Prg} {g : Graph} {c d : Config} (hm : memF p g c = 0) (hl : d.length = c.length) (h : ∀ v, v < d.length → stateB (rowF p g v) (d.getD v []) = true) : memF p g d = 0 := by
 obtain ⟨h1, h2⟩ := mem_zero hm
 have h3 : confB (tableF p g) d = true := by
  rw [confB_iff]
  refine ⟨by rw [hl]; exact (confB_iff.1 h2).1, fun v a b => ?_⟩
  rw [tableF_at]
  have := h v a
  rwa [getD_eq a] at this
 unfold memF
 rw [if_neg (by simpa using h1), h3]; simp
theorem conf_len {p : Prg} {g : Graph} {c : Config} (hm : memF p g c = 0) : c.length = g.ports.length := by
 obtain ⟨h1, h2⟩ := mem_zero hm
 rw [(confB_iff.1 h2).1, tableF_length, (fits_zero h1).2.1.ids]
theorem row_len {p : Prg} {g : Graph} {c : Config} (hm : memF p g c = 0) {v : Nat} (hv : v < c.length) : (c.getD v []).length = p.vars.length := by
 rw [(stateB_iff.1 (conf_node hm hv)).1, rowF_length]
theorem varAt_eq {p : Prg} {x : Int} (h0 : 0 ≤ x) (h1 : x ≤ (p.vars.length : Int) - 1) : ∃ i : Nat, ∃ hi : i < p.vars.length, x = (i : Int) ∧ x.toNat = i ∧ varAt p x = p.vars[i] := by
 obtain ⟨i, rfl⟩ := Int.eq_ofNat_of_zero_le h0
 exact ⟨i, by omega, rfl, Int.toNat_natCast i, by unfold varAt; rw [Int.toNat_natCast]; exact getD_eq (by omega)⟩
theorem moves_state {p : Prg} {g : Graph} {c : Config} (hm : memF p g c = 0) {v : Nat} (hv : v < c.length) {l : List SetT} (hl : ∀ s ∈ l, 0 ≤ s.var ∧ s.var ≤ (p.vars.length : Int) - 1) : stateB (rowF p g v) (movesF p g c v l) = true := by
 have hf := (mem_zero hm).1
 unfold movesF
 suffices ∀ s : List Int, stateB (rowF p g v) s = true → stateB (rowF p g v) (l.foldl (fun s t => s.set t.var.toNat (setVal p g c v t)) s) = true from this _ (conf_node hm hv)
 induction l with
 | nil => intro s h; exact h
 | cons t l ih =>
  intro s h
  rw [List.foldl_cons]
  refine ih (fun s hs => hl s (by simp [hs])) _ ?_
  obtain ⟨h0, h1⟩ := hl t (by simp)
  obtain ⟨i, hi, _, ei, ev⟩ := varAt_eq h0 h1
  rw [ei]
  obtain ⟨a1, a2⟩ := stateB_iff.1 h
  rw [stateB_iff]
  refine ⟨by simpa using a1, fun k b1 b2 => ?_⟩
  by_cases hk : i = k
  ·subst hk
   rw [List.getElem_set_self, rowF_at]
   unfold setVal
   rw [ev]
   obtain ⟨q1, q2⟩ := fits_bounds hf (List.getElem_mem hi) v
   exact bringF_range q1 q2 _
  ·rw [List.getElem_set_ne hk]
   exact a2 k (by simpa using b1) b2
theorem rule_sets {p : Prg} (hc : checkF p = 0) {k : Nat} (hk : k < p.rules.length) : ∀ s ∈ p.rules[k].sets, 0 ≤ s.var ∧ s.var ≤ (p.vars.length : Int) - 1 := fun s hs => by
 obtain ⟨_, _, _, _, h5, h6⟩ := set_tree hc (List.getElem_mem hk) hs
 exact ⟨h5, h6⟩
theorem ruleAt_eq {p : Prg} {k : Nat} (hk : k < p.rules.length) : ruleAt p (k : Int) = p.rules[k] := by
 unfold ruleAt; rw [Int.toNat_natCast]; exact getD_eq hk
theorem move_state {p : Prg} {g : Graph} {c : Config} (hm : memF p g c = 0) {v : Nat} (hv : v < c.length) (hen : 0 ≤ firstF p.rules g c v) : stateB (rowF p g v) (moveF p g c v) = true := by
 rcases firstF_cases p.rules g c v with ⟨h, _⟩ | ⟨k, hk, h, _⟩
 ·omega
 ·unfold moveF
  rw [h, ruleAt_eq hk]
  exact moves_state hm hv (rule_sets (fits_zero (mem_zero hm).1).1 hk)
theorem stepCF_length (p : Prg) (g : Graph) (c : Config) (S : Nat) : (stepCF p g c S).length = c.length := by simp [stepCF]
theorem stepCF_at (p : Prg) (g : Graph) (c : Config) (S : Nat) {v : Nat} (hv : v < c.length) : (stepCF p g c S).getD v [] = if S.testBit v then moveF p g c v else c.getD v [] := by
 rw [getD_eq (by rw [stepCF_length]; exact hv)]
 simp [stepCF]
theorem enabF_bit {p : Prg} {g : Graph} {c : Config} {v : Nat} : (enabF p g c).testBit v = (decide (v < c.length) && decide (0 ≤ firstF p.rules g c v)) := setF_bit _ _ _
theorem step_mem {p : Prg} {g : Graph} {c : Config} (hm : memF p g c = 0) {S : Nat} (hS : ∀ v, v < c.length → S.testBit v = true → 0 ≤ firstF p.rules g c v) : memF p g (stepCF p g c S) = 0 := by
 refine mem_of_nodes hm (stepCF_length _ _ _ _) fun v hv => ?_
 rw [stepCF_length] at hv
 rw [stepCF_at p g c S hv]
 cases hb : S.testBit v with
 | true => exact move_state hm hv (hS v hv hb)
 | false => exact conf_node hm hv

/-! ### Locality -/
/-- Two configurations agree at a node and its neighbours. -/
def Agree (g : Graph) (c d : Config) (v : Nat) : Prop := c.getD v [] = d.getD v [] ∧ ∀ l ∈ g.ports.getD v [], c.getD l.to.toNat [] = d.getD l.to.toNat []
theorem Agree.symm {g : Graph} {c d : Config} {v : Nat} (h : Agree g c d v) : Agree g d c v := ⟨h.1.symm, fun l hl => (h.2 l hl).symm⟩
theorem trueAt_local {p : Prg} {g : Graph} {c d : Config} {v : Nat} (hc : checkF p = 0) (hg : GOK g) (hv : v < g.ports.length) (h : Agree g c d v) {r : Rule} (hr : r ∈ p.rules) : trueAt g c v r.guard = trueAt g d v r.guard := by
 unfold trueAt
 rw [eval_local hg hv h.1 h.2 (guard_tree hc hr).2.2.2 portOK_false]
theorem findIdx_congr {α : Type} {p q : α → Bool} : ∀ {l : List α}, (∀ x ∈ l, p x = q x) → l.findIdx? p = l.findIdx? q
 | [], _ => rfl
 | x :: l, h => by
  rw [List.findIdx?_cons, List.findIdx?_cons, h x (by simp), findIdx_congr (l := l) fun y hy => h y (by simp [hy])]
theorem firstF_local {p : Prg} {g : Graph} {c d : Config} {v : Nat} (hc : checkF p = 0) (hg : GOK g) (hv : v < g.ports.length) (h : Agree g c d v) : firstF p.rules g c v = firstF p.rules g d v := by
 unfold firstF
 rw [findIdx_congr fun r hr => trueAt_local hc hg hv h hr]
theorem movesF_local {p : Prg} {g : Graph} {c d : Config} {v : Nat} (hg : GOK g) (hv : v < g.ports.length) (h : Agree g c d v) {l : List SetT} (hl : ∀ s ∈ l, boundOK false (treeOf s.value)) : movesF p g c v l = movesF p g d v l := by
 unfold movesF
 rw [h.1]
 suffices ∀ s : List Int, l.foldl (fun s t => s.set t.var.toNat (setVal p g c v t)) s = l.foldl (fun s t => s.set t.var.toNat (setVal p g d v t)) s from this _
 induction l with
 | nil => intro s; rfl
 | cons t l ih =>
  intro s
  rw [List.foldl_cons, List.foldl_cons, ih (fun s hs => hl s (by simp [hs]))]
  unfold setVal
  rw [eval_local hg hv h.1 h.2 (hl t (by simp)) portOK_false]
theorem moveF_local {p : Prg} {g : Graph} {c d : Config} {v : Nat} (hc : checkF p = 0) (hg : GOK g) (hv : v < g.ports.length) (h : Agree g c d v) (hen : 0 ≤ firstF p.rules g c v) : moveF p g c v = moveF p g d v := by
 unfold moveF
 rw [← firstF_local hc hg hv h]
 rcases firstF_cases p.rules g c v with ⟨h', _⟩ | ⟨k, hk, h', _⟩
 ·omega
 ·rw [h', ruleAt_eq hk]
  exact movesF_local hg hv h fun s hs => (set_tree hc (List.getElem_mem hk) hs).2.2.2.1

/-! ### Sets that are independent -/
def nbrF (g : Graph) (S : Nat) : Nat := setF g.ports.length fun v => (g.ports.getD v []).any fun l => hasB S l.to
def indepF (g : Graph) (S : Nat) : Bool := graphB g && within32 S (setF g.ports.length fun _ => true) && (List.range 32).all fun v => !((nbrF g S).testBit v && S.testBit v)
structure Indep (g : Graph) (S : Nat) : Prop where
 node : ∀ v, S.testBit v = true → v < g.ports.length
 apart : ∀ v (h : v < g.ports.length), S.testBit v = true → ∀ l ∈ g.ports[v], S.testBit l.to.toNat = false
theorem indepF_ok {g : Graph} {S : Nat} (hS : S < 4294967296) (h : indepF g S = true) : Indep g S := by
 unfold indepF at h
 simp only [Bool.and_eq_true, List.all_eq_true, List.mem_range] at h
 obtain ⟨⟨h1, h2⟩, h3⟩ := h
 have hg := (graphB_iff g).1 h1
 have hle := hg.le
 rw [within32_iff] at h2
 have hn : ∀ v, S.testBit v = true → v < g.ports.length := fun v hv => by
  have := h2 v (bit_lt hS hv) hv
  rw [setF_bit] at this
  simp at this
  exact this
 refine ⟨hn, fun v hv hb l hl => ?_⟩
 have h4 := h3 v (by omega)
 rw [hb, Bool.and_true, Bool.not_eq_true'] at h4
 unfold nbrF at h4
 rw [setF_bit, decide_eq_true hv, Bool.true_and, getD_eq hv, List.any_eq_false] at h4
 have h5 := h4 l hl
 obtain ⟨a1, a2, _⟩ := linkOK_iff.1 ((linksOK_iff.1 (hg.links v hv)).1 l hl)
 unfold hasB at h5
 rw [decide_eq_true a1, decide_eq_true (show l.to < 32 by omega)] at h5
 simpa using h5

/-- Behind the moves of a part of an independent set, a node of it that has not moved sees what it saw. -/
theorem step_agree {p : Prg} {g : Graph} {c : Config} (hm : memF p g c = 0) {S T : Nat} (hi : Indep g S) (hT : ∀ v, T.testBit v = true → S.testBit v = true) {i : Nat} (hS : S.testBit i = true) (hn : T.testBit i = false) : Agree g c (stepCF p g c T) i := by
 have hg := (fits_zero (mem_zero hm).1).2.1
 have hl := conf_len hm
 have hin := hi.node i hS
 refine ⟨?_, fun l hlm => ?_⟩
 ·rw [stepCF_at _ _ _ _ (by omega), hn]; rfl
 ·rw [getD_eq hin] at hlm
  obtain ⟨a1, a2, _⟩ := linkOK_iff.1 ((linksOK_iff.1 (hg.links i hin)).1 l hlm)
  have hb := hi.apart i hin hS l hlm
  have hTf : T.testBit l.to.toNat = false := by
   cases hq : T.testBit l.to.toNat with
   | false => rfl
   | true => rw [hT _ hq] at hb; cases hb
  rw [stepCF_at _ _ _ _ (by omega), hTf]; rfl
end Go.Proofs.YtgemlgpjbclonaaGreatDoor

/- Plain laws of steps: fewer rules, the first rule, values that are set. -/
namespace Go.Proofs.YtgemlgpjbclonaaGreatDoor

end Go.Proofs.YtgemlgpjbclonaaGreatDoor

