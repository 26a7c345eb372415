/- Merged of: Base Open P05 W05a (see NOTES.md). -/
import Derived.Test.YtibfjhhadbkkgaaGreatRows
import Derived.WalkKit
import Derived.WalkSpells
import Derived.WalkLawsBesides
import Derived.Lib.Hide
import Derived.Handy
import Derived.Deep.QuietTactic
import Derived.BigQuiet
import Derived.Deep.LoopGhost
import Derived.Deep.AppendLies
import Derived.Deep.Draws
import Derived.Deep.RegionLaw
import Derived.Deep.RegionWith
import Derived.Deep.DeepCutAuto
import Derived.Maps.AppendAt
import Derived.StillTailTactics
import Derived.IntWalk
import Derived.Deep.DeepMust
import Derived.ProofKit
import Derived.OpenShut
import Derived.Deep.Slices
import Derived.Deep.Fields
import Derived.ChangeSame
import Derived.Carry
set_option linter.unusedSimpArgs false
set_option linter.unnecessarySimpa false
set_option linter.unusedVariables false

/- Words for memory that all contracts of this seat share: what a slice reads as, that old memory stays, rows of the call's own. -/
namespace Go.Proofs.YtibfjhhadbkkgaaGreat
open Go.RowKit

theorem ret_int {k : IntKind} {a b : Int} (h : a = b) : Ending.returned (.int k a) = .returned (.int k b) := by rw [h]
theorem ret_bool {a b : Bool} (h : a = b) : Ending.returned (.bool a) = .returned (.bool b) := by rw [h]

/-- Nothing that was there has changed. -/
def Bel (w w' : World) : Prop := Below w.heap.size w w'
theorem Bel.refl (w : World) : Bel w w := Below.refl _ _
theorem Bel.trans {a b c : World} (h : Bel a b) (k : Bel b c) : Bel a c := Below.trans h (Below.mono k (Below.size h))
theorem Bel.size {w w' : World} (h : Bel w w') : w.heap.size ≤ w'.heap.size := Below.size h
theorem Bel.cell {w w' : World} (h : Bel w w') {b o : Nat} (hb : b < w.heap.size) : w'.cell? ⟨b, o, none⟩ = w.cell? ⟨b, o, none⟩ := Below.cell h (p := ⟨b, o, none⟩) hb
theorem Bel.drew {w w' : World} (h : Bel w w') : Bel w w'.drew := Below.drew h
theorem Bel.drewN {w w' : World} (h : Bel w w') (n : Nat) : Bel w (w'.drewN n) := by
  have h' : Below w.heap.size w w' := h
  exact ⟨h'.os, h'.tape, h'.output, h'.size, h'.block⟩
theorem Bel.alloc {w w' : World} (h : Bel w w') (o : Obj) : Bel w (w'.alloc o) := Below.alloc h (Below.size h) o
theorem Bel.setCell {w w' : World} (h : Bel w w') {p : Addr} (hp : w.heap.size ≤ p.block) (u : Value) : Bel w (w'.setCell p u) := Below.setCell h hp u
theorem Bel.grown {w w' w2 : World} {row : Option Nat} (h : Bel w w') (hg : w'.grownBy w2 row) (hr : ∀ k, row = some k → w.heap.size ≤ k) : Bel w w2 := Below.grown h hg (Below.size h) hr
theorem Bel.of_below {w w' : World} (h : Below w.heap.size w w') : Bel w w' := h
theorem Bel.to {w w' : World} (h : Bel w w') : Below w.heap.size w w' := h
theorem Bel.keeps {B : Nat} {a w w' : World} (k : Below B a w) (hB : B ≤ w.heap.size) (h : Bel w w') : Below B a w' := Below.trans k (Below.mono h hB)
theorem Bel.grownBy {w w' : World} (h : Bel w w') (row : Option Nat) : w.grownBy w' row := ⟨h.os, h.tape, h.output, Below.size h, fun i hi _ => h.block i hi⟩
theorem Bel.owns {w w' : World} (h : Bel w w') {base : Nat} {e : TypeId} {size : Nat} {v : Value} {n : Nat} {xs : List Value} (k : w.ownsRow base e size v n xs) : w'.ownsRow base e size v n xs :=
  k.kept (h.grownBy none) (by
    rcases k.2 with ⟨rfl, _⟩ | ⟨g, cap, cur, rfl, _⟩
    · exact .inl rfl
    · right; simp [Value.ownBlock])

/-- The slice value with address A and n elements of so many cells each reads as the list xs; E says how one element lies in memory. -/
def SliceR {α : Type} (size : Nat) (E : World → Nat → Nat → α → Prop) (w : World) (A : Option Addr) (n : Nat) (xs : List α) : Prop :=
  xs.length = n ∧ ∀ i x, xs[i]? = some x → ∃ b o, A = some ⟨b, o, none⟩ ∧ b < w.heap.size ∧ E w b (o + i * size) x

/-- An element stays as it is while old memory stays. -/
def Keeps {α : Type} (E : World → Nat → Nat → α → Prop) : Prop := ∀ w w' b o x, Bel w w' → b < w.heap.size → E w b o x → E w' b o x

theorem SliceR.keep {α : Type} {size : Nat} {E : World → Nat → Nat → α → Prop} {w w' : World} {A : Option Addr} {n : Nat} {xs : List α} (hE : Keeps E) (h : SliceR size E w A n xs) (k : Bel w w') : SliceR size E w' A n xs :=
  ⟨h.1, fun i x hx => by
    obtain ⟨b, o, e, hb, he⟩ := h.2 i x hx
    exact ⟨b, o, e, Nat.lt_of_lt_of_le hb k.size, hE _ _ _ _ _ k hb he⟩⟩
theorem SliceR.nil {α : Type} {size : Nat} {E : World → Nat → Nat → α → Prop} {w : World} {A : Option Addr} : SliceR size E w A 0 ([] : List α) := ⟨rfl, fun i x h => by simp at h⟩
theorem SliceR.at_ {α : Type} {size : Nat} {E : World → Nat → Nat → α → Prop} {w : World} {A : Option Addr} {n : Nat} {xs : List α} (h : SliceR size E w A n xs) (k : Nat) (hk : k < xs.length) :
    ∃ b o, A = some ⟨b, o, none⟩ ∧ b < w.heap.size ∧ E w b (o + k * size) xs[k] := h.2 k _ (List.getElem?_eq_getElem hk)

def IntAt (w : World) (b o : Nat) (x : Int) : Prop := w.cell? ⟨b, o, none⟩ = some (.int .i64 x)
theorem IntAt.keeps : Keeps IntAt := fun _ _ _ _ _ k hb h => (k.cell hb).trans h
def IntsR := SliceR 1 IntAt
theorem IntsR.keep {w w' : World} {A : Option Addr} {n : Nat} {xs : List Int} (h : IntsR w A n xs) (k : Bel w w') : IntsR w' A n xs := SliceR.keep IntAt.keeps h k
theorem IntsR.at_ {w : World} {A : Option Addr} {n : Nat} {xs : List Int} (h : IntsR w A n xs) (k : Nat) (hk : k < xs.length) :
    ∃ b o, A = some ⟨b, o, none⟩ ∧ b < w.heap.size ∧ w.cell? ⟨b, o + k, none⟩ = some (.int .i64 xs[k]) := by
  obtain ⟨b, o, e, hb, h⟩ := SliceR.at_ h k hk
  exact ⟨b, o, e, hb, by rw [Nat.mul_one] at h; exact h⟩

/-- The cells of a row of the call's own. -/
theorem own_at {w : World} {base : Nat} {e : TypeId} {size : Nat} {A : Option Addr} {n c : Nat} {xs : List Value} (h : w.ownsRow base e size (.slice A n c) n xs) {j : Nat} {u : Value} (hj : xs[j]? = some u) :
    ∃ g, A = some ⟨g, 0, none⟩ ∧ base ≤ g ∧ g < w.heap.size ∧ w.cell? ⟨g, j, none⟩ = some u ∧ w.frozen? ⟨g, j, none⟩ = false := by
  have hl : j < n * size := by
    have h1 := h.1
    have := (List.getElem?_eq_some_iff.1 hj).1
    omega
  have hn : 0 < n := by
    rcases Nat.eq_zero_or_pos n with h0 | h0
    · subst h0; simp at hl
    · exact h0
  obtain ⟨g, cap, hv, hb, hg⟩ := h.form hn
  injection hv with hA _ hc
  subst hA; subst hc
  exact ⟨g, rfl, hb, hg, (h.cellAt j hl).trans hj, h.frozenAt j⟩

theorem own_ints {w : World} {base : Nat} {e : TypeId} {A : Option Addr} {n c : Nat} {l : List Int} (h : w.ownsRow base e 1 (.slice A n c) n (l.map (Value.int .i64))) : IntsR w A n l := by
  refine ⟨by have := h.1; simpa using this, fun i x hx => ?_⟩
  obtain ⟨g, e1, _, e3, e4, _⟩ := own_at h (j := i) (u := .int .i64 x) (by simp [hx])
  exact ⟨g, 0, e1, e3, by simpa [IntAt] using e4⟩

/-- 's[l:]' under one name, whatever the capacity. -/
theorem run_cut {P : Program} {t e : TypeId} {i : TypeInfo} {size : Nat} (ht : P.underlying t = some (.slice e)) (hi : P.info? e = some i) (hsz : i.size = size) (A : Option Addr) (len cap l : Nat) (hl : l ≤ len) (hc : len ≤ cap) :
    ∃ A2, (∀ (k : IntKind) (w : World), (Instr.slice t (.slice A len cap) (some (.int k (l : Int))) none none).run P w = .ok (.slice A2 (len - l) (cap - l)) w) ∧
      ∀ {α : Type} (E : World → Nat → Nat → α → Prop) (w : World) (xs : List α), SliceR size E w A len xs → SliceR size E w A2 (len - l) (xs.drop l) := by
  refine ⟨if cap = l then A else A.map (·.add (l * size)), fun k w => ?_, fun E w xs h => ?_⟩
  · simp [Instr.slice, run_underlying ht, Instr.sliceBounds, Instr.sliceBound, asIntOf, hl, sizeOf, typeInfo, hi, hsz]
  · refine ⟨by rw [List.length_drop, h.1], fun j x hx => ?_⟩
    rw [List.getElem?_drop] at hx
    obtain ⟨b, o, rfl, hb, he⟩ := h.2 _ _ hx
    have hlt : l + j < xs.length := (List.getElem?_eq_some_iff.1 hx).1
    have hne : cap ≠ l := by have := h.1; omega
    refine ⟨b, o + l * size, ?_, hb, ?_⟩
    · rw [if_neg hne]
      simp only [Option.map_some, Addr.add]
      split
      · rename_i h0; simp [h0]
      · rfl
    · rw [Nat.add_mul, ← Nat.add_assoc] at he
      exact he

/-- 's[:h]'. -/
theorem run_upto {P : Program} {t e : TypeId} {i : TypeInfo} (ht : P.underlying t = some (.slice e)) (hi : P.info? e = some i) (A : Option Addr) (len cap h : Nat) (hc : h ≤ cap) (k : IntKind) (w : World) :
    (Instr.slice t (.slice A len cap) none (some (.int k (h : Int))) none).run P w = .ok (.slice A h cap) w := by
  have hA : ∀ s, (if cap = 0 then A else A.map (·.add (0 * s))) = A := by
    intro s
    cases A <;> simp [Addr.add]
  simp [Instr.slice, run_underlying ht, Instr.sliceBounds, Instr.sliceBound, asIntOf, hc, sizeOf, typeInfo, hi]
  intro _
  cases A <;> simp [Addr.add]

/-- 's[:h]' of a row of the call's own. -/
theorem own_take {w : World} {base : Nat} {e : TypeId} {size : Nat} {A : Option Addr} {n c : Nat} {xs : List Value} (h : w.ownsRow base e size (.slice A n c) n xs) (m : Nat) (hm : m ≤ n) : w.ownsRow base e size (.slice A m c) m (xs.take (m * size)) := by
  obtain ⟨h1, h2⟩ := h
  refine ⟨by rw [List.length_take, h1]; exact Nat.min_eq_left (Nat.mul_le_mul_right _ hm), ?_⟩
  rcases h2 with ⟨hv, h0⟩ | ⟨g, cap, cur, hv, hb, hg, hnc, hcm, hcs, ht⟩
  · left
    injection hv with hA hn hc
    subst hA; subst hc
    have : m = 0 := by omega
    subst this
    exact ⟨rfl, rfl⟩
  · right
    injection hv with hA _ hc
    subst hA; subst hc
    refine ⟨g, c, cur, rfl, hb, hg, by omega, hcm, hcs, ?_⟩
    rw [← ht, List.take_take, Nat.min_eq_left (Nat.mul_le_mul_right _ hm)]

theorem own_cap {w : World} {base : Nat} {e : TypeId} {size : Nat} {A : Option Addr} {n c : Nat} {xs : List Value} (h : w.ownsRow base e size (.slice A n c) n xs) : n ≤ c ∧ c ≤ maxLen := by
  rcases h.2 with ⟨hv, h0⟩ | ⟨g, cap, cur, hv, hb, hg, hnc, hcm, hcs, ht⟩
  · injection hv with _ _ hc
    subst hc; subst h0
    exact ⟨Nat.le_refl _, by unfold maxLen; omega⟩
  · injection hv with _ _ hc
    subst hc
    exact ⟨hnc, hcm⟩

theorem own_slice {w : World} {base : Nat} {e : TypeId} {size : Nat} {v : Value} {n : Nat} {xs : List Value} (h : w.ownsRow base e size v n xs) : ∃ A c, v = .slice A n c := by
  rcases h.2 with ⟨hv, h0⟩ | ⟨g, cap, cur, hv, _⟩
  · subst h0; exact ⟨_, _, hv⟩
  · exact ⟨_, _, hv⟩

theorem Bel.push {w wr w' : World} {e : TypeId} {size : Nat} {v : Value} {n : Nat} {xs : List Value} (h : Bel w wr) (ho : wr.ownsRow w.heap.size e size v n xs) (hg : wr.grownBy w' v.ownBlock) : Bel w w' :=
  h.grown hg (fun k hk => (ho.lt k hk).1)

section
variable {P : Program} (w : World)
/-- 'append(s, x)' onto a row of the call's own, x one element of one or more cells that lies in a block of its own. -/
theorem wp_push {o : Oper} {a : Act} {K : Act → World → Prop} {Q : Exit → Act → World → Prop} (s x : Operand) (t : TypeId)
    (ho : o.op = .call { callee := .builtin .append, args := #[s, x], argTypes := #[t, t] })
    (base : Nat) (e : TypeId) (i : TypeInfo) (z : Value) (size bytes : Nat) (ht : P.underlying t = some (.slice e)) (hi : P.info? e = some i) (hz : i.zero = some z)
    (hsize : i.size = size) (hby : i.bytes = bytes) (hzs : z.cells.size = size) (hsz : 0 < size)
    (A : Option Addr) (n c : Nat) (xs : List Value) (hs : a.eval s = .slice A n c) (hown : w.ownsRow base e size (.slice A n c) n xs)
    (B : Nat) (cs : Array Value) (e' : TypeId) (fr : Nat × Nat) (hx : a.eval x = .slice (some ⟨B, 0, none⟩) 1 1) (hb : w.heap[B]? = some (.cells cs e' fr)) (hcs : cs.size = size) (h1 : ∀ u ∈ cs.toList, u.oneCell' = true)
    (h63 : n + 1 ≤ maxLen) (hbytes : (n + 1) * bytes ≤ 140737488355328) (hbase : base ≤ w.heap.size)
    (h : ∀ A' c' w', w'.ownsRow base e size (.slice A' (n + 1) c') (n + 1) (xs ++ cs.toList) → w.grownBy w' (Value.slice A n c).ownBlock → ((Value.slice A' (n + 1) c').ownBlock = (Value.slice A n c).ownBlock ∨ (Value.slice A' (n + 1) c').ownBlock = some w.heap.size) → K (a.put o.dst (.slice A' (n + 1) c')) w') : o.wp P a w K Q := by
  obtain ⟨v', w', hr, h2, h3, _, h5⟩ := run_append_own_at (P := P) w base t o.type e i z size bytes ht hi hz hsize hby hzs hsz (.slice A n c) n xs hown ⟨B, 0, none⟩ 1 1 cs.toList (by simpa using hcs) (World.news_of_block hb) h1 h63 hbytes hbase
  obtain ⟨A', c', rfl⟩ := own_slice h2
  unfold Oper.wp execOp
  simp only [ho, resolve, invoke, builtin, Sem.run_bind, Sem.run_pure, Result.andThen_ok, List.map_toArray, List.map_cons, List.map_nil, hs, hx, hr]
  exact h A' c' w' h2 h3 h5

theorem wpList_push {ops : Array Oper} {rest : List Oper} {o : Oper} {a : Act} {Q : Exit → Act → World → Prop} (hgd : o.guard = none) (s x : Operand) (t : TypeId)
    (ho : o.op = .call { callee := .builtin .append, args := #[s, x], argTypes := #[t, t] })
    (base : Nat) (e : TypeId) (i : TypeInfo) (z : Value) (size bytes : Nat) (ht : P.underlying t = some (.slice e)) (hi : P.info? e = some i) (hz : i.zero = some z)
    (hsize : i.size = size) (hby : i.bytes = bytes) (hzs : z.cells.size = size) (hsz : 0 < size)
    (A : Option Addr) (n c : Nat) (xs : List Value) (hs : a.eval s = .slice A n c) (hown : w.ownsRow base e size (.slice A n c) n xs)
    (B : Nat) (cs : Array Value) (e' : TypeId) (fr : Nat × Nat) (hx : a.eval x = .slice (some ⟨B, 0, none⟩) 1 1) (hb : w.heap[B]? = some (.cells cs e' fr)) (hcs : cs.size = size) (h1 : ∀ u ∈ cs.toList, u.oneCell' = true)
    (h63 : n + 1 ≤ maxLen) (hbytes : (n + 1) * bytes ≤ 140737488355328) (hbase : base ≤ w.heap.size)
    (h : ∀ A' c' w', w'.ownsRow base e size (.slice A' (n + 1) c') (n + 1) (xs ++ cs.toList) → w.grownBy w' (Value.slice A n c).ownBlock → ((Value.slice A' (n + 1) c').ownBlock = (Value.slice A n c).ownBlock ∨ (Value.slice A' (n + 1) c').ownBlock = some w.heap.size) → wpList P ops Q rest (a.put o.dst (.slice A' (n + 1) c')) w') : wpList P ops Q (o :: rest) a w :=
  wpList_plain hgd fun _ hK => wp_push w s x t ho base e i z size bytes ht hi hz hsize hby hzs hsz A n c xs hs hown B cs e' fr hx hb hcs h1 h63 hbytes hbase fun A' c' w' h2 h3 h4 => hK _ _ (h A' c' w' h2 h3 h4)

theorem step_push {ops : Array Oper} {o : Oper} {a : Act} {K : Act → World → Prop} {Q : Exit → Act → World → Prop} {E : Prop} (hgd : o.guard = none) (s x : Operand) (t : TypeId)
    (ho : o.op = .call { callee := .builtin .append, args := #[s, x], argTypes := #[t, t] })
    (base : Nat) (e : TypeId) (i : TypeInfo) (z : Value) (size bytes : Nat) (ht : P.underlying t = some (.slice e)) (hi : P.info? e = some i) (hz : i.zero = some z)
    (hsize : i.size = size) (hby : i.bytes = bytes) (hzs : z.cells.size = size) (hsz : 0 < size)
    (A : Option Addr) (n c : Nat) (xs : List Value) (hs : a.eval s = .slice A n c) (hown : w.ownsRow base e size (.slice A n c) n xs)
    (B : Nat) (cs : Array Value) (e' : TypeId) (fr : Nat × Nat) (hx : a.eval x = .slice (some ⟨B, 0, none⟩) 1 1) (hb : w.heap[B]? = some (.cells cs e' fr)) (hcs : cs.size = size) (h1 : ∀ u ∈ cs.toList, u.oneCell' = true)
    (h63 : n + 1 ≤ maxLen) (hbytes : (n + 1) * bytes ≤ 140737488355328) (hbase : base ≤ w.heap.size)
    (h : ∀ A' c' w', w'.ownsRow base e size (.slice A' (n + 1) c') (n + 1) (xs ++ cs.toList) → w.grownBy w' (Value.slice A n c).ownBlock → ((Value.slice A' (n + 1) c').ownBlock = (Value.slice A n c).ownBlock ∨ (Value.slice A' (n + 1) c').ownBlock = some w.heap.size) → K (a.put o.dst (.slice A' (n + 1) c')) w') :
    if Region.wanted o (yielded ops a.tmps) = true then Oper.wp P o a w K Q else E := by
  have hw : Region.wanted o (yielded ops a.tmps) = true := by simp [Region.wanted, hgd]
  rw [if_pos hw]
  exact wp_push w s x t ho base e i z size bytes ht hi hz hsize hby hzs hsz A n c xs hs hown B cs e' fr hx hb hcs h1 h63 hbytes hbase h
end

theorem heap_new (w : World) (o : Obj) : (w.alloc o).heap[w.heap.size]? = some o := heap_alloc_new w o
theorem heap_new_drew (w : World) (o : Obj) : (w.alloc o).drew.heap[w.heap.size]? = some o := heap_alloc_new w o
theorem one_int (k : IntKind) (x : Int) : ∀ u ∈ (#[Value.int k x] : Array Value).toList, u.oneCell' = true := by simp [Value.oneCell']
theorem two_ints (k j : IntKind) (x y : Int) : ∀ u ∈ (#[Value.int k x, Value.int j y] : Array Value).toList, u.oneCell' = true := by simp [Value.oneCell']
theorem one_bool (x : Bool) : ∀ u ∈ (#[Value.bool x] : Array Value).toList, u.oneCell' = true := by simp [Value.oneCell']

def BoolAt (w : World) (b o : Nat) (x : Bool) : Prop := w.cell? ⟨b, o, none⟩ = some (.bool x)
theorem BoolAt.keeps : Keeps BoolAt := fun _ _ _ _ _ k hb h => (k.cell hb).trans h
def BoolsR := SliceR 1 BoolAt
theorem BoolsR.keep {w w' : World} {A : Option Addr} {n : Nat} {xs : List Bool} (h : BoolsR w A n xs) (k : Bel w w') : BoolsR w' A n xs := SliceR.keep BoolAt.keeps h k
theorem BoolsR.at_ {w : World} {A : Option Addr} {n : Nat} {xs : List Bool} (h : BoolsR w A n xs) (k : Nat) (hk : k < xs.length) :
    ∃ b o, A = some ⟨b, o, none⟩ ∧ b < w.heap.size ∧ w.cell? ⟨b, o + k, none⟩ = some (.bool xs[k]) := by
  obtain ⟨b, o, e, hb, h⟩ := SliceR.at_ h k hk
  exact ⟨b, o, e, hb, by rw [Nat.mul_one] at h; exact h⟩
theorem own_bools {w : World} {base : Nat} {e : TypeId} {A : Option Addr} {n c : Nat} {l : List Bool} (h : w.ownsRow base e 1 (.slice A n c) n (l.map Value.bool)) : BoolsR w A n l := by
  refine ⟨by have := h.1; simpa using this, fun i x hx => ?_⟩
  obtain ⟨g, e1, _, e3, e4, _⟩ := own_at h (j := i) (u := .bool x) (by simp [hx])
  exact ⟨g, 0, e1, e3, by simpa [BoolAt] using e4⟩

/-- A contract told from an earlier world on. -/
theorem Calls.rel {P : Program} {f : FuncId} {args : Array Value} {w0 w : World} {Q : Ending → Prop} (h0 : Bel w0 w) (h : Calls P f args w fun e w' => Q e ∧ Bel w w') : Calls P f args w fun e w' => Q e ∧ Bel w0 w' :=
  h.mono fun _ _ ⟨a, b⟩ => ⟨a, h0.trans b⟩

/-- The cells of a slice, nil let in. -/
def CellsR (w : World) (size : Nat) (A : Option Addr) (m : Nat) (news : List Value) : Prop :=
  news.length = m * size ∧ ∀ j u, news[j]? = some u → ∃ b o, A = some ⟨b, o, none⟩ ∧ w.cell? ⟨b, o + j, none⟩ = some u

theorem addr_add {b o k : Nat} : (⟨b, o, none⟩ : Addr).add k = ⟨b, o + k, none⟩ := by
  unfold Addr.add
  split
  · rename_i h; subst h; rfl
  · rfl

section
variable {P : Program} (w : World)
theorem run_extend_nil (base : Nat) (t ty e : TypeId) (i : TypeInfo) (size : Nat) (ht : P.underlying t = some (.slice e)) (hi : P.info? e = some i)
    (v : Value) (n : Nat) (xs : List Value) (hown : w.ownsRow base e size v n xs) (A : Option Addr) (c : Nat) : (Builtin.append_ #[t, t] ty #[v, .slice A 0 c]).run P w = .ok v w := by
  rcases hown.2 with ⟨rfl, rfl⟩ | ⟨g, cap, cur, rfl, _, _, hnc, _⟩
  · cases A <;> simp [Builtin.append_, run_underlying ht, sizeOf, typeInfo, hi, Builtin.lenOf, Builtin.firstCells, loadCells, loadCellsFrom]
  · cases A <;> simp [Builtin.append_, run_underlying ht, sizeOf, typeInfo, hi, Builtin.lenOf, Builtin.firstCells, hnc, storeCells, loadCells, loadCellsFrom]

theorem run_extend (base : Nat) (t ty e : TypeId) (i : TypeInfo) (z : Value) (size bytes : Nat) (ht : P.underlying t = some (.slice e)) (hi : P.info? e = some i) (hz : i.zero = some z)
    (hsize : i.size = size) (hby : i.bytes = bytes) (hzs : z.cells.size = size) (hsz : 0 < size)
    (A : Option Addr) (n c : Nat) (xs : List Value) (hown : w.ownsRow base e size (.slice A n c) n xs)
    (A2 : Option Addr) (m c2 : Nat) (news : List Value) (hr : CellsR w size A2 m news) (h1 : ∀ u ∈ news, u.oneCell' = true)
    (h63 : n + m ≤ maxLen) (hbytes : (n + m) * bytes ≤ 140737488355328) (hbase : base ≤ w.heap.size) :
    ∃ A' c' w', (Builtin.append_ #[t, t] ty #[.slice A n c, .slice A2 m c2]).run P w = .ok (.slice A' (n + m) c') w' ∧ w'.ownsRow base e size (.slice A' (n + m) c') (n + m) (xs ++ news) ∧ w.grownBy w' (Value.slice A n c).ownBlock ∧
      ((Value.slice A' (n + m) c').ownBlock = (Value.slice A n c).ownBlock ∨ (Value.slice A' (n + m) c').ownBlock = some w.heap.size) := by
  rcases Nat.eq_zero_or_pos m with h0 | h0
  · subst h0
    have hn : news = [] := List.eq_nil_of_length_eq_zero (by simpa using hr.1)
    subst hn
    exact ⟨A, c, w, run_extend_nil w base t ty e i size ht hi _ n xs hown A2 c2, by simpa using hown, World.grownBy.refl w _, .inl rfl⟩
  · have hpos : 0 < news.length := by rw [hr.1]; exact Nat.mul_pos h0 hsz
    obtain ⟨b, o, rfl, _⟩ := hr.2 0 news[0] (List.getElem?_eq_getElem hpos)
    have hcells : ∀ j u, news[j]? = some u → w.cell? ((⟨b, o, none⟩ : Addr).add j) = some u := by
      intro j u hu
      obtain ⟨b', o', he, hc⟩ := hr.2 j u hu
      injection he with he
      injection he with h1 h2
      subst h1; subst h2
      rw [addr_add]; exact hc
    obtain ⟨v', w', hrun, h2, h3, _, h5⟩ := run_append_own_at (P := P) w base t ty e i z size bytes ht hi hz hsize hby hzs hsz (.slice A n c) n xs hown ⟨b, o, none⟩ m c2 news hr.1 hcells h1 h63 hbytes hbase
    obtain ⟨A', c', rfl⟩ := own_slice h2
    exact ⟨A', c', w', hrun, h2, h3, h5⟩

/-- 'append(s, xs...)' onto a row of the call's own. -/
theorem wp_extend {o : Oper} {a : Act} {K : Act → World → Prop} {Q : Exit → Act → World → Prop} (s x : Operand) (t : TypeId)
    (ho : o.op = .call { callee := .builtin .append, args := #[s, x], argTypes := #[t, t] })
    (base : Nat) (e : TypeId) (i : TypeInfo) (z : Value) (size bytes : Nat) (ht : P.underlying t = some (.slice e)) (hi : P.info? e = some i) (hz : i.zero = some z)
    (hsize : i.size = size) (hby : i.bytes = bytes) (hzs : z.cells.size = size) (hsz : 0 < size)
    (A : Option Addr) (n c : Nat) (xs : List Value) (hs : a.eval s = .slice A n c) (hown : w.ownsRow base e size (.slice A n c) n xs)
    (A2 : Option Addr) (m c2 : Nat) (news : List Value) (hx : a.eval x = .slice A2 m c2) (hr : CellsR w size A2 m news) (h1 : ∀ u ∈ news, u.oneCell' = true)
    (h63 : n + m ≤ maxLen) (hbytes : (n + m) * bytes ≤ 140737488355328) (hbase : base ≤ w.heap.size)
    (h : ∀ A' c' w', w'.ownsRow base e size (.slice A' (n + m) c') (n + m) (xs ++ news) → w.grownBy w' (Value.slice A n c).ownBlock → ((Value.slice A' (n + m) c').ownBlock = (Value.slice A n c).ownBlock ∨ (Value.slice A' (n + m) c').ownBlock = some w.heap.size) → K (a.put o.dst (.slice A' (n + m) c')) w') : o.wp P a w K Q := by
  obtain ⟨A', c', w', hrun, h2, h3, h4⟩ := run_extend (P := P) w base t o.type e i z size bytes ht hi hz hsize hby hzs hsz A n c xs hown A2 m c2 news hr h1 h63 hbytes hbase
  unfold Oper.wp execOp
  simp only [ho, resolve, invoke, builtin, Sem.run_bind, Sem.run_pure, Result.andThen_ok, List.map_toArray, List.map_cons, List.map_nil, hs, hx, hrun]
  exact h A' c' w' h2 h3 h4

theorem wpList_extend {ops : Array Oper} {rest : List Oper} {o : Oper} {a : Act} {Q : Exit → Act → World → Prop} (hgd : o.guard = none) (s x : Operand) (t : TypeId)
    (ho : o.op = .call { callee := .builtin .append, args := #[s, x], argTypes := #[t, t] })
    (base : Nat) (e : TypeId) (i : TypeInfo) (z : Value) (size bytes : Nat) (ht : P.underlying t = some (.slice e)) (hi : P.info? e = some i) (hz : i.zero = some z)
    (hsize : i.size = size) (hby : i.bytes = bytes) (hzs : z.cells.size = size) (hsz : 0 < size)
    (A : Option Addr) (n c : Nat) (xs : List Value) (hs : a.eval s = .slice A n c) (hown : w.ownsRow base e size (.slice A n c) n xs)
    (A2 : Option Addr) (m c2 : Nat) (news : List Value) (hx : a.eval x = .slice A2 m c2) (hr : CellsR w size A2 m news) (h1 : ∀ u ∈ news, u.oneCell' = true)
    (h63 : n + m ≤ maxLen) (hbytes : (n + m) * bytes ≤ 140737488355328) (hbase : base ≤ w.heap.size)
    (h : ∀ A' c' w', w'.ownsRow base e size (.slice A' (n + m) c') (n + m) (xs ++ news) → w.grownBy w' (Value.slice A n c).ownBlock → ((Value.slice A' (n + m) c').ownBlock = (Value.slice A n c).ownBlock ∨ (Value.slice A' (n + m) c').ownBlock = some w.heap.size) → wpList P ops Q rest (a.put o.dst (.slice A' (n + m) c')) w') : wpList P ops Q (o :: rest) a w :=
  wpList_plain hgd fun _ hK => wp_extend w s x t ho base e i z size bytes ht hi hz hsize hby hzs hsz A n c xs hs hown A2 m c2 news hx hr h1 h63 hbytes hbase fun A' c' w' h2 h3 h4 => hK _ _ (h A' c' w' h2 h3 h4)

theorem step_extend {ops : Array Oper} {o : Oper} {a : Act} {K : Act → World → Prop} {Q : Exit → Act → World → Prop} {E : Prop} (hgd : o.guard = none) (s x : Operand) (t : TypeId)
    (ho : o.op = .call { callee := .builtin .append, args := #[s, x], argTypes := #[t, t] })
    (base : Nat) (e : TypeId) (i : TypeInfo) (z : Value) (size bytes : Nat) (ht : P.underlying t = some (.slice e)) (hi : P.info? e = some i) (hz : i.zero = some z)
    (hsize : i.size = size) (hby : i.bytes = bytes) (hzs : z.cells.size = size) (hsz : 0 < size)
    (A : Option Addr) (n c : Nat) (xs : List Value) (hs : a.eval s = .slice A n c) (hown : w.ownsRow base e size (.slice A n c) n xs)
    (A2 : Option Addr) (m c2 : Nat) (news : List Value) (hx : a.eval x = .slice A2 m c2) (hr : CellsR w size A2 m news) (h1 : ∀ u ∈ news, u.oneCell' = true)
    (h63 : n + m ≤ maxLen) (hbytes : (n + m) * bytes ≤ 140737488355328) (hbase : base ≤ w.heap.size)
    (h : ∀ A' c' w', w'.ownsRow base e size (.slice A' (n + m) c') (n + m) (xs ++ news) → w.grownBy w' (Value.slice A n c).ownBlock → ((Value.slice A' (n + m) c').ownBlock = (Value.slice A n c).ownBlock ∨ (Value.slice A' (n + m) c').ownBlock = some w.heap.size) → K (a.put o.dst (.slice A' (n + m) c')) w') :
    if Region.wanted o (yielded ops a.tmps) = true then Oper.wp P o a w K Q else E := by
  have hw : Region.wanted o (yielded ops a.tmps) = true := by simp [Region.wanted, hgd]
  rw [if_pos hw]
  exact wp_extend w s x t ho base e i z size bytes ht hi hz hsize hby hzs hsz A n c xs hs hown A2 m c2 news hx hr h1 h63 hbytes hbase h
end

/-- 's[l:h]' under one name. -/
theorem run_sub {P : Program} {t e : TypeId} {i : TypeInfo} {size : Nat} (ht : P.underlying t = some (.slice e)) (hi : P.info? e = some i) (hsz : i.size = size) (A : Option Addr) (len cap l h : Nat) (hl : l ≤ h) (hh : h ≤ len) (hc : len ≤ cap) :
    ∃ A2, (∀ (k1 k2 : IntKind) (w : World), (Instr.slice t (.slice A len cap) (some (.int k1 (l : Int))) (some (.int k2 (h : Int))) none).run P w = .ok (.slice A2 (h - l) (cap - l)) w) ∧
      ∀ {α : Type} (E : World → Nat → Nat → α → Prop) (w : World) (xs : List α), SliceR size E w A len xs → SliceR size E w A2 (h - l) ((xs.drop l).take (h - l)) := by
  refine ⟨if cap = l then A else A.map (·.add (l * size)), fun k1 k2 w => ?_, fun E w xs hr => ?_⟩
  · have h1 : h ≤ cap := by omega
    simp [Instr.slice, run_underlying ht, Instr.sliceBounds, Instr.sliceBound, asIntOf, hl, h1, sizeOf, typeInfo, hi, hsz]
  · refine ⟨by rw [List.length_take, List.length_drop, hr.1]; omega, fun j x hx => ?_⟩
    rw [List.getElem?_take] at hx
    split at hx
    · rw [List.getElem?_drop] at hx
      obtain ⟨b, o, rfl, hb, he⟩ := hr.2 _ _ hx
      have hlt : l + j < xs.length := (List.getElem?_eq_some_iff.1 hx).1
      have hne : cap ≠ l := by have := hr.1; omega
      refine ⟨b, o + l * size, ?_, hb, ?_⟩
      · rw [if_neg hne]
        simp only [Option.map_some]
        rw [addr_add]
      · rw [Nat.add_mul, ← Nat.add_assoc] at he
        exact he
    · cases hx
theorem SliceR.take {α : Type} {size : Nat} {E : World → Nat → Nat → α → Prop} {w : World} {A : Option Addr} {n : Nat} {xs : List α} (h : SliceR size E w A n xs) (m : Nat) (hm : m ≤ n) : SliceR size E w A m (xs.take m) :=
  ⟨by rw [List.length_take, h.1]; omega, fun i x hx => by
    rw [List.getElem?_take] at hx
    split at hx
    · exact h.2 i x hx
    · cases hx⟩

end Go.Proofs.YtibfjhhadbkkgaaGreat

/- From a row's reading of the arguments to lists and numbers, and from a walk back to the row: for laws that return true and leave the arguments as they are. -/
namespace Go.Proofs.YtibfjhhadbkkgaaGreat
open Go.ChangeShapes Go.WideShapes Go.ChangeAt Go.RowKit Go.Deep

theorem Tryz.own : ownKnob Tryz.prog.godebug = none := by kernel_rfl
theorem Tryz.laidOut : laidOutB Tryz.prog = true := by kernel_rfl
theorem Tryz.cells_int : Tryz.prog.cellsOf 3 = 1 := by kernel_rfl

section
variable {H : Type} {enc : TypeId × Value → H} {P : Program} {w : World} {base : Nat} {spare : Nat → Bool} {held : Bool}

theorem block_lt {w : World} {a : Addr} {v : Value} (h : w.cell? a = some v) : a.block < w.heap.size ∧ a.spot = none := by
  unfold World.cell? at h
  split at h
  · rename_i c e f hh
    refine ⟨?_, ?_⟩
    · rcases Nat.lt_or_ge a.block w.heap.size with hlt | hge
      · exact hlt
      · rw [Array.getElem?_eq_none hge] at hh; cases hh
    · cases hs : a.spot with
      | none => rfl
      | some s => rw [hs] at h; simp at h
  · cases h

theorem add_none {b o k : Nat} : (⟨b, o, none⟩ : Addr).add k = ⟨b, o + k, none⟩ := by
  unfold Addr.add
  split
  · rename_i h; subst h; rfl
  · rfl

theorem open_sliceR {α : Type} [Inhabited α] {t e : TypeId} {size : Nat} {E : World → Nat → Nat → α → Prop} {Good : α → Prop} (ht : P.underlying t = some (.slice e)) (hC : P.cellsOf e = size) (hsz : 0 < size)
    (hE : ∀ n cs y b o, (∀ j, j < size → w.cell? ⟨b, o + j, none⟩ = cs[j]?) → cs.length = size → DataW.trod enc P w base spare held n e cs = some y → ∃ x, E w b o x ∧ Good x)
    {fuel : Nat} {cs : List Value} {x : DataW H × List MemPlace} (h : DataW.trod enc P w base spare held fuel t cs = some x) :
    ∃ (A : Option Addr) (n c : Nat) (xs : List α), cs = [.slice A n c] ∧ SliceR size E w A n xs ∧ (∀ x ∈ xs, Good x) ∧ n ≤ c ∧ c ≤ maxLen := by
  rcases open_slice ht h with ⟨hcs, _⟩ | ⟨a, len, cap, m, n, D, Pl, hcs, hb, hl, hm, hmm, hx, hi⟩
  · exact ⟨none, 0, 0, [], hcs, SliceR.nil, fun _ h => by simp at h, Nat.le_refl _, by unfold maxLen; omega⟩
  · have hlm : len ≤ m := by rw [hmm]; split <;> omega
    rw [hC] at hi
    rcases Nat.eq_zero_or_pos len with h0 | h0
    · subst h0
      exact ⟨some a, 0, cap, [], hcs, SliceR.nil, fun _ h => by simp at h, hl, hm⟩
    · have ha : a = ⟨a.block, a.off, none⟩ ∧ a.block < w.heap.size := by
        obtain ⟨cs', hc, _⟩ := hi 0 (by omega)
        obtain ⟨_, hcl, hat⟩ := World.cells?_some hc
        have h1 := hat 0 (by omega)
        rw [List.getElem?_eq_getElem (by omega)] at h1
        simp [Addr.add] at h1
        obtain ⟨h2, h3⟩ := block_lt h1
        exact ⟨by rw [← h3], h2⟩
      obtain ⟨hae, hab⟩ := ha
      generalize a.block = b at *
      generalize a.off = o at *
      subst hae
      have hch : ∀ i, i < len → ∃ x, E w b (o + i * size) x ∧ Good x := by
        intro i hi'
        obtain ⟨cs', hc, htr⟩ := hi i (by omega)
        obtain ⟨_, hcl, hat⟩ := World.cells?_some hc
        refine hE n cs' _ b (o + i * size) (fun j hj => ?_) hcl htr
        have := hat j hj
        rw [add_none, add_none] at this
        exact this
      obtain ⟨f, hf⟩ := choose_lt hch
      refine ⟨some ⟨b, o, none⟩, len, cap, (List.range len).map f, hcs, ⟨by simp, fun i x hx => ?_⟩, fun x hx => ?_, hl, hm⟩
      · have hil : i < len := by
          have := (List.getElem?_eq_some_iff.1 hx).1
          simpa using this
        rw [List.getElem?_map, List.getElem?_range hil] at hx
        simp at hx
        subst hx
        exact ⟨b, o, rfl, hab, (hf i hil).1⟩
      · obtain ⟨i, hi', rfl⟩ := List.mem_map.1 hx
        exact (hf i (List.mem_range.1 hi')).2

/-- A number of the kind int. -/
def InI64 (x : Int) : Prop := -9223372036854775808 ≤ x ∧ x ≤ 9223372036854775807
theorem inI64_of_wf {x : Int} (h : (Lit.int .i64 x).wf = true) : InI64 x := by
  simpa [InI64, Lit.wf, IntKind.min, IntKind.max, IntKind.signed, IntKind.bits] using h

theorem open_int_at {e : TypeId} (he : P.underlying e = some (.int .i64)) : ∀ n cs y b o, (∀ j, j < 1 → w.cell? ⟨b, o + j, none⟩ = cs[j]?) → cs.length = 1 → DataW.trod enc P w base spare held n e cs = some y → ∃ x, IntAt w b o x ∧ InI64 x := by
  intro n cs y b o hat hl h
  obtain ⟨x, rfl, _, hwf⟩ := DataW.trod_int he h
  refine ⟨x, ?_, inI64_of_wf hwf⟩
  have := hat 0 (by omega)
  simpa [IntAt] using this

theorem open_intsR {t e : TypeId} (ht : P.underlying t = some (.slice e)) (hC : P.cellsOf e = 1) (he : P.underlying e = some (.int .i64)) {v : Value} {d : DataW H} {p : List MemPlace} {r : Reach} {b0 : Nat} (h : DataW.Trod enc P w base spare held t v d p) (hv : Value.okWide P w r b0 t v) :
    ∃ (A : Option Addr) (n c : Nat) (xs : List Int), v = .slice A n c ∧ IntsR w A n xs ∧ (∀ x ∈ xs, InI64 x) ∧ n ≤ c ∧ c ≤ maxLen := by
  obtain ⟨a, l, c', rfl⟩ := okWide_slice ht hv
  obtain ⟨fuel, h⟩ := h
  obtain ⟨A, n, c, xs, hcs, hr, hg, h1, h2⟩ := open_sliceR (E := IntAt) (Good := InI64) ht hC (by decide) (open_int_at he) h
  exact ⟨A, n, c, xs, by simpa [Value.cells] using hcs, hr, hg, h1, h2⟩

end

section
variable {H : Type} {enc : TypeId × Value → H} {P : Program}

theorem trodAll_stays (hl : laidOutB P = true) {W W' : World} {sp : Nat → Bool} (hb : Below W.heap.size W W') : ∀ {ts : List TypeId} {vs : List Value} {ds : List (DataW H)} {ps : List MemPlace},
    (∀ t ∈ ts, P.readableRec t = true ∧ t < P.types.size) → DataW.TrodAll enc P W 0 (fun _ => true) true ts vs ds ps → (∀ x ∈ ps, x.block < W.heap.size) → (∀ x ∈ ps, sp x.block = true) → DataW.TrodAll enc P W' 0 sp true ts vs ds ps
  | [], vs, ds, ps, _, h, _, _ => by
    obtain ⟨rfl, rfl, rfl⟩ := trodAll_nil h
    exact trodAll_mk0
  | t :: ts, vs, ds, ps, hr, h, hlt, hsp => by
    obtain ⟨v, vs', d, ds', p, q, rfl, rfl, rfl, hd, hrest⟩ := trodAll_cons h
    refine trodAll_cons_mk ?_ (trodAll_stays hl hb (fun t ht => hr t (by simp [ht])) hrest (fun x hx => hlt x (by simp [hx])) (fun x hx => hsp x (by simp [hx])))
    exact WideElems.Trod_stays hl (hr t (by simp)).1 (hr t (by simp)).2 hd (fun x hx => hb.same (hlt x (by simp [hx]))) (fun x hx => hsp x (by simp [hx]))

/-- The row's last step for a law: it has returned true, and nothing that was there has changed. -/
theorem law_post {f : Func} {s : ChangeSpec} {apart fresh handsOn again : Bool} {W W' : World} {args : Array Value} {ds gs : List (DataW H)} {before : List MemPlace} {tb : TypeId}
    (hl : laidOutB P = true) (hvs : s.vars = []) (hr0 : (f.params.toList.all fun t => P.readableRec t && decide (t < P.types.size)) = true) (hres : f.resultTypes = #[tb]) (htb : P.underlying tb = some .bool)
    (hW : DataW.Whole enc P f.params.toList s.vars apart W args.toList ds gs before)
    (hfn : (s.fn H (ds ++ gs)).results = [.lit (.bool true)] ∧ (s.fn H (ds ++ gs)).args = ds ∧ (s.fn H (ds ++ gs)).vars = [])
    (hb : Bel W W') : s.post enc P f apart fresh handsOn again W args (.bool true) W' := by
  have hr : ∀ t ∈ f.params.toList, P.readableRec t = true ∧ t < P.types.size := fun t ht => by
    have := List.all_eq_true.1 hr0 t ht
    simpa using this
  have hb' : Below W.heap.size W W' := hb
  have hlt : ∀ p ∈ before, p.block < W.heap.size := fun p hp => hW.lt p hp
  have hold : ∀ p ∈ before, (fun b => decide (b < W.heap.size)) p.block = true := fun p hp => by simpa using hlt p hp
  have hWh := hW
  obtain ⟨pa, pv, hA, hV, hps, hz, hn⟩ := hW
  rw [hvs] at hV
  obtain ⟨hg, hpv⟩ := trodVars_none hV
  subst hg; subst hpv
  have hps' : before = pa := by simpa using hps
  subst hps'
  have hargs : ∀ sp : Nat → Bool, (∀ p ∈ before, sp p.block = true) → DataW.TrodAll enc P W' 0 sp true f.params.toList args.toList (s.fn H (ds ++ [])).args before := fun sp hsp => by
    rw [hfn.2.1]
    exact trodAll_stays hl hb' hr hA hlt hsp
  have hvars : ∀ sp : Nat → Bool, DataW.TrodVars enc P W' sp s.vars (s.fn H (ds ++ [])).vars [] := fun sp => by
    rw [hvs, hfn.2.2]
    exact rfl
  have hresT : ∀ (b : Nat) (sp : Nat → Bool) (hd : Bool), DataW.TrodAll enc P W' b sp hd f.resultTypes.toList ((Value.bool true).resultList f.resultTypes.size) (s.fn H (ds ++ [])).results [] := fun b sp hd => by
    rw [hres, hfn.1]
    exact trodAll_cons_mk (shut_bool htb _) trodAll_mk0
  refine ⟨ds, [], before, [], before, [], hWh, hresT _ _ _, hargs _ hold, hvars _, World.keptBut_mono (fun p hp => ⟨hp, ?_⟩) (hb'.frame (· ∈ before)), fun _ => ?_⟩
  · right; simpa using hp
  · refine ⟨ok_one hres rfl (okWide_bool_mk htb _), _, _, ([] ++ before) ++ [], ⟨[] ++ before, [], trodAll_append (hargs _ (fun _ _ => rfl)) (hresT _ _ _), hvars _, rfl, ?_, ?_⟩, ?_⟩
    · intro b off hp
      have hin : MemPlace.cell b off ∈ before := by simpa using hp
      rw [hb'.frozen (hlt _ hin)]
      exact hz b off hin
    · intro ha
      have := hn ha
      simpa using this
    · intro p hp _
      simpa using hp
end
end Go.Proofs.YtibfjhhadbkkgaaGreat

/- The plain form of layer 5: terms, the place behind an expression, operands. -/
namespace Go.Proofs.YtibfjhhadbkkgaaGreat

structure Term where
  op : Int
  arg : Int
instance : Inhabited Term := ⟨⟨0, 0⟩⟩

def arity (op : Int) : Int :=
  if op < 1 ∨ 43 < op then -1 else if op ≤ 17 then 0 else if op ≤ 29 then 1 else if op ≤ 42 then 2 else 3

theorem arity_le (op : Int) : -1 ≤ arity op ∧ arity op ≤ 3 := by unfold arity; repeat' split <;> omega

def scan : List Term → Int → Option Nat
  | [], _ => none
  | t :: ts, m => if arity t.op < 0 then none else if m + (arity t.op - 1) = 0 then some 1 else (scan ts (m + (arity t.op - 1))).map (· + 1)

def scanAt (es : List Term) (k : Nat) (m : Int) : Int :=
  match scan (es.drop k) m with
  | none => -1
  | some n => k + n

theorem scanAt_done {es : List Term} {k : Nat} {m : Int} (h : es.length ≤ k) : scanAt es k m = -1 := by
  unfold scanAt; rw [List.drop_eq_nil_of_le h]; rfl

theorem scanAt_bad {es : List Term} {k : Nat} {m : Int} (h : k < es.length) (ha : arity es[k].op < 0) : scanAt es k m = -1 := by
  unfold scanAt; rw [List.drop_eq_getElem_cons h]; simp only [scan, if_pos ha]

theorem scanAt_end {es : List Term} {k : Nat} {m : Int} (h : k < es.length) (ha : 0 ≤ arity es[k].op) (hm : m + (arity es[k].op - 1) = 0) : scanAt es k m = k + 1 := by
  unfold scanAt; rw [List.drop_eq_getElem_cons h]; simp only [scan]; rw [if_neg (by omega), if_pos hm]; rfl

theorem scanAt_next {es : List Term} {k : Nat} {m : Int} (h : k < es.length) (ha : 0 ≤ arity es[k].op) (hm : m + (arity es[k].op - 1) ≠ 0) : scanAt es k m = scanAt es (k + 1) (m + (arity es[k].op - 1)) := by
  unfold scanAt; rw [List.drop_eq_getElem_cons h]; simp only [scan]; rw [if_neg (by omega), if_neg hm]
  cases scan (es.drop (k + 1)) (m + (arity es[k].op - 1)) with
  | none => rfl
  | some n => simp; omega

def endF (es : List Term) (p : Int) : Int := if p < 0 ∨ es.length ≤ p then -1 else scanAt es p.toNat 1

theorem scan_le (l : List Term) (m : Int) (n : Nat) (h : scan l m = some n) : 1 ≤ n ∧ n ≤ l.length := by
  induction l generalizing m n with
  | nil => simp [scan] at h
  | cons t ts ih =>
    simp only [scan] at h
    split at h
    · cases h
    · split at h
      · injection h with h; subst h; simp
      · cases hs : scan ts (m + (arity t.op - 1)) with
        | none => rw [hs] at h; cases h
        | some q =>
          rw [hs] at h; injection h with h; subst h
          have := ih _ _ hs
          simp; omega

theorem scanAt_le (es : List Term) (k : Nat) (m : Int) (hk : k ≤ es.length) : scanAt es k m = -1 ∨ (k < scanAt es k m ∧ scanAt es k m ≤ es.length) := by
  unfold scanAt
  cases h : scan (es.drop k) m with
  | none => left; rfl
  | some n =>
    right
    have := scan_le _ _ _ h
    simp at this
    simp; omega

theorem endF_le (es : List Term) (p : Int) : endF es p = -1 ∨ (0 ≤ p ∧ p < es.length ∧ p < endF es p ∧ endF es p ≤ es.length) := by
  unfold endF
  split
  · left; rfl
  · rename_i h
    have := scanAt_le es p.toNat 1 (by omega)
    omega

def iterEnd (es : List Term) : Nat → Int → Int
  | 0, p => p
  | n + 1, p => iterEnd es n (endF es p)

def opAt (es : List Term) (p : Int) : Int := (es.getD p.toNat default).op

theorem opAt_get {es : List Term} {k : Nat} (h : k < es.length) : opAt es (k : Int) = es[k].op := by
  unfold opAt; rw [List.getD_eq_getElem?_getD]; simp [h]

def operandF (es : List Term) (p k : Int) : Int :=
  if endF es p < 0 ∨ k < 0 ∨ arity (opAt es p) ≤ k then -1 else iterEnd es k.toNat (p + 1)

def aggregate (op : Int) : Bool := decide (20 ≤ op ∧ op ≤ 29)

def gmax (l : List Int) : Int := l.foldl max 0

theorem foldl_max_ge (l : List Int) (a : Int) : a ≤ l.foldl max a := by
  induction l generalizing a with
  | nil => exact Int.le_refl _
  | cons x l ih => exact Int.le_trans (Int.le_max_left a x) (ih _)
theorem foldl_max_le (l : List Int) (a b : Int) (ha : a ≤ b) (h : ∀ x ∈ l, x ≤ b) : l.foldl max a ≤ b := by
  induction l generalizing a with
  | nil => exact ha
  | cons x l ih => exact ih _ (Int.max_le.2 ⟨ha, h x (by simp)⟩) (fun y hy => h y (by simp [hy]))
theorem gmax_nonneg (l : List Int) : 0 ≤ gmax l := foldl_max_ge l 0
theorem gmax_le (l : List Int) (b : Int) (hb : 0 ≤ b) (h : ∀ x ∈ l, x ≤ b) : gmax l ≤ b := foldl_max_le l 0 b hb h

/-- The stack behind the terms from the last one to the first one. -/
def lev (num : Int → Int → Int) : List Term → List Int
  | [] => []
  | t :: ts => (lev num ts).take ((lev num ts).length - (arity t.op).toNat) ++ [num t.op (gmax ((lev num ts).drop ((lev num ts).length - (arity t.op).toNat)))]

/-- The list is so many whole expressions. -/
def Full (l : List Term) (m : Int) : Prop := (l = [] ∧ m = 0) ∨ (1 ≤ m ∧ scan l m = some l.length)

theorem Full.cons {t : Term} {ts : List Term} {m : Int} (h : Full (t :: ts) m) : 1 ≤ m ∧ 0 ≤ arity t.op ∧ Full ts (m + (arity t.op - 1)) := by
  rcases h with ⟨h, _⟩ | ⟨hm, h⟩
  · cases h
  · simp only [scan] at h
    split at h
    · cases h
    · rename_i ha
      refine ⟨hm, by omega, ?_⟩
      split at h
      · rename_i h0
        injection h with h
        left
        exact ⟨List.eq_nil_of_length_eq_zero (by simpa using h.symm), h0⟩
      · rename_i h0
        right
        refine ⟨by omega, ?_⟩
        cases hs : scan ts (m + (arity t.op - 1)) with
        | none => rw [hs] at h; cases h
        | some q => rw [hs] at h; injection h with h; simp at h; rw [h]

theorem Full.lev_length (num : Int → Int → Int) (l : List Term) : ∀ m, Full l m → ((lev num l).length : Int) = m := by
  induction l with
  | nil =>
    intro m h
    rcases h with ⟨_, h⟩ | ⟨_, h⟩
    · simp [lev, h]
    · simp [scan] at h
  | cons t ts ih =>
    intro m h
    obtain ⟨h1, h2, h3⟩ := h.cons
    have := ih _ h3
    simp only [lev, List.length_append, List.length_take, List.length_singleton]
    omega

theorem full_of_end {es : List Term} (h : endF es 0 = es.length) : Full es 1 := by
  unfold endF at h
  split at h
  · omega
  · right
    refine ⟨by omega, ?_⟩
    unfold scanAt at h
    simp only [Int.toNat_zero, List.drop_zero] at h
    cases hs : scan es 1 with
    | none => rw [hs] at h; simp at h
    | some n => rw [hs] at h; simp at h; rw [show n = es.length by omega]

theorem Full.drop {es : List Term} (h : Full es 1) : ∀ i, i ≤ es.length → ∃ m, Full (es.drop i) m := by
  intro i
  induction i with
  | zero => intro _; exact ⟨1, by simpa using h⟩
  | succ i ih =>
    intro hi
    obtain ⟨m, hm⟩ := ih (by omega)
    rw [List.drop_eq_getElem_cons (by omega)] at hm
    exact ⟨_, hm.cons.2.2⟩

/-- What holds of the stack at a term of a whole expression. -/
theorem lev_at (num : Int → Int → Int) {es : List Term} (h : Full es 1) {i : Nat} (hi : i < es.length) :
    0 ≤ arity es[i].op ∧ arity es[i].op ≤ (lev num (es.drop (i + 1))).length := by
  obtain ⟨m, hm⟩ := h.drop i (by omega)
  rw [List.drop_eq_getElem_cons hi] at hm
  obtain ⟨h1, h2, h3⟩ := hm.cons
  have := h3.lev_length num
  exact ⟨h2, by omega⟩

theorem lev_bound (num : Int → Int → Int) (hn : ∀ op g, 0 ≤ g → 0 ≤ num op g ∧ num op g ≤ g + 1) (l : List Term) : (lev num l).length ≤ l.length ∧ ∀ x ∈ lev num l, 0 ≤ x ∧ x ≤ l.length := by
  induction l with
  | nil => simp [lev]
  | cons t ts ih =>
    obtain ⟨ih1, ih2⟩ := ih
    refine ⟨by simp only [lev, List.length_append, List.length_take, List.length_cons, List.length_nil]; omega, fun x hx => ?_⟩
    simp only [lev, List.mem_append, List.mem_singleton] at hx
    rcases hx with hx | hx
    · have := ih2 x (List.mem_of_mem_take hx)
      simp; omega
    · have g1 := gmax_nonneg ((lev num ts).drop ((lev num ts).length - (arity t.op).toNat))
      have g2 := gmax_le ((lev num ts).drop ((lev num ts).length - (arity t.op).toNat)) ts.length (by omega) (fun y hy => (ih2 y (List.mem_of_mem_drop hy)).2)
      have := hn t.op _ g1
      rw [hx]; simp; omega

def levelsF (num : Int → Int → Int) (es : List Term) : Int := if endF es 0 = es.length then (lev num es).headD 0 else 0
def depthNum (_ g : Int) : Int := g + 1
def nestNum (op g : Int) : Int := if aggregate op then g + 1 else g
theorem depthNum_ok (op g : Int) (h : 0 ≤ g) : 0 ≤ depthNum op g ∧ depthNum op g ≤ g + 1 := by unfold depthNum; omega
theorem nestNum_ok (op g : Int) (h : 0 ≤ g) : 0 ≤ nestNum op g ∧ nestNum op g ≤ g + 1 := by unfold nestNum; split <;> omega
def depthF (es : List Term) : Int := levelsF depthNum es
def nestF (es : List Term) : Int := levelsF nestNum es

def argF (t : Term) (vars : Int) : Bool :=
  if t.op = 1 then decide (0 ≤ t.arg ∧ t.arg ≤ 1073741824) else if t.op = 5 ∨ t.op = 12 then decide (0 ≤ t.arg ∧ t.arg < vars) else decide (t.arg = 0)

def oneF (es : List Term) : Bool := decide (0 < es.length ∧ endF es 0 = es.length)

def validF (es : List Term) (vars : Int) : Bool :=
  decide (es.length ≤ 200) && (endF es 0 == es.length) && es.all (argF · vars) && decide (depthF es ≤ 24) && decide (nestF es ≤ 2)

theorem headD_mem {l : List Int} {x : Int} (h : l.headD 0 = x) : x = 0 ∨ x ∈ l := by
  cases l with
  | nil => left; exact h.symm
  | cons a l => right; simp at h; simp [h]
theorem levelsF_le (num : Int → Int → Int) (hn : ∀ op g, 0 ≤ g → 0 ≤ num op g ∧ num op g ≤ g + 1) (es : List Term) : 0 ≤ levelsF num es ∧ levelsF num es ≤ es.length := by
  unfold levelsF
  split
  · rcases headD_mem (l := lev num es) rfl with h | h
    · rw [h]; omega
    · exact (lev_bound num hn es).2 _ h
  · omega
theorem depthF_le (es : List Term) : 0 ≤ depthF es ∧ depthF es ≤ es.length := levelsF_le _ depthNum_ok es
theorem nestF_le (es : List Term) : 0 ≤ nestF es ∧ nestF es ≤ es.length := levelsF_le _ nestNum_ok es

/- The reference's levels: open terms with the operands that are still to come, the innermost first. -/
def popN : List (Int × Bool) → List (Int × Bool)
  | [] => []
  | (c, b) :: r => if c - 1 = 0 then popN r else (c - 1, b) :: r
def normS : List (Int × Bool) → List (Int × Bool)
  | [] => []
  | (c, b) :: r => if c = 0 then popN r else (c, b) :: r
def insideS (s : List (Int × Bool)) : Int := (s.filter (·.2)).length
def refGo : List Term → List (Int × Bool) → Int → Int → Int × Int
  | [], _, d, n => (d, n)
  | t :: ts, s, d, n => refGo ts (normS ((arity t.op, aggregate t.op) :: s)) (max d (((arity t.op, aggregate t.op) :: s).length : Nat)) (max n (insideS ((arity t.op, aggregate t.op) :: s)))

/-- Open terms: each waits for at least one operand. -/
def Wait (s : List (Int × Bool)) : Prop := ∀ x ∈ s, 1 ≤ x.1 ∧ x.1 ≤ 3
theorem Wait.tail {x : Int × Bool} {s : List (Int × Bool)} (h : Wait (x :: s)) : Wait s := fun y hy => h y (by simp [hy])
theorem popN_wait {s : List (Int × Bool)} (h : Wait s) : Wait (popN s) ∧ (popN s).length ≤ s.length := by
  induction s with
  | nil => exact ⟨h, Nat.le_refl _⟩
  | cons x s ih =>
    obtain ⟨c, b⟩ := x
    have hc := h (c, b) (by simp)
    simp only [popN]
    split
    · exact ⟨(ih h.tail).1, by have := (ih h.tail).2; simp; omega⟩
    · refine ⟨fun y hy => ?_, by simp⟩
      rcases List.mem_cons.1 hy with e | e
      · subst e; simp at hc ⊢; omega
      · exact h y (by simp [e])
theorem normS_wait {c : Int} {b : Bool} {s : List (Int × Bool)} (h : Wait s) (h0 : 0 ≤ c) (h3 : c ≤ 3) : Wait (normS ((c, b) :: s)) ∧ (normS ((c, b) :: s)).length ≤ s.length + 1 := by
  simp only [normS]
  split
  · exact ⟨(popN_wait h).1, by have := (popN_wait h).2; omega⟩
  · refine ⟨fun y hy => ?_, by simp⟩
    rcases List.mem_cons.1 hy with e | e
    · subst e; simp; omega
    · exact h y e
theorem insideS_le (s : List (Int × Bool)) : 0 ≤ insideS s ∧ insideS s ≤ s.length := by
  unfold insideS
  have := List.length_filter_le (fun x : Int × Bool => x.2) s
  omega

def cntB (l : List Bool) : Int := (l.filter id).length
theorem cntB_reverse (s : List (Int × Bool)) : cntB ((s.map (·.2)).reverse) = insideS s := by
  unfold cntB insideS
  rw [List.filter_reverse, List.length_reverse, List.filter_map, List.length_map]
  rfl
theorem cntB_cons (b : Bool) (l : List Bool) : cntB (b :: l) = (if b then 1 else 0) + cntB l := by
  cases b
  · simp [cntB]
  · simp [cntB]; omega
theorem cntB_le (l : List Bool) : 0 ≤ cntB l ∧ cntB l ≤ l.length := by
  unfold cntB
  have := List.length_filter_le id l
  omega
theorem normS_zero (b : Bool) (c : Int) (b' : Bool) (r : List (Int × Bool)) : normS ((0, b) :: (c, b') :: r) = normS ((c - 1, b') :: r) := by
  simp [normS, popN]
theorem normS_zero_nil (b : Bool) : normS [(0, b)] = [] := by simp [normS, popN]
theorem normS_pos (c : Int) (b : Bool) (r : List (Int × Bool)) (h : c ≠ 0) : normS ((c, b) :: r) = (c, b) :: r := by simp [normS, h]

/-- Open terms while operands end: the innermost one may wait for none. -/
def Shape : List (Int × Bool) → Prop
  | [] => True
  | (c, _) :: r => 0 ≤ c ∧ c ≤ 3 ∧ Wait r

end Go.Proofs.YtibfjhhadbkkgaaGreat

/- Contracts of the small functions of layer 5: Arity, Aggregate, End, Operand, of the program and of the reference. -/
namespace Go.Proofs.YtibfjhhadbkkgaaGreat
open Go.RowKit

def TermAt (w : World) (b o : Nat) (t : Term) : Prop := w.cell? ⟨b, o, none⟩ = some (.int .i64 t.op) ∧ w.cell? ⟨b, o + 1, none⟩ = some (.int .i64 t.arg)
theorem TermAt.keeps : Keeps TermAt := fun _ _ _ _ _ k hb h => ⟨(k.cell hb).trans h.1, (k.cell hb).trans h.2⟩
def TermsR := SliceR 2 TermAt
theorem TermsR.keep {w w' : World} {A : Option Addr} {n : Nat} {es : List Term} (h : TermsR w A n es) (k : Bel w w') : TermsR w' A n es := SliceR.keep TermAt.keeps h k
theorem TermsR.at_ {w : World} {A : Option Addr} {n : Nat} {es : List Term} (h : TermsR w A n es) (k : Nat) (hk : k < es.length) :
    ∃ b o, A = some ⟨b, o, none⟩ ∧ b < w.heap.size ∧ w.cell? ⟨b, o + k * 2, none⟩ = some (.int .i64 es[k].op) ∧ w.cell? ⟨b, o + k * 2 + 1, none⟩ = some (.int .i64 es[k].arg) := SliceR.at_ h k hk

theorem TermsR.atB {w : World} {A : Option Addr} {n : Nat} {es : List Term} (h : TermsR w A n es) (k : Nat) (hk : k < es.length) :
    ∃ b o, A = some ⟨b, o, none⟩ ∧ b < w.heap.size ∧ ∀ w', Bel w w' → w'.cell? ⟨b, o + k * 2, none⟩ = some (.int .i64 es[k].op) ∧ w'.cell? ⟨b, o + k * 2 + 1, none⟩ = some (.int .i64 es[k].arg) := by
  obtain ⟨b, o, e, hb, h1, h2⟩ := h.at_ k hk
  exact ⟨b, o, e, hb, fun w' k => ⟨(k.cell hb).trans h1, (k.cell hb).trans h2⟩⟩

def termCells (t : Term) : List Value := [.int .i64 t.op, .int .i64 t.arg]
theorem termCells_at (es : List Term) (i : Nat) (t : Term) (h : es[i]? = some t) : (es.flatMap termCells)[i * 2]? = some (.int .i64 t.op) ∧ (es.flatMap termCells)[i * 2 + 1]? = some (.int .i64 t.arg) := by
  induction es generalizing i with
  | nil => simp at h
  | cons x es ih =>
    cases i with
    | zero => simp at h; subst h; simp [termCells]
    | succ i =>
      have := ih i (by simpa using h)
      have e : (i + 1) * 2 = i * 2 + 1 + 1 := by omega
      rw [e]
      simpa [termCells] using this
theorem termCells_length (es : List Term) : (es.flatMap termCells).length = es.length * 2 := by
  induction es with
  | nil => rfl
  | cons x es ih => simp [ih, termCells]; omega
theorem termCells_one (es : List Term) : ∀ u ∈ es.flatMap termCells, u.oneCell' = true := by
  intro u hu
  simp only [List.mem_flatMap, termCells] at hu
  obtain ⟨t, _, h⟩ := hu
  simp at h
  rcases h with h | h <;> subst h <;> rfl
/-- A block that holds terms. -/
theorem terms_of_block {w : World} {g : Nat} {es : List Term} {t : TypeId} {fr : Nat × Nat} (h : w.heap[g]? = some (.cells (es.flatMap termCells).toArray t fr)) : TermsR w (some ⟨g, 0, none⟩) es.length es := by
  refine ⟨rfl, fun i x hx => ⟨g, 0, rfl, ?_, ?_, ?_⟩⟩
  · rcases Nat.lt_or_ge g w.heap.size with hlt | hge
    · exact hlt
    · rw [Array.getElem?_eq_none hge] at h; cases h
  · have := (termCells_at es i x hx).1
    simp [World.cell?, h, this]
  · have := (termCells_at es i x hx).2
    simp [World.cell?, h, this]
theorem own_terms {w : World} {base : Nat} {e : TypeId} {A : Option Addr} {n c : Nat} {es : List Term} (h : w.ownsRow base e 2 (.slice A n c) n (es.flatMap termCells)) : TermsR w A n es := by
  refine ⟨by have := h.1; rw [termCells_length] at this; omega, fun i x hx => ?_⟩
  obtain ⟨h1, h2⟩ := termCells_at es i x hx
  obtain ⟨g, e1, _, e3, e4, _⟩ := own_at h h1
  obtain ⟨g', e1', _, _, e4', _⟩ := own_at h h2
  rw [e1] at e1'
  injection e1' with e1'
  injection e1' with e1'
  subst e1'
  exact ⟨g, 0, e1, e3, by simpa using e4, by simpa using e4'⟩

theorem TermsR.cells {w : World} {A : Option Addr} {n : Nat} {es : List Term} (h : TermsR w A n es) : CellsR w 2 A n (es.flatMap termCells) := by
  refine ⟨by rw [termCells_length, h.1], fun j u hu => ?_⟩
  have hlt : j < es.length * 2 := by
    have := (List.getElem?_eq_some_iff.1 hu).1
    rw [termCells_length] at this; exact this
  have hi : j / 2 < es.length := by omega
  obtain ⟨b, o, rfl, _, h1, h2⟩ := h.at_ (j / 2) hi
  obtain ⟨g1, g2⟩ := termCells_at es (j / 2) es[j / 2] (List.getElem?_eq_getElem hi)
  refine ⟨b, o, rfl, ?_⟩
  rcases Nat.mod_two_eq_zero_or_one j with hm | hm
  · have e : j = j / 2 * 2 := by omega
    rw [← e] at h1 g1
    rw [g1] at hu
    rw [h1]; exact hu
  · have e : j = j / 2 * 2 + 1 := by omega
    have e2 : o + j / 2 * 2 + 1 = o + j := by omega
    rw [← e] at g2
    rw [e2] at h2
    rw [g2] at hu
    rw [h2]; exact hu

theorem light_any (A : Option Addr) (n c : Nat) (w : World) :
    Calls Tryz.prog 45 #[.slice A n c] w fun e w' => e = .returned (.bool (decide (n ≤ 250))) ∧ w = w' := by
  go_enter Tryz.func45, Tryz.ntmps45
  go_wp2
  go_ret
  refine ⟨ret_bool ?_, rfl⟩
  rw [Bool.eq_iff_iff]; simp; omega

def modF (k n : Int) : Int := k % n
theorem modF_tmod (k n : Int) : modF k n = (k.tmod n) % n := by
  have h := Int.mul_tdiv_add_tmod k n
  unfold modF
  generalize k.tmod n = r at *
  rw [← h, Int.add_comm, Int.add_mul_emod_self_left]
theorem mod_any (k n : Int) (w : World) (h1 : 1 ≤ n) (h2 : n ≤ 1000000) :
    Calls Tryz.prog 18 #[.int .i64 k, .int .i64 n] w fun e w' => e = .returned (.int .i64 (modF k n)) ∧ w = w' := by
  have hz : (n == 0) = false := by simp; omega
  go_enter Tryz.func18, Tryz.ntmps18
  have t1 := Int.tmod_lt_of_pos k (show 0 < n by omega)
  have t2 := Int.lt_tmod_of_pos k (show 0 < n by omega)
  have t3 := Lib.hid (modF_tmod k n)
  go_wp2
  · go_ret
    refine ⟨ret_int ?_, rfl⟩
    have hneg : k.tmod n < 0 := by assumption
    rw [t3.out, ← Int.add_emod_right, Int.emod_eq_of_lt (by omega) (by omega)]
  · go_ret
    refine ⟨ret_int ?_, rfl⟩
    have hneg : 0 ≤ k.tmod n := by assumption
    rw [t3.out, Int.emod_eq_of_lt (by omega) (by omega)]

theorem arity_any (op : Int) (w : World) :
    Calls Tryz.prog 135 #[.int .i64 op] w fun e w' => e = .returned (.int .i64 (arity op)) ∧ w = w' := by
  go_enter Tryz.func135, Tryz.ntmps135
  go_wp2
  all_goals (go_ret; refine ⟨ret_int ?_, rfl⟩; unfold arity; repeat' split) <;> omega

theorem refArity_any (op : Int) (w : World) :
    Calls Tryz.prog 114 #[.int .i64 op] w fun e w' => e = .returned (.int .i64 (arity op)) ∧ w = w' := by
  go_enter Tryz.func114, Tryz.ntmps114
  go_wp2
  all_goals (try simp only [beq_iff_eq, beq_eq_false_iff_ne] at *) 
  all_goals (go_ret; refine ⟨ret_int ?_, rfl⟩; unfold arity; repeat' split) <;> omega

theorem aggregate_any (op : Int) (w : World) :
    Calls Tryz.prog 85 #[.int .i64 op] w fun e w' => e = .returned (.bool (aggregate op)) ∧ w = w' := by
  go_enter Tryz.func85, Tryz.ntmps85
  go_wp2
  all_goals (go_ret; refine ⟨ret_bool ?_, rfl⟩; unfold aggregate; rw [Bool.eq_iff_iff]; simp) <;> omega

theorem refAggregate_any (op : Int) (w : World) :
    Calls Tryz.prog 116 #[.int .i64 op] w fun e w' => e = .returned (.bool (aggregate op)) ∧ w = w' := by
  go_enter Tryz.func116, Tryz.ntmps116
  go_wp2
  all_goals (go_ret; refine ⟨ret_bool ?_, rfl⟩; unfold aggregate; rw [Bool.eq_iff_iff]; simp) <;> omega

set_option maxHeartbeats 400000 in
theorem end_any (A : Option Addr) (n c : Nat) (es : List Term) (p : Int) (w : World) (h : TermsR w A n es) (hl : n ≤ 1000000) :
    Calls Tryz.prog 92 #[.slice A n c, .int .i64 p] w fun e w' => e = .returned (.int .i64 (endF es p)) ∧ w = w' := by
  obtain rfl := h.1
  have H := Lib.hid h; clear h
  by_cases hp : p < 0 ∨ es.length ≤ p
  · have hfin : endF es p = -1 := by unfold endF; rw [if_pos hp]
    rw [hfin]; clear hfin
    go_enter Tryz.func92, Tryz.ntmps92
    rcases hp with hp | hp
    · go_wp2
      go_ret
      exact ⟨rfl, rfl⟩
    · have h0 : 0 ≤ p := by omega
      go_wp2
      go_ret
      exact ⟨rfl, rfl⟩
  · have h1 : 0 ≤ p := by omega
    have h2 : p < es.length := by omega
    have hfin : endF es p = scanAt es p.toNat 1 := by unfold endF; rw [if_neg hp]
    rw [hfin]; clear hfin hp
    obtain ⟨q, rfl⟩ := Int.eq_ofNat_of_zero_le h1
    rw [Int.toNat_natCast]
    generalize hT : scanAt es q 1 = T
    have hd1 : decide ((q : Int) < 0) = false := by simp
    have hd2 : decide (es.length ≤ q) = false := by simp; omega
    have HT := Lib.hid hT; clear hT
    go_enter Tryz.func92, Tryz.ntmps92
    go_wp2
    go_loopg [1, 5] (es.length - q) (fun g a m wr => ∃ (k : Nat) (z : Int), k ≤ es.length ∧ g = es.length - k ∧ 1 ≤ z ∧ z ≤ 1 + 2 * k ∧ Hid (scanAt es k z = T) ∧ a = .int .i64 k ∧ m = .int .i64 z ∧ w = wr)
    case atStart => exact ⟨q, 1, by omega, rfl, by omega, by omega, HT, rfl, rfl, rfl⟩
    case round =>
      obtain ⟨k, z, hk, rfl, hz1, hz2, HK, rfl, rfl, rfl⟩ := hrel
      by_cases hlt : k < es.length
      · obtain ⟨b, o, rfl, hb, hc1, hc2⟩ := H.out.at_ k hlt
        have ha := arity_le es[k].op
        obtain ⟨ha1, ha2⟩ := ha
        go_wp2_with (go_at_call 135; refine (arity_any _ _).mono ?_; rintro e w' ⟨rfl, rfl⟩)
        · go_ret
          exact ⟨ret_int (by rw [← HK.out, scanAt_bad hlt (by assumption)]), rfl⟩
        · have hh : (z + (arity es[k].op - 1) == 0) = true := by assumption
          go_ret
          refine ⟨ret_int ?_, rfl⟩
          rw [← HK.out, scanAt_end hlt (by assumption) (by simpa using hh)]
        · have hh : (z + (arity es[k].op - 1) == 0) = false := by assumption
          have hh' : z + (arity es[k].op - 1) ≠ 0 := by simpa using hh
          go_roundg (es.length - (k + 1))
          case rel => exact ⟨k + 1, z + (arity es[k].op - 1), by omega, rfl, by omega, by omega, by have := HK.out; rw [scanAt_next hlt (by assumption) hh'] at this; exact this, by go_num, rfl, rfl⟩
          case measure => omega
      · go_wp2
        go_ret
        exact ⟨ret_int (by rw [← HK.out, scanAt_done (by omega)]), rfl⟩

set_option maxHeartbeats 400000 in
theorem refEnd_any (A : Option Addr) (n c : Nat) (es : List Term) (p : Int) (w : World) (h : TermsR w A n es) (hl : n ≤ 1000000) :
    Calls Tryz.prog 100 #[.slice A n c, .int .i64 p] w fun e w' => e = .returned (.int .i64 (endF es p)) ∧ w = w' := by
  obtain rfl := h.1
  have H := Lib.hid h; clear h
  by_cases hp : p < 0 ∨ es.length ≤ p
  · have hfin : endF es p = -1 := by unfold endF; rw [if_pos hp]
    rw [hfin]; clear hfin
    go_enter Tryz.func100, Tryz.ntmps100
    rcases hp with hp | hp
    · go_wp2
      go_ret
      exact ⟨rfl, rfl⟩
    · have h0 : 0 ≤ p := by omega
      go_wp2
      go_ret
      exact ⟨rfl, rfl⟩
  · have h1 : 0 ≤ p := by omega
    have h2 : p < es.length := by omega
    have hfin : endF es p = scanAt es p.toNat 1 := by unfold endF; rw [if_neg hp]
    rw [hfin]; clear hfin hp
    obtain ⟨q, rfl⟩ := Int.eq_ofNat_of_zero_le h1
    rw [Int.toNat_natCast]
    generalize hT : scanAt es q 1 = T
    have hd1 : decide ((q : Int) < 0) = false := by simp
    have hd2 : decide (es.length ≤ q) = false := by simp; omega
    have HT := Lib.hid hT; clear hT
    go_enter Tryz.func100, Tryz.ntmps100
    go_wp2
    go_loopg [5, 6] (es.length - q) (fun g m a wr => ∃ (k : Nat) (z : Int), k ≤ es.length ∧ g = es.length - k ∧ 1 ≤ z ∧ z ≤ 1 + 2 * k ∧ Hid (scanAt es k z = T) ∧ a = .int .i64 k ∧ m = .int .i64 z ∧ w = wr)
    case atStart => exact ⟨q, 1, by omega, rfl, by omega, by omega, HT, rfl, rfl, rfl⟩
    case round =>
      obtain ⟨k, z, hk, rfl, hz1, hz2, HK, rfl, rfl, rfl⟩ := hrel
      by_cases hlt : k < es.length
      · obtain ⟨b, o, rfl, hb, hc1, hc2⟩ := H.out.at_ k hlt
        have ha := arity_le es[k].op
        obtain ⟨ha1, ha2⟩ := ha
        go_wp2_with (go_at_call 114; refine (refArity_any _ _).mono ?_; rintro e w' ⟨rfl, rfl⟩)
        · go_ret
          exact ⟨ret_int (by rw [← HK.out, scanAt_bad hlt (by assumption)]), rfl⟩
        · have hh : (z + (arity es[k].op - 1) == 0) = true := by assumption
          go_ret
          refine ⟨ret_int ?_, rfl⟩
          rw [← HK.out, scanAt_end hlt (by assumption) (by simpa using hh)]
        · have hh : (z + (arity es[k].op - 1) == 0) = false := by assumption
          have hh' : z + (arity es[k].op - 1) ≠ 0 := by simpa using hh
          go_roundg (es.length - (k + 1))
          case rel => exact ⟨k + 1, z + (arity es[k].op - 1), by omega, rfl, by omega, by omega, by have := HK.out; rw [scanAt_next hlt (by assumption) hh'] at this; exact this, by go_num, rfl, rfl⟩
          case measure => omega
      · go_wp2
        go_ret
        exact ⟨ret_int (by rw [← HK.out, scanAt_done (by omega)]), rfl⟩


end Go.Proofs.YtibfjhhadbkkgaaGreat

