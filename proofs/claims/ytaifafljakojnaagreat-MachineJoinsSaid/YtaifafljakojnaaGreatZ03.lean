/- Merged of: Base Mp Mq W05a (see NOTES.md). -/
import Derived.Test.YtaifafljakojnaaGreatRows
import Derived.WalkKit
import Derived.WalkSpells
import Derived.WalkLawsBesides
import Derived.Lib.Hide
import Derived.Handy
import Derived.Deep.QuietTactic
import Derived.BigQuiet
import Derived.Deep.LoopGhost
import Derived.Deep.AppendLies
import Derived.Deep.Draws
import Derived.Deep.RegionLaw
import Derived.Deep.RegionWith
import Derived.Deep.DeepCutAuto
import Derived.Maps.AppendAt
import Derived.StillTailTactics
import Derived.IntWalk
import Derived.Deep.DeepMust
import Derived.Maps.Own
import Derived.Maps.OwnOps
import Derived.Maps.OwnSet
import Derived.Maps.Views
import Derived.WideKeyArr
import Derived.Maps.RangeWalk
import Derived.Test.YtaifafljakojnaaGreatZ01
set_option linter.unusedSimpArgs false
set_option linter.unnecessarySimpa false
set_option linter.unusedVariables false

/- Words for memory that all contracts of this seat share: what a slice reads as, that old memory stays, rows of the call's own. -/
namespace Go.Proofs.YtaifafljakojnaaGreat
open Go.RowKit

theorem ret_int {k : IntKind} {a b : Int} (h : a = b) : Ending.returned (.int k a) = .returned (.int k b) := by rw [h]
theorem ret_bool {a b : Bool} (h : a = b) : Ending.returned (.bool a) = .returned (.bool b) := by rw [h]

/-- Nothing that was there has changed. -/
def Bel (w w' : World) : Prop := Below w.heap.size w w'
theorem Bel.refl (w : World) : Bel w w := Below.refl _ _
theorem Bel.trans {a b c : World} (h : Bel a b) (k : Bel b c) : Bel a c := Below.trans h (Below.mono k (Below.size h))
theorem Bel.size {w w' : World} (h : Bel w w') : w.heap.size ≤ w'.heap.size := Below.size h
theorem Bel.cell {w w' : World} (h : Bel w w') {b o : Nat} (hb : b < w.heap.size) : w'.cell? ⟨b, o, none⟩ = w.cell? ⟨b, o, none⟩ := Below.cell h (p := ⟨b, o, none⟩) hb
theorem Bel.drew {w w' : World} (h : Bel w w') : Bel w w'.drew := Below.drew h
theorem Bel.drewN {w w' : World} (h : Bel w w') (n : Nat) : Bel w (w'.drewN n) := by
  have h' : Below w.heap.size w w' := h
  exact ⟨h'.os, h'.tape, h'.output, h'.size, h'.block⟩
theorem Bel.alloc {w w' : World} (h : Bel w w') (o : Obj) : Bel w (w'.alloc o) := Below.alloc h (Below.size h) o
theorem Bel.setCell {w w' : World} (h : Bel w w') {p : Addr} (hp : w.heap.size ≤ p.block) (u : Value) : Bel w (w'.setCell p u) := Below.setCell h hp u
theorem Bel.grown {w w' w2 : World} {row : Option Nat} (h : Bel w w') (hg : w'.grownBy w2 row) (hr : ∀ k, row = some k → w.heap.size ≤ k) : Bel w w2 := Below.grown h hg (Below.size h) hr
theorem Bel.of_below {w w' : World} (h : Below w.heap.size w w') : Bel w w' := h
theorem Bel.to {w w' : World} (h : Bel w w') : Below w.heap.size w w' := h
theorem Bel.keeps {B : Nat} {a w w' : World} (k : Below B a w) (hB : B ≤ w.heap.size) (h : Bel w w') : Below B a w' := Below.trans k (Below.mono h hB)
theorem Bel.grownBy {w w' : World} (h : Bel w w') (row : Option Nat) : w.grownBy w' row := ⟨h.os, h.tape, h.output, Below.size h, fun i hi _ => h.block i hi⟩
theorem Bel.owns {w w' : World} (h : Bel w w') {base : Nat} {e : TypeId} {size : Nat} {v : Value} {n : Nat} {xs : List Value} (k : w.ownsRow base e size v n xs) : w'.ownsRow base e size v n xs :=
  k.kept (h.grownBy none) (by
    rcases k.2 with ⟨rfl, _⟩ | ⟨g, cap, cur, rfl, _⟩
    · exact .inl rfl
    · right; simp [Value.ownBlock])

/-- The slice value with address A and n elements of so many cells each reads as the list xs; E says how one element lies in memory. -/
def SliceR {α : Type} (size : Nat) (E : World → Nat → Nat → α → Prop) (w : World) (A : Option Addr) (n : Nat) (xs : List α) : Prop :=
  xs.length = n ∧ ∀ i x, xs[i]? = some x → ∃ b o, A = some ⟨b, o, none⟩ ∧ b < w.heap.size ∧ E w b (o + i * size) x

/-- An element stays as it is while old memory stays. -/
def Keeps {α : Type} (E : World → Nat → Nat → α → Prop) : Prop := ∀ w w' b o x, Bel w w' → b < w.heap.size → E w b o x → E w' b o x

theorem SliceR.keep {α : Type} {size : Nat} {E : World → Nat → Nat → α → Prop} {w w' : World} {A : Option Addr} {n : Nat} {xs : List α} (hE : Keeps E) (h : SliceR size E w A n xs) (k : Bel w w') : SliceR size E w' A n xs :=
  ⟨h.1, fun i x hx => by
    obtain ⟨b, o, e, hb, he⟩ := h.2 i x hx
    exact ⟨b, o, e, Nat.lt_of_lt_of_le hb k.size, hE _ _ _ _ _ k hb he⟩⟩
theorem SliceR.nil {α : Type} {size : Nat} {E : World → Nat → Nat → α → Prop} {w : World} {A : Option Addr} : SliceR size E w A 0 ([] : List α) := ⟨rfl, fun i x h => by simp at h⟩
theorem SliceR.at_ {α : Type} {size : Nat} {E : World → Nat → Nat → α → Prop} {w : World} {A : Option Addr} {n : Nat} {xs : List α} (h : SliceR size E w A n xs) (k : Nat) (hk : k < xs.length) :
    ∃ b o, A = some ⟨b, o, none⟩ ∧ b < w.heap.size ∧ E w b (o + k * size) xs[k] := h.2 k _ (List.getElem?_eq_getElem hk)

def IntAt (w : World) (b o : Nat) (x : Int) : Prop := w.cell? ⟨b, o, none⟩ = some (.int .i64 x)
theorem IntAt.keeps : Keeps IntAt := fun _ _ _ _ _ k hb h => (k.cell hb).trans h
def IntsR := SliceR 1 IntAt
theorem IntsR.keep {w w' : World} {A : Option Addr} {n : Nat} {xs : List Int} (h : IntsR w A n xs) (k : Bel w w') : IntsR w' A n xs := SliceR.keep IntAt.keeps h k
theorem IntsR.at_ {w : World} {A : Option Addr} {n : Nat} {xs : List Int} (h : IntsR w A n xs) (k : Nat) (hk : k < xs.length) :
    ∃ b o, A = some ⟨b, o, none⟩ ∧ b < w.heap.size ∧ w.cell? ⟨b, o + k, none⟩ = some (.int .i64 xs[k]) := by
  obtain ⟨b, o, e, hb, h⟩ := SliceR.at_ h k hk
  exact ⟨b, o, e, hb, by rw [Nat.mul_one] at h; exact h⟩

/-- The cells of a row of the call's own. -/
theorem own_at {w : World} {base : Nat} {e : TypeId} {size : Nat} {A : Option Addr} {n c : Nat} {xs : List Value} (h : w.ownsRow base e size (.slice A n c) n xs) {j : Nat} {u : Value} (hj : xs[j]? = some u) :
    ∃ g, A = some ⟨g, 0, none⟩ ∧ base ≤ g ∧ g < w.heap.size ∧ w.cell? ⟨g, j, none⟩ = some u ∧ w.frozen? ⟨g, j, none⟩ = false := by
  have hl : j < n * size := by
    have h1 := h.1
    have := (List.getElem?_eq_some_iff.1 hj).1
    omega
  have hn : 0 < n := by
    rcases Nat.eq_zero_or_pos n with h0 | h0
    · subst h0; simp at hl
    · exact h0
  obtain ⟨g, cap, hv, hb, hg⟩ := h.form hn
  injection hv with hA _ hc
  subst hA; subst hc
  exact ⟨g, rfl, hb, hg, (h.cellAt j hl).trans hj, h.frozenAt j⟩

theorem own_ints {w : World} {base : Nat} {e : TypeId} {A : Option Addr} {n c : Nat} {l : List Int} (h : w.ownsRow base e 1 (.slice A n c) n (l.map (Value.int .i64))) : IntsR w A n l := by
  refine ⟨by have := h.1; simpa using this, fun i x hx => ?_⟩
  obtain ⟨g, e1, _, e3, e4, _⟩ := own_at h (j := i) (u := .int .i64 x) (by simp [hx])
  exact ⟨g, 0, e1, e3, by simpa [IntAt] using e4⟩

/-- 's[l:]' under one name, whatever the capacity. -/
theorem run_cut {P : Program} {t e : TypeId} {i : TypeInfo} {size : Nat} (ht : P.underlying t = some (.slice e)) (hi : P.info? e = some i) (hsz : i.size = size) (A : Option Addr) (len cap l : Nat) (hl : l ≤ len) (hc : len ≤ cap) :
    ∃ A2, (∀ (k : IntKind) (w : World), (Instr.slice t (.slice A len cap) (some (.int k (l : Int))) none none).run P w = .ok (.slice A2 (len - l) (cap - l)) w) ∧
      ∀ {α : Type} (E : World → Nat → Nat → α → Prop) (w : World) (xs : List α), SliceR size E w A len xs → SliceR size E w A2 (len - l) (xs.drop l) := by
  refine ⟨if cap = l then A else A.map (·.add (l * size)), fun k w => ?_, fun E w xs h => ?_⟩
  · simp [Instr.slice, run_underlying ht, Instr.sliceBounds, Instr.sliceBound, asIntOf, hl, sizeOf, typeInfo, hi, hsz]
  · refine ⟨by rw [List.length_drop, h.1], fun j x hx => ?_⟩
    rw [List.getElem?_drop] at hx
    obtain ⟨b, o, rfl, hb, he⟩ := h.2 _ _ hx
    have hlt : l + j < xs.length := (List.getElem?_eq_some_iff.1 hx).1
    have hne : cap ≠ l := by have := h.1; omega
    refine ⟨b, o + l * size, ?_, hb, ?_⟩
    · rw [if_neg hne]
      simp only [Option.map_some, Addr.add]
      split
      · rename_i h0; simp [h0]
      · rfl
    · rw [Nat.add_mul, ← Nat.add_assoc] at he
      exact he

/-- 's[:h]'. -/
theorem run_upto {P : Program} {t e : TypeId} {i : TypeInfo} (ht : P.underlying t = some (.slice e)) (hi : P.info? e = some i) (A : Option Addr) (len cap h : Nat) (hc : h ≤ cap) (k : IntKind) (w : World) :
    (Instr.slice t (.slice A len cap) none (some (.int k (h : Int))) none).run P w = .ok (.slice A h cap) w := by
  have hA : ∀ s, (if cap = 0 then A else A.map (·.add (0 * s))) = A := by
    intro s
    cases A <;> simp [Addr.add]
  simp [Instr.slice, run_underlying ht, Instr.sliceBounds, Instr.sliceBound, asIntOf, hc, sizeOf, typeInfo, hi]
  intro _
  cases A <;> simp [Addr.add]

/-- 's[:h]' of a row of the call's own. -/
theorem own_take {w : World} {base : Nat} {e : TypeId} {size : Nat} {A : Option Addr} {n c : Nat} {xs : List Value} (h : w.ownsRow base e size (.slice A n c) n xs) (m : Nat) (hm : m ≤ n) : w.ownsRow base e size (.slice A m c) m (xs.take (m * size)) := by
  obtain ⟨h1, h2⟩ := h
  refine ⟨by rw [List.length_take, h1]; exact Nat.min_eq_left (Nat.mul_le_mul_right _ hm), ?_⟩
  rcases h2 with ⟨hv, h0⟩ | ⟨g, cap, cur, hv, hb, hg, hnc, hcm, hcs, ht⟩
  · left
    injection hv with hA hn hc
    subst hA; subst hc
    have : m = 0 := by omega
    subst this
    exact ⟨rfl, rfl⟩
  · right
    injection hv with hA _ hc
    subst hA; subst hc
    refine ⟨g, c, cur, rfl, hb, hg, by omega, hcm, hcs, ?_⟩
    rw [← ht, List.take_take, Nat.min_eq_left (Nat.mul_le_mul_right _ hm)]

theorem own_cap {w : World} {base : Nat} {e : TypeId} {size : Nat} {A : Option Addr} {n c : Nat} {xs : List Value} (h : w.ownsRow base e size (.slice A n c) n xs) : n ≤ c ∧ c ≤ maxLen := by
  rcases h.2 with ⟨hv, h0⟩ | ⟨g, cap, cur, hv, hb, hg, hnc, hcm, hcs, ht⟩
  · injection hv with _ _ hc
    subst hc; subst h0
    exact ⟨Nat.le_refl _, by unfold maxLen; omega⟩
  · injection hv with _ _ hc
    subst hc
    exact ⟨hnc, hcm⟩

theorem own_slice {w : World} {base : Nat} {e : TypeId} {size : Nat} {v : Value} {n : Nat} {xs : List Value} (h : w.ownsRow base e size v n xs) : ∃ A c, v = .slice A n c := by
  rcases h.2 with ⟨hv, h0⟩ | ⟨g, cap, cur, hv, _⟩
  · subst h0; exact ⟨_, _, hv⟩
  · exact ⟨_, _, hv⟩

theorem Bel.push {w wr w' : World} {e : TypeId} {size : Nat} {v : Value} {n : Nat} {xs : List Value} (h : Bel w wr) (ho : wr.ownsRow w.heap.size e size v n xs) (hg : wr.grownBy w' v.ownBlock) : Bel w w' :=
  h.grown hg (fun k hk => (ho.lt k hk).1)

section
variable {P : Program} (w : World)
/-- 'append(s, x)' onto a row of the call's own, x one element of one or more cells that lies in a block of its own. -/
theorem wp_push {o : Oper} {a : Act} {K : Act → World → Prop} {Q : Exit → Act → World → Prop} (s x : Operand) (t : TypeId)
    (ho : o.op = .call { callee := .builtin .append, args := #[s, x], argTypes := #[t, t] })
    (base : Nat) (e : TypeId) (i : TypeInfo) (z : Value) (size bytes : Nat) (ht : P.underlying t = some (.slice e)) (hi : P.info? e = some i) (hz : i.zero = some z)
    (hsize : i.size = size) (hby : i.bytes = bytes) (hzs : z.cells.size = size) (hsz : 0 < size)
    (A : Option Addr) (n c : Nat) (xs : List Value) (hs : a.eval s = .slice A n c) (hown : w.ownsRow base e size (.slice A n c) n xs)
    (B : Nat) (cs : Array Value) (e' : TypeId) (fr : Nat × Nat) (hx : a.eval x = .slice (some ⟨B, 0, none⟩) 1 1) (hb : w.heap[B]? = some (.cells cs e' fr)) (hcs : cs.size = size) (h1 : ∀ u ∈ cs.toList, u.oneCell' = true)
    (h63 : n + 1 ≤ maxLen) (hbytes : (n + 1) * bytes ≤ 140737488355328) (hbase : base ≤ w.heap.size)
    (h : ∀ A' c' w', w'.ownsRow base e size (.slice A' (n + 1) c') (n + 1) (xs ++ cs.toList) → w.grownBy w' (Value.slice A n c).ownBlock → ((Value.slice A' (n + 1) c').ownBlock = (Value.slice A n c).ownBlock ∨ (Value.slice A' (n + 1) c').ownBlock = some w.heap.size) → K (a.put o.dst (.slice A' (n + 1) c')) w') : o.wp P a w K Q := by
  obtain ⟨v', w', hr, h2, h3, _, h5⟩ := run_append_own_at (P := P) w base t o.type e i z size bytes ht hi hz hsize hby hzs hsz (.slice A n c) n xs hown ⟨B, 0, none⟩ 1 1 cs.toList (by simpa using hcs) (World.news_of_block hb) h1 h63 hbytes hbase
  obtain ⟨A', c', rfl⟩ := own_slice h2
  unfold Oper.wp execOp
  simp only [ho, resolve, invoke, builtin, Sem.run_bind, Sem.run_pure, Result.andThen_ok, List.map_toArray, List.map_cons, List.map_nil, hs, hx, hr]
  exact h A' c' w' h2 h3 h5

theorem wpList_push {ops : Array Oper} {rest : List Oper} {o : Oper} {a : Act} {Q : Exit → Act → World → Prop} (hgd : o.guard = none) (s x : Operand) (t : TypeId)
    (ho : o.op = .call { callee := .builtin .append, args := #[s, x], argTypes := #[t, t] })
    (base : Nat) (e : TypeId) (i : TypeInfo) (z : Value) (size bytes : Nat) (ht : P.underlying t = some (.slice e)) (hi : P.info? e = some i) (hz : i.zero = some z)
    (hsize : i.size = size) (hby : i.bytes = bytes) (hzs : z.cells.size = size) (hsz : 0 < size)
    (A : Option Addr) (n c : Nat) (xs : List Value) (hs : a.eval s = .slice A n c) (hown : w.ownsRow base e size (.slice A n c) n xs)
    (B : Nat) (cs : Array Value) (e' : TypeId) (fr : Nat × Nat) (hx : a.eval x = .slice (some ⟨B, 0, none⟩) 1 1) (hb : w.heap[B]? = some (.cells cs e' fr)) (hcs : cs.size = size) (h1 : ∀ u ∈ cs.toList, u.oneCell' = true)
    (h63 : n + 1 ≤ maxLen) (hbytes : (n + 1) * bytes ≤ 140737488355328) (hbase : base ≤ w.heap.size)
    (h : ∀ A' c' w', w'.ownsRow base e size (.slice A' (n + 1) c') (n + 1) (xs ++ cs.toList) → w.grownBy w' (Value.slice A n c).ownBlock → ((Value.slice A' (n + 1) c').ownBlock = (Value.slice A n c).ownBlock ∨ (Value.slice A' (n + 1) c').ownBlock = some w.heap.size) → wpList P ops Q rest (a.put o.dst (.slice A' (n + 1) c')) w') : wpList P ops Q (o :: rest) a w :=
  wpList_plain hgd fun _ hK => wp_push w s x t ho base e i z size bytes ht hi hz hsize hby hzs hsz A n c xs hs hown B cs e' fr hx hb hcs h1 h63 hbytes hbase fun A' c' w' h2 h3 h4 => hK _ _ (h A' c' w' h2 h3 h4)

theorem step_push {ops : Array Oper} {o : Oper} {a : Act} {K : Act → World → Prop} {Q : Exit → Act → World → Prop} {E : Prop} (hgd : o.guard = none) (s x : Operand) (t : TypeId)
    (ho : o.op = .call { callee := .builtin .append, args := #[s, x], argTypes := #[t, t] })
    (base : Nat) (e : TypeId) (i : TypeInfo) (z : Value) (size bytes : Nat) (ht : P.underlying t = some (.slice e)) (hi : P.info? e = some i) (hz : i.zero = some z)
    (hsize : i.size = size) (hby : i.bytes = bytes) (hzs : z.cells.size = size) (hsz : 0 < size)
    (A : Option Addr) (n c : Nat) (xs : List Value) (hs : a.eval s = .slice A n c) (hown : w.ownsRow base e size (.slice A n c) n xs)
    (B : Nat) (cs : Array Value) (e' : TypeId) (fr : Nat × Nat) (hx : a.eval x = .slice (some ⟨B, 0, none⟩) 1 1) (hb : w.heap[B]? = some (.cells cs e' fr)) (hcs : cs.size = size) (h1 : ∀ u ∈ cs.toList, u.oneCell' = true)
    (h63 : n + 1 ≤ maxLen) (hbytes : (n + 1) * bytes ≤ 140737488355328) (hbase : base ≤ w.heap.size)
    (h : ∀ A' c' w', w'.ownsRow base e size (.slice A' (n + 1) c') (n + 1) (xs ++ cs.toList) → w.grownBy w' (Value.slice A n c).ownBlock → ((Value.slice A' (n + 1) c').ownBlock = (Value.slice A n c).ownBlock ∨ (Value.slice A' (n + 1) c').ownBlock = some w.heap.size) → K (a.put o.dst (.slice A' (n + 1) c')) w') :
    if Region.wanted o (yielded ops a.tmps) = true then Oper.wp P o a w K Q else E := by
  have hw : Region.wanted o (yielded ops a.tmps) = true := by simp [Region.wanted, hgd]
  rw [if_pos hw]
  exact wp_push w s x t ho base e i z size bytes ht hi hz hsize hby hzs hsz A n c xs hs hown B cs e' fr hx hb hcs h1 h63 hbytes hbase h
end

theorem heap_new (w : World) (o : Obj) : (w.alloc o).heap[w.heap.size]? = some o := heap_alloc_new w o
theorem heap_new_drew (w : World) (o : Obj) : (w.alloc o).drew.heap[w.heap.size]? = some o := heap_alloc_new w o
theorem one_int (k : IntKind) (x : Int) : ∀ u ∈ (#[Value.int k x] : Array Value).toList, u.oneCell' = true := by simp [Value.oneCell']
theorem two_ints (k j : IntKind) (x y : Int) : ∀ u ∈ (#[Value.int k x, Value.int j y] : Array Value).toList, u.oneCell' = true := by simp [Value.oneCell']
theorem one_bool (x : Bool) : ∀ u ∈ (#[Value.bool x] : Array Value).toList, u.oneCell' = true := by simp [Value.oneCell']

def BoolAt (w : World) (b o : Nat) (x : Bool) : Prop := w.cell? ⟨b, o, none⟩ = some (.bool x)
theorem BoolAt.keeps : Keeps BoolAt := fun _ _ _ _ _ k hb h => (k.cell hb).trans h
def BoolsR := SliceR 1 BoolAt
theorem BoolsR.keep {w w' : World} {A : Option Addr} {n : Nat} {xs : List Bool} (h : BoolsR w A n xs) (k : Bel w w') : BoolsR w' A n xs := SliceR.keep BoolAt.keeps h k
theorem BoolsR.at_ {w : World} {A : Option Addr} {n : Nat} {xs : List Bool} (h : BoolsR w A n xs) (k : Nat) (hk : k < xs.length) :
    ∃ b o, A = some ⟨b, o, none⟩ ∧ b < w.heap.size ∧ w.cell? ⟨b, o + k, none⟩ = some (.bool xs[k]) := by
  obtain ⟨b, o, e, hb, h⟩ := SliceR.at_ h k hk
  exact ⟨b, o, e, hb, by rw [Nat.mul_one] at h; exact h⟩
theorem own_bools {w : World} {base : Nat} {e : TypeId} {A : Option Addr} {n c : Nat} {l : List Bool} (h : w.ownsRow base e 1 (.slice A n c) n (l.map Value.bool)) : BoolsR w A n l := by
  refine ⟨by have := h.1; simpa using this, fun i x hx => ?_⟩
  obtain ⟨g, e1, _, e3, e4, _⟩ := own_at h (j := i) (u := .bool x) (by simp [hx])
  exact ⟨g, 0, e1, e3, by simpa [BoolAt] using e4⟩

/-- A contract told from an earlier world on. -/
theorem Calls.rel {P : Program} {f : FuncId} {args : Array Value} {w0 w : World} {Q : Ending → Prop} (h0 : Bel w0 w) (h : Calls P f args w fun e w' => Q e ∧ Bel w w') : Calls P f args w fun e w' => Q e ∧ Bel w0 w' :=
  h.mono fun _ _ ⟨a, b⟩ => ⟨a, h0.trans b⟩

/-- The cells of a slice, nil let in. -/
def CellsR (w : World) (size : Nat) (A : Option Addr) (m : Nat) (news : List Value) : Prop :=
  news.length = m * size ∧ ∀ j u, news[j]? = some u → ∃ b o, A = some ⟨b, o, none⟩ ∧ w.cell? ⟨b, o + j, none⟩ = some u

theorem addr_add {b o k : Nat} : (⟨b, o, none⟩ : Addr).add k = ⟨b, o + k, none⟩ := by
  unfold Addr.add
  split
  · rename_i h; subst h; rfl
  · rfl

section
variable {P : Program} (w : World)
theorem run_extend_nil (base : Nat) (t ty e : TypeId) (i : TypeInfo) (size : Nat) (ht : P.underlying t = some (.slice e)) (hi : P.info? e = some i)
    (v : Value) (n : Nat) (xs : List Value) (hown : w.ownsRow base e size v n xs) (A : Option Addr) (c : Nat) : (Builtin.append_ #[t, t] ty #[v, .slice A 0 c]).run P w = .ok v w := by
  rcases hown.2 with ⟨rfl, rfl⟩ | ⟨g, cap, cur, rfl, _, _, hnc, _⟩
  · cases A <;> simp [Builtin.append_, run_underlying ht, sizeOf, typeInfo, hi, Builtin.lenOf, Builtin.firstCells, loadCells, loadCellsFrom]
  · cases A <;> simp [Builtin.append_, run_underlying ht, sizeOf, typeInfo, hi, Builtin.lenOf, Builtin.firstCells, hnc, storeCells, loadCells, loadCellsFrom]

theorem run_extend (base : Nat) (t ty e : TypeId) (i : TypeInfo) (z : Value) (size bytes : Nat) (ht : P.underlying t = some (.slice e)) (hi : P.info? e = some i) (hz : i.zero = some z)
    (hsize : i.size = size) (hby : i.bytes = bytes) (hzs : z.cells.size = size) (hsz : 0 < size)
    (A : Option Addr) (n c : Nat) (xs : List Value) (hown : w.ownsRow base e size (.slice A n c) n xs)
    (A2 : Option Addr) (m c2 : Nat) (news : List Value) (hr : CellsR w size A2 m news) (h1 : ∀ u ∈ news, u.oneCell' = true)
    (h63 : n + m ≤ maxLen) (hbytes : (n + m) * bytes ≤ 140737488355328) (hbase : base ≤ w.heap.size) :
    ∃ A' c' w', (Builtin.append_ #[t, t] ty #[.slice A n c, .slice A2 m c2]).run P w = .ok (.slice A' (n + m) c') w' ∧ w'.ownsRow base e size (.slice A' (n + m) c') (n + m) (xs ++ news) ∧ w.grownBy w' (Value.slice A n c).ownBlock ∧
      ((Value.slice A' (n + m) c').ownBlock = (Value.slice A n c).ownBlock ∨ (Value.slice A' (n + m) c').ownBlock = some w.heap.size) := by
  rcases Nat.eq_zero_or_pos m with h0 | h0
  · subst h0
    have hn : news = [] := List.eq_nil_of_length_eq_zero (by simpa using hr.1)
    subst hn
    exact ⟨A, c, w, run_extend_nil w base t ty e i size ht hi _ n xs hown A2 c2, by simpa using hown, World.grownBy.refl w _, .inl rfl⟩
  · have hpos : 0 < news.length := by rw [hr.1]; exact Nat.mul_pos h0 hsz
    obtain ⟨b, o, rfl, _⟩ := hr.2 0 news[0] (List.getElem?_eq_getElem hpos)
    have hcells : ∀ j u, news[j]? = some u → w.cell? ((⟨b, o, none⟩ : Addr).add j) = some u := by
      intro j u hu
      obtain ⟨b', o', he, hc⟩ := hr.2 j u hu
      injection he with he
      injection he with h1 h2
      subst h1; subst h2
      rw [addr_add]; exact hc
    obtain ⟨v', w', hrun, h2, h3, _, h5⟩ := run_append_own_at (P := P) w base t ty e i z size bytes ht hi hz hsize hby hzs hsz (.slice A n c) n xs hown ⟨b, o, none⟩ m c2 news hr.1 hcells h1 h63 hbytes hbase
    obtain ⟨A', c', rfl⟩ := own_slice h2
    exact ⟨A', c', w', hrun, h2, h3, h5⟩

/-- 'append(s, xs...)' onto a row of the call's own. -/
theorem wp_extend {o : Oper} {a : Act} {K : Act → World → Prop} {Q : Exit → Act → World → Prop} (s x : Operand) (t : TypeId)
    (ho : o.op = .call { callee := .builtin .append, args := #[s, x], argTypes := #[t, t] })
    (base : Nat) (e : TypeId) (i : TypeInfo) (z : Value) (size bytes : Nat) (ht : P.underlying t = some (.slice e)) (hi : P.info? e = some i) (hz : i.zero = some z)
    (hsize : i.size = size) (hby : i.bytes = bytes) (hzs : z.cells.size = size) (hsz : 0 < size)
    (A : Option Addr) (n c : Nat) (xs : List Value) (hs : a.eval s = .slice A n c) (hown : w.ownsRow base e size (.slice A n c) n xs)
    (A2 : Option Addr) (m c2 : Nat) (news : List Value) (hx : a.eval x = .slice A2 m c2) (hr : CellsR w size A2 m news) (h1 : ∀ u ∈ news, u.oneCell' = true)
    (h63 : n + m ≤ maxLen) (hbytes : (n + m) * bytes ≤ 140737488355328) (hbase : base ≤ w.heap.size)
    (h : ∀ A' c' w', w'.ownsRow base e size (.slice A' (n + m) c') (n + m) (xs ++ news) → w.grownBy w' (Value.slice A n c).ownBlock → ((Value.slice A' (n + m) c').ownBlock = (Value.slice A n c).ownBlock ∨ (Value.slice A' (n + m) c').ownBlock = some w.heap.size) → K (a.put o.dst (.slice A' (n + m) c')) w') : o.wp P a w K Q := by
  obtain ⟨A', c', w', hrun, h2, h3, h4⟩ := run_extend (P := P) w base t o.type e i z size bytes ht hi hz hsize hby hzs hsz A n c xs hown A2 m c2 news hr h1 h63 hbytes hbase
  unfold Oper.wp execOp
  simp only [ho, resolve, invoke, builtin, Sem.run_bind, Sem.run_pure, Result.andThen_ok, List.map_toArray, List.map_cons, List.map_nil, hs, hx, hrun]
  exact h A' c' w' h2 h3 h4

theorem wpList_extend {ops : Array Oper} {rest : List Oper} {o : Oper} {a : Act} {Q : Exit → Act → World → Prop} (hgd : o.guard = none) (s x : Operand) (t : TypeId)
    (ho : o.op = .call { callee := .builtin .append, args := #[s, x], argTypes := #[t, t] })
    (base : Nat) (e : TypeId) (i : TypeInfo) (z : Value) (size bytes : Nat) (ht : P.underlying t = some (.slice e)) (hi : P.info? e = some i) (hz : i.zero = some z)
    (hsize : i.size = size) (hby : i.bytes = bytes) (hzs : z.cells.size = size) (hsz : 0 < size)
    (A : Option Addr) (n c : Nat) (xs : List Value) (hs : a.eval s = .slice A n c) (hown : w.ownsRow base e size (.slice A n c) n xs)
    (A2 : Option Addr) (m c2 : Nat) (news : List Value) (hx : a.eval x = .slice A2 m c2) (hr : CellsR w size A2 m news) (h1 : ∀ u ∈ news, u.oneCell' = true)
    (h63 : n + m ≤ maxLen) (hbytes : (n + m) * bytes ≤ 140737488355328) (hbase : base ≤ w.heap.size)
    (h : ∀ A' c' w', w'.ownsRow base e size (.slice A' (n + m) c') (n + m) (xs ++ news) → w.grownBy w' (Value.slice A n c).ownBlock → ((Value.slice A' (n + m) c').ownBlock = (Value.slice A n c).ownBlock ∨ (Value.slice A' (n + m) c').ownBlock = some w.heap.size) → wpList P ops Q rest (a.put o.dst (.slice A' (n + m) c')) w') : wpList P ops Q (o :: rest) a w :=
  wpList_plain hgd fun _ hK => wp_extend w s x t ho base e i z size bytes ht hi hz hsize hby hzs hsz A n c xs hs hown A2 m c2 news hx hr h1 h63 hbytes hbase fun A' c' w' h2 h3 h4 => hK _ _ (h A' c' w' h2 h3 h4)

theorem step_extend {ops : Array Oper} {o : Oper} {a : Act} {K : Act → World → Prop} {Q : Exit → Act → World → Prop} {E : Prop} (hgd : o.guard = none) (s x : Operand) (t : TypeId)
    (ho : o.op = .call { callee := .builtin .append, args := #[s, x], argTypes := #[t, t] })
    (base : Nat) (e : TypeId) (i : TypeInfo) (z : Value) (size bytes : Nat) (ht : P.underlying t = some (.slice e)) (hi : P.info? e = some i) (hz : i.zero = some z)
    (hsize : i.size = size) (hby : i.bytes = bytes) (hzs : z.cells.size = size) (hsz : 0 < size)
    (A : Option Addr) (n c : Nat) (xs : List Value) (hs : a.eval s = .slice A n c) (hown : w.ownsRow base e size (.slice A n c) n xs)
    (A2 : Option Addr) (m c2 : Nat) (news : List Value) (hx : a.eval x = .slice A2 m c2) (hr : CellsR w size A2 m news) (h1 : ∀ u ∈ news, u.oneCell' = true)
    (h63 : n + m ≤ maxLen) (hbytes : (n + m) * bytes ≤ 140737488355328) (hbase : base ≤ w.heap.size)
    (h : ∀ A' c' w', w'.ownsRow base e size (.slice A' (n + m) c') (n + m) (xs ++ news) → w.grownBy w' (Value.slice A n c).ownBlock → ((Value.slice A' (n + m) c').ownBlock = (Value.slice A n c).ownBlock ∨ (Value.slice A' (n + m) c').ownBlock = some w.heap.size) → K (a.put o.dst (.slice A' (n + m) c')) w') :
    if Region.wanted o (yielded ops a.tmps) = true then Oper.wp P o a w K Q else E := by
  have hw : Region.wanted o (yielded ops a.tmps) = true := by simp [Region.wanted, hgd]
  rw [if_pos hw]
  exact wp_extend w s x t ho base e i z size bytes ht hi hz hsize hby hzs hsz A n c xs hs hown A2 m c2 news hx hr h1 h63 hbytes hbase h
end

/-- 's[l:h]' under one name. -/
theorem run_sub {P : Program} {t e : TypeId} {i : TypeInfo} {size : Nat} (ht : P.underlying t = some (.slice e)) (hi : P.info? e = some i) (hsz : i.size = size) (A : Option Addr) (len cap l h : Nat) (hl : l ≤ h) (hh : h ≤ len) (hc : len ≤ cap) :
    ∃ A2, (∀ (k1 k2 : IntKind) (w : World), (Instr.slice t (.slice A len cap) (some (.int k1 (l : Int))) (some (.int k2 (h : Int))) none).run P w = .ok (.slice A2 (h - l) (cap - l)) w) ∧
      ∀ {α : Type} (E : World → Nat → Nat → α → Prop) (w : World) (xs : List α), SliceR size E w A len xs → SliceR size E w A2 (h - l) ((xs.drop l).take (h - l)) := by
  refine ⟨if cap = l then A else A.map (·.add (l * size)), fun k1 k2 w => ?_, fun E w xs hr => ?_⟩
  · have h1 : h ≤ cap := by omega
    simp [Instr.slice, run_underlying ht, Instr.sliceBounds, Instr.sliceBound, asIntOf, hl, h1, sizeOf, typeInfo, hi, hsz]
  · refine ⟨by rw [List.length_take, List.length_drop, hr.1]; omega, fun j x hx => ?_⟩
    rw [List.getElem?_take] at hx
    split at hx
    · rw [List.getElem?_drop] at hx
      obtain ⟨b, o, rfl, hb, he⟩ := hr.2 _ _ hx
      have hlt : l + j < xs.length := (List.getElem?_eq_some_iff.1 hx).1
      have hne : cap ≠ l := by have := hr.1; omega
      refine ⟨b, o + l * size, ?_, hb, ?_⟩
      · rw [if_neg hne]
        simp only [Option.map_some]
        rw [addr_add]
      · rw [Nat.add_mul, ← Nat.add_assoc] at he
        exact he
    · cases hx
theorem SliceR.take {α : Type} {size : Nat} {E : World → Nat → Nat → α → Prop} {w : World} {A : Option Addr} {n : Nat} {xs : List α} (h : SliceR size E w A n xs) (m : Nat) (hm : m ≤ n) : SliceR size E w A m (xs.take m) :=
  ⟨by rw [List.length_take, h.1]; omega, fun i x hx => by
    rw [List.getElem?_take] at hx
    split at hx
    · exact h.2 i x hx
    · cases hx⟩

end Go.Proofs.YtaifafljakojnaaGreat

/- Maps of the call's own: sets of keys (map[K]bool that is stored true alone). -/
namespace Go.Proofs.YtaifafljakojnaaGreat
open Go.RowKit Go.Maps

/-- The map in block b holds true at these keys, and nothing else. -/
def SetR (P : Program) (k e : TypeId) (w : World) (b n : Nat) (ks : List Lit) : Prop :=
  ∃ D : DataW Unit, w.ownsMap P k (plainElem P e) b n D ∧ IsMap D ∧ ∀ kl, ∃ x, D.atKey kl (.lit (.bool false)) = .lit (.bool x) ∧ (x = true ↔ kl ∈ ks)
theorem SetR.made (P : Program) (k e : TypeId) (w : World) : SetR P k e (w.alloc (.map #[] 0)) w.heap.size 0 [] :=
  ⟨.map [], World.ownsMap_made w P k _, isMap_empty, fun kl => ⟨false, by simp [DataW.atKey], by simp⟩⟩
theorem SetR.kept {P : Program} {k e : TypeId} {w w' : World} {b n : Nat} {ks : List Lit} {row : Option Nat} (h : SetR P k e w b n ks) (hg : w.grownBy w' row) (hne : some b ≠ row) : SetR P k e w' b n ks := by
  obtain ⟨D, h1, h2, h3⟩ := h
  exact ⟨D, h1.kept hg hne, h2, h3⟩
theorem SetR.keep {P : Program} {k e : TypeId} {w w' : World} {b n : Nat} {ks : List Lit} (h : SetR P k e w b n ks) (hb : Bel w w') : SetR P k e w' b n ks := h.kept (hb.grownBy none) (by simp)
theorem SetR.lt {P : Program} {k e : TypeId} {w : World} {b n : Nat} {ks : List Lit} (h : SetR P k e w b n ks) : b < w.heap.size := by
  obtain ⟨D, h1, _, _⟩ := h
  exact h1.lt
theorem plainElem_bool_inv {P : Program} {e : TypeId} (he : P.underlying e = some .bool) {v : Value} {x : Bool} {ps : List MemPlace} (h : plainElem (H := Unit) P e v = some (.lit (.bool x), ps)) : v = .bool x := by
  unfold plainElem at h
  rw [he] at h
  cases v <;> simp at h
  · rename_i b
    obtain ⟨h1, _⟩ := h
    simp [h1]
theorem SetR.look {P : Program} {k e t : TypeId} {w : World} {b n : Nat} {ks : List Lit} (h : SetR P k e w b n ks) (K : Keyed P k) (ht : P.underlying t = some (.map k e)) (he : P.underlying e = some .bool) (hz : (zeroValue e).run P w = .ok (.bool false) w)
    {key : Value} {kl : Lit} (hkey : keyOf P k key = some kl) : ∃ x, (Instr.lookup t (.map (some b)) key false).run P w = .ok (.bool x) w ∧ (x = true ↔ kl ∈ ks) := by
  obtain ⟨D, h1, _, h3⟩ := h
  obtain ⟨v, ps, hrun, hv⟩ := h1.lookup K ht hz (plainElem_bool he false) hkey
  obtain ⟨x, hx, hi⟩ := h3 kl
  rw [hx] at hv
  exact ⟨x, by rw [hrun, plainElem_bool_inv he hv], hi⟩
theorem wpList_putSet {P : Program} (w : World) {ops : Array Oper} {rest : List Oper} {o : Oper} {a : Act} {Q : Exit → Act → World → Prop}
    (hg : o.guard = none) (m x v : Operand) (t : TypeId) (hop : o.op = Op.mapUpdate t m x v)
    (k e : TypeId) (K : Keyed P k) (ht : P.underlying t = some (.map k e)) (he : P.underlying e = some .bool) (b n : Nat) (ks : List Lit)
    (hm : a.eval m = .map (some b)) (hown : SetR P k e w b n ks) (hn : n < maxLen) (key : Value) (kl : Lit) (hx : a.eval x = key) (hv : a.eval v = .bool true) (hkey : keyOf P k key = some kl) (hkl : WideAt.IsKeyLit kl)
    (hK : ∀ w', SetR P k e w' b (n + 1) (kl :: ks) → w.grownBy w' (some b) → wpList P ops Q rest (a.put o.dst undef) w') :
    wpList P ops Q (o :: rest) a w := by
  obtain ⟨D, h1, h2, h3⟩ := hown
  refine wpList_mapUpdate_own w hg m x v t hop k e K ht _ b n D hm h1 hn key (.bool true) kl hx hv hkey _ [] (plainElem_bool he true) ?_
  intro w' h4 h5
  refine hK w' ⟨_, h4, h2.put _ _, fun kl' => ?_⟩ h5
  by_cases hh : kl' = kl
  · subst hh
    exact ⟨true, by rw [atKey_put_same h2 hkl], by simp⟩
  · obtain ⟨x, hx, hi⟩ := h3 kl'
    exact ⟨x, by rw [atKey_put_other hh, hx], by rw [hi]; simp [hh]⟩
theorem Bel.map {w wr w' : World} (h : Bel w wr) {b : Nat} (hb : w.heap.size ≤ b) (hg : wr.grownBy w' (some b)) : Bel w w' := h.grown hg (fun k hk => by injection hk with hk; omega)

end Go.Proofs.YtaifafljakojnaaGreat

/- Maps of the call's own whose keys are pairs of numbers and whose elements are numbers. -/
namespace Go.Proofs.YtaifafljakojnaaGreat
open Go.RowKit Go.Maps

structure PairK (P : Program) (k e : TypeId) : Prop where
  hu : P.underlying k = some (.array 2 e)
  he : P.underlying e = some (.int .i64)
  one : P.cellsOf e = 1
  two : P.cellsOf k = 2
  kt : P.keyType k = true
  sz : ∃ m, P.types.size = m + 1
def pk (a b : Int) : Lit := .string (keyBytes [.int .i64 a, .int .i64 b])
def pairV (x : Int × Int) : Value := .agg #[.int .i64 x.1, .int .i64 x.2]

theorem PairK.law {P : Program} {k e : TypeId} (A : PairK P k e) : Keyed P k :=
  Keyed.of_law (WideMaps.ArrKey.law ⟨A.hu, by unfold Program.plainKey; rw [A.he], A.one, A.two⟩)
theorem PairK.keyOf {P : Program} {k e : TypeId} (A : PairK P k e) {a b : Int} (ha : (Lit.int .i64 a).wf = true) (hb : (Lit.int .i64 b).wf = true) : Go.keyOf P k (pairV (a, b)) = some (pk a b) := by
  obtain ⟨m, hm⟩ := A.sz
  unfold Go.keyOf pairV
  rw [A.hu]
  simp only []
  rw [A.kt]
  simp only [Value.formed, A.hu, A.two, Bool.true_and]
  rw [hm]
  simp only [Program.keyLits, A.hu, A.he, A.one, A.two, Value.cells, List.range, List.range.loop]
  simp [ha, hb, pk]
theorem PairK.inv {P : Program} {k e : TypeId} (A : PairK P k e) {v : Value} {l : Lit} (h : Go.keyOf P k v = some l) : ∃ x : Int × Int, v = pairV x ∧ (Lit.int .i64 x.1).wf = true ∧ (Lit.int .i64 x.2).wf = true ∧ l = pk x.1 x.2 := by
  obtain ⟨m, hm⟩ := A.sz
  unfold Go.keyOf at h
  rw [A.hu] at h
  simp only [] at h
  rw [A.kt] at h
  cases v with
  | agg cs =>
    simp only [Value.formed, A.hu, A.two, Bool.true_and] at h
    split at h
    · rename_i hs
      obtain ⟨l'⟩ := cs
      simp at hs
      match l', hs with
      | [u, v], _ =>
        rw [hm] at h
        cases u with
        | int q a =>
          cases v with
          | int q' b =>
            simp only [Program.keyLits, A.hu, A.he, A.one, A.two, Value.cells, List.range, List.range.loop] at h
            by_cases h1 : q = .i64 ∧ (Lit.int .i64 a).wf = true
            · by_cases h2 : q' = .i64 ∧ (Lit.int .i64 b).wf = true
              · obtain ⟨rfl, h1⟩ := h1
                obtain ⟨rfl, h2⟩ := h2
                simp [h1, h2] at h
                exact ⟨(a, b), rfl, h1, h2, h.symm⟩
              · simp [h1, h2] at h
            · simp [h1] at h
          | _ => simp [Program.keyLits, A.hu, A.he, A.one, A.two, Value.cells, List.range, List.range.loop] at h
        | _ => simp [Program.keyLits, A.hu, A.he, A.one, A.two, Value.cells, List.range, List.range.loop] at h
    · cases h
  | _ => simp [Value.formed, A.hu] at h
theorem pk_inj {P : Program} {k e : TypeId} (A : PairK P k e) {a b c d : Int} (ha : (Lit.int .i64 a).wf = true) (hb : (Lit.int .i64 b).wf = true) (hc : (Lit.int .i64 c).wf = true) (hd : (Lit.int .i64 d).wf = true) (h : pk a b = pk c d) : a = c ∧ b = d := by
  have h1 := A.keyOf ha hb
  have h2 := A.keyOf hc hd
  rw [h] at h1
  have := A.law.inj h1 h2
  simp [pairV] at this
  exact this

/-- The map in block b reads as a list of pairs with numbers: 0 stands for 'not there'. -/
def PairR (P : Program) (k e : TypeId) (w : World) (b n : Nat) (D : DataW Unit) (M : Int → Int → Int) : Prop :=
  w.ownsMap P k (plainElem P e) b n D ∧ IsMap D ∧ (∀ x y, (Lit.int .i64 x).wf = true → (Lit.int .i64 y).wf = true → D.atKey (pk x y) (.lit (.int .i64 0)) = .lit (.int .i64 (M x y)) ∧ (has D (pk x y) = true ↔ M x y ≠ 0))
theorem PairR.made (P : Program) (k e : TypeId) (w : World) : PairR P k e (w.alloc (.map #[] 0)) w.heap.size 0 (.map []) (fun _ _ => 0) :=
  ⟨World.ownsMap_made w P k _, isMap_empty, fun x y _ _ => ⟨by simp [DataW.atKey], by simp [has]⟩⟩
theorem PairR.kept {P : Program} {k e : TypeId} {w w' : World} {b n : Nat} {D : DataW Unit} {M : Int → Int → Int} {row : Option Nat} (h : PairR P k e w b n D M) (hg : w.grownBy w' row) (hne : some b ≠ row) : PairR P k e w' b n D M :=
  ⟨h.1.kept hg hne, h.2⟩
theorem PairR.keep {P : Program} {k e : TypeId} {w w' : World} {b n : Nat} {D : DataW Unit} {M : Int → Int → Int} (h : PairR P k e w b n D M) (hb : Bel w w') : PairR P k e w' b n D M := h.kept (hb.grownBy none) (by simp)
theorem PairR.lookOk {P : Program} {k e t : TypeId} (A : PairK P k e) (ht : P.underlying t = some (.map k e)) {w : World} {b n : Nat} {D : DataW Unit} {M : Int → Int → Int} (h : PairR P k e w b n D M) (hz : (zeroValue e).run P w = .ok (.int .i64 0) w) {x y : Int} (hx : (Lit.int .i64 x).wf = true) (hy : (Lit.int .i64 y).wf = true) :
    (Instr.lookup t (.map (some b)) (pairV (x, y)) true).run P w = .ok (.tuple #[.int .i64 (M x y), .bool (decide (M x y ≠ 0))]) w := by
  obtain ⟨v, ps, hrun, hv⟩ := h.1.look_ok A.law ht hz (plainElem_int A.he (by decide)) (A.keyOf hx hy)
  obtain ⟨h1, h2⟩ := h.2.2 x y hx hy
  rw [h1] at hv
  obtain ⟨c, rfl, hc, _⟩ := plainElem_int_inv A.he hv
  simp at hc
  rw [hrun, ← hc.1]
  congr 3
  rw [show has D (pk x y) = decide (M x y ≠ 0) by rw [Bool.eq_iff_iff]; simpa using h2]
theorem PairR.look {P : Program} {k e t : TypeId} (A : PairK P k e) (ht : P.underlying t = some (.map k e)) {w : World} {b n : Nat} {D : DataW Unit} {M : Int → Int → Int} (h : PairR P k e w b n D M) (hz : (zeroValue e).run P w = .ok (.int .i64 0) w) {x y : Int} (hx : (Lit.int .i64 x).wf = true) (hy : (Lit.int .i64 y).wf = true) :
    (Instr.lookup t (.map (some b)) (pairV (x, y)) false).run P w = .ok (.int .i64 (M x y)) w := by
  obtain ⟨c, hrun, hc, _⟩ := h.1.lookup_int A.law ht A.he hz (A.keyOf hx hy)
  rw [(h.2.2 x y hx hy).1] at hc
  simp at hc
  rw [hrun, hc]
def putM (M : Int → Int → Int) (x y c : Int) : Int → Int → Int := fun a b => if a = x ∧ b = y then c else M a b
theorem PairR.put {P : Program} {k e : TypeId} (A : PairK P k e) {w' : World} {b n : Nat} {D : DataW Unit} {M : Int → Int → Int} {x y c : Int} (hx : (Lit.int .i64 x).wf = true) (hy : (Lit.int .i64 y).wf = true) (hc : c ≠ 0)
    (h2 : IsMap D ∧ (∀ x y, (Lit.int .i64 x).wf = true → (Lit.int .i64 y).wf = true → D.atKey (pk x y) (.lit (.int .i64 0)) = .lit (.int .i64 (M x y)) ∧ (has D (pk x y) = true ↔ M x y ≠ 0)))
    (h : w'.ownsMap P k (plainElem P e) b n (D.put (pk x y) (.lit (.int .i64 c)))) : PairR P k e w' b n (D.put (pk x y) (.lit (.int .i64 c))) (putM M x y c) := by
  refine ⟨h, h2.1.put _ _, fun a b ha hb => ?_⟩
  have hkl : WideAt.IsKeyLit (pk x y) := trivial
  by_cases he : a = x ∧ b = y
  · obtain ⟨rfl, rfl⟩ := he
    refine ⟨?_, ?_⟩
    · rw [atKey_put_same h2.1 hkl]; simp [putM]
    · simp only [putM]
      simp [hc]
      exact has_true_of_atKey (y := .lit (.int .i64 c)) (fun z => atKey_put_same h2.1 hkl _ z)
  · have hne : pk a b ≠ pk x y := fun h => he (pk_inj A ha hb hx hy h)
    have hM : putM M x y c a b = M a b := by unfold putM; rw [if_neg he]
    obtain ⟨g1, g2⟩ := h2.2 a b ha hb
    refine ⟨by rw [atKey_put_other hne, hM, g1], ?_⟩
    rw [hM, ← g2]
    constructor
    · intro hh
      cases hD : has D (pk a b) with
      | true => rfl
      | false =>
        have : has (D.put (pk x y) (.lit (.int .i64 c))) (pk a b) = false := has_false_of_atKey (fun z => by rw [atKey_put_other hne, atKey_of_not_has hD])
        rw [this] at hh; cases hh
    · intro hh
      cases hD : has (D.put (pk x y) (.lit (.int .i64 c))) (pk a b) with
      | true => rfl
      | false =>
        have : has D (pk a b) = false := has_false_of_atKey (fun z => by rw [← atKey_put_other hne (.lit (.int .i64 c)), atKey_of_not_has hD])
        rw [this] at hh; cases hh

end Go.Proofs.YtaifafljakojnaaGreat

/- Contracts of the small functions of layer 5: Arity, Aggregate, End, Operand, of the program and of the reference. -/
namespace Go.Proofs.YtaifafljakojnaaGreat
open Go.RowKit

def TermAt (w : World) (b o : Nat) (t : Term) : Prop := w.cell? ⟨b, o, none⟩ = some (.int .i64 t.op) ∧ w.cell? ⟨b, o + 1, none⟩ = some (.int .i64 t.arg)
theorem TermAt.keeps : Keeps TermAt := fun _ _ _ _ _ k hb h => ⟨(k.cell hb).trans h.1, (k.cell hb).trans h.2⟩
def TermsR := SliceR 2 TermAt
theorem TermsR.keep {w w' : World} {A : Option Addr} {n : Nat} {es : List Term} (h : TermsR w A n es) (k : Bel w w') : TermsR w' A n es := SliceR.keep TermAt.keeps h k
theorem TermsR.at_ {w : World} {A : Option Addr} {n : Nat} {es : List Term} (h : TermsR w A n es) (k : Nat) (hk : k < es.length) :
    ∃ b o, A = some ⟨b, o, none⟩ ∧ b < w.heap.size ∧ w.cell? ⟨b, o + k * 2, none⟩ = some (.int .i64 es[k].op) ∧ w.cell? ⟨b, o + k * 2 + 1, none⟩ = some (.int .i64 es[k].arg) := SliceR.at_ h k hk

theorem TermsR.atB {w : World} {A : Option Addr} {n : Nat} {es : List Term} (h : TermsR w A n es) (k : Nat) (hk : k < es.length) :
    ∃ b o, A = some ⟨b, o, none⟩ ∧ b < w.heap.size ∧ ∀ w', Bel w w' → w'.cell? ⟨b, o + k * 2, none⟩ = some (.int .i64 es[k].op) ∧ w'.cell? ⟨b, o + k * 2 + 1, none⟩ = some (.int .i64 es[k].arg) := by
  obtain ⟨b, o, e, hb, h1, h2⟩ := h.at_ k hk
  exact ⟨b, o, e, hb, fun w' k => ⟨(k.cell hb).trans h1, (k.cell hb).trans h2⟩⟩

def termCells (t : Term) : List Value := [.int .i64 t.op, .int .i64 t.arg]
theorem termCells_at (es : List Term) (i : Nat) (t : Term) (h : es[i]? = some t) : (es.flatMap termCells)[i * 2]? = some (.int .i64 t.op) ∧ (es.flatMap termCells)[i * 2 + 1]? = some (.int .i64 t.arg) := by
  induction es generalizing i with
  | nil => simp at h
  | cons x es ih =>
    cases i with
    | zero => simp at h; subst h; simp [termCells]
    | succ i =>
      have := ih i (by simpa using h)
      have e : (i + 1) * 2 = i * 2 + 1 + 1 := by omega
      rw [e]
      simpa [termCells] using this
theorem termCells_length (es : List Term) : (es.flatMap termCells).length = es.length * 2 := by
  induction es with
  | nil => rfl
  | cons x es ih => simp [ih, termCells]; omega
theorem termCells_one (es : List Term) : ∀ u ∈ es.flatMap termCells, u.oneCell' = true := by
  intro u hu
  simp only [List.mem_flatMap, termCells] at hu
  obtain ⟨t, _, h⟩ := hu
  simp at h
  rcases h with h | h <;> subst h <;> rfl
/-- A block that holds terms. -/
theorem terms_of_block {w : World} {g : Nat} {es : List Term} {t : TypeId} {fr : Nat × Nat} (h : w.heap[g]? = some (.cells (es.flatMap termCells).toArray t fr)) : TermsR w (some ⟨g, 0, none⟩) es.length es := by
  refine ⟨rfl, fun i x hx => ⟨g, 0, rfl, ?_, ?_, ?_⟩⟩
  · rcases Nat.lt_or_ge g w.heap.size with hlt | hge
    · exact hlt
    · rw [Array.getElem?_eq_none hge] at h; cases h
  · have := (termCells_at es i x hx).1
    simp [World.cell?, h, this]
  · have := (termCells_at es i x hx).2
    simp [World.cell?, h, this]
theorem own_terms {w : World} {base : Nat} {e : TypeId} {A : Option Addr} {n c : Nat} {es : List Term} (h : w.ownsRow base e 2 (.slice A n c) n (es.flatMap termCells)) : TermsR w A n es := by
  refine ⟨by have := h.1; rw [termCells_length] at this; omega, fun i x hx => ?_⟩
  obtain ⟨h1, h2⟩ := termCells_at es i x hx
  obtain ⟨g, e1, _, e3, e4, _⟩ := own_at h h1
  obtain ⟨g', e1', _, _, e4', _⟩ := own_at h h2
  rw [e1] at e1'
  injection e1' with e1'
  injection e1' with e1'
  subst e1'
  exact ⟨g, 0, e1, e3, by simpa using e4, by simpa using e4'⟩

theorem TermsR.cells {w : World} {A : Option Addr} {n : Nat} {es : List Term} (h : TermsR w A n es) : CellsR w 2 A n (es.flatMap termCells) := by
  refine ⟨by rw [termCells_length, h.1], fun j u hu => ?_⟩
  have hlt : j < es.length * 2 := by
    have := (List.getElem?_eq_some_iff.1 hu).1
    rw [termCells_length] at this; exact this
  have hi : j / 2 < es.length := by omega
  obtain ⟨b, o, rfl, _, h1, h2⟩ := h.at_ (j / 2) hi
  obtain ⟨g1, g2⟩ := termCells_at es (j / 2) es[j / 2] (List.getElem?_eq_getElem hi)
  refine ⟨b, o, rfl, ?_⟩
  rcases Nat.mod_two_eq_zero_or_one j with hm | hm
  · have e : j = j / 2 * 2 := by omega
    rw [← e] at h1 g1
    rw [g1] at hu
    rw [h1]; exact hu
  · have e : j = j / 2 * 2 + 1 := by omega
    have e2 : o + j / 2 * 2 + 1 = o + j := by omega
    rw [← e] at g2
    rw [e2] at h2
    rw [g2] at hu
    rw [h2]; exact hu

theorem light_any (A : Option Addr) (n c : Nat) (w : World) :
    Calls Tryz.prog 18 #[.slice A n c] w fun e w' => e = .returned (.bool (decide (n ≤ 250))) ∧ w = w' := by
  go_enter Tryz.func18, Tryz.ntmps18
  go_wp2
  go_ret
  refine ⟨ret_bool ?_, rfl⟩
  rw [Bool.eq_iff_iff]; simp; omega

def modF (k n : Int) : Int := k % n
theorem modF_tmod (k n : Int) : modF k n = (k.tmod n) % n := by
  have h := Int.mul_tdiv_add_tmod k n
  unfold modF
  generalize k.tmod n = r at *
  rw [← h, Int.add_comm, Int.add_mul_emod_self_left]
theorem mod_any (k n : Int) (w : World) (h1 : 1 ≤ n) (h2 : n ≤ 1000000) :
    Calls Tryz.prog 14 #[.int .i64 k, .int .i64 n] w fun e w' => e = .returned (.int .i64 (modF k n)) ∧ w = w' := by
  have hz : (n == 0) = false := by simp; omega
  go_enter Tryz.func14, Tryz.ntmps14
  have t1 := Int.tmod_lt_of_pos k (show 0 < n by omega)
  have t2 := Int.lt_tmod_of_pos k (show 0 < n by omega)
  have t3 := Lib.hid (modF_tmod k n)
  go_wp2
  · go_ret
    refine ⟨ret_int ?_, rfl⟩
    have hneg : k.tmod n < 0 := by assumption
    rw [t3.out, ← Int.add_emod_right, Int.emod_eq_of_lt (by omega) (by omega)]
  · go_ret
    refine ⟨ret_int ?_, rfl⟩
    have hneg : 0 ≤ k.tmod n := by assumption
    rw [t3.out, Int.emod_eq_of_lt (by omega) (by omega)]

theorem arity_any (op : Int) (w : World) :
    Calls Tryz.prog 100 #[.int .i64 op] w fun e w' => e = .returned (.int .i64 (arity op)) ∧ w = w' := by
  go_enter Tryz.func100, Tryz.ntmps100
  go_wp2
  all_goals (go_ret; refine ⟨ret_int ?_, rfl⟩; unfold arity; repeat' split) <;> omega

theorem refArity_any (op : Int) (w : World) :
    Calls Tryz.prog 90 #[.int .i64 op] w fun e w' => e = .returned (.int .i64 (arity op)) ∧ w = w' := by
  go_enter Tryz.func90, Tryz.ntmps90
  go_wp2
  all_goals (try simp only [beq_iff_eq, beq_eq_false_iff_ne] at *) 
  all_goals (go_ret; refine ⟨ret_int ?_, rfl⟩; unfold arity; repeat' split) <;> omega

theorem aggregate_any (op : Int) (w : World) :
    Calls Tryz.prog 102 #[.int .i64 op] w fun e w' => e = .returned (.bool (aggregate op)) ∧ w = w' := by
  go_enter Tryz.func102, Tryz.ntmps102
  go_wp2
  all_goals (go_ret; refine ⟨ret_bool ?_, rfl⟩; unfold aggregate; rw [Bool.eq_iff_iff]; simp) <;> omega

theorem refAggregate_any (op : Int) (w : World) :
    Calls Tryz.prog 93 #[.int .i64 op] w fun e w' => e = .returned (.bool (aggregate op)) ∧ w = w' := by
  go_enter Tryz.func93, Tryz.ntmps93
  go_wp2
  all_goals (go_ret; refine ⟨ret_bool ?_, rfl⟩; unfold aggregate; rw [Bool.eq_iff_iff]; simp) <;> omega

set_option maxHeartbeats 400000 in
theorem end_any (A : Option Addr) (n c : Nat) (es : List Term) (p : Int) (w : World) (h : TermsR w A n es) (hl : n ≤ 1000000) :
    Calls Tryz.prog 96 #[.slice A n c, .int .i64 p] w fun e w' => e = .returned (.int .i64 (endF es p)) ∧ w = w' := by
  obtain rfl := h.1
  have H := Lib.hid h; clear h
  by_cases hp : p < 0 ∨ es.length ≤ p
  · have hfin : endF es p = -1 := by unfold endF; rw [if_pos hp]
    rw [hfin]; clear hfin
    go_enter Tryz.func96, Tryz.ntmps96
    rcases hp with hp | hp
    · go_wp2
      go_ret
      exact ⟨rfl, rfl⟩
    · have h0 : 0 ≤ p := by omega
      go_wp2
      go_ret
      exact ⟨rfl, rfl⟩
  · have h1 : 0 ≤ p := by omega
    have h2 : p < es.length := by omega
    have hfin : endF es p = scanAt es p.toNat 1 := by unfold endF; rw [if_neg hp]
    rw [hfin]; clear hfin hp
    obtain ⟨q, rfl⟩ := Int.eq_ofNat_of_zero_le h1
    rw [Int.toNat_natCast]
    generalize hT : scanAt es q 1 = T
    have hd1 : decide ((q : Int) < 0) = false := by simp
    have hd2 : decide (es.length ≤ q) = false := by simp; omega
    have HT := Lib.hid hT; clear hT
    go_enter Tryz.func96, Tryz.ntmps96
    go_wp2
    go_loopg [1, 5] (es.length - q) (fun g a m wr => ∃ (k : Nat) (z : Int), k ≤ es.length ∧ g = es.length - k ∧ 1 ≤ z ∧ z ≤ 1 + 2 * k ∧ Hid (scanAt es k z = T) ∧ a = .int .i64 k ∧ m = .int .i64 z ∧ w = wr)
    case atStart => exact ⟨q, 1, by omega, rfl, by omega, by omega, HT, rfl, rfl, rfl⟩
    case round =>
      obtain ⟨k, z, hk, rfl, hz1, hz2, HK, rfl, rfl, rfl⟩ := hrel
      by_cases hlt : k < es.length
      · obtain ⟨b, o, rfl, hb, hc1, hc2⟩ := H.out.at_ k hlt
        have ha := arity_le es[k].op
        obtain ⟨ha1, ha2⟩ := ha
        go_wp2_with (go_at_call 100; refine (arity_any _ _).mono ?_; rintro e w' ⟨rfl, rfl⟩)
        · go_ret
          exact ⟨ret_int (by rw [← HK.out, scanAt_bad hlt (by assumption)]), rfl⟩
        · have hh : (z + (arity es[k].op - 1) == 0) = true := by assumption
          go_ret
          refine ⟨ret_int ?_, rfl⟩
          rw [← HK.out, scanAt_end hlt (by assumption) (by simpa using hh)]
        · have hh : (z + (arity es[k].op - 1) == 0) = false := by assumption
          have hh' : z + (arity es[k].op - 1) ≠ 0 := by simpa using hh
          go_roundg (es.length - (k + 1))
          case rel => exact ⟨k + 1, z + (arity es[k].op - 1), by omega, rfl, by omega, by omega, by have := HK.out; rw [scanAt_next hlt (by assumption) hh'] at this; exact this, by go_num, rfl, rfl⟩
          case measure => omega
      · go_wp2
        go_ret
        exact ⟨ret_int (by rw [← HK.out, scanAt_done (by omega)]), rfl⟩

set_option maxHeartbeats 400000 in
theorem refEnd_any (A : Option Addr) (n c : Nat) (es : List Term) (p : Int) (w : World) (h : TermsR w A n es) (hl : n ≤ 1000000) :
    Calls Tryz.prog 124 #[.slice A n c, .int .i64 p] w fun e w' => e = .returned (.int .i64 (endF es p)) ∧ w = w' := by
  obtain rfl := h.1
  have H := Lib.hid h; clear h
  by_cases hp : p < 0 ∨ es.length ≤ p
  · have hfin : endF es p = -1 := by unfold endF; rw [if_pos hp]
    rw [hfin]; clear hfin
    go_enter Tryz.func124, Tryz.ntmps124
    rcases hp with hp | hp
    · go_wp2
      go_ret
      exact ⟨rfl, rfl⟩
    · have h0 : 0 ≤ p := by omega
      go_wp2
      go_ret
      exact ⟨rfl, rfl⟩
  · have h1 : 0 ≤ p := by omega
    have h2 : p < es.length := by omega
    have hfin : endF es p = scanAt es p.toNat 1 := by unfold endF; rw [if_neg hp]
    rw [hfin]; clear hfin hp
    obtain ⟨q, rfl⟩ := Int.eq_ofNat_of_zero_le h1
    rw [Int.toNat_natCast]
    generalize hT : scanAt es q 1 = T
    have hd1 : decide ((q : Int) < 0) = false := by simp
    have hd2 : decide (es.length ≤ q) = false := by simp; omega
    have HT := Lib.hid hT; clear hT
    go_enter Tryz.func124, Tryz.ntmps124
    go_wp2
    go_loopg [5, 6] (es.length - q) (fun g m a wr => ∃ (k : Nat) (z : Int), k ≤ es.length ∧ g = es.length - k ∧ 1 ≤ z ∧ z ≤ 1 + 2 * k ∧ Hid (scanAt es k z = T) ∧ a = .int .i64 k ∧ m = .int .i64 z ∧ w = wr)
    case atStart => exact ⟨q, 1, by omega, rfl, by omega, by omega, HT, rfl, rfl, rfl⟩
    case round =>
      obtain ⟨k, z, hk, rfl, hz1, hz2, HK, rfl, rfl, rfl⟩ := hrel
      by_cases hlt : k < es.length
      · obtain ⟨b, o, rfl, hb, hc1, hc2⟩ := H.out.at_ k hlt
        have ha := arity_le es[k].op
        obtain ⟨ha1, ha2⟩ := ha
        go_wp2_with (go_at_call 90; refine (refArity_any _ _).mono ?_; rintro e w' ⟨rfl, rfl⟩)
        · go_ret
          exact ⟨ret_int (by rw [← HK.out, scanAt_bad hlt (by assumption)]), rfl⟩
        · have hh : (z + (arity es[k].op - 1) == 0) = true := by assumption
          go_ret
          refine ⟨ret_int ?_, rfl⟩
          rw [← HK.out, scanAt_end hlt (by assumption) (by simpa using hh)]
        · have hh : (z + (arity es[k].op - 1) == 0) = false := by assumption
          have hh' : z + (arity es[k].op - 1) ≠ 0 := by simpa using hh
          go_roundg (es.length - (k + 1))
          case rel => exact ⟨k + 1, z + (arity es[k].op - 1), by omega, rfl, by omega, by omega, by have := HK.out; rw [scanAt_next hlt (by assumption) hh'] at this; exact this, by go_num, rfl, rfl⟩
          case measure => omega
      · go_wp2
        go_ret
        exact ⟨ret_int (by rw [← HK.out, scanAt_done (by omega)]), rfl⟩


end Go.Proofs.YtaifafljakojnaaGreat

