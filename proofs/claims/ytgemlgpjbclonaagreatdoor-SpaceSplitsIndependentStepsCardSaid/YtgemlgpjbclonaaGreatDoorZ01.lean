/- Merged of: Base RFn RFm PBit (see NOTES.md). -/
import Derived.Test.YtgemlgpjbclonaaGreatDoorRows
import Derived.WalkKit
import Derived.WalkSpells
import Derived.WalkLawsBesides
import Derived.Lib.Hide
import Derived.Handy
import Derived.Deep.QuietTactic
import Derived.BigQuiet
import Derived.Deep.LoopGhost
import Derived.Deep.AppendLies
import Derived.Deep.Draws
import Derived.Deep.RegionLaw
import Derived.Deep.RegionWith
import Derived.Deep.DeepCutAuto
import Derived.Maps.AppendAt
import Derived.StillTailTactics
import Derived.IntWalk
import Derived.Deep.DeepMust
import Derived.RangeFuncNested
import Derived.RangeFuncLeaves
import Derived.RangeFuncBox
set_option linter.unusedSimpArgs false
set_option linter.unnecessarySimpa false
set_option linter.unusedVariables false

/- Words for memory that all contracts of this seat share: what a slice reads as, that old memory stays, rows of the call's own. -/
namespace Go.Proofs.YtgemlgpjbclonaaGreatDoor
open Go.RowKit

theorem ret_int {k : IntKind} {a b : Int} (h : a = b) : Ending.returned (.int k a) = .returned (.int k b) := by rw [h]
theorem ret_bool {a b : Bool} (h : a = b) : Ending.returned (.bool a) = .returned (.bool b) := by rw [h]

/-- Nothing that was there has changed. -/
def Bel (w w' : World) : Prop := Below w.heap.size w w'
theorem Bel.refl (w : World) : Bel w w := Below.refl _ _
theorem Bel.trans {a b c : World} (h : Bel a b) (k : Bel b c) : Bel a c := Below.trans h (Below.mono k (Below.size h))
theorem Bel.size {w w' : World} (h : Bel w w') : w.heap.size ≤ w'.heap.size := Below.size h
theorem Bel.cell {w w' : World} (h : Bel w w') {b o : Nat} (hb : b < w.heap.size) : w'.cell? ⟨b, o, none⟩ = w.cell? ⟨b, o, none⟩ := Below.cell h (p := ⟨b, o, none⟩) hb
theorem Bel.drew {w w' : World} (h : Bel w w') : Bel w w'.drew := Below.drew h
theorem Bel.drewN {w w' : World} (h : Bel w w') (n : Nat) : Bel w (w'.drewN n) := by
 have h' : Below w.heap.size w w' := h
 exact ⟨h'.os, h'.tape, h'.output, h'.size, h'.block⟩
theorem Bel.alloc {w w' : World} (h : Bel w w') (o : Obj) : Bel w (w'.alloc o) := Below.alloc h (Below.size h) o
theorem Bel.setCell {w w' : World} (h : Bel w w') {p : Addr} (hp : w.heap.size ≤ p.block) (u : Value) : Bel w (w'.setCell p u) := Below.setCell h hp u
theorem Bel.grown {w w' w2 : World} {row : Option Nat} (h : Bel w w') (hg : w'.grownBy w2 row) (hr : ∀ k, row = some k → w.heap.size ≤ k) : Bel w w2 := Below.grown h hg (Below.size h) hr
theorem Bel.to {w w' : World} (h : Bel w w') : Below w.heap.size w w' := h
theorem Bel.keeps {B : Nat} {a w w' : World} (k : Below B a w) (hB : B ≤ w.heap.size) (h : Bel w w') : Below B a w' := Below.trans k (Below.mono h hB)
theorem Bel.grownBy {w w' : World} (h : Bel w w') (row : Option Nat) : w.grownBy w' row := ⟨h.os, h.tape, h.output, Below.size h, fun i hi _ => h.block i hi⟩
theorem Bel.owns {w w' : World} (h : Bel w w') {base : Nat} {e : TypeId} {size : Nat} {v : Value} {n : Nat} {xs : List Value} (k : w.ownsRow base e size v n xs) : w'.ownsRow base e size v n xs :=
 k.kept (h.grownBy none) (by
  rcases k.2 with ⟨rfl, _⟩ | ⟨g, cap, cur, rfl, _⟩
  ·exact .inl rfl
  ·right; simp [Value.ownBlock])

/-- The slice value with address A and n elements of so many cells each reads as the list xs; E says how one element lies in memory. -/
def SliceR {α : Type} (size : Nat) (E : World → Nat → Nat → α → Prop) (w : World) (A : Option Addr) (n : Nat) (xs : List α) : Prop :=
 xs.length = n ∧ ∀ i x, xs[i]? = some x → ∃ b o, A = some ⟨b, o, none⟩ ∧ b < w.heap.size ∧ E w b (o + i * size) x

/-- An element stays as it is while old memory stays. -/
def Keeps {α : Type} (E : World → Nat → Nat → α → Prop) : Prop := ∀ w w' b o x, Bel w w' → b < w.heap.size → E w b o x → E w' b o x

theorem SliceR.keep {α : Type} {size : Nat} {E : World → Nat → Nat → α → Prop} {w w' : World} {A : Option Addr} {n : Nat} {xs : List α} (hE : Keeps E) (h : SliceR size E w A n xs) (k : Bel w w') : SliceR size E w' A n xs :=
 ⟨h.1, fun i x hx => by
  obtain ⟨b, o, e, hb, he⟩ := h.2 i x hx
  exact ⟨b, o, e, Nat.lt_of_lt_of_le hb k.size, hE _ _ _ _ _ k hb he⟩⟩
theorem SliceR.nil {α : Type} {size : Nat} {E : World → Nat → Nat → α → Prop} {w : World} {A : Option Addr} : SliceR size E w A 0 ([] : List α) := ⟨rfl, fun i x h => by simp at h⟩
theorem SliceR.at_ {α : Type} {size : Nat} {E : World → Nat → Nat → α → Prop} {w : World} {A : Option Addr} {n : Nat} {xs : List α} (h : SliceR size E w A n xs) (k : Nat) (hk : k < xs.length) :
  ∃ b o, A = some ⟨b, o, none⟩ ∧ b < w.heap.size ∧ E w b (o + k * size) xs[k] := h.2 k _ (List.getElem?_eq_getElem hk)

def IntAt (w : World) (b o : Nat) (x : Int) : Prop := w.cell? ⟨b, o, none⟩ = some (.int .i64 x)
theorem IntAt.keeps : Keeps IntAt := fun _ _ _ _ _ k hb h => (k.cell hb).trans h
def IntsR := SliceR 1 IntAt
theorem IntsR.keep {w w' : World} {A : Option Addr} {n : Nat} {xs : List Int} (h : IntsR w A n xs) (k : Bel w w') : IntsR w' A n xs := SliceR.keep IntAt.keeps h k
theorem IntsR.at_ {w : World} {A : Option Addr} {n : Nat} {xs : List Int} (h : IntsR w A n xs) (k : Nat) (hk : k < xs.length) :
  ∃ b o, A = some ⟨b, o, none⟩ ∧ b < w.heap.size ∧ w.cell? ⟨b, o + k, none⟩ = some (.int .i64 xs[k]) := by
 obtain ⟨b, o, e, hb, h⟩ := SliceR.at_ h k hk
 exact ⟨b, o, e, hb, by rw [Nat.mul_one] at h; exact h⟩

/-- The cells of a row of the call's own. -/
theorem own_at {w : World} {base : Nat} {e : TypeId} {size : Nat} {A : Option Addr} {n c : Nat} {xs : List Value} (h : w.ownsRow base e size (.slice A n c) n xs) {j : Nat} {u : Value} (hj : xs[j]? = some u) :
  ∃ g, A = some ⟨g, 0, none⟩ ∧ base ≤ g ∧ g < w.heap.size ∧ w.cell? ⟨g, j, none⟩ = some u ∧ w.frozen? ⟨g, j, none⟩ = false := by
 have hl : j < n * size := by
  have h1 := h.1
  have := (List.getElem?_eq_some_iff.1 hj).1
  omega
 have hn : 0 < n := by
  rcases Nat.eq_zero_or_pos n with h0 | h0
  ·subst h0; simp at hl
  ·exact h0
 obtain ⟨g, cap, hv, hb, hg⟩ := h.form hn
 injection hv with hA _ hc
 subst hA; subst hc
 exact ⟨g, rfl, hb, hg, (h.cellAt j hl).trans hj, h.frozenAt j⟩

theorem own_ints {w : World} {base : Nat} {e : TypeId} {A : Option Addr} {n c : Nat} {l : List Int} (h : w.ownsRow base e 1 (.slice A n c) n (l.map (Value.int .i64))) : IntsR w A n l := by
 refine ⟨by have := h.1; simpa using this, fun i x hx => ?_⟩
 obtain ⟨g, e1, _, e3, e4, _⟩ := own_at h (j := i) (u := .int .i64 x) (by simp [hx])
 exact ⟨g, 0, e1, e3, by simpa [IntAt] using e4⟩

/-- 's[l:]' under one name, whatever the capacity. -/
theorem run_cut {P : Program} {t e : TypeId} {i : TypeInfo} {size : Nat} (ht : P.underlying t = some (.slice e)) (hi : P.info? e = some i) (hsz : i.size = size) (A : Option Addr) (len cap l : Nat) (hl : l ≤ len) (hc : len ≤ cap) :
  ∃ A2, (∀ (k : IntKind) (w : World), (Instr.slice t (.slice A len cap) (some (.int k (l : Int))) none none).run P w = .ok (.slice A2 (len - l) (cap - l)) w) ∧
   ∀ {α : Type} (E : World → Nat → Nat → α → Prop) (w : World) (xs : List α), SliceR size E w A len xs → SliceR size E w A2 (len - l) (xs.drop l) := by
 refine ⟨if cap = l then A else A.map (·.add (l * size)), fun k w => ?_, fun E w xs h => ?_⟩
 ·simp [Instr.slice, run_underlying ht, Instr.sliceBounds, Instr.sliceBound, asIntOf, hl, sizeOf, typeInfo, hi, hsz]
 ·refine ⟨by rw [List.length_drop, h.1], fun j x hx => ?_⟩
  rw [List.getElem?_drop] at hx
  obtain ⟨b, o, rfl, hb, he⟩ := h.2 _ _ hx
  have hlt : l + j < xs.length := (List.getElem?_eq_some_iff.1 hx).1
  have hne : cap ≠ l := by have := h.1; omega
  refine ⟨b, o + l * size, ?_, hb, ?_⟩
  ·rw [if_neg hne]
   simp only [Option.map_some, Addr.add]
   split
   ·rename_i h0; simp [h0]
   ·rfl
  ·rw [Nat.add_mul, ← Nat.add_assoc] at he
   exact he

/-- 's[:h]'. -/
theorem run_upto {P : Program} {t e : TypeId} {i : TypeInfo} (ht : P.underlying t = some (.slice e)) (hi : P.info? e = some i) (A : Option Addr) (len cap h : Nat) (hc : h ≤ cap) (k : IntKind) (w : World) :
  (Instr.slice t (.slice A len cap) none (some (.int k (h : Int))) none).run P w = .ok (.slice A h cap) w := by
 have hA : ∀ s, (if cap = 0 then A else A.map (·.add (0 * s))) = A := by
  intro s
  cases A <;> simp [Addr.add]
 simp [Instr.slice, run_underlying ht, Instr.sliceBounds, Instr.sliceBound, asIntOf, hc, sizeOf, typeInfo, hi]
 intro _
 cases A <;> simp [Addr.add]

/-- 's[:h]' of a row of the call's own. -/
theorem own_take {w : World} {base : Nat} {e : TypeId} {size : Nat} {A : Option Addr} {n c : Nat} {xs : List Value} (h : w.ownsRow base e size (.slice A n c) n xs) (m : Nat) (hm : m ≤ n) : w.ownsRow base e size (.slice A m c) m (xs.take (m * size)) := by
 obtain ⟨h1, h2⟩ := h
 refine ⟨by rw [List.length_take, h1]; exact Nat.min_eq_left (Nat.mul_le_mul_right _ hm), ?_⟩
 rcases h2 with ⟨hv, h0⟩ | ⟨g, cap, cur, hv, hb, hg, hnc, hcm, hcs, ht⟩
 ·left
  injection hv with hA hn hc
  subst hA; subst hc
  have : m = 0 := by omega
  subst this
  exact ⟨rfl, rfl⟩
 ·right
  injection hv with hA _ hc
  subst hA; subst hc
  refine ⟨g, c, cur, rfl, hb, hg, by omega, hcm, hcs, ?_⟩
  rw [← ht, List.take_take, Nat.min_eq_left (Nat.mul_le_mul_right _ hm)]

theorem own_cap {w : World} {base : Nat} {e : TypeId} {size : Nat} {A : Option Addr} {n c : Nat} {xs : List Value} (h : w.ownsRow base e size (.slice A n c) n xs) : n ≤ c ∧ c ≤ maxLen := by
 rcases h.2 with ⟨hv, h0⟩ | ⟨g, cap, cur, hv, hb, hg, hnc, hcm, hcs, ht⟩
 ·injection hv with _ _ hc
  subst hc; subst h0
  exact ⟨Nat.le_refl _, by unfold maxLen; omega⟩
 ·injection hv with _ _ hc
  subst hc
  exact ⟨hnc, hcm⟩

theorem own_slice {w : World} {base : Nat} {e : TypeId} {size : Nat} {v : Value} {n : Nat} {xs : List Value} (h : w.ownsRow base e size v n xs) : ∃ A c, v = .slice A n c := by
 rcases h.2 with ⟨hv, h0⟩ | ⟨g, cap, cur, hv, _⟩
 ·subst h0; exact ⟨_, _, hv⟩
 ·exact ⟨_, _, hv⟩

theorem Bel.push {w wr w' : World} {e : TypeId} {size : Nat} {v : Value} {n : Nat} {xs : List Value} (h : Bel w wr) (ho : wr.ownsRow w.heap.size e size v n xs) (hg : wr.grownBy w' v.ownBlock) : Bel w w' :=
 h.grown hg (fun k hk => (ho.lt k hk).1)

section
variable {P : Program} (w : World)
/-- 'append(s, x)' onto a row of the call's own, x one element of one or more cells that lies in a block of its own. -/
theorem wp_push {o : Oper} {a : Act} {K : Act → World → Prop} {Q : Exit → Act → World → Prop} (s x : Operand) (t : TypeId)
  (ho : o.op = .call { callee := .builtin .append, args := #[s, x], argTypes := #[t, t] })
  (base : Nat) (e : TypeId) (i : TypeInfo) (z : Value) (size bytes : Nat) (ht : P.underlying t = some (.slice e)) (hi : P.info? e = some i) (hz : i.zero = some z)
  (hsize : i.size = size) (hby : i.bytes = bytes) (hzs : z.cells.size = size) (hsz : 0 < size)
  (A : Option Addr) (n c : Nat) (xs : List Value) (hs : a.eval s = .slice A n c) (hown : w.ownsRow base e size (.slice A n c) n xs)
  (B : Nat) (cs : Array Value) (e' : TypeId) (fr : Nat × Nat) (hx : a.eval x = .slice (some ⟨B, 0, none⟩) 1 1) (hb : w.heap[B]? = some (.cells cs e' fr)) (hcs : cs.size = size) (h1 : ∀ u ∈ cs.toList, u.oneCell' = true)
  (h63 : n + 1 ≤ maxLen) (hbytes : (n + 1) * bytes ≤ 140737488355328) (hbase : base ≤ w.heap.size)
  (h : ∀ A' c' w', w'.ownsRow base e size (.slice A' (n + 1) c') (n + 1) (xs ++ cs.toList) → w.grownBy w' (Value.slice A n c).ownBlock → ((Value.slice A' (n + 1) c').ownBlock = (Value.slice A n c).ownBlock ∨ (Value.slice A' (n + 1) c').ownBlock = some w.heap.size) → K (a.put o.dst (.slice A' (n + 1) c')) w') : o.wp P a w K Q := by
 obtain ⟨v', w', hr, h2, h3, _, h5⟩ := run_append_own_at (P := P) w base t o.type e i z size bytes ht hi hz hsize hby hzs hsz (.slice A n c) n xs hown ⟨B, 0, none⟩ 1 1 cs.toList (by simpa using hcs) (World.news_of_block hb) h1 h63 hbytes hbase
 obtain ⟨A', c', rfl⟩ := own_slice h2
 unfold Oper.wp execOp
 simp only [ho, resolve, invoke, builtin, Sem.run_bind, Sem.run_pure, Result.andThen_ok, List.map_toArray, List.map_cons, List.map_nil, hs, hx, hr]
 exact h A' c' w' h2 h3 h5

theorem wpList_push {ops : Array Oper} {rest : List Oper} {o : Oper} {a : Act} {Q : Exit → Act → World → Prop} (hgd : o.guard = none) (s x : Operand) (t : TypeId)
  (ho : o.op = .call { callee := .builtin .append, args := #[s, x], argTypes := #[t, t] })
  (base : Nat) (e : TypeId) (i : TypeInfo) (z : Value) (size bytes : Nat) (ht : P.underlying t = some (.slice e)) (hi : P.info? e = some i) (hz : i.zero = some z)
  (hsize : i.size = size) (hby : i.bytes = bytes) (hzs : z.cells.size = size) (hsz : 0 < size)
  (A : Option Addr) (n c : Nat) (xs : List Value) (hs : a.eval s = .slice A n c) (hown : w.ownsRow base e size (.slice A n c) n xs)
  (B : Nat) (cs : Array Value) (e' : TypeId) (fr : Nat × Nat) (hx : a.eval x = .slice (some ⟨B, 0, none⟩) 1 1) (hb : w.heap[B]? = some (.cells cs e' fr)) (hcs : cs.size = size) (h1 : ∀ u ∈ cs.toList, u.oneCell' = true)
  (h63 : n + 1 ≤ maxLen) (hbytes : (n + 1) * bytes ≤ 140737488355328) (hbase : base ≤ w.heap.size)
  (h : ∀ A' c' w', w'.ownsRow base e size (.slice A' (n + 1) c') (n + 1) (xs ++ cs.toList) → w.grownBy w' (Value.slice A n c).ownBlock → ((Value.slice A' (n + 1) c').ownBlock = (Value.slice A n c).ownBlock ∨ (Value.slice A' (n + 1) c').ownBlock = some w.heap.size) → wpList P ops Q rest (a.put o.dst (.slice A' (n + 1) c')) w') : wpList P ops Q (o :: rest) a w :=
 wpList_plain hgd fun _ hK => wp_push w s x t ho base e i z size bytes ht hi hz hsize hby hzs hsz A n c xs hs hown B cs e' fr hx hb hcs h1 h63 hbytes hbase fun A' c' w' h2 h3 h4 => hK _ _ (h A' c' w' h2 h3 h4)

theorem step_push {ops : Array Oper} {o : Oper} {a : Act} {K : Act → World → Prop} {Q : Exit → Act → World → Prop} {E : Prop} (hgd : o.guard = none) (s x : Operand) (t : TypeId)
  (ho : o.op = .call { callee := .builtin .append, args := #[s, x], argTypes := #[t, t] })
  (base : Nat) (e : TypeId) (i : TypeInfo) (z : Value) (size bytes : Nat) (ht : P.underlying t = some (.slice e)) (hi : P.info? e = some i) (hz : i.zero = some z)
  (hsize : i.size = size) (hby : i.bytes = bytes) (hzs : z.cells.size = size) (hsz : 0 < size)
  (A : Option Addr) (n c : Nat) (xs : List Value) (hs : a.eval s = .slice A n c) (hown : w.ownsRow base e size (.slice A n c) n xs)
  (B : Nat) (cs : Array Value) (e' : TypeId) (fr : Nat × Nat) (hx : a.eval x = .slice (some ⟨B, 0, none⟩) 1 1) (hb : w.heap[B]? = some (.cells cs e' fr)) (hcs : cs.size = size) (h1 : ∀ u ∈ cs.toList, u.oneCell' = true)
  (h63 : n + 1 ≤ maxLen) (hbytes : (n + 1) * bytes ≤ 140737488355328) (hbase : base ≤ w.heap.size)
  (h : ∀ A' c' w', w'.ownsRow base e size (.slice A' (n + 1) c') (n + 1) (xs ++ cs.toList) → w.grownBy w' (Value.slice A n c).ownBlock → ((Value.slice A' (n + 1) c').ownBlock = (Value.slice A n c).ownBlock ∨ (Value.slice A' (n + 1) c').ownBlock = some w.heap.size) → K (a.put o.dst (.slice A' (n + 1) c')) w') :
  if Region.wanted o (yielded ops a.tmps) = true then Oper.wp P o a w K Q else E := by
 have hw : Region.wanted o (yielded ops a.tmps) = true := by simp [Region.wanted, hgd]
 rw [if_pos hw]
 exact wp_push w s x t ho base e i z size bytes ht hi hz hsize hby hzs hsz A n c xs hs hown B cs e' fr hx hb hcs h1 h63 hbytes hbase h
end

theorem heap_new (w : World) (o : Obj) : (w.alloc o).heap[w.heap.size]? = some o := heap_alloc_new w o
theorem heap_new_drew (w : World) (o : Obj) : (w.alloc o).drew.heap[w.heap.size]? = some o := heap_alloc_new w o
theorem one_int (k : IntKind) (x : Int) : ∀ u ∈ (#[Value.int k x] : Array Value).toList, u.oneCell' = true := by simp [Value.oneCell']
theorem one_bool (x : Bool) : ∀ u ∈ (#[Value.bool x] : Array Value).toList, u.oneCell' = true := by simp [Value.oneCell']

def BoolAt (w : World) (b o : Nat) (x : Bool) : Prop := w.cell? ⟨b, o, none⟩ = some (.bool x)
theorem BoolAt.keeps : Keeps BoolAt := fun _ _ _ _ _ k hb h => (k.cell hb).trans h
def BoolsR := SliceR 1 BoolAt
theorem BoolsR.keep {w w' : World} {A : Option Addr} {n : Nat} {xs : List Bool} (h : BoolsR w A n xs) (k : Bel w w') : BoolsR w' A n xs := SliceR.keep BoolAt.keeps h k
theorem BoolsR.at_ {w : World} {A : Option Addr} {n : Nat} {xs : List Bool} (h : BoolsR w A n xs) (k : Nat) (hk : k < xs.length) :
  ∃ b o, A = some ⟨b, o, none⟩ ∧ b < w.heap.size ∧ w.cell? ⟨b, o + k, none⟩ = some (.bool xs[k]) := by
 obtain ⟨b, o, e, hb, h⟩ := SliceR.at_ h k hk
 exact ⟨b, o, e, hb, by rw [Nat.mul_one] at h; exact h⟩
theorem own_bools {w : World} {base : Nat} {e : TypeId} {A : Option Addr} {n c : Nat} {l : List Bool} (h : w.ownsRow base e 1 (.slice A n c) n (l.map Value.bool)) : BoolsR w A n l := by
 refine ⟨by have := h.1; simpa using this, fun i x hx => ?_⟩
 obtain ⟨g, e1, _, e3, e4, _⟩ := own_at h (j := i) (u := .bool x) (by simp [hx])
 exact ⟨g, 0, e1, e3, by simpa [BoolAt] using e4⟩

/-- A contract told from an earlier world on. -/
theorem Calls.rel {P : Program} {f : FuncId} {args : Array Value} {w0 w : World} {Q : Ending → Prop} (h0 : Bel w0 w) (h : Calls P f args w fun e w' => Q e ∧ Bel w w') : Calls P f args w fun e w' => Q e ∧ Bel w0 w' :=
 h.mono fun _ _ ⟨a, b⟩ => ⟨a, h0.trans b⟩

/-- The cells of a slice, nil let in. -/
def CellsR (w : World) (size : Nat) (A : Option Addr) (m : Nat) (news : List Value) : Prop :=
 news.length = m * size ∧ ∀ j u, news[j]? = some u → ∃ b o, A = some ⟨b, o, none⟩ ∧ w.cell? ⟨b, o + j, none⟩ = some u

theorem addr_add {b o k : Nat} : (⟨b, o, none⟩ : Addr).add k = ⟨b, o + k, none⟩ := by
 unfold Addr.add
 split
 ·rename_i h; subst h; rfl
 ·rfl

section
variable {P : Program} (w : World)
theorem run_extend_nil (base : Nat) (t ty e : TypeId) (i : TypeInfo) (size : Nat) (ht : P.underlying t = some (.slice e)) (hi : P.info? e = some i)
  (v : Value) (n : Nat) (xs : List Value) (hown : w.ownsRow base e size v n xs) (A : Option Addr) (c : Nat) : (Builtin.append_ #[t, t] ty #[v, .slice A 0 c]).run P w = .ok v w := by
 rcases hown.2 with ⟨rfl, rfl⟩ | ⟨g, cap, cur, rfl, _, _, hnc, _⟩
 ·cases A <;> simp [Builtin.append_, run_underlying ht, sizeOf, typeInfo, hi, Builtin.lenOf, Builtin.firstCells, loadCells, loadCellsFrom]
 ·cases A <;> simp [Builtin.append_, run_underlying ht, sizeOf, typeInfo, hi, Builtin.lenOf, Builtin.firstCells, hnc, storeCells, loadCells, loadCellsFrom]

theorem run_extend (base : Nat) (t ty e : TypeId) (i : TypeInfo) (z : Value) (size bytes : Nat) (ht : P.underlying t = some (.slice e)) (hi : P.info? e = some i) (hz : i.zero = some z)
  (hsize : i.size = size) (hby : i.bytes = bytes) (hzs : z.cells.size = size) (hsz : 0 < size)
  (A : Option Addr) (n c : Nat) (xs : List Value) (hown : w.ownsRow base e size (.slice A n c) n xs)
  (A2 : Option Addr) (m c2 : Nat) (news : List Value) (hr : CellsR w size A2 m news) (h1 : ∀ u ∈ news, u.oneCell' = true)
  (h63 : n + m ≤ maxLen) (hbytes : (n + m) * bytes ≤ 140737488355328) (hbase : base ≤ w.heap.size) :
  ∃ A' c' w', (Builtin.append_ #[t, t] ty #[.slice A n c, .slice A2 m c2]).run P w = .ok (.slice A' (n + m) c') w' ∧ w'.ownsRow base e size (.slice A' (n + m) c') (n + m) (xs ++ news) ∧ w.grownBy w' (Value.slice A n c).ownBlock ∧
   ((Value.slice A' (n + m) c').ownBlock = (Value.slice A n c).ownBlock ∨ (Value.slice A' (n + m) c').ownBlock = some w.heap.size) := by
 rcases Nat.eq_zero_or_pos m with h0 | h0
 ·subst h0
  have hn : news = [] := List.eq_nil_of_length_eq_zero (by simpa using hr.1)
  subst hn
  exact ⟨A, c, w, run_extend_nil w base t ty e i size ht hi _ n xs hown A2 c2, by simpa using hown, World.grownBy.refl w _, .inl rfl⟩
 ·have hpos : 0 < news.length := by rw [hr.1]; exact Nat.mul_pos h0 hsz
  obtain ⟨b, o, rfl, _⟩ := hr.2 0 news[0] (List.getElem?_eq_getElem hpos)
  have hcells : ∀ j u, news[j]? = some u → w.cell? ((⟨b, o, none⟩ : Addr).add j) = some u := by
   intro j u hu
   obtain ⟨b', o', he, hc⟩ := hr.2 j u hu
   injection he with he
   injection he with h1 h2
   subst h1; subst h2
   rw [addr_add]; exact hc
  obtain ⟨v', w', hrun, h2, h3, _, h5⟩ := run_append_own_at (P := P) w base t ty e i z size bytes ht hi hz hsize hby hzs hsz (.slice A n c) n xs hown ⟨b, o, none⟩ m c2 news hr.1 hcells h1 h63 hbytes hbase
  obtain ⟨A', c', rfl⟩ := own_slice h2
  exact ⟨A', c', w', hrun, h2, h3, h5⟩

/-- 'append(s, xs...)' onto a row of the call's own. -/
theorem wp_extend {o : Oper} {a : Act} {K : Act → World → Prop} {Q : Exit → Act → World → Prop} (s x : Operand) (t : TypeId)
  (ho : o.op = .call { callee := .builtin .append, args := #[s, x], argTypes := #[t, t] })
  (base : Nat) (e : TypeId) (i : TypeInfo) (z : Value) (size bytes : Nat) (ht : P.underlying t = some (.slice e)) (hi : P.info? e = some i) (hz : i.zero = some z)
  (hsize : i.size = size) (hby : i.bytes = bytes) (hzs : z.cells.size = size) (hsz : 0 < size)
  (A : Option Addr) (n c : Nat) (xs : List Value) (hs : a.eval s = .slice A n c) (hown : w.ownsRow base e size (.slice A n c) n xs)
  (A2 : Option Addr) (m c2 : Nat) (news : List Value) (hx : a.eval x = .slice A2 m c2) (hr : CellsR w size A2 m news) (h1 : ∀ u ∈ news, u.oneCell' = true)
  (h63 : n + m ≤ maxLen) (hbytes : (n + m) * bytes ≤ 140737488355328) (hbase : base ≤ w.heap.size)
  (h : ∀ A' c' w', w'.ownsRow base e size (.slice A' (n + m) c') (n + m) (xs ++ news) → w.grownBy w' (Value.slice A n c).ownBlock → ((Value.slice A' (n + m) c').ownBlock = (Value.slice A n c).ownBlock ∨ (Value.slice A' (n + m) c').ownBlock = some w.heap.size) → K (a.put o.dst (.slice A' (n + m) c')) w') : o.wp P a w K Q := by
 obtain ⟨A', c', w', hrun, h2, h3, h4⟩ := run_extend (P := P) w base t o.type e i z size bytes ht hi hz hsize hby hzs hsz A n c xs hown A2 m c2 news hr h1 h63 hbytes hbase
 unfold Oper.wp execOp
 simp only [ho, resolve, invoke, builtin, Sem.run_bind, Sem.run_pure, Result.andThen_ok, List.map_toArray, List.map_cons, List.map_nil, hs, hx, hrun]
 exact h A' c' w' h2 h3 h4

theorem wpList_extend {ops : Array Oper} {rest : List Oper} {o : Oper} {a : Act} {Q : Exit → Act → World → Prop} (hgd : o.guard = none) (s x : Operand) (t : TypeId)
  (ho : o.op = .call { callee := .builtin .append, args := #[s, x], argTypes := #[t, t] })
  (base : Nat) (e : TypeId) (i : TypeInfo) (z : Value) (size bytes : Nat) (ht : P.underlying t = some (.slice e)) (hi : P.info? e = some i) (hz : i.zero = some z)
  (hsize : i.size = size) (hby : i.bytes = bytes) (hzs : z.cells.size = size) (hsz : 0 < size)
  (A : Option Addr) (n c : Nat) (xs : List Value) (hs : a.eval s = .slice A n c) (hown : w.ownsRow base e size (.slice A n c) n xs)
  (A2 : Option Addr) (m c2 : Nat) (news : List Value) (hx : a.eval x = .slice A2 m c2) (hr : CellsR w size A2 m news) (h1 : ∀ u ∈ news, u.oneCell' = true)
  (h63 : n + m ≤ maxLen) (hbytes : (n + m) * bytes ≤ 140737488355328) (hbase : base ≤ w.heap.size)
  (h : ∀ A' c' w', w'.ownsRow base e size (.slice A' (n + m) c') (n + m) (xs ++ news) → w.grownBy w' (Value.slice A n c).ownBlock → ((Value.slice A' (n + m) c').ownBlock = (Value.slice A n c).ownBlock ∨ (Value.slice A' (n + m) c').ownBlock = some w.heap.size) → wpList P ops Q rest (a.put o.dst (.slice A' (n + m) c')) w') : wpList P ops Q (o :: rest) a w :=
 wpList_plain hgd fun _ hK => wp_extend w s x t ho base e i z size bytes ht hi hz hsize hby hzs hsz A n c xs hs hown A2 m c2 news hx hr h1 h63 hbytes hbase fun A' c' w' h2 h3 h4 => hK _ _ (h A' c' w' h2 h3 h4)

end

theorem SliceR.take {α : Type} {size : Nat} {E : World → Nat → Nat → α → Prop} {w : World} {A : Option Addr} {n : Nat} {xs : List α} (h : SliceR size E w A n xs) (m : Nat) (hm : m ≤ n) : SliceR size E w A m (xs.take m) :=
 ⟨by rw [List.length_take, h.1]; omega, fun i x hx => by
  rw [List.getElem?_take] at hx
  split at hx
  ·exact h.2 i x hx
  ·cases hx⟩

end Go.Proofs.YtgemlgpjbclonaaGreatDoor

/- The law of a range over a function whose iterator keeps state in a box of its own: what the caller owes. -/
namespace Go.Proofs.YtgemlgpjbclonaaGreatDoor
open Go.RowKit

/-- Two worlds agree on all old blocks but those of E. -/
structure Agr (E : Nat → Prop) (A B : World) : Prop where
 os : B.os = A.os
 tape : B.tape = A.tape
 output : B.output = A.output
 size : A.heap.size ≤ B.heap.size
 block : ∀ k, k < A.heap.size → ¬ E k → B.heap[k]? = A.heap[k]?

theorem Agr.refl (E : Nat → Prop) (A : World) : Agr E A A := ⟨rfl, rfl, rfl, Nat.le_refl _, fun _ _ _ => rfl⟩
theorem Agr.mono {E E' : Nat → Prop} {A B : World} (h : Agr E A B) (hE : ∀ k, E k → E' k) : Agr E' A B :=
 ⟨h.os, h.tape, h.output, h.size, fun k hk hn => h.block k hk (fun e => hn (hE k e))⟩
theorem Agr.trans {E : Nat → Prop} {A B C : World} (h : Agr E A B) (k : Agr E B C) : Agr E A C :=
 ⟨k.os.trans h.os, k.tape.trans h.tape, k.output.trans h.output, Nat.le_trans h.size k.size, fun i hi hn => (k.block i (Nat.lt_of_lt_of_le hi h.size) hn).trans (h.block i hi hn)⟩
theorem Agr.alloc (E : Nat → Prop) (A : World) (o : Obj) : Agr E A (A.alloc o) :=
 ⟨rfl, rfl, rfl, by simp, fun k hk _ => Below.heap_alloc A o k hk⟩
theorem Agr.putObj {E : Nat → Prop} (A : World) (l : Nat) (o : Obj) (hl : E l) : Agr E A (A.putObj l o) :=
 ⟨rfl, rfl, rfl, by simp, fun k _ hn => World.putObj_heap_other (fun e => hn (e ▸ hl))⟩
theorem Agr.setCell {E : Nat → Prop} (A : World) (p : Addr) (v : Value) (hl : E p.block) : Agr E A (A.setCell p v) :=
 ⟨rfl, rfl, rfl, by simp, fun k _ hn => Below.heap_setCell A p v k (fun e => hn (e ▸ hl))⟩

/-- Blocks of E lie as they lay. -/
def SameE (E : Nat → Prop) (A B : World) : Prop := A.heap.size ≤ B.heap.size ∧ ∀ k, k < A.heap.size → E k → B.heap[k]? = A.heap[k]?

def orE (E R : Nat → Prop) (k : Nat) : Prop := E k ∨ R k
/-- How the body of a round may be left. -/
def postE {α : Type} (E : Nat → Prop) (I : List α → World → Prop) (Ix : Code → List α → World → Prop) (xs : List α) (W : World) : Exit → Act → World → Prop
 | .normal, _, W' => SameE E W W' ∧ I xs W'
 | .ret, _, W' => SameE E W W' ∧ Ix .ret xs W'
 | .exit id, _, W' => SameE E W W' ∧ Ix (.exit id) xs W'
 | .goto t, _, W' => SameE E W W' ∧ Ix (.goto t) xs W'
 | .panic _, _, _ => False
 | .outgrown, _, _ => False

/-- What an iterator owes: it hands on the elements of S, in their order, and turns its own blocks alone. -/
def SeqE {α : Type} (F : Fence) (n : Nat) (P : Program) (g : Nat) (lb : Array Value) (encs : α → Array Value) (Bs Rs : Nat → Prop) (S : List α) (w : World) : Prop :=
 ∀ (l : Nat) (J Jx : List α → World → Prop) (W : World), Bel w W → (∀ s A B, J s A → Agr Bs A B → J s B) → (∀ s A B, Jx s A → Agr Bs A B → Jx s B) →
  (∀ pre x W1, pre ++ [x] <+: S → J pre W1 → YieldAt F (n - 1) P l (encs x) W1 fun e W' =>
   (e = .returned (.bool true) ∧ J (pre ++ [x]) W' ∧ SameE (orE Bs Rs) W1 W') ∨ (e = .returned (.bool false) ∧ Jx (pre ++ [x]) W')) →
  J [] W →
  CallsIn F n P g (#[.func (.yield l) #[] #[]] ++ lb) W fun e W' => (∃ v, e = .returned v) ∧ (J S W' ∨ ∃ pre, pre <+: S ∧ Jx pre W')

variable {F : Fence} {n : Nat} {P : Program}

/-- The statement 'for .. := range seq { body }', outermost. -/
theorem wpIn_rangeE {α : Type} {g : Operand} {ps : Array Tmp} {assign body : Code} {Q : Exit → Act → World → Prop} {a : Act} {w : World}
  (hro : F.round = none) (h1 : 1 ≤ n) {gf : Nat} {lb : Array Value} (hg : a.eval g = .func (.func gf) #[] lb) (hFg : F.fn gf) (eg : ∀ args w, (callFunc gf args).run P w = .ok (.enter gf args) w)
  {encs : α → Array Value} {Bs Rs : Nat → Prop} {S : List α} (hseq : SeqE F (n - 1) P gf lb encs Bs Rs S w) (hBs : ∀ k, Bs k → k < w.heap.size) (hRs : ∀ k, Rs k → k < w.heap.size) (hps : ∀ x, (encs x).size = ps.size)
  (E : Nat → Prop) (hE : ∀ k, E k ↔ Bs k ∨ k = w.heap.size ∨ k = w.heap.size + 1)
  (I : List α → World → Prop) (Ix : Code → List α → World → Prop) (hI : ∀ s A B, I s A → Agr E A B → I s B) (hIx : ∀ c s A B, Ix c s A → Agr E A B → Ix c s B) (h0 : I [] w)
  (Ax : α → Act → World → Prop) (hAx : ∀ x a' A B, Ax x a' A → Agr E A B → Ax x a' B)
  (hassign : ∀ (pre : List α) (x : α) (W : World) (K : Act → World → Prop), pre ++ [x] <+: S → I pre W → w.heap.size + 1 < W.heap.size → (∀ a' W', SameE (orE E Rs) W W' → I pre W' → Ax x a' W' → K a' W') →
   assign.wpIn (F.inRound (w.heap.size + 1)) (n - 1 - 1) P (Exit.then K (fun _ _ _ => False)) { tmps := (ps.zip (encs x)).foldl (fun t (p, v) => t.setIfInBounds p v) a.tmps, defers := [] } W)
  (hbody : ∀ (pre : List α) (x : α) (a' : Act) (W : World), pre ++ [x] <+: S → I pre W → Ax x a' W → w.heap.size + 1 < W.heap.size → (∃ r, W.heap[w.heap.size + 1]? = some (.loop r)) →
   body.wpIn (F.inRound (w.heap.size + 1)) (n - 1 - 1) P (postE (orE E Rs) I Ix (pre ++ [x]) W) a' W)
  (hdone : ∀ (W : World), I S W → W.heap[w.heap.size]? = some (.deferred (some [])) → Q .normal { a with defers := { target := .collected w.heap.size, args := #[] } :: a.defers } W)
  (hstop : ∀ (c : Code) (pre : List α) (W : World), pre <+: S → Ix c pre W → W.heap[w.heap.size]? = some (.deferred (some [])) → c.wpIn F n P Q { a with defers := { target := .collected w.heap.size, args := #[] } :: a.defers } W) :
  (Code.rangeFunc g ps assign body).wpIn F n P Q a w := by
 have El : E (w.heap.size + 1) := (hE _).2 (.inr (.inr rfl))
 have Ed : E w.heap.size := (hE _).2 (.inr (.inl rfl))
 have nl : ¬ Bs (w.heap.size + 1) := fun h => by have := hBs _ h; omega
 have nek : ∀ k, orE Bs Rs k → k < w.heap.size := fun k h => h.elim (hBs k) (hRs k)
 have up : ∀ k, orE Bs Rs k → orE E Rs k := fun k h => h.elim (fun h => .inl ((hE k).2 (.inl h))) .inr
 have nd : ¬ Bs w.heap.size := fun h => by have := hBs _ h; omega
 have sub : ∀ {A B : World}, Agr Bs A B → Agr E A B := fun h => h.mono (fun k hk => (hE k).2 (.inl hk))
 refine wpIn_rangeFunc fun fn hfn => ?_
 rw [hro]
 obtain ⟨rec, hrec⟩ : ∃ rec : LoopState → Option Code → Loop, rec = fun st pe => { state := st, pending := pe, fn, tmps := a.tmps, params := ps, assign, body, defers := w.heap.size } := ⟨_, rfl⟩
 have hL1 : ((w.alloc (.deferred (some []))).alloc (.loop (rec .ready none))).heap[w.heap.size + 1]? = some (.loop (rec .ready none)) := by
  have := World.alloc_heap_new (w.alloc (.deferred (some []))) (.loop (rec .ready none)); rwa [World.size_alloc] at this
 have hK1 : ((w.alloc (.deferred (some []))).alloc (.loop (rec .ready none))).heap[w.heap.size]? = some (.deferred (some [])) :=
  (Below.heap_alloc _ _ _ (by simp)).trans (World.alloc_heap_new w _)
 have hI1 : I [] ((w.alloc (.deferred (some []))).alloc (.loop (rec .ready none))) := hI _ _ _ (hI _ _ _ h0 (Agr.alloc E w _)) (Agr.alloc E _ _)
 have hb1 : Bel w ((w.alloc (.deferred (some []))).alloc (.loop (rec .ready none))) := ((Bel.refl w).alloc _).alloc _
 refine ⟨w.heap.size + 1, [{ target := .collected w.heap.size, args := #[] }], _, { target := .fn (.func gf) lb, args := #[.func (.yield (w.heap.size + 1)) #[] #[]] }, _, gf,
  #[.func (.yield (w.heap.size + 1)) #[] #[]] ++ lb, _, by rw [run_enterLoop_outer], by simp only [resolve, hg]; simp [go_sem]; rfl, fun f' hf' => by simp [Target.leads] at hf'; subst hf'; exact hFg, by simp [invoke, go_sem, eg]; rfl, fun _ => h1, ?_⟩
 revert hL1 hK1 hI1 hb1
 rw [hrec]
 intro hL1 hK1 hI1 hb1
 refine (hseq (w.heap.size + 1)
  (fun pre W => I pre W ∧ W.heap[w.heap.size + 1]? = some (.loop (rec .ready none)) ∧ W.heap[w.heap.size]? = some (.deferred (some [])))
  (fun pre W => ∃ c, Ix c pre W ∧ W.heap[w.heap.size + 1]? = some (.loop (rec .done (some c))) ∧ W.heap[w.heap.size]? = some (.deferred (some [])))
  _ hb1 (fun s A B hs hg' => ⟨hI _ _ _ hs.1 (sub hg'), (hg'.block _ (Array.getElem?_eq_some_iff.1 hs.2.1).1 nl).trans hs.2.1, (hg'.block _ (Array.getElem?_eq_some_iff.1 hs.2.2).1 nd).trans hs.2.2⟩)
  (fun s A B hs hg' => by
   obtain ⟨c, hc, hl, hk⟩ := hs
   exact ⟨c, hIx _ _ _ _ hc (sub hg'), (hg'.block _ (Array.getElem?_eq_some_iff.1 hl).1 nl).trans hl, (hg'.block _ (Array.getElem?_eq_some_iff.1 hk).1 nd).trans hk⟩)
  ?_ ⟨hI1, by rw [hrec]; exact hL1, hK1⟩).mono ?_
 ·-- one round
  rintro pre x W hpre ⟨hi, hl, hk⟩
  have hlt := (Array.getElem?_eq_some_iff.1 hl).1
  have hy := run_yield (P := P) (args := encs x) hl (by rw [hrec]; exact hps x)
  rw [hrec] at hy
  refine ⟨fn, _, assign, body, hy, roundIn_of_wpIn hfn (hassign pre x W _ hpre hi hlt ?_)⟩
  clear hy
  intro a' Wa hsa hia hax
  have hl2 := (hsa.2 _ hlt (.inl El)).trans hl
  have hk2 := (hsa.2 _ (by omega) (.inl Ed)).trans hk
  have hlta := (Array.getElem?_eq_some_iff.1 hl2).1
  refine ⟨_, run_beginRound hl2 (by rw [hrec]), ?_⟩
  have agb : Agr E Wa (Wa.putObj (w.heap.size + 1) (.loop { rec .ready none with state := .busy })) := Agr.putObj _ _ _ El
  have hl3 : (Wa.putObj (w.heap.size + 1) (.loop { rec .ready none with state := .busy })).heap[w.heap.size + 1]? = some (.loop { rec .ready none with state := .busy }) := World.putObj_heap_same hlta
  have hk3 : (Wa.putObj (w.heap.size + 1) (.loop { rec .ready none with state := .busy })).heap[w.heap.size]? = some (.deferred (some [])) := (World.putObj_heap_other (by omega)).trans hk2
  have hsz := agb.size
  have hsb : SameE (orE Bs Rs) W (Wa.putObj (w.heap.size + 1) (.loop { rec .ready none with state := .busy })) :=
   ⟨Nat.le_trans hsa.1 hsz, fun k hk hB => (World.putObj_heap_other (by have := nek k hB; omega)).trans (hsa.2 k hk (up k hB))⟩
  refine wpIn_mono (hbody pre x a' _ hpre (hI _ _ _ hia agb) (hAx _ _ _ _ hax agb) (Nat.lt_of_lt_of_le hlta hsz) ⟨_, hl3⟩) ?_
  generalize Wa.putObj (w.heap.size + 1) (.loop { rec .ready none with state := .busy }) = Wb at *
  have fin : ∀ (jump : Option Code) (W3 : World), SameE (orE E Rs) Wb W3 →
    (Instr.endRound (w.heap.size + 1) jump).run P W3 = .ok (.bool jump.isNone) (W3.putObj (w.heap.size + 1) (.loop (rec (if jump.isNone then .ready else .done) jump))) ∧
    (W3.putObj (w.heap.size + 1) (.loop (rec (if jump.isNone then .ready else .done) jump))).heap[w.heap.size + 1]? = some (.loop (rec (if jump.isNone then .ready else .done) jump)) ∧
    (W3.putObj (w.heap.size + 1) (.loop (rec (if jump.isNone then .ready else .done) jump))).heap[w.heap.size]? = some (.deferred (some [])) := fun jump W3 h3 => by
   have hl4 := (h3.2 _ (by omega) (.inl El)).trans hl3
   have := run_endRound (P := P) jump hl4
   rw [hrec] at this ⊢
   exact ⟨this, World.putObj_heap_same (Array.getElem?_eq_some_iff.1 hl4).1, (World.putObj_heap_other (by omega)).trans ((h3.2 _ (by omega) (.inl Ed)).trans hk3)⟩
  rintro e a3 W3 hp
  cases e with
  | normal =>
   obtain ⟨h3, hi3⟩ := hp
   obtain ⟨hr, hl4, hk4⟩ := fin none W3 h3
   exact ⟨_, _, hr, .inl ⟨rfl, ⟨hI _ _ _ hi3 (Agr.putObj _ _ _ El), hl4, hk4⟩, Nat.le_trans hsb.1 (Nat.le_trans h3.1 (Agr.putObj (E := E) W3 _ _ El).size), fun k hk hB =>
    (World.putObj_heap_other (by have := nek k hB; omega)).trans ((h3.2 k (Nat.lt_of_lt_of_le hk hsb.1) (up k hB)).trans (hsb.2 k hk hB))⟩⟩
  | ret =>
   obtain ⟨h3, hi3⟩ := hp
   obtain ⟨hr, hl4, hk4⟩ := fin (some .ret) W3 h3
   exact ⟨_, _, hr, .inr ⟨rfl, .ret, hIx _ _ _ _ hi3 (Agr.putObj _ _ _ El), hl4, hk4⟩⟩
  | exit id =>
   obtain ⟨h3, hi3⟩ := hp
   obtain ⟨hr, hl4, hk4⟩ := fin (some (.exit id)) W3 h3
   exact ⟨_, _, hr, .inr ⟨rfl, .exit id, hIx _ _ _ _ hi3 (Agr.putObj _ _ _ El), hl4, hk4⟩⟩
  | goto t =>
   obtain ⟨h3, hi3⟩ := hp
   obtain ⟨hr, hl4, hk4⟩ := fin (some (.goto t)) W3 h3
   exact ⟨_, _, hr, .inr ⟨rfl, .goto t, hIx _ _ _ _ hi3 (Agr.putObj _ _ _ El), hl4, hk4⟩⟩
  | panic ch => exact hp.elim
  | outgrown => exact hp.elim
 ·-- behind the iterator
  rintro e W2 ⟨⟨v, rfl⟩, (⟨hi, hl, hk⟩ | ⟨pre, hSp, c, hi, hl, hk⟩)⟩
  ·exact ⟨none, _, by have := run_endLoop (P := P) hl (by rw [hrec]; simp); rw [hrec] at this; exact this, hdone _ (hI _ _ _ hi (Agr.putObj _ _ _ El)) ((World.putObj_heap_other (by omega)).trans hk)⟩
  ·exact ⟨some c, _, by have := run_endLoop (P := P) hl (by rw [hrec]; simp); rw [hrec] at this; exact this, hstop c pre _ hSp (hIx _ _ _ _ hi (Agr.putObj _ _ _ El)) ((World.putObj_heap_other (by omega)).trans hk)⟩

/-- The statement 'for .. := range seq { body }', within a round of loop l₀. -/
theorem wpIn_rangeEN {α : Type} {g : Operand} {ps : Array Tmp} {assign body : Code} {Q : Exit → Act → World → Prop} {a : Act} {w : World}
  {l₀ : Nat} {r₀ : Loop} (hro : F.round = some l₀) (hl₀ : w.heap[l₀]? = some (.loop r₀)) (h1 : 1 ≤ n) {gf : Nat} {lb : Array Value} (hg : a.eval g = .func (.func gf) #[] lb) (hFg : F.fn gf) (eg : ∀ args w, (callFunc gf args).run P w = .ok (.enter gf args) w)
  {encs : α → Array Value} {Bs Rs : Nat → Prop} {S : List α} (hseq : SeqE F (n - 1) P gf lb encs Bs Rs S w) (hBs : ∀ k, Bs k → k < w.heap.size) (hRs : ∀ k, Rs k → k < w.heap.size) (hps : ∀ x, (encs x).size = ps.size)
  (E : Nat → Prop) (hE : ∀ k, E k ↔ Bs k ∨ k = w.heap.size)
  (I : List α → World → Prop) (Ix : Code → List α → World → Prop) (hI : ∀ s A B, I s A → Agr E A B → I s B) (hIx : ∀ c s A B, Ix c s A → Agr E A B → Ix c s B) (h0 : I [] w)
  (Ax : α → Act → World → Prop) (hAx : ∀ x a' A B, Ax x a' A → Agr E A B → Ax x a' B)
  (hassign : ∀ (pre : List α) (x : α) (W : World) (K : Act → World → Prop), pre ++ [x] <+: S → I pre W → w.heap.size < W.heap.size → (∀ a' W', SameE (orE E Rs) W W' → I pre W' → Ax x a' W' → K a' W') →
   assign.wpIn (F.inRound (w.heap.size)) (n - 1 - 1) P (Exit.then K (fun _ _ _ => False)) { tmps := (ps.zip (encs x)).foldl (fun t (p, v) => t.setIfInBounds p v) a.tmps, defers := [] } W)
  (hbody : ∀ (pre : List α) (x : α) (a' : Act) (W : World), pre ++ [x] <+: S → I pre W → Ax x a' W → w.heap.size < W.heap.size → (∃ r, W.heap[w.heap.size]? = some (.loop r)) →
   body.wpIn (F.inRound (w.heap.size)) (n - 1 - 1) P (postE (orE E Rs) I Ix (pre ++ [x]) W) a' W)
  (hdone : ∀ (W : World), I S W → Q .normal a W)
  (hstop : ∀ (c : Code) (pre : List α) (W : World), pre <+: S → Ix c pre W → c.wpIn F n P Q a W) :
  (Code.rangeFunc g ps assign body).wpIn F n P Q a w := by
 have El : E (w.heap.size) := (hE _).2 (.inr rfl)
 have nl : ¬ Bs (w.heap.size) := fun h => by have := hBs _ h; omega
 have nek : ∀ k, orE Bs Rs k → k < w.heap.size := fun k h => h.elim (hBs k) (hRs k)
 have up : ∀ k, orE Bs Rs k → orE E Rs k := fun k h => h.elim (fun h => .inl ((hE k).2 (.inl h))) .inr
 have sub : ∀ {A B : World}, Agr Bs A B → Agr E A B := fun h => h.mono (fun k hk => (hE k).2 (.inl hk))
 refine wpIn_rangeFunc fun fn hfn => ?_
 rw [hro]
 obtain ⟨rec, hrec⟩ : ∃ rec : LoopState → Option Code → Loop, rec = fun st pe => { state := st, pending := pe, fn, tmps := a.tmps, params := ps, assign, body, defers := r₀.defers } := ⟨_, rfl⟩
 have hL1 : (w.alloc (.loop (rec .ready none))).heap[w.heap.size]? = some (.loop (rec .ready none)) :=
  World.alloc_heap_new w _
 have hI1 : I [] (w.alloc (.loop (rec .ready none))) := hI _ _ _ h0 (Agr.alloc E w _)
 have hb1 : Bel w (w.alloc (.loop (rec .ready none))) := (Bel.refl w).alloc _
 refine ⟨w.heap.size, [], _, { target := .fn (.func gf) lb, args := #[.func (.yield (w.heap.size)) #[] #[]] }, _, gf,
  #[.func (.yield (w.heap.size)) #[] #[]] ++ lb, _, by rw [run_enterLoop_inner hl₀], by simp only [resolve, hg]; simp [go_sem]; rfl, fun f' hf' => by simp [Target.leads] at hf'; subst hf'; exact hFg, by simp [invoke, go_sem, eg]; rfl, fun _ => h1, ?_⟩
 revert hL1 hI1 hb1
 rw [hrec]
 intro hL1 hI1 hb1
 refine (hseq (w.heap.size)
  (fun pre W => I pre W ∧ W.heap[w.heap.size]? = some (.loop (rec .ready none)))
  (fun pre W => ∃ c, Ix c pre W ∧ W.heap[w.heap.size]? = some (.loop (rec .done (some c))))
  _ hb1 (fun s A B hs hg' => ⟨hI _ _ _ hs.1 (sub hg'), (hg'.block _ (Array.getElem?_eq_some_iff.1 hs.2).1 nl).trans hs.2⟩)
  (fun s A B hs hg' => by
   obtain ⟨c, hc, hl⟩ := hs
   exact ⟨c, hIx _ _ _ _ hc (sub hg'), (hg'.block _ (Array.getElem?_eq_some_iff.1 hl).1 nl).trans hl⟩)
  ?_ ⟨hI1, by rw [hrec]; exact hL1⟩).mono ?_
 ·-- one round
  rintro pre x W hpre ⟨hi, hl⟩
  have hlt := (Array.getElem?_eq_some_iff.1 hl).1
  have hy := run_yield (P := P) (args := encs x) hl (by rw [hrec]; exact hps x)
  rw [hrec] at hy
  refine ⟨fn, _, assign, body, hy, roundIn_of_wpIn hfn (hassign pre x W _ hpre hi hlt ?_)⟩
  clear hy
  intro a' Wa hsa hia hax
  have hl2 := (hsa.2 _ hlt (.inl El)).trans hl
  have hlta := (Array.getElem?_eq_some_iff.1 hl2).1
  refine ⟨_, run_beginRound hl2 (by rw [hrec]), ?_⟩
  have agb : Agr E Wa (Wa.putObj (w.heap.size) (.loop { rec .ready none with state := .busy })) := Agr.putObj _ _ _ El
  have hl3 : (Wa.putObj (w.heap.size) (.loop { rec .ready none with state := .busy })).heap[w.heap.size]? = some (.loop { rec .ready none with state := .busy }) := World.putObj_heap_same hlta
  have hsz := agb.size
  have hsb : SameE (orE Bs Rs) W (Wa.putObj (w.heap.size) (.loop { rec .ready none with state := .busy })) :=
   ⟨Nat.le_trans hsa.1 hsz, fun k hk hB => (World.putObj_heap_other (by have := nek k hB; omega)).trans (hsa.2 k hk (up k hB))⟩
  refine wpIn_mono (hbody pre x a' _ hpre (hI _ _ _ hia agb) (hAx _ _ _ _ hax agb) (Nat.lt_of_lt_of_le hlta hsz) ⟨_, hl3⟩) ?_
  generalize Wa.putObj (w.heap.size) (.loop { rec .ready none with state := .busy }) = Wb at *
  have fin : ∀ (jump : Option Code) (W3 : World), SameE (orE E Rs) Wb W3 →
    (Instr.endRound (w.heap.size) jump).run P W3 = .ok (.bool jump.isNone) (W3.putObj (w.heap.size) (.loop (rec (if jump.isNone then .ready else .done) jump))) ∧
    (W3.putObj (w.heap.size) (.loop (rec (if jump.isNone then .ready else .done) jump))).heap[w.heap.size]? = some (.loop (rec (if jump.isNone then .ready else .done) jump)) := fun jump W3 h3 => by
   have hl4 := (h3.2 _ (by omega) (.inl El)).trans hl3
   have := run_endRound (P := P) jump hl4
   rw [hrec] at this ⊢
   exact ⟨this, World.putObj_heap_same (Array.getElem?_eq_some_iff.1 hl4).1⟩
  rintro e a3 W3 hp
  cases e with
  | normal =>
   obtain ⟨h3, hi3⟩ := hp
   obtain ⟨hr, hl4⟩ := fin none W3 h3
   exact ⟨_, _, hr, .inl ⟨rfl, ⟨hI _ _ _ hi3 (Agr.putObj _ _ _ El), hl4⟩, Nat.le_trans hsb.1 (Nat.le_trans h3.1 (Agr.putObj (E := E) W3 _ _ El).size), fun k hk hB =>
    (World.putObj_heap_other (by have := nek k hB; omega)).trans ((h3.2 k (Nat.lt_of_lt_of_le hk hsb.1) (up k hB)).trans (hsb.2 k hk hB))⟩⟩
  | ret =>
   obtain ⟨h3, hi3⟩ := hp
   obtain ⟨hr, hl4⟩ := fin (some .ret) W3 h3
   exact ⟨_, _, hr, .inr ⟨rfl, .ret, hIx _ _ _ _ hi3 (Agr.putObj _ _ _ El), hl4⟩⟩
  | exit id =>
   obtain ⟨h3, hi3⟩ := hp
   obtain ⟨hr, hl4⟩ := fin (some (.exit id)) W3 h3
   exact ⟨_, _, hr, .inr ⟨rfl, .exit id, hIx _ _ _ _ hi3 (Agr.putObj _ _ _ El), hl4⟩⟩
  | goto t =>
   obtain ⟨h3, hi3⟩ := hp
   obtain ⟨hr, hl4⟩ := fin (some (.goto t)) W3 h3
   exact ⟨_, _, hr, .inr ⟨rfl, .goto t, hIx _ _ _ _ hi3 (Agr.putObj _ _ _ El), hl4⟩⟩
  | panic ch => exact hp.elim
  | outgrown => exact hp.elim
 ·-- behind the iterator
  rintro e W2 ⟨⟨v, rfl⟩, (⟨hi, hl⟩ | ⟨pre, hSp, c, hi, hl⟩)⟩
  ·exact ⟨none, _, by have := run_endLoop (P := P) hl (by rw [hrec]; simp); rw [hrec] at this; exact this, hdone _ (hI _ _ _ hi (Agr.putObj _ _ _ El))⟩
  ·exact ⟨some c, _, by have := run_endLoop (P := P) hl (by rw [hrec]; simp); rw [hrec] at this; exact this, hstop c pre _ hSp (hIx _ _ _ _ hi (Agr.putObj _ _ _ El))⟩

end Go.Proofs.YtgemlgpjbclonaaGreatDoor

/- Functions whose bodies hold ranges over functions: what is left to do at the return. -/
namespace Go.Proofs.YtgemlgpjbclonaaGreatDoor
open Go.RowKit

/-- A contract from the body's walk, where the body holds ranges over functions. -/
theorem calls_marks {P : Program} {f : FuncId} {fn : Func} {c : Code} {args : Array Value} {w : World} {R : Ending → World → Prop}
  (hf : P.funcs[f]? = some fn) (hb : fn.body = some c)
  (h : c.wp P (bodyPostM Fence.wide 5 P fn R) { tmps := args ++ Array.replicate (fn.ntmps - args.size) undef, defers := [] } w) : Calls P f args w R :=
 callsIn_wide.1 (callsIn_of_wp_marks hf hb trivial (wpIn_wide.2 h) rfl)

/-- The blocks of the loops' deferred calls: all of them empty, each behind those of earlier loops. -/
def Marks (B : Nat) (W : World) : List Deferred → Prop
 | [] => True
 | d :: ds => (∃ D, d = { target := .collected D, args := #[] } ∧ B ≤ D ∧ W.heap[D]? = some (.deferred (some [])) ∧ ∀ d' ∈ ds, ∀ D', d'.target = .collected D' → D' < D) ∧ Marks B W ds
theorem Marks.nil (B : Nat) (W : World) : Marks B W [] := trivial
/-- Blocks of deferred calls. -/
def DefE (B : Nat) (W : World) (k : Nat) : Prop := B ≤ k ∧ ∃ x, W.heap[k]? = some (.deferred x)
theorem Marks.keep {B : Nat} {W W' : World} : ∀ {ds : List Deferred}, Marks B W ds → (∀ D, B ≤ D → W.heap[D]? = some (.deferred (some [])) → W'.heap[D]? = some (.deferred (some []))) → Marks B W' ds
 | [], _, _ => trivial
 | _ :: _, h, hk => by
  obtain ⟨⟨D, e, h1, h2, h3⟩, h4⟩ := h
  exact ⟨⟨D, e, h1, hk D h1 h2, h3⟩, h4.keep hk⟩
theorem Marks.below {B : Nat} {W : World} : ∀ {ds : List Deferred}, Marks B W ds → ∀ d ∈ ds, ∀ D, d.target = .collected D → B ≤ D ∧ D < W.heap.size
 | [], _, _, hd, _, _ => by cases hd
 | d0 :: ds, h, d, hd, D, e => by
  obtain ⟨⟨D0, e0, h1, h2, h3⟩, h4⟩ := h
  rcases List.mem_cons.1 hd with rfl | hd
  ·subst e0
   injection e with e
   subst e
   exact ⟨h1, (Array.getElem?_eq_some_iff.1 h2).1⟩
  ·exact h4.below d hd D e
theorem Marks.push {B : Nat} {W : World} {ds : List Deferred} {D : Nat} (h : Marks B W ds) (hB : B ≤ D) (hD : W.heap[D]? = some (.deferred (some []))) (hlt : ∀ d' ∈ ds, ∀ D', d'.target = .collected D' → D' < D) : Marks B W ({ target := .collected D, args := #[] } :: ds) :=
 ⟨⟨D, rfl, hB, hD, hlt⟩, h⟩

theorem Marks.shut {B D : Nat} {W : World} : ∀ {ds : List Deferred}, Marks B W ds → (∀ d' ∈ ds, ∀ D', d'.target = .collected D' → D' < D) → Marks B (W.putObj D (.deferred none)) ds
 | [], _, _ => trivial
 | d :: ds, h, hl => by
  obtain ⟨⟨D0, e, h1, h2, h3⟩, h4⟩ := h
  have := hl d (List.mem_cons_self ..) D0 (by rw [e])
  exact ⟨⟨D0, e, h1, (World.putObj_heap_other (by omega)).trans h2, h3⟩, h4.shut (fun d' hd => hl d' (List.mem_cons_of_mem _ hd))⟩

theorem leave_marks {P : Program} {fn : Func} {tmps : Array Value} {R : Ending → World → Prop} {F : Fence} {n B : Nat} : ∀ {ds : List Deferred} {W : World}, Marks B W ds →
  (∀ W', Agr (DefE B W) W W' → W'.heap.size = W.heap.size → ∃ v, (results fn tmps).run P W' = .ok v W' ∧ R (.returned v) W') → LeavesInM F n P fn tmps R ds .returning W
 | [], W, _, hR => hR W (Agr.refl _ W) rfl
 | d :: ds, W, h, hR => by
  obtain ⟨⟨D, rfl, h1, h2, h3⟩, h4⟩ := h
  refine ⟨by simp, .inl ⟨D, _, rfl, run_takeDeferred h2, ?_⟩⟩
  have hlt := (Array.getElem?_eq_some_iff.1 h2).1
  refine leave_marks (B := B) (h4.shut h3) ?_
  intro W' hA hs
  have hE : ∀ k, DefE B (W.putObj D (.deferred none)) k → DefE B W k := by
   rintro k ⟨hk, x, hx⟩
   by_cases hkD : k = D
   ·subst hkD; exact ⟨hk, _, h2⟩
   ·rw [World.putObj_heap_other hkD] at hx; exact ⟨hk, x, hx⟩
  have hsz : (W.putObj D (.deferred none)).heap.size = W.heap.size := by simp
  exact hR W' ((Agr.putObj W D _ ⟨h1, _, h2⟩).trans (hA.mono hE)) (by omega)
theorem Agr.cell {E : Nat → Prop} {A B : World} (h : Agr E A B) {k o : Nat} (hk : k < A.heap.size) (hE : ¬ E k) : B.cell? ⟨k, o, none⟩ = A.cell? ⟨k, o, none⟩ :=
 World.cell?_of_block (h.block k hk hE)
/-- Blocks of cells are no blocks of deferred calls. -/
theorem Agr.cellD {B0 : Nat} {A B : World} (h : Agr (DefE B0 A) A B) {k o : Nat} {v : Value} (hc : A.cell? ⟨k, o, none⟩ = some v) : B.cell? ⟨k, o, none⟩ = some v := by
 have hne : ¬ DefE B0 A k := by
  rintro ⟨_, x, hx⟩
  simp [World.cell?, hx] at hc
 have hk : k < A.heap.size := by
  rcases Nat.lt_or_ge k A.heap.size with h | h
  ·exact h
  ·simp [World.cell?, Array.getElem?_eq_none h] at hc
 rw [h.cell hk hne]; exact hc
theorem Agr.bel {w A C : World} (hb : Bel w A) (h : Agr (DefE w.heap.size A) A C) : Bel w C :=
 ⟨h.os.trans hb.os, h.tape.trans hb.tape, h.output.trans hb.output, Nat.le_trans hb.size h.size, fun k hk => (h.block k (Nat.lt_of_lt_of_le hk hb.size) (fun e => by have := e.1; omega)).trans (hb.block k hk)⟩

theorem Agr.belE {E : Nat → Prop} {w A C : World} (hb : Bel w A) (h : Agr E A C) (hE : ∀ k, E k → w.heap.size ≤ k) : Bel w C :=
 ⟨h.os.trans hb.os, h.tape.trans hb.tape, h.output.trans hb.output, Nat.le_trans hb.size h.size, fun k hk => (h.block k (Nat.lt_of_lt_of_le hk hb.size) (fun e => by have := hE k e; omega)).trans (hb.block k hk)⟩
theorem Agr.boxed {E : Nat → Prop} {A B : World} (h : Agr E A B) {k : Nat} {t : TypeId} {v : Value} (hx : Boxed A k t v) (hk : ¬ E k) : Boxed B k t v := (h.block k hx.lt hk).trans hx
theorem Agr.blk {E : Nat → Prop} {A B : World} (h : Agr E A B) {k : Nat} {t : TypeId} {cs : Array Value} (hx : A.heap[k]? = some (.cells cs t (0, 0))) (hk : ¬ E k) : B.heap[k]? = some (.cells cs t (0, 0)) := (h.block k (Array.getElem?_eq_some_iff.1 hx).1 hk).trans hx
theorem SameE.refl (E : Nat → Prop) (A : World) : SameE E A A := ⟨Nat.le_refl _, fun _ _ _ => rfl⟩
theorem SameE.trans {E : Nat → Prop} {A B C : World} (h : SameE E A B) (k : SameE E B C) : SameE E A C :=
 ⟨Nat.le_trans h.1 k.1, fun i hi hE => (k.2 i (Nat.lt_of_lt_of_le hi h.1) hE).trans (h.2 i hi hE)⟩
theorem SameE.setCell {E : Nat → Prop} (A : World) (p : Addr) (v : Value) (hp : ¬ E p.block) : SameE E A (A.setCell p v) :=
 ⟨by simp, fun k _ hE => Below.heap_setCell A p v k (fun e => hp (e ▸ hE))⟩
theorem SameE.of_bel {E : Nat → Prop} {A B : World} (h : Bel A B) : SameE E A B := ⟨h.size, fun k hk _ => h.block k hk⟩
theorem SameE.of_agr {E G : Nat → Prop} {A B : World} (h : Agr G A B) (hG : ∀ k, E k → ¬ G k) : SameE E A B := ⟨h.size, fun k hk hE => h.block k hk (hG k hE)⟩
theorem boxed_cell0 {W : World} {B : Nat} {t : TypeId} {v : Value} (h : Boxed W B t v) : W.cell? ⟨B, 0, none⟩ = some v ∧ W.frozen? ⟨B, 0, none⟩ = false ∧ B < W.heap.size := ⟨h.cell, h.frozen, h.lt⟩

end Go.Proofs.YtgemlgpjbclonaaGreatDoor

/- Sets of nodes as numbers of 32 bits, plain. -/
namespace Go.Proofs.YtgemlgpjbclonaaGreatDoor

/-! ### Sets of nodes, as numbers -/
def setF (n : Nat) (h : Nat → Bool) : Nat := (List.range n).foldl (fun s v => if h v then s ||| 2 ^ v else s) 0
theorem setF_zero (h : Nat → Bool) : setF 0 h = 0 := rfl
theorem setF_succ (n : Nat) (h : Nat → Bool) : setF (n + 1) h = if h n then setF n h ||| 2 ^ n else setF n h := by
 unfold setF; rw [List.range_succ, List.foldl_append]; rfl
theorem setF_bit (n : Nat) (h : Nat → Bool) (v : Nat) : (setF n h).testBit v = (decide (v < n) && h v) := by
 induction n with
 | zero => simp [setF_zero]
 | succ n ih =>
  rw [setF_succ]
  by_cases hv : v = n
  ·subst hv
   cases hh : h v with
   | false => simp [ih]
   | true => simp [Nat.testBit_or, Nat.testBit_two_pow_self]
  ·have e : decide (v < n + 1) = decide (v < n) := by rw [decide_eq_decide]; omega
   rw [e]
   cases hh : h n with
   | false => simpa using ih
   | true =>
    simp only [if_true, Nat.testBit_or, ih, Nat.testBit_two_pow]
    have : decide (n = v) = false := by simp; omega
    rw [this, Bool.or_false]
theorem setF_lt (n : Nat) (h : Nat → Bool) : setF n h < 2 ^ n := by
 apply Nat.lt_pow_two_of_testBit
 intro i hi
 rw [setF_bit, decide_eq_false (by omega)]; rfl
theorem setF_lt32 {n : Nat} (h : Nat → Bool) (hn : n ≤ 32) : setF n h < 4294967296 :=
 Nat.lt_of_lt_of_le (setF_lt n h) (Nat.pow_le_pow_right (n := 2) (by decide) hn)

def within32 (S T : Nat) : Bool := (List.range 32).all fun i => !S.testBit i || T.testBit i
def hasB (S : Nat) (x : Int) : Bool := decide (0 ≤ x) && decide (x < 32) && S.testBit x.toNat
theorem nat_bits {S T : Nat} (hS : S < 4294967296) (hT : T < 4294967296) (h : ∀ v, v < 32 → S.testBit v = T.testBit v) : S = T := by
 refine Nat.eq_of_testBit_eq fun v => ?_
 rcases Nat.lt_or_ge v 32 with hv | hv
 ·exact h v hv
 ·have e : (4294967296 : Nat) ≤ 2 ^ v := Nat.pow_le_pow_right (n := 2) (i := 32) (by decide) hv
  rw [Nat.testBit_lt_two_pow (Nat.lt_of_lt_of_le hS e), Nat.testBit_lt_two_pow (Nat.lt_of_lt_of_le hT e)]
theorem within32_iff {S T : Nat} : within32 S T = true ↔ ∀ v, v < 32 → S.testBit v = true → T.testBit v = true := by
 unfold within32
 simp only [List.all_eq_true, List.mem_range, Bool.or_eq_true, Bool.not_eq_true']
 constructor
 ·intro h v hv hS
  rcases h v hv with h | h
  ·rw [h] at hS; cases hS
  ·exact h
 ·intro h v hv
  cases hb : S.testBit v with
  | false => exact .inl rfl
  | true => exact .inr (h v hv hb)
theorem bit_lt {S v : Nat} (hS : S < 4294967296) (h : S.testBit v = true) : v < 32 := by
 rcases Nat.lt_or_ge v 32 with hv | hv
 ·exact hv
 ·have e : (4294967296 : Nat) ≤ 2 ^ v := Nat.pow_le_pow_right (n := 2) (i := 32) (by decide) hv
  rw [Nat.testBit_lt_two_pow (Nat.lt_of_lt_of_le hS e)] at h; cases h
theorem two_bit (i v : Nat) : (2 ^ i).testBit v = decide (i = v) := Nat.testBit_two_pow

/-! ### As the machine computes -/
theorem u32_wrap {n : Nat} (h : n < 4294967296) : IntKind.u32.wrap (n : Int) = (n : Int) := by simp [IntKind.wrap, IntKind.bits, IntKind.signed]; omega
theorem two_lt {v : Nat} (h : v < 32) : 2 ^ v < 4294967296 := Nat.pow_lt_pow_right (a := 2) (by decide) h
theorem bv32 (S : Nat) : BitVec.ofInt IntKind.u32.bits (S : Int) = BitVec.ofNat 32 S := by
 simp [IntKind.bits]
theorem bits_or {S T : Nat} (hS : S < 4294967296) (hT : T < 4294967296) : bits .or .u32 (S : Int) (T : Int) = ((S ||| T : Nat) : Int) := by
 have e : (BitVec.ofNat 32 S ||| BitVec.ofNat 32 T).toNat = S ||| T := by
  simp only [BitVec.toNat_or, BitVec.toNat_ofNat]
  rw [Nat.mod_eq_of_lt (by omega), Nat.mod_eq_of_lt (by omega)]
 unfold bits
 simp only [bv32]
 show IntKind.u32.wrap ((BitVec.ofNat 32 S ||| BitVec.ofNat 32 T).toNat : Int) = _
 rw [e]; exact u32_wrap (Nat.or_lt_two_pow (n := 32) hS hT)
theorem bits_and {S T : Nat} (hS : S < 4294967296) (_hT : T < 4294967296) : bits .and .u32 (S : Int) (T : Int) = ((S &&& T : Nat) : Int) := by
 have e : (BitVec.ofNat 32 S &&& BitVec.ofNat 32 T).toNat = S &&& T := by
  simp only [BitVec.toNat_and, BitVec.toNat_ofNat]
  rw [Nat.mod_eq_of_lt (by omega), Nat.mod_eq_of_lt (by omega)]
 unfold bits
 simp only [bv32]
 show IntKind.u32.wrap ((BitVec.ofNat 32 S &&& BitVec.ofNat 32 T).toNat : Int) = _
 rw [e]; exact u32_wrap (Nat.and_lt_two_pow (n := 32) S _hT)
/-- What is in the one set and not in the other. -/
def diffF (S T : Nat) : Nat := (BitVec.ofNat 32 S &&& ~~~BitVec.ofNat 32 T).toNat
theorem diffF_lt (S T : Nat) : diffF S T < 4294967296 := (BitVec.ofNat 32 S &&& ~~~BitVec.ofNat 32 T).isLt
theorem bits_andNot (S T : Nat) : bits .andNot .u32 (S : Int) (T : Int) = ((diffF S T : Nat) : Int) := by
 unfold bits
 simp only [bv32]
 exact u32_wrap (diffF_lt S T)
theorem diffF_bit {S T : Nat} (hS : S < 4294967296) (v : Nat) : (diffF S T).testBit v = (S.testBit v && !T.testBit v) := by
 rcases Nat.lt_or_ge v 32 with hv | hv
 ·unfold diffF
  rw [BitVec.testBit_toNat, BitVec.getLsbD_and, BitVec.getLsbD_not, BitVec.getLsbD_ofNat, BitVec.getLsbD_ofNat]
  simp [hv]
 ·have e : (4294967296 : Nat) ≤ 2 ^ v := Nat.pow_le_pow_right (n := 2) (i := 32) (by decide) hv
  rw [Nat.testBit_lt_two_pow (Nat.lt_of_lt_of_le (diffF_lt S T) e), Nat.testBit_lt_two_pow (Nat.lt_of_lt_of_le hS e)]; rfl
theorem diffF_zero {S T : Nat} (hS : S < 4294967296) : (diffF S T == 0) = within32 S T := by
 rw [Bool.eq_iff_iff, beq_iff_eq, within32_iff]
 constructor
 ·intro h v _ hv
  have := diffF_bit (T := T) hS v
  rw [h, Nat.zero_testBit, hv] at this
  simpa using this.symm
 ·intro h
  refine Nat.eq_of_testBit_eq fun v => ?_
  rw [diffF_bit hS, Nat.zero_testBit]
  cases hb : S.testBit v with
  | false => rfl
  | true => rw [h v (bit_lt hS hb) hb]; rfl
/-- The bit of a node, as the machine asks for it. -/
theorem shr_bit (S v : Nat) : (S >>> v) &&& 1 = (S.testBit v).toNat := by
 rw [Nat.and_one_is_mod, Nat.shiftRight_eq_div_pow, Nat.testBit_eq_decide_div_mod_eq]
 have := Nat.mod_lt (S / 2 ^ v) (show 0 < 2 by decide)
 by_cases h : S / 2 ^ v % 2 = 1
 ·rw [h]; simp
 ·have : S / 2 ^ v % 2 = 0 := by omega
  rw [this]; simp
theorem bit_ask {S v : Nat} (hS : S < 4294967296) : bits .and .u32 ((S : Int) / 2 ^ v) 1 = ((S.testBit v).toNat : Int) := by
 have h1 : (S : Int) / 2 ^ v = ((S >>> v : Nat) : Int) := by rw [Nat.shiftRight_eq_div_pow]; simp
 rw [h1, show (1 : Int) = ((1 : Nat) : Int) from rfl, bits_and (by have := Nat.shiftRight_le S v; omega) (by decide), shr_bit]
theorem bits_set {S v : Nat} (hS : S < 4294967296) (hv : v < 32) : bits .or .u32 (S : Int) (2 ^ v % 4294967296) = ((S ||| 2 ^ v : Nat) : Int) := by
 have h := two_lt hv
 have e : (2 : Int) ^ v % 4294967296 = ((2 ^ v : Nat) : Int) := by
  have e2 : (2 : Int) ^ v = ((2 ^ v : Nat) : Int) := by rw [Int.natCast_pow]; rfl
  rw [e2]; exact Int.emod_eq_of_lt (b := 4294967296) (Int.natCast_nonneg _) (Int.ofNat_lt.2 h)
 rw [e, bits_or hS h]
theorem u32_of_wf {x : Int} (h : (Lit.int .u32 x).wf = true) : ∃ S : Nat, x = (S : Int) ∧ S < 4294967296 := by
 have h1 : 0 ≤ x ∧ x ≤ 4294967295 := by
  simp [Lit.wf, IntKind.min, IntKind.max, IntKind.signed, IntKind.bits] at h
  omega
 obtain ⟨S, rfl⟩ := Int.eq_ofNat_of_zero_le h1.1
 exact ⟨S, rfl, by omega⟩
theorem toNat_beq (b : Bool) : ((b.toNat : Int) == 1) = b := by cases b <;> rfl

end Go.Proofs.YtgemlgpjbclonaaGreatDoor

