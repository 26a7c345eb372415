/- Laws of single operations, in the form in which a region that draws its order meets them: make, a struct that is built, a whole row that is stored. -/
import Derived.Test.YtnhhedecaejgcaaBlk
import Derived.Deep.WholeRow
import Derived.Laws.OwnMore
import Derived.Laws.CopyOwn
namespace Go.Proofs.Ytnhhedecaejgcaa
open Go.RowKit

section
variable {P : Program}
theorem wp_build_is {o : Oper} {a : Act} {w : World} {K : Act → World → Prop} {Q : Exit → Act → World → Prop} (t : TypeId) (parts : Array (Nat × Operand)) (ho : o.op = .build t parts) (cells : Array Value)
    (hb : P.built t (parts.map fun (i, x) => (i, a.eval x)).toList = some cells) (h : K (a.put o.dst (.agg cells)) w) : o.wp P a w K Q :=
  wp_build t parts ho (by rw [hb]; rfl) (by rw [hb]; exact h)
theorem step_build {ops : Array Oper} {o : Oper} {a : Act} {w : World} {K : Act → World → Prop} {Q : Exit → Act → World → Prop} {E : Prop} (hgd : o.guard = none) (t : TypeId) (parts : Array (Nat × Operand)) (ho : o.op = .build t parts) (cells : Array Value)
    (hb : P.built t (parts.map fun (i, x) => (i, a.eval x)).toList = some cells) (h : K (a.put o.dst (.agg cells)) w) : if Region.wanted o (yielded ops a.tmps) = true then Oper.wp P o a w K Q else E := by
  have hw : Region.wanted o (yielded ops a.tmps) = true := by simp [Region.wanted, hgd]
  rw [if_pos hw]
  exact wp_build_is t parts ho cells hb h
theorem step_storeRow {ops : Array Oper} {o : Oper} {a : Act} {w : World} {K : Act → World → Prop} {Q : Exit → Act → World → Prop} {E : Prop} (hgd : o.guard = none) (ty : TypeId) (x y : Operand) (ho : o.op = .store ty x y)
    (g : Nat) (cells : Array Value) (hx : a.eval x = .pointer (some ⟨g, 0, none⟩)) (hy : a.eval y = .agg cells)
    (t : TypeId) (old : Array Value) (hg : w.heap[g]? = some (.cells old t (0, 0))) (hi : (P.info? ty).map (·.size) = some cells.size)
    (hold : old.size = cells.size) (h1 : cells.all (·.oneCell') = true) (h : K (a.put o.dst undef) (w.setRow g cells)) :
    if Region.wanted o (yielded ops a.tmps) = true then Oper.wp P o a w K Q else E := by
  have hw : Region.wanted o (yielded ops a.tmps) = true := by simp [Region.wanted, hgd]
  rw [if_pos hw]
  exact wp_store_row ty x y ho g cells hx hy t old hg hi hold h1 h

theorem step_alloc {ops : Array Oper} {o : Oper} {a : Act} (w : World) {K : Act → World → Prop} {Q : Exit → Act → World → Prop} {E : Prop} (hgd : o.guard = none) (t : TypeId) (ho : o.op = .alloc t) (cs : Array Value)
    (hr : (Instr.alloc t true (.tuple #[])).run P w = .ok (.pointer (some ⟨w.heap.size, 0, none⟩)) (w.alloc (.cells cs t)))
    (h : ∀ g w', w.heap.size ≤ g → Blk w' g cs t → Bel w w' → K (a.put o.dst (.pointer (some ⟨g, 0, none⟩))) w') : if Region.wanted o (yielded ops a.tmps) = true then Oper.wp P o a w K Q else E := by
  have hw : Region.wanted o (yielded ops a.tmps) = true := by simp [Region.wanted, hgd]
  rw [if_pos hw]
  unfold Oper.wp execOp
  simp only [ho, hr, Sem.run_bind, Result.andThen_ok, Sem.run_pure]
  exact h _ _ (Nat.le_refl _) (Blk.new _ _ _) ((Bel.refl w).alloc _)
/-- A whole row stored into a block of the call's own. -/
theorem Blk.row {w : World} {B : Nat} {cs : Array Value} {t : TypeId} (h : Blk w B cs t) (cs' : Array Value) : Blk (w.setRow B cs') B cs' t := setRow_heap w B cs cs' t _ h
theorem grown_row (w : World) (g : Nat) (cs : Array Value) : w.grownBy (w.setRow g cs) (some g) :=
  ⟨rfl, rfl, rfl, by simp [World.setRow], fun k hk hne => by
    have : k ≠ g := by rintro rfl; exact hne rfl
    simp [World.setRow, Array.getElem?_modify]
    intro h; exact absurd h.symm this⟩

theorem wp_make {o : Oper} {a : Act} (w : World) {K : Act → World → Prop} {Q : Exit → Act → World → Prop} (t : TypeId) (x y : Operand) (ho : o.op = .makeSlice t x y)
    (base : Nat) (e : TypeId) (i : TypeInfo) (z : Value) (size : Nat) (ht : P.underlying t = some (.slice e)) (hi : P.info? e = some i) (hz : i.zero = some z) (hsize : i.size = size)
    (kl kc : IntKind) (n : Nat) (hx : a.eval x = .int kl (n : Int)) (hy : a.eval y = .int kc (n : Int)) (hbytes : i.bytes * n ≤ 281474976710656) (h63 : n ≤ maxLen) (hbase : base ≤ w.heap.size)
    (h : ∀ g w', w'.ownsRow base e size (.slice (some ⟨g, 0, none⟩) n n) n (madeCells z.cells (n * size)).toList → Bel w w' → K (a.put o.dst (.slice (some ⟨g, 0, none⟩) n n)) w') : o.wp P a w K Q := by
  obtain ⟨w', hr, h2, h3⟩ := run_make_full (P := P) w base t e i z size ht hi hz hsize kl kc n hbytes h63 hbase
  unfold Oper.wp execOp
  simp only [ho, hx, hy, Sem.run_bind, hr, Result.andThen_ok, Sem.run_pure]
  exact h _ w' h2 ((Bel.refl w).grown h3 (fun k hk => by cases hk))
theorem step_make {ops : Array Oper} {o : Oper} {a : Act} (w : World) {K : Act → World → Prop} {Q : Exit → Act → World → Prop} {E : Prop} (hgd : o.guard = none) (t : TypeId) (x y : Operand) (ho : o.op = .makeSlice t x y)
    (base : Nat) (e : TypeId) (i : TypeInfo) (z : Value) (size : Nat) (ht : P.underlying t = some (.slice e)) (hi : P.info? e = some i) (hz : i.zero = some z) (hsize : i.size = size)
    (kl kc : IntKind) (n : Nat) (hx : a.eval x = .int kl (n : Int)) (hy : a.eval y = .int kc (n : Int)) (hbytes : i.bytes * n ≤ 281474976710656) (h63 : n ≤ maxLen) (hbase : base ≤ w.heap.size)
    (h : ∀ g w', w'.ownsRow base e size (.slice (some ⟨g, 0, none⟩) n n) n (madeCells z.cells (n * size)).toList → Bel w w' → K (a.put o.dst (.slice (some ⟨g, 0, none⟩) n n)) w') :
    if Region.wanted o (yielded ops a.tmps) = true then Oper.wp P o a w K Q else E := by
  have hw : Region.wanted o (yielded ops a.tmps) = true := by simp [Region.wanted, hgd]
  rw [if_pos hw]
  exact wp_make w t x y ho base e i z size ht hi hz hsize kl kc n hx hy hbytes h63 hbase h
theorem wpList_make {ops : Array Oper} {rest : List Oper} {o : Oper} {a : Act} (w : World) {Q : Exit → Act → World → Prop} (hgd : o.guard = none) (t : TypeId) (x y : Operand) (ho : o.op = .makeSlice t x y)
    (base : Nat) (e : TypeId) (i : TypeInfo) (z : Value) (size : Nat) (ht : P.underlying t = some (.slice e)) (hi : P.info? e = some i) (hz : i.zero = some z) (hsize : i.size = size)
    (kl kc : IntKind) (n : Nat) (hx : a.eval x = .int kl (n : Int)) (hy : a.eval y = .int kc (n : Int)) (hbytes : i.bytes * n ≤ 281474976710656) (h63 : n ≤ maxLen) (hbase : base ≤ w.heap.size)
    (h : ∀ g w', w'.ownsRow base e size (.slice (some ⟨g, 0, none⟩) n n) n (madeCells z.cells (n * size)).toList → Bel w w' → wpList P ops Q rest (a.put o.dst (.slice (some ⟨g, 0, none⟩) n n)) w') : wpList P ops Q (o :: rest) a w :=
  wpList_plain hgd fun _ hK => wp_make w t x y ho base e i z size ht hi hz hsize kl kc n hx hy hbytes h63 hbase fun g w' h1 h2 => hK _ _ (h g w' h1 h2)
end

/-- The cells that make makes, for a type of one cell. -/
theorem made_one (z : Value) (hz : z.cells = #[z]) (n : Nat) : (madeCells z.cells (n * 1)).toList = List.replicate n z := by
  rw [hz, Nat.mul_one]
  apply List.ext_getElem?
  intro k
  simp only [madeCells, Array.toList_map, List.getElem?_map]
  by_cases hk : k < n
  · simp [hk, Nat.mod_one]
  · simp [hk]
end Go.Proofs.Ytnhhedecaejgcaa
