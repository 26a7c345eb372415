/- Blocks that hold a struct of the call's own; frames that speak of the types of blocks. -/
import Derived.Test.YtnhhedecaejgcaaBase
import Derived.OneCell
namespace Go.Proofs.Ytnhhedecaejgcaa
open Go.RowKit

/-- The block holds these cells, and may be written. -/
def Blk (w : World) (B : Nat) (cs : Array Value) (t : TypeId) : Prop := w.heap[B]? = some (.cells cs t (0, 0))

theorem Blk.cell {w : World} {B : Nat} {cs : Array Value} {t : TypeId} (h : Blk w B cs t) (i : Nat) {v : Value} (hv : cs[i]? = some v) : w.cell? ⟨B, i, none⟩ = some v := by
  unfold Blk at h
  simp [World.cell?, h, hv]
theorem Blk.frozen {w : World} {B : Nat} {cs : Array Value} {t : TypeId} (h : Blk w B cs t) (i : Nat) : w.frozen? ⟨B, i, none⟩ = false := by
  unfold Blk at h
  simp [World.frozen?, h]
theorem Blk.lt {w : World} {B : Nat} {cs : Array Value} {t : TypeId} (h : Blk w B cs t) : B < w.heap.size := lt_of_block h
theorem Blk.alloc {w : World} {B : Nat} {cs : Array Value} {t : TypeId} (h : Blk w B cs t) (o : Obj) : Blk (w.alloc o) B cs t := by
  unfold Blk at *
  rw [Below.heap_alloc _ _ _ (lt_of_block h)]; exact h
theorem Blk.new (w : World) (cs : Array Value) (t : TypeId) : Blk (w.alloc (.cells cs t (0, 0))) w.heap.size cs t := heap_alloc_new w _
theorem Blk.drew {w : World} {B : Nat} {cs : Array Value} {t : TypeId} (h : Blk w B cs t) : Blk w.drew B cs t := h
theorem Blk.drewN {w : World} {B : Nat} {cs : Array Value} {t : TypeId} (h : Blk w B cs t) (k : Nat) : Blk (w.drewN k) B cs t := h
theorem Blk.set {w : World} {B : Nat} {cs : Array Value} {t : TypeId} (h : Blk w B cs t) (i : Nat) (v : Value) : Blk (w.setCell ⟨B, i, none⟩ v) B (cs.setIfInBounds i v) t := by
  unfold Blk at *
  have hlt := lt_of_block h
  have h' : w.heap[B] = .cells cs t (0, 0) := by simpa [Array.getElem?_eq_getElem hlt] using h
  show (w.heap.modify B _)[B]? = _
  rw [Array.getElem?_eq_getElem (by simpa using hlt), Array.getElem_modify_self, h']
  rfl
theorem Blk.other {w : World} {B : Nat} {cs : Array Value} {t : TypeId} (h : Blk w B cs t) {a : Addr} (ha : B ≠ a.block) (v : Value) : Blk (w.setCell a v) B cs t := by
  unfold Blk at *
  rw [Below.heap_setCell _ _ _ _ ha]; exact h
theorem Blk.keep {w w' : World} {B : Nat} {cs : Array Value} {t : TypeId} (h : Blk w B cs t) (k : Bel w w') : Blk w' B cs t := by
  unfold Blk at *
  rw [k.block B (lt_of_block h)]; exact h
theorem Blk.grown {w w' : World} {B : Nat} {cs : Array Value} {t : TypeId} (h : Blk w B cs t) {row : Option Nat} (hg : w.grownBy w' row) (hr : some B ≠ row) : Blk w' B cs t := by
  unfold Blk at *
  rw [hg.block B (lt_of_block h) hr]; exact h
/-- A struct's block is not the block of a row with elements of another type. -/
theorem Blk.apart {w : World} {B : Nat} {cs : Array Value} {t e : TypeId} {base size n : Nat} {v : Value} {xs : List Value} (h : Blk w B cs t) (ho : w.ownsRow base e size v n xs) (hne : t ≠ e) : some B ≠ v.ownBlock := by
  rcases ho.2 with ⟨rfl, _⟩ | ⟨g, cap, cur, rfl, _, hg, _⟩
  · simp [Value.ownBlock]
  · simp only [Value.ownBlock]
    intro he
    injection he with he
    subst he
    unfold Blk at h
    rw [h] at hg
    injection hg with hg
    injection hg with _ ht
    exact hne ht

/-- All blocks whose types are not listed are as they were. -/
def TFrame (S : List TypeId) (w w' : World) : Prop := ∀ (k : Nat) (cs : Array Value) (t : TypeId) (fr : Nat × Nat), w.heap[k]? = some (.cells cs t fr) → S.contains t = false → w'.heap[k]? = some (.cells cs t fr)
theorem TFrame.refl (S : List TypeId) (w : World) : TFrame S w w := fun _ _ _ _ h _ => h
theorem TFrame.trans {S : List TypeId} {a b c : World} (h : TFrame S a b) (k : TFrame S b c) : TFrame S a c := fun i cs t fr hi ht => k i cs t fr (h i cs t fr hi ht) ht
theorem TFrame.of_bel {S : List TypeId} {w w' : World} (h : Bel w w') : TFrame S w w' := fun k cs t fr hk _ => by rw [h.block k (lt_of_block hk)]; exact hk
theorem TFrame.alloc {S : List TypeId} {a w : World} (h : TFrame S a w) (o : Obj) : TFrame S a (w.alloc o) := h.trans (TFrame.of_bel ((Bel.refl w).alloc o))
theorem TFrame.drew {S : List TypeId} {a w : World} (h : TFrame S a w) : TFrame S a w.drew := h
theorem TFrame.grown {S : List TypeId} {a w w' : World} (h : TFrame S a w) {base : Nat} {e : TypeId} {size n : Nat} {v : Value} {xs : List Value} (ho : w.ownsRow base e size v n xs) (he : S.contains e = true) (hg : w.grownBy w' v.ownBlock) : TFrame S a w' :=
  h.trans fun k cs t fr hk ht => by
    rw [hg.block k (lt_of_block hk) ?_]
    · exact hk
    · rcases ho.2 with ⟨rfl, _⟩ | ⟨g, cap, cur, rfl, _, hgg, _⟩
      · simp [Value.ownBlock]
      · simp only [Value.ownBlock]
        intro hh
        injection hh with hh
        subst hh
        rw [hk] at hgg
        injection hgg with hgg
        injection hgg with _ h2
        subst h2
        rw [he] at ht; cases ht
theorem TFrame.set {S : List TypeId} {a w : World} (h : TFrame S a w) {B : Nat} {cs : Array Value} {t : TypeId} (hb : Blk w B cs t) (ht : S.contains t = true) (i : Nat) (v : Value) : TFrame S a (w.setCell ⟨B, i, none⟩ v) :=
  h.trans fun k cs' t' fr hk ht' => by
    rw [Below.heap_setCell _ _ _ _ ?_]
    · exact hk
    · rintro rfl
      unfold Blk at hb
      rw [hb] at hk
      injection hk with hk
      injection hk with _ h2
      subst h2
      rw [ht] at ht'; cases ht'
/-- The block of a row of the call's own. -/
theorem own_blk {w : World} {base : Nat} {e : TypeId} {size g n c : Nat} {xs : List Value} (h : w.ownsRow base e size (.slice (some ⟨g, 0, none⟩) n c) n xs) : ∃ cs, Blk w g cs e := by
  rcases h.2 with ⟨hv, _⟩ | ⟨g', cap, cur, hv, _, hg, _⟩
  · cases hv
  · injection hv with hA _ _
    injection hA with hA
    injection hA with hA
    subst hA
    exact ⟨cur, hg⟩
theorem Blk.of_frame {S : List TypeId} {w w' : World} {B : Nat} {cs : Array Value} {t : TypeId} (h : Blk w B cs t) (k : TFrame S w w') (ht : S.contains t = false) : Blk w' B cs t := k B cs t (0, 0) h ht

theorem own_lower {w : World} {base base' : Nat} {e : TypeId} {size : Nat} {v : Value} {n : Nat} {xs : List Value} (h : w.ownsRow base e size v n xs) (hb : base' ≤ base) : w.ownsRow base' e size v n xs := by
  refine ⟨h.1, ?_⟩
  rcases h.2 with hn | ⟨g, cap, cur, hv, hg, rest⟩
  · exact .inl hn
  · exact .inr ⟨g, cap, cur, hv, Nat.le_trans hb hg, rest⟩

end Go.Proofs.Ytnhhedecaejgcaa
