/- Merged of: W11e (see NOTES.md). -/
import Derived.Test.YtibfjhhadbkkgaaGreatYL11b
import Derived.Test.YtibfjhhadbkkgaaGreatYP11b
import Derived.OneCell
set_option linter.unusedSimpArgs false
set_option linter.unnecessarySimpa false
set_option linter.unusedVariables false

/- Two rows of the call's own, apart from each other. -/
namespace Go.Proofs.YtibfjhhadbkkgaaGreat
open Go.RowKit

theorem int_info11 : (Tryz.prog.info? 3).map (fun i => (i.zero, i.size, i.bytes)) = some (some (.int .i64 0), 1, 8) := by kernel_rfl
theorem info_parts11 {i : Option TypeInfo} {z : Option Value} {s b : Nat} (h : i.map (fun i => (i.zero, i.size, i.bytes)) = some (z, s, b)) : ∃ j, i = some j ∧ j.zero = z ∧ j.size = s ∧ j.bytes = b := by
  cases i with
  | none => simp at h
  | some j => simp at h; exact ⟨j, rfl, h.1, h.2.1, h.2.2⟩

def Apart (a b : Value) : Prop := ∀ g, a.ownBlock = some g → b.ownBlock ≠ some g
theorem Apart.symm {a b : Value} (h : Apart a b) : Apart b a := fun g hb ha => h g ha hb
theorem Apart.or {a b : Value} (h : Apart a b) : b.ownBlock = none ∨ b.ownBlock ≠ a.ownBlock := by
  cases hb : b.ownBlock with
  | none => exact .inl rfl
  | some g => right; intro he; exact h g he.symm hb
/-- After a push onto a, in a world where b's row stands, the new row is still apart from b's. -/
theorem Apart.push {a a' b : Value} {w : World} {B : Nat} {e : TypeId} {size n : Nat} {xs : List Value} (h : Apart a b) (hb : w.ownsRow B e size b n xs) (hat : a'.ownBlock = a.ownBlock ∨ a'.ownBlock = some w.heap.size) : Apart a' b := by
  intro g hg hbg
  rcases hat with e | e
  · exact h g (by rw [← e]; exact hg) hbg
  · have := (hb.lt g hbg).2
    rw [hg] at e
    injection e with e
    omega
def OwnI (w : World) (B : Nat) (v : Value) (l : List Int) : Prop := w.ownsRow B 3 1 v l.length (l.map (Value.int .i64))
structure TwoI (B : Nat) (w : World) (a b : Value) (la lb : List Int) : Prop where
  oa : OwnI w B a la
  ob : OwnI w B b lb
  ap : Apart a b

theorem own_swapI {w : World} {base g c : Nat} {e : TypeId} {m : List Int} {i k : Nat} (ho : w.ownsRow base e 1 (.slice (some ⟨g, 0, none⟩) m.length c) m.length (m.map (Value.int .i64))) :
    ((w.setCell ⟨g, i, none⟩ (.int .i64 (m.getD k 0))).setCell ⟨g, k, none⟩ (.int .i64 (m.getD i 0))).ownsRow base e 1 (.slice (some ⟨g, 0, none⟩) m.length c) m.length ((swapI m i k).map (Value.int .i64)) := by
  have h1 := (ho.stored i (.int .i64 (m.getD k 0))).1
  have h2 := (h1.stored k (.int .i64 (m.getD i 0))).1
  unfold swapI
  rw [List.map_set, List.map_set]
  exact h2
theorem own_swapI' {w : World} {base g c : Nat} {e : TypeId} {m : List Int} {i k : Nat} (hik : i ≠ k) (ho : w.ownsRow base e 1 (.slice (some ⟨g, 0, none⟩) m.length c) m.length (m.map (Value.int .i64))) :
    ((w.setCell ⟨g, k, none⟩ (.int .i64 (m.getD i 0))).setCell ⟨g, i, none⟩ (.int .i64 (m.getD k 0))).ownsRow base e 1 (.slice (some ⟨g, 0, none⟩) m.length c) m.length ((swapI m i k).map (Value.int .i64)) := by
  have h1 := (ho.stored k (.int .i64 (m.getD i 0))).1
  have h2 := (h1.stored i (.int .i64 (m.getD k 0))).1
  unfold swapI
  rw [List.map_set, List.map_set, List.set_comm _ _ hik]
  exact h2

end Go.Proofs.YtibfjhhadbkkgaaGreat

