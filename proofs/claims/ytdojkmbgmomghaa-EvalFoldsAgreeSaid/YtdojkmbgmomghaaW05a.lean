/- Contracts of the small functions of layer 5: Arity, Aggregate, End, Operand, of the program and of the reference. -/
import Derived.Test.YtdojkmbgmomghaaBase
import Derived.Test.YtdojkmbgmomghaaP05
namespace Go.Proofs.Ytdojkmbgmomghaa
open Go.RowKit

def TermAt (w : World) (b o : Nat) (t : Term) : Prop := w.cell? ⟨b, o, none⟩ = some (.int .i64 t.op) ∧ w.cell? ⟨b, o + 1, none⟩ = some (.int .i64 t.arg)
theorem TermAt.keeps : Keeps TermAt := fun _ _ _ _ _ k hb h => ⟨(k.cell hb).trans h.1, (k.cell hb).trans h.2⟩
def TermsR := SliceR 2 TermAt
theorem TermsR.keep {w w' : World} {A : Option Addr} {n : Nat} {es : List Term} (h : TermsR w A n es) (k : Bel w w') : TermsR w' A n es := SliceR.keep TermAt.keeps h k
theorem TermsR.at_ {w : World} {A : Option Addr} {n : Nat} {es : List Term} (h : TermsR w A n es) (k : Nat) (hk : k < es.length) :
    ∃ b o, A = some ⟨b, o, none⟩ ∧ b < w.heap.size ∧ w.cell? ⟨b, o + k * 2, none⟩ = some (.int .i64 es[k].op) ∧ w.cell? ⟨b, o + k * 2 + 1, none⟩ = some (.int .i64 es[k].arg) := SliceR.at_ h k hk

theorem TermsR.atB {w : World} {A : Option Addr} {n : Nat} {es : List Term} (h : TermsR w A n es) (k : Nat) (hk : k < es.length) :
    ∃ b o, A = some ⟨b, o, none⟩ ∧ b < w.heap.size ∧ ∀ w', Bel w w' → w'.cell? ⟨b, o + k * 2, none⟩ = some (.int .i64 es[k].op) ∧ w'.cell? ⟨b, o + k * 2 + 1, none⟩ = some (.int .i64 es[k].arg) := by
  obtain ⟨b, o, e, hb, h1, h2⟩ := h.at_ k hk
  exact ⟨b, o, e, hb, fun w' k => ⟨(k.cell hb).trans h1, (k.cell hb).trans h2⟩⟩

def termCells (t : Term) : List Value := [.int .i64 t.op, .int .i64 t.arg]
theorem termCells_at (es : List Term) (i : Nat) (t : Term) (h : es[i]? = some t) : (es.flatMap termCells)[i * 2]? = some (.int .i64 t.op) ∧ (es.flatMap termCells)[i * 2 + 1]? = some (.int .i64 t.arg) := by
  induction es generalizing i with
  | nil => simp at h
  | cons x es ih =>
    cases i with
    | zero => simp at h; subst h; simp [termCells]
    | succ i =>
      have := ih i (by simpa using h)
      have e : (i + 1) * 2 = i * 2 + 1 + 1 := by omega
      rw [e]
      simpa [termCells] using this
theorem termCells_length (es : List Term) : (es.flatMap termCells).length = es.length * 2 := by
  induction es with
  | nil => rfl
  | cons x es ih => simp [ih, termCells]; omega
theorem termCells_one (es : List Term) : ∀ u ∈ es.flatMap termCells, u.oneCell' = true := by
  intro u hu
  simp only [List.mem_flatMap, termCells] at hu
  obtain ⟨t, _, h⟩ := hu
  simp at h
  rcases h with h | h <;> subst h <;> rfl
/-- A block that holds terms. -/
theorem terms_of_block {w : World} {g : Nat} {es : List Term} {t : TypeId} {fr : Nat × Nat} (h : w.heap[g]? = some (.cells (es.flatMap termCells).toArray t fr)) : TermsR w (some ⟨g, 0, none⟩) es.length es := by
  refine ⟨rfl, fun i x hx => ⟨g, 0, rfl, ?_, ?_, ?_⟩⟩
  · rcases Nat.lt_or_ge g w.heap.size with hlt | hge
    · exact hlt
    · rw [Array.getElem?_eq_none hge] at h; cases h
  · have := (termCells_at es i x hx).1
    simp [World.cell?, h, this]
  · have := (termCells_at es i x hx).2
    simp [World.cell?, h, this]
theorem own_terms {w : World} {base : Nat} {e : TypeId} {A : Option Addr} {n c : Nat} {es : List Term} (h : w.ownsRow base e 2 (.slice A n c) n (es.flatMap termCells)) : TermsR w A n es := by
  refine ⟨by have := h.1; rw [termCells_length] at this; omega, fun i x hx => ?_⟩
  obtain ⟨h1, h2⟩ := termCells_at es i x hx
  obtain ⟨g, e1, _, e3, e4, _⟩ := own_at h h1
  obtain ⟨g', e1', _, _, e4', _⟩ := own_at h h2
  rw [e1] at e1'
  injection e1' with e1'
  injection e1' with e1'
  subst e1'
  exact ⟨g, 0, e1, e3, by simpa using e4, by simpa using e4'⟩

theorem TermsR.cells {w : World} {A : Option Addr} {n : Nat} {es : List Term} (h : TermsR w A n es) : CellsR w 2 A n (es.flatMap termCells) := by
  refine ⟨by rw [termCells_length, h.1], fun j u hu => ?_⟩
  have hlt : j < es.length * 2 := by
    have := (List.getElem?_eq_some_iff.1 hu).1
    rw [termCells_length] at this; exact this
  have hi : j / 2 < es.length := by omega
  obtain ⟨b, o, rfl, _, h1, h2⟩ := h.at_ (j / 2) hi
  obtain ⟨g1, g2⟩ := termCells_at es (j / 2) es[j / 2] (List.getElem?_eq_getElem hi)
  refine ⟨b, o, rfl, ?_⟩
  rcases Nat.mod_two_eq_zero_or_one j with hm | hm
  · have e : j = j / 2 * 2 := by omega
    rw [← e] at h1 g1
    rw [g1] at hu
    rw [h1]; exact hu
  · have e : j = j / 2 * 2 + 1 := by omega
    have e2 : o + j / 2 * 2 + 1 = o + j := by omega
    rw [← e] at g2
    rw [e2] at h2
    rw [g2] at hu
    rw [h2]; exact hu


def modF (k n : Int) : Int := k % n
theorem modF_tmod (k n : Int) : modF k n = (k.tmod n) % n := by
  have h := Int.mul_tdiv_add_tmod k n
  unfold modF
  generalize k.tmod n = r at *
  rw [← h, Int.add_comm, Int.add_mul_emod_self_left]
theorem mod_any (k n : Int) (w : World) (h1 : 1 ≤ n) (h2 : n ≤ 1000000) :
    Calls Try.prog 15 #[.int .i64 k, .int .i64 n] w fun e w' => e = .returned (.int .i64 (modF k n)) ∧ w = w' := by
  have hz : (n == 0) = false := by simp; omega
  go_enter Try.func15, Try.ntmps15
  have t1 := Int.tmod_lt_of_pos k (show 0 < n by omega)
  have t2 := Int.lt_tmod_of_pos k (show 0 < n by omega)
  have t3 := Lib.hid (modF_tmod k n)
  go_wp2
  · go_ret
    refine ⟨ret_int ?_, rfl⟩
    have hneg : k.tmod n < 0 := by assumption
    rw [t3.out, ← Int.add_emod_right, Int.emod_eq_of_lt (by omega) (by omega)]
  · go_ret
    refine ⟨ret_int ?_, rfl⟩
    have hneg : 0 ≤ k.tmod n := by assumption
    rw [t3.out, Int.emod_eq_of_lt (by omega) (by omega)]



theorem aggregate_any (op : Int) (w : World) :
    Calls Try.prog 20 #[.int .i64 op] w fun e w' => e = .returned (.bool (aggregate op)) ∧ w = w' := by
  go_enter Try.func20, Try.ntmps20
  go_wp2
  all_goals (go_ret; refine ⟨ret_bool ?_, rfl⟩; unfold aggregate; rw [Bool.eq_iff_iff]; simp) <;> omega

theorem refAggregate_any (op : Int) (w : World) :
    Calls Try.prog 23 #[.int .i64 op] w fun e w' => e = .returned (.bool (aggregate op)) ∧ w = w' := by
  go_enter Try.func23, Try.ntmps23
  go_wp2
  all_goals (go_ret; refine ⟨ret_bool ?_, rfl⟩; unfold aggregate; rw [Bool.eq_iff_iff]; simp) <;> omega




end Go.Proofs.Ytdojkmbgmomghaa
