/- Contracts of the small functions of layer 5: Arity, Aggregate, End, Operand, of the program and of the reference. -/
import Derived.Test.YtnhhedecaejgcaaBase
import Derived.Test.YtnhhedecaejgcaaP05
namespace Go.Proofs.Ytnhhedecaejgcaa
open Go.RowKit

def TermAt (w : World) (b o : Nat) (t : Term) : Prop := w.cell? ⟨b, o, none⟩ = some (.int .i64 t.op) ∧ w.cell? ⟨b, o + 1, none⟩ = some (.int .i64 t.arg)
theorem TermAt.keeps : Keeps TermAt := fun _ _ _ _ _ k hb h => ⟨(k.cell hb).trans h.1, (k.cell hb).trans h.2⟩
def TermsR := SliceR 2 TermAt
theorem TermsR.keep {w w' : World} {A : Option Addr} {n : Nat} {es : List Term} (h : TermsR w A n es) (k : Bel w w') : TermsR w' A n es := SliceR.keep TermAt.keeps h k
theorem TermsR.at_ {w : World} {A : Option Addr} {n : Nat} {es : List Term} (h : TermsR w A n es) (k : Nat) (hk : k < es.length) :
    ∃ b o, A = some ⟨b, o, none⟩ ∧ b < w.heap.size ∧ w.cell? ⟨b, o + k * 2, none⟩ = some (.int .i64 es[k].op) ∧ w.cell? ⟨b, o + k * 2 + 1, none⟩ = some (.int .i64 es[k].arg) := SliceR.at_ h k hk

theorem TermsR.atB {w : World} {A : Option Addr} {n : Nat} {es : List Term} (h : TermsR w A n es) (k : Nat) (hk : k < es.length) :
    ∃ b o, A = some ⟨b, o, none⟩ ∧ b < w.heap.size ∧ ∀ w', Bel w w' → w'.cell? ⟨b, o + k * 2, none⟩ = some (.int .i64 es[k].op) ∧ w'.cell? ⟨b, o + k * 2 + 1, none⟩ = some (.int .i64 es[k].arg) := by
  obtain ⟨b, o, e, hb, h1, h2⟩ := h.at_ k hk
  exact ⟨b, o, e, hb, fun w' k => ⟨(k.cell hb).trans h1, (k.cell hb).trans h2⟩⟩

def termCells (t : Term) : List Value := [.int .i64 t.op, .int .i64 t.arg]
theorem termCells_at (es : List Term) (i : Nat) (t : Term) (h : es[i]? = some t) : (es.flatMap termCells)[i * 2]? = some (.int .i64 t.op) ∧ (es.flatMap termCells)[i * 2 + 1]? = some (.int .i64 t.arg) := by
  induction es generalizing i with
  | nil => simp at h
  | cons x es ih =>
    cases i with
    | zero => simp at h; subst h; simp [termCells]
    | succ i =>
      have := ih i (by simpa using h)
      have e : (i + 1) * 2 = i * 2 + 1 + 1 := by omega
      rw [e]
      simpa [termCells] using this
theorem termCells_length (es : List Term) : (es.flatMap termCells).length = es.length * 2 := by
  induction es with
  | nil => rfl
  | cons x es ih => simp [ih, termCells]; omega
theorem termCells_one (es : List Term) : ∀ u ∈ es.flatMap termCells, u.oneCell' = true := by
  intro u hu
  simp only [List.mem_flatMap, termCells] at hu
  obtain ⟨t, _, h⟩ := hu
  simp at h
  rcases h with h | h <;> subst h <;> rfl
/-- A block that holds terms. -/
theorem terms_of_block {w : World} {g : Nat} {es : List Term} {t : TypeId} {fr : Nat × Nat} (h : w.heap[g]? = some (.cells (es.flatMap termCells).toArray t fr)) : TermsR w (some ⟨g, 0, none⟩) es.length es := by
  refine ⟨rfl, fun i x hx => ⟨g, 0, rfl, ?_, ?_, ?_⟩⟩
  · rcases Nat.lt_or_ge g w.heap.size with hlt | hge
    · exact hlt
    · rw [Array.getElem?_eq_none hge] at h; cases h
  · have := (termCells_at es i x hx).1
    simp [World.cell?, h, this]
  · have := (termCells_at es i x hx).2
    simp [World.cell?, h, this]
theorem own_terms {w : World} {base : Nat} {e : TypeId} {A : Option Addr} {n c : Nat} {es : List Term} (h : w.ownsRow base e 2 (.slice A n c) n (es.flatMap termCells)) : TermsR w A n es := by
  refine ⟨by have := h.1; rw [termCells_length] at this; omega, fun i x hx => ?_⟩
  obtain ⟨h1, h2⟩ := termCells_at es i x hx
  obtain ⟨g, e1, _, e3, e4, _⟩ := own_at h h1
  obtain ⟨g', e1', _, _, e4', _⟩ := own_at h h2
  rw [e1] at e1'
  injection e1' with e1'
  injection e1' with e1'
  subst e1'
  exact ⟨g, 0, e1, e3, by simpa using e4, by simpa using e4'⟩

theorem TermsR.cells {w : World} {A : Option Addr} {n : Nat} {es : List Term} (h : TermsR w A n es) : CellsR w 2 A n (es.flatMap termCells) := by
  refine ⟨by rw [termCells_length, h.1], fun j u hu => ?_⟩
  have hlt : j < es.length * 2 := by
    have := (List.getElem?_eq_some_iff.1 hu).1
    rw [termCells_length] at this; exact this
  have hi : j / 2 < es.length := by omega
  obtain ⟨b, o, rfl, _, h1, h2⟩ := h.at_ (j / 2) hi
  obtain ⟨g1, g2⟩ := termCells_at es (j / 2) es[j / 2] (List.getElem?_eq_getElem hi)
  refine ⟨b, o, rfl, ?_⟩
  rcases Nat.mod_two_eq_zero_or_one j with hm | hm
  · have e : j = j / 2 * 2 := by omega
    rw [← e] at h1 g1
    rw [g1] at hu
    rw [h1]; exact hu
  · have e : j = j / 2 * 2 + 1 := by omega
    have e2 : o + j / 2 * 2 + 1 = o + j := by omega
    rw [← e] at g2
    rw [e2] at h2
    rw [g2] at hu
    rw [h2]; exact hu

theorem light_any (A : Option Addr) (n c : Nat) (w : World) :
    Calls Try.prog 8 #[.slice A n c] w fun e w' => e = .returned (.bool (decide (n ≤ 250))) ∧ w = w' := by
  go_enter Try.func8, Try.ntmps8
  go_wp2
  go_ret
  refine ⟨ret_bool ?_, rfl⟩
  rw [Bool.eq_iff_iff]; simp; omega

def modF (k n : Int) : Int := k % n
theorem modF_tmod (k n : Int) : modF k n = (k.tmod n) % n := by
  have h := Int.mul_tdiv_add_tmod k n
  unfold modF
  generalize k.tmod n = r at *
  rw [← h, Int.add_comm, Int.add_mul_emod_self_left]
theorem mod_any (k n : Int) (w : World) (h1 : 1 ≤ n) (h2 : n ≤ 1000000) :
    Calls Try.prog 13 #[.int .i64 k, .int .i64 n] w fun e w' => e = .returned (.int .i64 (modF k n)) ∧ w = w' := by
  have hz : (n == 0) = false := by simp; omega
  go_enter Try.func13, Try.ntmps13
  have t1 := Int.tmod_lt_of_pos k (show 0 < n by omega)
  have t2 := Int.lt_tmod_of_pos k (show 0 < n by omega)
  have t3 := Lib.hid (modF_tmod k n)
  go_wp2
  · go_ret
    refine ⟨ret_int ?_, rfl⟩
    have hneg : k.tmod n < 0 := by assumption
    rw [t3.out, ← Int.add_emod_right, Int.emod_eq_of_lt (by omega) (by omega)]
  · go_ret
    refine ⟨ret_int ?_, rfl⟩
    have hneg : 0 ≤ k.tmod n := by assumption
    rw [t3.out, Int.emod_eq_of_lt (by omega) (by omega)]

theorem arity_any (op : Int) (w : World) :
    Calls Try.prog 37 #[.int .i64 op] w fun e w' => e = .returned (.int .i64 (arity op)) ∧ w = w' := by
  go_enter Try.func37, Try.ntmps37
  go_wp2
  all_goals (go_ret; refine ⟨ret_int ?_, rfl⟩; unfold arity; repeat' split) <;> omega

theorem refArity_any (op : Int) (w : World) :
    Calls Try.prog 41 #[.int .i64 op] w fun e w' => e = .returned (.int .i64 (arity op)) ∧ w = w' := by
  go_enter Try.func41, Try.ntmps41
  go_wp2
  all_goals (try simp only [beq_iff_eq, beq_eq_false_iff_ne] at *) 
  all_goals (go_ret; refine ⟨ret_int ?_, rfl⟩; unfold arity; repeat' split) <;> omega

theorem aggregate_any (op : Int) (w : World) :
    Calls Try.prog 39 #[.int .i64 op] w fun e w' => e = .returned (.bool (aggregate op)) ∧ w = w' := by
  go_enter Try.func39, Try.ntmps39
  go_wp2
  all_goals (go_ret; refine ⟨ret_bool ?_, rfl⟩; unfold aggregate; rw [Bool.eq_iff_iff]; simp) <;> omega

theorem refAggregate_any (op : Int) (w : World) :
    Calls Try.prog 18 #[.int .i64 op] w fun e w' => e = .returned (.bool (aggregate op)) ∧ w = w' := by
  go_enter Try.func18, Try.ntmps18
  go_wp2
  all_goals (go_ret; refine ⟨ret_bool ?_, rfl⟩; unfold aggregate; rw [Bool.eq_iff_iff]; simp) <;> omega

set_option maxHeartbeats 400000 in
theorem end_any (A : Option Addr) (n c : Nat) (es : List Term) (p : Int) (w : World) (h : TermsR w A n es) (hl : n ≤ 1000000) :
    Calls Try.prog 33 #[.slice A n c, .int .i64 p] w fun e w' => e = .returned (.int .i64 (endF es p)) ∧ w = w' := by
  obtain rfl := h.1
  have H := Lib.hid h; clear h
  by_cases hp : p < 0 ∨ es.length ≤ p
  · have hfin : endF es p = -1 := by unfold endF; rw [if_pos hp]
    rw [hfin]; clear hfin
    go_enter Try.func33, Try.ntmps33
    rcases hp with hp | hp
    · go_wp2
      go_ret
      exact ⟨rfl, rfl⟩
    · have h0 : 0 ≤ p := by omega
      go_wp2
      go_ret
      exact ⟨rfl, rfl⟩
  · have h1 : 0 ≤ p := by omega
    have h2 : p < es.length := by omega
    have hfin : endF es p = scanAt es p.toNat 1 := by unfold endF; rw [if_neg hp]
    rw [hfin]; clear hfin hp
    obtain ⟨q, rfl⟩ := Int.eq_ofNat_of_zero_le h1
    rw [Int.toNat_natCast]
    generalize hT : scanAt es q 1 = T
    have hd1 : decide ((q : Int) < 0) = false := by simp
    have hd2 : decide (es.length ≤ q) = false := by simp; omega
    have HT := Lib.hid hT; clear hT
    go_enter Try.func33, Try.ntmps33
    go_wp2
    go_loopg [1, 5] (es.length - q) (fun g a m wr => ∃ (k : Nat) (z : Int), k ≤ es.length ∧ g = es.length - k ∧ 1 ≤ z ∧ z ≤ 1 + 2 * k ∧ Hid (scanAt es k z = T) ∧ a = .int .i64 k ∧ m = .int .i64 z ∧ w = wr)
    case atStart => exact ⟨q, 1, by omega, rfl, by omega, by omega, HT, rfl, rfl, rfl⟩
    case round =>
      obtain ⟨k, z, hk, rfl, hz1, hz2, HK, rfl, rfl, rfl⟩ := hrel
      by_cases hlt : k < es.length
      · obtain ⟨b, o, rfl, hb, hc1, hc2⟩ := H.out.at_ k hlt
        have ha := arity_le es[k].op
        obtain ⟨ha1, ha2⟩ := ha
        go_wp2_with (go_at_call 37; refine (arity_any _ _).mono ?_; rintro e w' ⟨rfl, rfl⟩)
        · go_ret
          exact ⟨ret_int (by rw [← HK.out, scanAt_bad hlt (by assumption)]), rfl⟩
        · have hh : (z + (arity es[k].op - 1) == 0) = true := by assumption
          go_ret
          refine ⟨ret_int ?_, rfl⟩
          rw [← HK.out, scanAt_end hlt (by assumption) (by simpa using hh)]
        · have hh : (z + (arity es[k].op - 1) == 0) = false := by assumption
          have hh' : z + (arity es[k].op - 1) ≠ 0 := by simpa using hh
          go_roundg (es.length - (k + 1))
          case rel => exact ⟨k + 1, z + (arity es[k].op - 1), by omega, rfl, by omega, by omega, by have := HK.out; rw [scanAt_next hlt (by assumption) hh'] at this; exact this, by go_num, rfl, rfl⟩
          case measure => omega
      · go_wp2
        go_ret
        exact ⟨ret_int (by rw [← HK.out, scanAt_done (by omega)]), rfl⟩

set_option maxHeartbeats 400000 in
theorem refEnd_any (A : Option Addr) (n c : Nat) (es : List Term) (p : Int) (w : World) (h : TermsR w A n es) (hl : n ≤ 1000000) :
    Calls Try.prog 27 #[.slice A n c, .int .i64 p] w fun e w' => e = .returned (.int .i64 (endF es p)) ∧ w = w' := by
  obtain rfl := h.1
  have H := Lib.hid h; clear h
  by_cases hp : p < 0 ∨ es.length ≤ p
  · have hfin : endF es p = -1 := by unfold endF; rw [if_pos hp]
    rw [hfin]; clear hfin
    go_enter Try.func27, Try.ntmps27
    rcases hp with hp | hp
    · go_wp2
      go_ret
      exact ⟨rfl, rfl⟩
    · have h0 : 0 ≤ p := by omega
      go_wp2
      go_ret
      exact ⟨rfl, rfl⟩
  · have h1 : 0 ≤ p := by omega
    have h2 : p < es.length := by omega
    have hfin : endF es p = scanAt es p.toNat 1 := by unfold endF; rw [if_neg hp]
    rw [hfin]; clear hfin hp
    obtain ⟨q, rfl⟩ := Int.eq_ofNat_of_zero_le h1
    rw [Int.toNat_natCast]
    generalize hT : scanAt es q 1 = T
    have hd1 : decide ((q : Int) < 0) = false := by simp
    have hd2 : decide (es.length ≤ q) = false := by simp; omega
    have HT := Lib.hid hT; clear hT
    go_enter Try.func27, Try.ntmps27
    go_wp2
    go_loopg [5, 6] (es.length - q) (fun g m a wr => ∃ (k : Nat) (z : Int), k ≤ es.length ∧ g = es.length - k ∧ 1 ≤ z ∧ z ≤ 1 + 2 * k ∧ Hid (scanAt es k z = T) ∧ a = .int .i64 k ∧ m = .int .i64 z ∧ w = wr)
    case atStart => exact ⟨q, 1, by omega, rfl, by omega, by omega, HT, rfl, rfl, rfl⟩
    case round =>
      obtain ⟨k, z, hk, rfl, hz1, hz2, HK, rfl, rfl, rfl⟩ := hrel
      by_cases hlt : k < es.length
      · obtain ⟨b, o, rfl, hb, hc1, hc2⟩ := H.out.at_ k hlt
        have ha := arity_le es[k].op
        obtain ⟨ha1, ha2⟩ := ha
        go_wp2_with (go_at_call 41; refine (refArity_any _ _).mono ?_; rintro e w' ⟨rfl, rfl⟩)
        · go_ret
          exact ⟨ret_int (by rw [← HK.out, scanAt_bad hlt (by assumption)]), rfl⟩
        · have hh : (z + (arity es[k].op - 1) == 0) = true := by assumption
          go_ret
          refine ⟨ret_int ?_, rfl⟩
          rw [← HK.out, scanAt_end hlt (by assumption) (by simpa using hh)]
        · have hh : (z + (arity es[k].op - 1) == 0) = false := by assumption
          have hh' : z + (arity es[k].op - 1) ≠ 0 := by simpa using hh
          go_roundg (es.length - (k + 1))
          case rel => exact ⟨k + 1, z + (arity es[k].op - 1), by omega, rfl, by omega, by omega, by have := HK.out; rw [scanAt_next hlt (by assumption) hh'] at this; exact this, by go_num, rfl, rfl⟩
          case measure => omega
      · go_wp2
        go_ret
        exact ⟨ret_int (by rw [← HK.out, scanAt_done (by omega)]), rfl⟩


end Go.Proofs.Ytnhhedecaejgcaa
