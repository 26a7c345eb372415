/- Contracts of the verifier's small methods. -/
import Derived.Test.YtnhhedecaejgcaaP12v
import Derived.Test.YtnhhedecaejgcaaW12a
namespace Go.Proofs.Ytnhhedecaejgcaa
open Go.RowKit

theorem loop_info : (Try.prog.info? 78).map (fun i => (i.zero, i.size, i.bytes)) = some (some (.agg #[.int .i64 0, .int .i64 0, .int .i64 0]), 3, 24) := by kernel_rfl

def trCells (t : Tr) : List Value := [.int .i64 t.1, .int .i64 t.2.1, .int .i64 t.2.2]
theorem trCells_at (ts : List Tr) (i : Nat) (t : Tr) (h : ts[i]? = some t) : (ts.flatMap trCells)[i * 3]? = some (.int .i64 t.1) ∧ (ts.flatMap trCells)[i * 3 + 1]? = some (.int .i64 t.2.1) ∧ (ts.flatMap trCells)[i * 3 + 2]? = some (.int .i64 t.2.2) := by
  induction ts generalizing i with
  | nil => simp at h
  | cons x es ih =>
    cases i with
    | zero => simp at h; subst h; simp [trCells]
    | succ i =>
      have := ih i (by simpa using h)
      have e : (i + 1) * 3 = i * 3 + 1 + 1 + 1 := by omega
      rw [e]
      simpa [trCells] using this
theorem trCells_length (ts : List Tr) : (ts.flatMap trCells).length = ts.length * 3 := by
  induction ts with
  | nil => rfl
  | cons x es ih => simp [ih, trCells]; omega

def verCells (L : Value) (v : Int) (H O : Value) (most : Int) : Array Value :=
  #[L, .int .i64 0, .int .i64 (-1), .int .i64 (-1073741824), .int .i64 1073741824, .int .i64 0, .int .i64 (v - 1), .int .i64 0, .int .i64 (v - 1), .int .i64 6, .int .i64 17, .int .i64 18, .int .i64 19, .int .i64 30, .int .i64 42, .int .i64 0, .int .i64 1024, .int .i64 0, .int .i64 1024, .int .i64 0, .int .i64 1024, .int .i64 20, .int .i64 29, H, O, .int .i64 most]

/-- The verifier in memory. -/
structure VerSt (w0 : World) (B : Nat) (w : World) (L : Option Addr) (n c : Nat) (v : Int) (H : Option Addr) (hc : Nat) (hs : List Int) (O : Option Addr) (oc : Nat) (tr : List Tr) (most : Int) : Prop where
  base : w0.heap.size ≤ B
  blk : Blk w B (verCells (.slice L n c) v (.slice H hs.length hc) (.slice O tr.length oc) most) 55
  ints : w.ownsRow w0.heap.size 3 1 (.slice H hs.length hc) hs.length (hs.map (Value.int .i64))
  loops : w.ownsRow w0.heap.size 78 3 (.slice O tr.length oc) tr.length (tr.flatMap trCells)
  bel : Bel w0 w

theorem VerSt.keep {w0 : World} {B : Nat} {w w' : World} {L : Option Addr} {n c : Nat} {v : Int} {H : Option Addr} {hc : Nat} {hs : List Int} {O : Option Addr} {oc : Nat} {tr : List Tr} {most : Int} (h : VerSt w0 B w L n c v H hc hs O oc tr most) (k : Bel w w') : VerSt w0 B w' L n c v H hc hs O oc tr most :=
  ⟨h.base, h.blk.keep k, k.owns h.ints, k.owns h.loops, h.bel.trans k⟩

theorem needsLoop_any (p : Value) (x : Term) (w : World) :
    Calls Try.prog 45 #[p, .agg #[.int .i64 x.op, .int .i64 x.arg]] w fun e w' => e = .returned (.bool (needsF x)) ∧ Bel w w' := by
  obtain ⟨op, arg⟩ := x
  go_enter Try.func45, Try.ntmps45
  go_wp2
  all_goals
    go_ret
    refine ⟨ret_bool ?_, (Bel.refl _).alloc _⟩
    (try simp only [beq_iff_eq, beq_eq_false_iff_ne, ne_eq] at *)
    unfold needsF
    rw [Bool.eq_iff_iff]
    simp [*]

set_option maxRecDepth 100000 in
set_option maxHeartbeats 2000000 in
theorem known_any (B : Nat) (L : Value) (v : Int) (H O : Value) (most : Int) (x : Term) (w : World) (h : Blk w B (verCells L v H O most) 55) :
    Calls Try.prog 44 #[.pointer (some ⟨B, 0, none⟩), .agg #[.int .i64 x.op, .int .i64 x.arg]] w fun e w' => e = .returned (.bool (knownF x v)) ∧ Bel w w' := by
  obtain ⟨op, arg⟩ := x
  have hlt := h.lt
  have HB := Lib.hid h; clear h
  by_cases hr : 1 ≤ op ∧ op ≤ 10
  · obtain ⟨h1, h2⟩ := hr
    by_cases hn : op = 4 ∧ arg = 12
    · obtain ⟨rfl, rfl⟩ := hn
      go_enter Try.func44, Try.ntmps44
      go_wp2
      go_ret
      exact ⟨ret_bool (by simp [knownF]), (Bel.refl _).alloc _⟩
    · have hnb : op = 4 → (arg == 12) = false := by intro h; simp; intro h3; exact hn ⟨h, h3⟩
      have HN := Lib.hid hnb; clear hnb
      have HN2 := Lib.hid hn; clear hn
      obtain ⟨k, rfl⟩ := Int.eq_ofNat_of_zero_le (show 0 ≤ op by omega)
      have hk1 : 1 ≤ k := by omega
      have hk2 : k ≤ 10 := by omega
      obtain ⟨lo, hi, e1, e2, c1, c2⟩ : ∃ lo hi, (boundsV v).getD (k * 2) 0 = lo ∧ (boundsV v).getD (k * 2 + 1) 0 = hi ∧ w.cell? ⟨B, 1 + k * 2, none⟩ = some (.int .i64 lo) ∧ w.cell? ⟨B, 1 + k * 2 + 1, none⟩ = some (.int .i64 hi) := by
        rcases (show k = 1 ∨ k = 2 ∨ k = 3 ∨ k = 4 ∨ k = 5 ∨ k = 6 ∨ k = 7 ∨ k = 8 ∨ k = 9 ∨ k = 10 by omega) with h | h | h | h | h | h | h | h | h | h <;> subst h <;> exact ⟨_, _, rfl, rfl, HB.out.cell _ rfl, HB.out.cell _ rfl⟩
      have HF : Hid (knownF ⟨(k : Int), arg⟩ v = (decide (lo ≤ arg) && decide (arg ≤ hi))) := by
        show knownF ⟨(k : Int), arg⟩ v = (decide (lo ≤ arg) && decide (arg ≤ hi))
        have hb : (decide ((k : Int) = 4) && decide (arg = 12)) = false := by
          rw [Bool.eq_false_iff]; intro hh
          have := HN2.out
          simp at hh this
          omega
        unfold knownF
        simp only []
        rw [hb, Int.toNat_natCast, e1, e2, show decide (1 ≤ (k : Int) ∧ (k : Int) ≤ 10) = true by simp; omega]
        rfl
      clear e1 e2
      have hd1 : decide ((k : Int) < 1) = false := by simp; omega
      have hd2 : decide (10 < (k : Int)) = false := by simp; omega
      have hk11 : k < 11 := by omega
      by_cases hlo : lo ≤ arg
      · have hdl : decide (lo ≤ arg) = true := by simpa using hlo
        by_cases h4 : k = 4
        · subst h4
          have h12 := HN.out rfl
          go_enter Try.func44, Try.ntmps44
          go_wp2
          go_quiet (fail)
          go_wp2
          go_ret
          refine ⟨ret_bool ?_, ((Bel.refl _).alloc _).drewN _⟩
          rw [HF.out]; simp [hlo]
        · have h4b : ((k : Int) == 4) = false := by simp; omega
          go_enter Try.func44, Try.ntmps44
          go_wp2
          go_quiet (fail)
          go_wp2
          go_ret
          refine ⟨ret_bool ?_, ((Bel.refl _).alloc _).drewN _⟩
          rw [HF.out]; simp [hlo]
      · have hdl : decide (lo ≤ arg) = false := by simpa using hlo
        by_cases h4 : k = 4
        · subst h4
          have h12 := HN.out rfl
          go_enter Try.func44, Try.ntmps44
          go_wp2
          go_quiet (fail)
          go_wp2
          go_ret
          refine ⟨ret_bool ?_, ((Bel.refl _).alloc _).drewN _⟩
          rw [HF.out, hdl]; rfl
        · have h4b : ((k : Int) == 4) = false := by simp; omega
          go_enter Try.func44, Try.ntmps44
          go_wp2
          go_quiet (fail)
          go_wp2
          go_ret
          refine ⟨ret_bool ?_, ((Bel.refl _).alloc _).drewN _⟩
          rw [HF.out, hdl]; rfl
  · have HF : Hid (knownF ⟨op, arg⟩ v = false) := by
      show knownF ⟨op, arg⟩ v = false
      unfold knownF
      simp only []
      rw [show decide (1 ≤ op ∧ op ≤ 10) = false by simpa using hr]; rfl
    by_cases h1 : op < 1
    · go_enter Try.func44, Try.ntmps44
      go_wp2
      go_ret
      exact ⟨ret_bool HF.out.symm, (Bel.refl _).alloc _⟩
    · have h2 : 10 < op := by omega
      have h1' : 1 ≤ op := by omega
      clear h1 hr
      go_enter Try.func44, Try.ntmps44
      go_wp2
      go_ret
      exact ⟨ret_bool HF.out.symm, (Bel.refl _).alloc _⟩

theorem innerF_nil (n : Int) : innerF [] n = (-1, n, 0) := rfl
theorem innerF_last {tr : List Tr} (h : 0 < tr.length) (n : Int) : tr[tr.length - 1]? = some (innerF tr n) := by
  unfold innerF
  rw [← List.getLast?_eq_getElem?]
  cases tr with
  | nil => simp at h
  | cons x l => rfl

set_option maxRecDepth 100000 in
set_option maxHeartbeats 2000000 in
theorem innermost_any {w0 : World} {B : Nat} {w : World} {L : Option Addr} {n c : Nat} {v : Int} {H : Option Addr} {hc : Nat} {hs : List Int} {O : Option Addr} {oc : Nat} {tr : List Tr} {most : Int} (h : VerSt w0 B w L n c v H hc hs O oc tr most) :
    Calls Try.prog 58 #[.pointer (some ⟨B, 0, none⟩)] w fun e w' => e = .returned (.agg #[.int .i64 (innerF tr n).1, .int .i64 (innerF tr n).2.1, .int .i64 (innerF tr n).2.2]) ∧ Bel w w' := by
  have hlt := h.blk.lt
  have c24 := h.blk.cell 24 (v := .slice O tr.length oc) rfl
  have c0 := h.blk.cell 0 (v := .slice L n c) rfl
  rcases Nat.eq_zero_or_pos tr.length with h0 | h0
  · obtain rfl : tr = [] := List.eq_nil_of_length_eq_zero h0
    have HS := Lib.hid h; clear h h0
    go_enter Try.func58, Try.ntmps58
    go_wp2
    exact bodyPost_ret (v := .agg #[.int .i64 (-1), .int .i64 n, .int .i64 0]) (by simp [results, Try.results58, go_sem]) rfl ⟨rfl, (Bel.refl _).alloc _⟩
  · have hl := innerF_last h0 (n : Int)
    obtain ⟨g1, g2, g3⟩ := trCells_at tr _ _ hl
    obtain ⟨g, rfl, hg0, hgl, k1, _⟩ := own_at h.loops g1
    obtain ⟨g', e', _, _, k2, _⟩ := own_at h.loops g2
    obtain rfl : g = g' := by simpa using e'
    obtain ⟨g', e', _, _, k3, _⟩ := own_at h.loops g3
    obtain rfl : g = g' := by simpa using e'
    clear e' g1 g2 g3 hl
    generalize innerF tr n = I at *
    obtain ⟨a1, a2, a3⟩ := I
    have HS := Lib.hid h; clear h
    obtain ⟨m, hm⟩ : ∃ m, tr.length = m + 1 := ⟨tr.length - 1, by omega⟩
    have hmx := own_cap HS.out.loops
    unfold maxLen at hmx
    rw [hm] at c24 k1 k2 k3 hmx
    have hd : ((m : Int) + 1 == 0) = false := by simp; omega
    have hm2 : m ≤ 9223372036854775806 := by omega
    simp only [Nat.add_sub_cancel] at k1 k2 k3
    have hw1 : IntKind.i64.wrap ((m : Int) + 1 - 1) = m := by rw [IntWalk.i64_in _ (by omega)]; omega
    clear h0 hm hmx
    go_enter Try.func58, Try.ntmps58
    go_wp2
    go_region
    all_goals
      go_wp2
      exact bodyPost_ret (v := .agg #[.int .i64 a1, .int .i64 a2, .int .i64 a3]) (by simp [results, Try.results58, go_sem]) rfl ⟨rfl, ((Bel.refl _).alloc _).drew⟩

end Go.Proofs.Ytnhhedecaejgcaa
