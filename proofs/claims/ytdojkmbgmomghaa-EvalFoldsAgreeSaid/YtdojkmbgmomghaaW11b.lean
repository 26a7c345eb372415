/- Contracts of Unary and Binary of the program and of the reference. -/
import Derived.Test.YtdojkmbgmomghaaW11a
namespace Go.Proofs.Ytdojkmbgmomghaa
open Go.RowKit

theorem inRange_any (A : Option Addr) (n c : Nat) (l : List Int) (w : World) (h : IntsR w A n l) (hl : n ≤ 1000000) :
    Calls Try.prog 21 #[.slice A n c] w fun e w' => e = .returned (.bool (l.all numB)) ∧ w = w' := by
  obtain rfl := h.1
  have H := Lib.hid h; clear h
  go_enter Try.func21, Try.ntmps21
  go_wp2_with fail
  go_loopg [7] l.length (fun g iv wr => ∃ k : Nat, k + g = l.length ∧ iv = .int .i64 k ∧ Hid (l.all numB = (l.drop k).all numB) ∧ w = wr)
  case atStart => exact ⟨0, by omega, rfl, rfl, rfl⟩
  case round =>
    obtain ⟨k, hk, rfl, HK, rfl⟩ := hrel
    by_cases hlt : k < l.length
    · obtain ⟨b, o, rfl, hb, hc⟩ := H.out.at_ k hlt
      have hstep : Hid ((l.drop k).all numB = (numB l[k] && (l.drop (k + 1)).all numB)) := by
        show (l.drop k).all numB = _
        rw [List.drop_eq_getElem_cons hlt]; rfl
      by_cases h1 : l[k] < -1073741824
      · have hd : decide (l[k] < -1073741824) = true := by simpa using h1
        have HN : Hid (numB l[k] = false) := by show numB l[k] = false; unfold numB; exact decide_eq_false (by omega)
        clear h1
        go_wp2_with fail
        go_ret
        exact ⟨ret_bool (by rw [HK.out, hstep.out, HN.out]; rfl), rfl⟩
      · have hd : decide (l[k] < -1073741824) = false := by simpa using h1
        by_cases h2 : 1073741824 < l[k]
        · have HN : Hid (numB l[k] = false) := by show numB l[k] = false; unfold numB; exact decide_eq_false (by omega)
          go_wp2_with fail
          go_ret
          exact ⟨ret_bool (by rw [HK.out, hstep.out, HN.out]; rfl), rfl⟩
        · have HN : Hid (numB l[k] = true) := by show numB l[k] = true; unfold numB; exact decide_eq_true (by omega)
          have h2' : l[k] ≤ 1073741824 := by omega
          clear h2
          go_wp2_with fail
          go_roundg (gk - 1)
          case rel => exact ⟨k + 1, by omega, by go_num, by show _ = _; rw [HK.out, hstep.out, HN.out]; rfl, rfl⟩
          case measure => omega
    · go_wp2_with fail
      go_ret
      exact ⟨ret_bool (by rw [HK.out, List.drop_eq_nil_of_le (by omega)]; rfl), rfl⟩
theorem ints_of_block {w : World} {g : Nat} {l : List Int} {t : TypeId} {fr : Nat × Nat} (h : w.heap[g]? = some (.cells (l.map (Value.int .i64)).toArray t fr)) : IntsR w (some ⟨g, 0, none⟩) l.length l := by
  refine ⟨rfl, fun i x hx => ⟨g, 0, rfl, ?_, ?_⟩⟩
  · rcases Nat.lt_or_ge g w.heap.size with hlt | hge
    · exact hlt
    · rw [Array.getElem?_eq_none hge] at h; cases h
  · simp [IntAt, World.cell?, h, hx]
theorem ints_one (w : World) (x : Int) (t : TypeId) : IntsR (w.alloc (.cells #[.int .i64 x] t)) (some ⟨w.heap.size, 0, none⟩) 1 [x] := ints_of_block (l := [x]) (heap_new w _)
theorem ints_two (w : World) (x y : Int) (t : TypeId) : IntsR (w.alloc (.cells #[.int .i64 x, .int .i64 y] t)) (some ⟨w.heap.size, 0, none⟩) 2 [x, y] := ints_of_block (l := [x, y]) (heap_new w _)

set_option maxHeartbeats 1000000 in
theorem evalUnary_any (op a : Int) (w : World) : Calls Try.prog 16 #[.int .i64 op, .int .i64 a] w fun e w' => e = .returned (.tuple #[.int .i64 (unaryR op a).1, .int .i64 (unaryR op a).2]) ∧ Bel w w' := by
  by_cases hop : op ≠ 18 ∧ op ≠ 19
  · have HF : Hid (unaryR op a = (0, 2)) := by show unaryR op a = _; unfold unaryR; rw [if_pos (.inl hop)]
    have h1 : (op != 18) = true := by simpa using hop.1
    have h2 : (op != 19) = true := by simpa using hop.2
    clear hop
    go_enter Try.func16, Try.ntmps16
    go_wp2_with fail
    go_ret2
    exact ⟨ret_pair HF.out, Bel.refl _⟩
  · have hnb : ∀ b, [a].all numB = b → numB a = b := by intro b h; simpa using h
    cases hn : numB a with
    | false =>
      have HF : Hid (unaryR op a = (0, 2)) := by show unaryR op a = _; unfold unaryR; rw [if_pos (.inr hn)]
      have hop' : op = 18 ∨ op = 19 := by omega
      clear hop
      have hall : [a].all numB = false := by simpa using hn
      have HI := Lib.hid (ints_one w a 3)
      rcases hop' with h | h
      all_goals
        subst h
        go_enter Try.func16, Try.ntmps16
        go_wp2_with (go_at_call 21; refine (inRange_any _ _ _ [a] _ HI.out (by decide)).mono ?_; rintro e w' ⟨rfl, rfl⟩; rw [hall])
        go_ret2
        exact ⟨ret_pair HF.out, (Bel.refl _).alloc _⟩
    | true =>
      have HF : Hid (unaryR op a = (unaryF op a, 0)) := by show unaryR op a = _; unfold unaryR; rw [if_neg (by rw [hn]; simp; omega)]
      have hop' : op = 18 ∨ op = 19 := by omega
      clear hop
      have hall : [a].all numB = true := by simpa using hn
      have HI := Lib.hid (ints_one w a 3)
      have HN := Lib.hid (num_of_numB hn)
      rcases hop' with h | h
      all_goals
        subst h
        go_enter Try.func16, Try.ntmps16
        go_wp2_with (first
          | (go_at_call 21; refine (inRange_any _ _ _ [a] _ HI.out (by decide)).mono ?_; rintro e w' ⟨rfl, rfl⟩; rw [hall])
          | (go_at_call 26; refine (unary_any _ _ _ HN.out).mono ?_; rintro e w' ⟨rfl, rfl⟩))
        go_ret2
        exact ⟨ret_pair HF.out, (Bel.refl _).alloc _⟩

set_option maxHeartbeats 1000000 in
theorem refUnary_any (op a : Int) (w : World) : Calls Try.prog 17 #[.int .i64 op, .int .i64 a] w fun e w' => e = .returned (.tuple #[.int .i64 (unaryR op a).1, .int .i64 (unaryR op a).2]) ∧ w = w' := by
  by_cases hop : op ≠ 18 ∧ op ≠ 19
  · have HF : Hid (unaryR op a = (0, 2)) := by show unaryR op a = _; unfold unaryR; rw [if_pos (.inl hop)]
    have h1 : (op != 18) = true := by simpa using hop.1
    have h2 : (op != 19) = true := by simpa using hop.2
    clear hop
    go_enter Try.func17, Try.ntmps17
    go_wp2_with fail
    go_ret2
    exact ⟨ret_pair HF.out, rfl⟩
  · cases hn : numB a with
    | false =>
      have HF : Hid (unaryR op a = (0, 2)) := by show unaryR op a = _; unfold unaryR; rw [if_pos (.inr hn)]
      have hop' : op = 18 ∨ op = 19 := by omega
      clear hop
      rcases hop' with h | h
      all_goals
        subst h
        go_enter Try.func17, Try.ntmps17
        go_wp2_with (go_at_call 19; refine (refNumber_any _ _).mono ?_; rintro e w' ⟨rfl, rfl⟩; rw [hn])
        go_ret2
        exact ⟨ret_pair HF.out, rfl⟩
    | true =>
      have HF : Hid (unaryR op a = (unaryF op a, 0)) := by show unaryR op a = _; unfold unaryR; rw [if_neg (by rw [hn]; simp; omega)]
      have hop' : op = 18 ∨ op = 19 := by omega
      clear hop
      have HN := num_of_numB hn
      unfold Num at HN
      obtain ⟨hn1, hn2⟩ := HN
      rcases hop' with h | h
      all_goals
        subst h
        go_enter Try.func17, Try.ntmps17
        go_wp2_with (first
          | (go_at_call 19; refine (refNumber_any _ _).mono ?_; rintro e w' ⟨rfl, rfl⟩; rw [hn])
          | (go_at_call 27; refine (refTruth_any _ _).mono ?_; rintro e w' ⟨rfl, rfl⟩))
        go_ret2
        exact ⟨ret_pair HF.out, rfl⟩

set_option maxHeartbeats 1000000 in
theorem apply_any (op a b : Int) (w : World) (h1 : 30 ≤ op) (h2 : op ≤ 42) (ha : Num a) (hb : Num b) : Calls Try.prog 28 #[.int .i64 op, .int .i64 a, .int .i64 b] w fun e w' => e = .returned (.int .i64 (applyF op a b)) ∧ w = w' := by
  have hq := quotF_bound a b ha
  have hm := mul_bound a b ha (by unfold Num at hb; omega)
  have hm2 := mul_bound b (quotF a b) hb (by omega)
  obtain ⟨hq1, hq2⟩ := hq
  obtain ⟨hm1, hm3⟩ := hm
  obtain ⟨hm4, hm5⟩ := hm2
  have HA := Lib.hid ha
  have HB := Lib.hid hb
  unfold Num at ha hb
  obtain ⟨ha1, ha2⟩ := ha
  obtain ⟨hb1, hb2⟩ := hb
  by_cases h32 : op = 32
  · subst h32
    by_cases h0 : b = 0
    · subst h0
      go_enter Try.func28, Try.ntmps28
      go_wp2
      go_ret
      exact ⟨rfl, rfl⟩
    · have hz : (b == 0) = false := by simpa using h0
      have HF : Hid (applyF 32 a b = (a - b * quotF a b)) := by
        show applyF 32 a b = _
        unfold applyF; simp [h0]
      clear h0
      go_enter Try.func28, Try.ntmps28
      go_wp2_with (go_at_call 39; refine (refQuotient_any _ _ _ HA.out HB.out).mono ?_; rintro e w' ⟨rfl, rfl⟩)
      go_ret
      exact ⟨ret_int HF.out.symm, rfl⟩
  · by_cases h4 : 41 ≤ op
    · have h4' : op = 41 ∨ op = 42 := by omega
      clear h32 h1 h2 h4
      by_cases h0 : a = 0
      · have hz : (a != 0) = false := by simpa using h0
        rcases h4' with h | h
        · subst h
          have HF : Hid (applyF 41 a b = truthI false) := by show truthI (a != 0 && b != 0) = _; rw [hz]; rfl
          clear h0
          go_enter Try.func28, Try.ntmps28
          go_wp2_with (go_at_call 27; refine (refTruth_any _ _).mono ?_; rintro e w' ⟨rfl, rfl⟩)
          go_ret
          exact ⟨ret_int HF.out.symm, rfl⟩
        · subst h
          have HF : Hid (applyF 42 a b = truthI (b != 0)) := by show truthI (a != 0 || b != 0) = _; rw [hz]; rfl
          clear h0
          go_enter Try.func28, Try.ntmps28
          go_wp2_with (go_at_call 27; refine (refTruth_any _ _).mono ?_; rintro e w' ⟨rfl, rfl⟩)
          go_ret
          exact ⟨ret_int HF.out.symm, rfl⟩
      · have hz : (a != 0) = true := by simpa using h0
        rcases h4' with h | h
        · subst h
          have HF : Hid (applyF 41 a b = truthI (b != 0)) := by show truthI (a != 0 && b != 0) = _; rw [hz]; rfl
          clear h0
          go_enter Try.func28, Try.ntmps28
          go_wp2_with (go_at_call 27; refine (refTruth_any _ _).mono ?_; rintro e w' ⟨rfl, rfl⟩)
          go_ret
          exact ⟨ret_int HF.out.symm, rfl⟩
        · subst h
          have HF : Hid (applyF 42 a b = truthI true) := by show truthI (a != 0 || b != 0) = _; rw [hz]; rfl
          clear h0
          go_enter Try.func28, Try.ntmps28
          go_wp2_with (go_at_call 27; refine (refTruth_any _ _).mono ?_; rintro e w' ⟨rfl, rfl⟩)
          go_ret
          exact ⟨ret_int HF.out.symm, rfl⟩
    · have hcase : op = 30 ∨ op = 31 ∨ op = 33 ∨ op = 34 ∨ op = 35 ∨ op = 36 ∨ op = 37 ∨ op = 38 ∨ op = 39 ∨ op = 40 := by omega
      clear h1 h2 h32 h4
      rcases hcase with h | h | h | h | h | h | h | h | h | h
      all_goals
        subst h
        go_enter Try.func28, Try.ntmps28
        go_wp2_with (first
          | (go_at_call 39; refine (refQuotient_any _ _ _ HA.out HB.out).mono ?_; rintro e w' ⟨rfl, rfl⟩)
          | (go_at_call 27; refine (refTruth_any _ _).mono ?_; rintro e w' ⟨rfl, rfl⟩))
        go_ret
        exact ⟨rfl, rfl⟩

set_option maxHeartbeats 1000000 in
theorem evalBinary_any (op a b : Int) (w : World) : Calls Try.prog 14 #[.int .i64 op, .int .i64 a, .int .i64 b] w fun e w' => e = .returned (.tuple #[.int .i64 (binaryR op a b).1, .int .i64 (binaryR op a b).2]) ∧ Bel w w' := by
  by_cases h30 : op < 30
  · have HF : Hid (binaryR op a b = (0, 2)) := by show binaryR op a b = _; unfold binaryR; rw [if_pos (.inl h30)]
    have hd : decide (op < 30) = true := by simpa using h30
    clear h30
    go_enter Try.func14, Try.ntmps14
    go_wp2_with fail
    go_ret2
    exact ⟨ret_pair HF.out, (Bel.refl _)⟩
  have hd1 : decide (op < 30) = false := by simpa using h30
  by_cases h42 : 42 < op
  · have HF : Hid (binaryR op a b = (0, 2)) := by show binaryR op a b = _; unfold binaryR; rw [if_pos (.inr (.inl h42))]
    have hd : decide (42 < op) = true := by simpa using h42
    clear h42
    go_enter Try.func14, Try.ntmps14
    go_wp2_with fail
    go_ret2
    exact ⟨ret_pair HF.out, (Bel.refl _)⟩
  have hd2 : decide (42 < op) = false := by simpa using h42
  have HI := Lib.hid (ints_two w a b 3)
  cases hall : [a, b].all numB with
  | false =>
    have HF : Hid (binaryR op a b = (0, 2)) := by
      show binaryR op a b = _
      unfold binaryR; rw [if_pos (.inr (.inr (by simp at hall; cases ha : numB a <;> simp_all)))]
    clear h30 h42
    go_enter Try.func14, Try.ntmps14
    go_wp2_with (go_at_call 21; refine (inRange_any _ _ _ [a, b] _ HI.out (by decide)).mono ?_; rintro e w' ⟨rfl, rfl⟩; rw [hall])
    go_ret2
    exact ⟨ret_pair HF.out, ((Bel.refl _).alloc _)⟩
  | true =>
    have hab : numB a = true ∧ numB b = true := by simpa using hall
    have HF : Hid (binaryR op a b = (binaryF op a b, 0)) := by
      show binaryR op a b = _
      unfold binaryR; rw [if_neg (by rw [hab.1, hab.2]; simp; omega)]
    have HA := Lib.hid (num_of_numB hab.1)
    have HB := Lib.hid (num_of_numB hab.2)
    have HO : Hid (30 ≤ op ∧ op ≤ 42) := ⟨by omega, by omega⟩
    clear h30 h42 hab
    go_enter Try.func14, Try.ntmps14
    go_wp2_with (first
      | (go_at_call 21; refine (inRange_any _ _ _ [a, b] _ HI.out (by decide)).mono ?_; rintro e w' ⟨rfl, rfl⟩; rw [hall])
      | (go_at_call 25; refine (binary_any _ _ _ _ HO.out.1 HO.out.2 HA.out HB.out).mono ?_; rintro e w' ⟨rfl, rfl⟩))
    go_ret2
    exact ⟨ret_pair HF.out, ((Bel.refl _).alloc _)⟩

set_option maxHeartbeats 1000000 in
theorem refBinary_any (op a b : Int) (w : World) : Calls Try.prog 18 #[.int .i64 op, .int .i64 a, .int .i64 b] w fun e w' => e = .returned (.tuple #[.int .i64 (binaryR op a b).1, .int .i64 (binaryR op a b).2]) ∧ w = w' := by
  by_cases h30 : op < 30
  · have HF : Hid (binaryR op a b = (0, 2)) := by show binaryR op a b = _; unfold binaryR; rw [if_pos (.inl h30)]
    have hd : decide (op < 30) = true := by simpa using h30
    clear h30
    go_enter Try.func18, Try.ntmps18
    go_wp2_with fail
    go_ret2
    exact ⟨ret_pair HF.out, rfl⟩
  have hd1 : decide (op < 30) = false := by simpa using h30
  by_cases h42 : 42 < op
  · have HF : Hid (binaryR op a b = (0, 2)) := by show binaryR op a b = _; unfold binaryR; rw [if_pos (.inr (.inl h42))]
    have hd : decide (42 < op) = true := by simpa using h42
    clear h42
    go_enter Try.func18, Try.ntmps18
    go_wp2_with fail
    go_ret2
    exact ⟨ret_pair HF.out, rfl⟩
  have hd2 : decide (42 < op) = false := by simpa using h42
  cases hna : numB a with
  | false =>
    have HF : Hid (binaryR op a b = (0, 2)) := by show binaryR op a b = _; unfold binaryR; rw [if_pos (.inr (.inr (.inl hna)))]
    clear h30 h42
    go_enter Try.func18, Try.ntmps18
    go_wp2_with (go_at_call_of 19 a; refine (refNumber_any _ _).mono ?_; rintro e w' ⟨rfl, rfl⟩; rw [hna])
    go_ret2
    exact ⟨ret_pair HF.out, rfl⟩
  | true =>
    cases hnb : numB b with
    | false =>
      have HF : Hid (binaryR op a b = (0, 2)) := by show binaryR op a b = _; unfold binaryR; rw [if_pos (.inr (.inr (.inr hnb)))]
      clear h30 h42
      go_enter Try.func18, Try.ntmps18
      go_wp2_with (go_at_call 19; refine (refNumber_any _ _).mono ?_; rintro e w' ⟨rfl, rfl⟩; first | rw [hna] | rw [hnb])
      go_ret2
      exact ⟨ret_pair HF.out, rfl⟩
    | true =>
      have HF : Hid (binaryR op a b = (satF (applyF op a b), 0)) := by
        show binaryR op a b = _
        unfold binaryR; rw [if_neg (by rw [hna, hnb]; simp; omega)]; rfl
      have HA := Lib.hid (num_of_numB hna)
      have HB := Lib.hid (num_of_numB hnb)
      have HO : Hid (30 ≤ op ∧ op ≤ 42) := ⟨by omega, by omega⟩
      clear h30 h42
      go_enter Try.func18, Try.ntmps18
      go_wp2_with (first
        | (go_at_call 19; refine (refNumber_any _ _).mono ?_; rintro e w' ⟨rfl, rfl⟩; first | rw [hna] | rw [hnb])
        | (go_at_call 28; refine (apply_any _ _ _ _ HO.out.1 HO.out.2 HA.out HB.out).mono ?_; rintro e w' ⟨rfl, rfl⟩)
        | (go_at_call 13; refine (refSaturate_any _ _).mono ?_; rintro e w' ⟨rfl, rfl⟩))
      go_ret2
      exact ⟨ret_pair HF.out, rfl⟩

end Go.Proofs.Ytdojkmbgmomghaa
