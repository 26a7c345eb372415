/- Merged of: W11a W11b W11c WDa (see NOTES.md). -/
import Derived.Test.YtaifafljakojnaaGreatZ03
import Derived.Test.YtaifafljakojnaaGreatZ11
import Derived.Test.YtaifafljakojnaaGreatZ06
set_option linter.unusedSimpArgs false
set_option linter.unnecessarySimpa false
set_option linter.unusedVariables false

/- Contracts of the small functions of layer 11, of the program and of the reference. -/
namespace Go.Proofs.YtaifafljakojnaaGreat
open Go.RowKit

theorem ret_pair {a b : Int} {r : Int × Int} (h : r = (a, b)) : Ending.returned (.tuple #[.int .i64 a, .int .i64 b]) = .returned (.tuple #[.int .i64 r.1, .int .i64 r.2]) := by rw [h]

theorem refNumber_any (a : Int) (w : World) : Calls Tryz.prog 15 #[.int .i64 a] w fun e w' => e = .returned (.bool (numB a)) ∧ w = w' := by
  go_enter Tryz.func15, Tryz.ntmps15
  go_wp2
  all_goals
    go_ret
    refine ⟨ret_bool ?_, rfl⟩
    unfold numB
    rw [Bool.eq_iff_iff]; simp; omega

theorem refSaturate_any (a : Int) (w : World) : Calls Tryz.prog 35 #[.int .i64 a] w fun e w' => e = .returned (.int .i64 (satF a)) ∧ w = w' := by
  go_enter Tryz.func35, Tryz.ntmps35
  go_wp2
  all_goals
    go_ret
    refine ⟨ret_int ?_, rfl⟩
    unfold satF
    omega

theorem saturated_any (a : Int) (w : World) : Calls Tryz.prog 150 #[.int .i64 a] w fun e w' => e = .returned (.int .i64 (satF a)) ∧ w = w' := by
  go_enter Tryz.func150, Tryz.ntmps150
  go_wp2
  all_goals
    go_ret
    refine ⟨ret_int ?_, rfl⟩
    unfold satF
    omega

theorem truth_any (b : Bool) (w : World) : Calls Tryz.prog 143 #[.bool b] w fun e w' => e = .returned (.int .i64 (truthI b)) ∧ w = w' := by
  cases b
  all_goals
    go_enter Tryz.func143, Tryz.ntmps143
    go_wp2
    go_ret
    exact ⟨rfl, rfl⟩

theorem refTruth_any (b : Bool) (w : World) : Calls Tryz.prog 79 #[.bool b] w fun e w' => e = .returned (.int .i64 (truthI b)) ∧ w = w' := by
  cases b
  all_goals
    go_enter Tryz.func79, Tryz.ntmps79
    go_wp2
    go_ret
    exact ⟨rfl, rfl⟩

theorem quotient_any (a b : Int) (w : World) (ha : Num a) (hb : Num b) : Calls Tryz.prog 151 #[.int .i64 a, .int .i64 b] w fun e w' => e = .returned (.int .i64 (quotF a b)) ∧ w = w' := by
  by_cases h0 : b = 0
  · subst h0
    go_enter Tryz.func151, Tryz.ntmps151
    go_wp2
    go_ret
    exact ⟨rfl, rfl⟩
  · have hz : (b == 0) = false := by simpa using h0
    have ht := tdiv_bound a b ha
    obtain ⟨ht1, ht2⟩ := ht
    have ha' := ha
    unfold Num at ha hb
    obtain ⟨ha1, ha2⟩ := ha
    obtain ⟨hb1, hb2⟩ := hb
    by_cases hm : a.tmod b = 0
    · have hmb : (a.tmod b != 0) = false := by simpa using hm
      have HF : Hid (quotF a b = a.tdiv b) := by
        show quotF a b = _
        unfold quotF; rw [if_neg h0, if_neg (by simp [hm])]
      clear hm
      go_enter Tryz.func151, Tryz.ntmps151
      go_wp2
      go_ret
      exact ⟨ret_int HF.out.symm, rfl⟩
    · have hmb : (a.tmod b != 0) = true := by simpa using hm
      cases hs : (decide (a < 0) != decide (b < 0)) with
      | true =>
        have HF : Hid (quotF a b = a.tdiv b - 1) := by
          show quotF a b = _
          unfold quotF; rw [if_neg h0, if_pos ⟨hm, hs⟩]
        have hs' : (!(decide (a < 0) == decide (b < 0))) = true := hs
        clear hm hs
        go_enter Tryz.func151, Tryz.ntmps151
        go_wp2
        go_ret
        exact ⟨ret_int HF.out.symm, rfl⟩
      | false =>
        have HF : Hid (quotF a b = a.tdiv b) := by
          show quotF a b = _
          unfold quotF; rw [if_neg h0, if_neg (by simp [hs])]
        have hs' : (!(decide (a < 0) == decide (b < 0))) = false := hs
        clear hm hs
        go_enter Tryz.func151, Tryz.ntmps151
        go_wp2
        go_ret
        exact ⟨ret_int HF.out.symm, rfl⟩

theorem refQuotient_any (a b : Int) (w : World) (ha : Num a) (hb : Num b) : Calls Tryz.prog 78 #[.int .i64 a, .int .i64 b] w fun e w' => e = .returned (.int .i64 (quotF a b)) ∧ w = w' := by
  by_cases h0 : b = 0
  · subst h0
    go_enter Tryz.func78, Tryz.ntmps78
    go_wp2
    go_ret
    exact ⟨rfl, rfl⟩
  · have hz : (b == 0) = false := by simpa using h0
    have ht := tdiv_bound a b ha
    obtain ⟨ht1, ht2⟩ := ht
    have ha' := ha
    unfold Num at ha hb
    obtain ⟨ha1, ha2⟩ := ha
    obtain ⟨hb1, hb2⟩ := hb
    by_cases hm : a.tmod b = 0
    · have hmb : (a.tmod b != 0) = false := by simpa using hm
      have HF : Hid (quotF a b = a.tdiv b) := by
        show quotF a b = _
        unfold quotF; rw [if_neg h0, if_neg (by simp [hm])]
      clear hm
      go_enter Tryz.func78, Tryz.ntmps78
      go_wp2
      go_ret
      exact ⟨ret_int HF.out.symm, rfl⟩
    · have hmb : (a.tmod b != 0) = true := by simpa using hm
      cases hs : (decide (a < 0) != decide (b < 0)) with
      | true =>
        have HF : Hid (quotF a b = a.tdiv b - 1) := by
          show quotF a b = _
          unfold quotF; rw [if_neg h0, if_pos ⟨hm, hs⟩]
        have hs' : (!(decide (a < 0) == decide (b < 0))) = true := hs
        clear hm hs
        go_enter Tryz.func78, Tryz.ntmps78
        go_wp2
        go_ret
        exact ⟨ret_int HF.out.symm, rfl⟩
      | false =>
        have HF : Hid (quotF a b = a.tdiv b) := by
          show quotF a b = _
          unfold quotF; rw [if_neg h0, if_neg (by simp [hs])]
        have hs' : (!(decide (a < 0) == decide (b < 0))) = false := hs
        clear hm hs
        go_enter Tryz.func78, Tryz.ntmps78
        go_wp2
        go_ret
        exact ⟨ret_int HF.out.symm, rfl⟩


theorem unary_any (op a : Int) (w : World) (ha : Num a) : Calls Tryz.prog 133 #[.int .i64 op, .int .i64 a] w fun e w' => e = .returned (.int .i64 (unaryF op a)) ∧ w = w' := by
  unfold Num at ha
  obtain ⟨ha1, ha2⟩ := ha
  by_cases h : op = 18
  · subst h
    go_enter Tryz.func133, Tryz.ntmps133
    go_wp2
    go_ret
    exact ⟨rfl, rfl⟩
  · have HF : Hid (unaryF op a = truthI (a == 0)) := by show unaryF op a = _; unfold unaryF; rw [if_neg h]
    have hb : (op == 18) = false := by simpa using h
    clear h
    go_enter Tryz.func133, Tryz.ntmps133
    go_wp2_with (go_at_call 143; refine (truth_any _ _).mono ?_; rintro e w' ⟨rfl, rfl⟩)
    go_ret
    exact ⟨ret_int HF.out.symm, rfl⟩

/-- The comparison that an operation from Eq to Ge stands for. -/
def cmpF (op a b : Int) : Bool :=
  if op = 35 then a == b else if op = 36 then a != b else if op = 37 then decide (a < b) else if op = 38 then decide (a ≤ b) else if op = 39 then decide (b < a) else decide (b ≤ a)
theorem compared_any (op a b : Int) (w : World) : Calls Tryz.prog 152 #[.int .i64 op, .int .i64 a, .int .i64 b] w fun e w' => e = .returned (.bool (cmpF op a b)) ∧ w = w' := by
  go_enter Tryz.func152, Tryz.ntmps152
  go_wp2
  all_goals
    go_ret
    refine ⟨ret_bool ?_, rfl⟩
    simp only [beq_iff_eq, beq_eq_false_iff_ne, ne_eq] at *
    unfold cmpF
    repeat' split
    all_goals first | rfl | omega
theorem applyF_cmp (op a b : Int) (h1 : 35 ≤ op) (h2 : op ≤ 40) : applyF op a b = truthI (cmpF op a b) := by
  have : op = 35 ∨ op = 36 ∨ op = 37 ∨ op = 38 ∨ op = 39 ∨ op = 40 := by omega
  rcases this with h | h | h | h | h | h <;> subst h <;> rfl

set_option maxHeartbeats 1000000 in
theorem binary_any (op a b : Int) (w : World) (h1 : 30 ≤ op) (h2 : op ≤ 42) (ha : Num a) (hb : Num b) : Calls Tryz.prog 135 #[.int .i64 op, .int .i64 a, .int .i64 b] w fun e w' => e = .returned (.int .i64 (binaryF op a b)) ∧ w = w' := by
  have hq := quotF_bound a b ha
  have hm := mul_bound a b ha (by unfold Num at hb; omega)
  have hm2 := mul_bound b (quotF a b) hb (by omega)
  obtain ⟨hq1, hq2⟩ := hq
  obtain ⟨hm1, hm3⟩ := hm
  obtain ⟨hm4, hm5⟩ := hm2
  have HA := Lib.hid ha
  have HB := Lib.hid hb
  unfold Num at ha hb
  obtain ⟨ha1, ha2⟩ := ha
  obtain ⟨hb1, hb2⟩ := hb
  have hcase : op = 30 ∨ op = 31 ∨ op = 32 ∨ op = 33 ∨ op = 34 ∨ (35 ≤ op ∧ op ≤ 40) ∨ op = 41 ∨ op = 42 := by omega
  rcases hcase with h | h | h | h | h | h | h | h
  · subst h
    go_enter Tryz.func135, Tryz.ntmps135
    go_wp2_with (go_at_call 150; refine (saturated_any _ _).mono ?_; rintro e w' ⟨rfl, rfl⟩)
    go_ret
    exact ⟨rfl, rfl⟩
  · subst h
    go_enter Tryz.func135, Tryz.ntmps135
    go_wp2_with (first
      | (go_at_call 150; refine (saturated_any _ _).mono ?_; rintro e w' ⟨rfl, rfl⟩)
      | (go_at_call 151; refine (quotient_any _ _ _ HA.out HB.out).mono ?_; rintro e w' ⟨rfl, rfl⟩))
    go_ret
    exact ⟨rfl, rfl⟩
  · subst h
    by_cases h0 : b = 0
    · subst h0
      go_enter Tryz.func135, Tryz.ntmps135
      go_wp2
      go_ret
      exact ⟨rfl, rfl⟩
    · have hz : (b == 0) = false := by simpa using h0
      have HF : Hid (binaryF 32 a b = satF (a - b * quotF a b)) := by
        show binaryF 32 a b = _
        unfold binaryF applyF; simp [h0]
      clear h0
      go_enter Tryz.func135, Tryz.ntmps135
      go_wp2_with (first
        | (go_at_call 150; refine (saturated_any _ _).mono ?_; rintro e w' ⟨rfl, rfl⟩)
        | (go_at_call 151; refine (quotient_any _ _ _ HA.out HB.out).mono ?_; rintro e w' ⟨rfl, rfl⟩))
      go_ret
      exact ⟨ret_int HF.out.symm, rfl⟩
  · subst h
    go_enter Tryz.func135, Tryz.ntmps135
    go_wp2_with (go_at_call 150; refine (saturated_any _ _).mono ?_; rintro e w' ⟨rfl, rfl⟩)
    go_ret
    exact ⟨rfl, rfl⟩
  · subst h
    go_enter Tryz.func135, Tryz.ntmps135
    go_wp2_with (go_at_call 150; refine (saturated_any _ _).mono ?_; rintro e w' ⟨rfl, rfl⟩)
    go_ret
    exact ⟨rfl, rfl⟩
  · have HF : Hid (binaryF op a b = truthI (cmpF op a b)) := by
      show binaryF op a b = _
      unfold binaryF; rw [applyF_cmp op a b h.1 h.2, satF_truthI]
    have e1 : (op == 30) = false := by simp; omega
    have e2 : (op == 31) = false := by simp; omega
    have e3 : (op == 32) = false := by simp; omega
    have e4 : (op == 33) = false := by simp; omega
    have e5 : (op == 34) = false := by simp; omega
    have e6 : (op == 41) = false := by simp; omega
    have e7 : (op == 42) = false := by simp; omega
    go_enter Tryz.func135, Tryz.ntmps135
    go_wp2_with (first
      | (go_at_call 152; refine (compared_any _ _ _ _).mono ?_; rintro e w' ⟨rfl, rfl⟩)
      | (go_at_call 143; refine (truth_any _ _).mono ?_; rintro e w' ⟨rfl, rfl⟩))
    go_ret
    exact ⟨ret_int HF.out.symm, rfl⟩
  · subst h
    have HF : Hid (binaryF 41 a b = truthI (a != 0 && b != 0)) := by show binaryF 41 a b = _; exact satF_truthI _
    by_cases h0 : a = 0
    · have hz : (a != 0) = false := by simpa using h0
      rw [hz] at HF
      clear h0
      go_enter Tryz.func135, Tryz.ntmps135
      go_wp2_with (go_at_call 143; refine (truth_any _ _).mono ?_; rintro e w' ⟨rfl, rfl⟩)
      go_ret
      exact ⟨ret_int HF.out.symm, rfl⟩
    · have hz : (a != 0) = true := by simpa using h0
      rw [hz] at HF
      clear h0
      go_enter Tryz.func135, Tryz.ntmps135
      go_wp2_with (go_at_call 143; refine (truth_any _ _).mono ?_; rintro e w' ⟨rfl, rfl⟩)
      go_ret
      exact ⟨ret_int HF.out.symm, rfl⟩
  · subst h
    have HF : Hid (binaryF 42 a b = truthI (a != 0 || b != 0)) := by show binaryF 42 a b = _; exact satF_truthI _
    by_cases h0 : a = 0
    · have hz : (a != 0) = false := by simpa using h0
      rw [hz] at HF
      clear h0
      go_enter Tryz.func135, Tryz.ntmps135
      go_wp2_with (go_at_call 143; refine (truth_any _ _).mono ?_; rintro e w' ⟨rfl, rfl⟩)
      go_ret
      exact ⟨ret_int HF.out.symm, rfl⟩
    · have hz : (a != 0) = true := by simpa using h0
      rw [hz] at HF
      clear h0
      go_enter Tryz.func135, Tryz.ntmps135
      go_wp2_with (go_at_call 143; refine (truth_any _ _).mono ?_; rintro e w' ⟨rfl, rfl⟩)
      go_ret
      exact ⟨ret_int HF.out.symm, rfl⟩

end Go.Proofs.YtaifafljakojnaaGreat

/- Contracts of Unary and Binary of the program and of the reference. -/
namespace Go.Proofs.YtaifafljakojnaaGreat
open Go.RowKit

theorem inRange_any (A : Option Addr) (n c : Nat) (l : List Int) (w : World) (h : IntsR w A n l) (hl : n ≤ 1000000) :
    Calls Tryz.prog 144 #[.slice A n c] w fun e w' => e = .returned (.bool (l.all numB)) ∧ w = w' := by
  obtain rfl := h.1
  have H := Lib.hid h; clear h
  go_enter Tryz.func144, Tryz.ntmps144
  go_wp2_with fail
  go_loopg [7] l.length (fun g iv wr => ∃ k : Nat, k + g = l.length ∧ iv = .int .i64 k ∧ Hid (l.all numB = (l.drop k).all numB) ∧ w = wr)
  case atStart => exact ⟨0, by omega, rfl, rfl, rfl⟩
  case round =>
    obtain ⟨k, hk, rfl, HK, rfl⟩ := hrel
    by_cases hlt : k < l.length
    · obtain ⟨b, o, rfl, hb, hc⟩ := H.out.at_ k hlt
      have hstep : Hid ((l.drop k).all numB = (numB l[k] && (l.drop (k + 1)).all numB)) := by
        show (l.drop k).all numB = _
        rw [List.drop_eq_getElem_cons hlt]; rfl
      by_cases h1 : l[k] < -1073741824
      · have hd : decide (l[k] < -1073741824) = true := by simpa using h1
        have HN : Hid (numB l[k] = false) := by show numB l[k] = false; unfold numB; exact decide_eq_false (by omega)
        clear h1
        go_wp2_with fail
        go_ret
        exact ⟨ret_bool (by rw [HK.out, hstep.out, HN.out]; rfl), rfl⟩
      · have hd : decide (l[k] < -1073741824) = false := by simpa using h1
        by_cases h2 : 1073741824 < l[k]
        · have HN : Hid (numB l[k] = false) := by show numB l[k] = false; unfold numB; exact decide_eq_false (by omega)
          go_wp2_with fail
          go_ret
          exact ⟨ret_bool (by rw [HK.out, hstep.out, HN.out]; rfl), rfl⟩
        · have HN : Hid (numB l[k] = true) := by show numB l[k] = true; unfold numB; exact decide_eq_true (by omega)
          have h2' : l[k] ≤ 1073741824 := by omega
          clear h2
          go_wp2_with fail
          go_roundg (gk - 1)
          case rel => exact ⟨k + 1, by omega, by go_num, by show _ = _; rw [HK.out, hstep.out, HN.out]; rfl, rfl⟩
          case measure => omega
    · go_wp2_with fail
      go_ret
      exact ⟨ret_bool (by rw [HK.out, List.drop_eq_nil_of_le (by omega)]; rfl), rfl⟩
theorem ints_of_block {w : World} {g : Nat} {l : List Int} {t : TypeId} {fr : Nat × Nat} (h : w.heap[g]? = some (.cells (l.map (Value.int .i64)).toArray t fr)) : IntsR w (some ⟨g, 0, none⟩) l.length l := by
  refine ⟨rfl, fun i x hx => ⟨g, 0, rfl, ?_, ?_⟩⟩
  · rcases Nat.lt_or_ge g w.heap.size with hlt | hge
    · exact hlt
    · rw [Array.getElem?_eq_none hge] at h; cases h
  · simp [IntAt, World.cell?, h, hx]
theorem ints_one (w : World) (x : Int) (t : TypeId) : IntsR (w.alloc (.cells #[.int .i64 x] t)) (some ⟨w.heap.size, 0, none⟩) 1 [x] := ints_of_block (l := [x]) (heap_new w _)
theorem ints_two (w : World) (x y : Int) (t : TypeId) : IntsR (w.alloc (.cells #[.int .i64 x, .int .i64 y] t)) (some ⟨w.heap.size, 0, none⟩) 2 [x, y] := ints_of_block (l := [x, y]) (heap_new w _)

set_option maxHeartbeats 1000000 in
theorem evalUnary_any (op a : Int) (w : World) : Calls Tryz.prog 113 #[.int .i64 op, .int .i64 a] w fun e w' => e = .returned (.tuple #[.int .i64 (unaryR op a).1, .int .i64 (unaryR op a).2]) ∧ Bel w w' := by
  by_cases hop : op ≠ 18 ∧ op ≠ 19
  · have HF : Hid (unaryR op a = (0, 2)) := by show unaryR op a = _; unfold unaryR; rw [if_pos (.inl hop)]
    have h1 : (op != 18) = true := by simpa using hop.1
    have h2 : (op != 19) = true := by simpa using hop.2
    clear hop
    go_enter Tryz.func113, Tryz.ntmps113
    go_wp2_with fail
    go_ret2
    exact ⟨ret_pair HF.out, Bel.refl _⟩
  · have hnb : ∀ b, [a].all numB = b → numB a = b := by intro b h; simpa using h
    cases hn : numB a with
    | false =>
      have HF : Hid (unaryR op a = (0, 2)) := by show unaryR op a = _; unfold unaryR; rw [if_pos (.inr hn)]
      have hop' : op = 18 ∨ op = 19 := by omega
      clear hop
      have hall : [a].all numB = false := by simpa using hn
      have HI := Lib.hid (ints_one w a 3)
      rcases hop' with h | h
      all_goals
        subst h
        go_enter Tryz.func113, Tryz.ntmps113
        go_wp2_with (go_at_call 144; refine (inRange_any _ _ _ [a] _ HI.out (by decide)).mono ?_; rintro e w' ⟨rfl, rfl⟩; rw [hall])
        go_ret2
        exact ⟨ret_pair HF.out, (Bel.refl _).alloc _⟩
    | true =>
      have HF : Hid (unaryR op a = (unaryF op a, 0)) := by show unaryR op a = _; unfold unaryR; rw [if_neg (by rw [hn]; simp; omega)]
      have hop' : op = 18 ∨ op = 19 := by omega
      clear hop
      have hall : [a].all numB = true := by simpa using hn
      have HI := Lib.hid (ints_one w a 3)
      have HN := Lib.hid (num_of_numB hn)
      rcases hop' with h | h
      all_goals
        subst h
        go_enter Tryz.func113, Tryz.ntmps113
        go_wp2_with (first
          | (go_at_call 144; refine (inRange_any _ _ _ [a] _ HI.out (by decide)).mono ?_; rintro e w' ⟨rfl, rfl⟩; rw [hall])
          | (go_at_call 133; refine (unary_any _ _ _ HN.out).mono ?_; rintro e w' ⟨rfl, rfl⟩))
        go_ret2
        exact ⟨ret_pair HF.out, (Bel.refl _).alloc _⟩

set_option maxHeartbeats 1000000 in
theorem refUnary_any (op a : Int) (w : World) : Calls Tryz.prog 70 #[.int .i64 op, .int .i64 a] w fun e w' => e = .returned (.tuple #[.int .i64 (unaryR op a).1, .int .i64 (unaryR op a).2]) ∧ w = w' := by
  by_cases hop : op ≠ 18 ∧ op ≠ 19
  · have HF : Hid (unaryR op a = (0, 2)) := by show unaryR op a = _; unfold unaryR; rw [if_pos (.inl hop)]
    have h1 : (op != 18) = true := by simpa using hop.1
    have h2 : (op != 19) = true := by simpa using hop.2
    clear hop
    go_enter Tryz.func70, Tryz.ntmps70
    go_wp2_with fail
    go_ret2
    exact ⟨ret_pair HF.out, rfl⟩
  · cases hn : numB a with
    | false =>
      have HF : Hid (unaryR op a = (0, 2)) := by show unaryR op a = _; unfold unaryR; rw [if_pos (.inr hn)]
      have hop' : op = 18 ∨ op = 19 := by omega
      clear hop
      rcases hop' with h | h
      all_goals
        subst h
        go_enter Tryz.func70, Tryz.ntmps70
        go_wp2_with (go_at_call 15; refine (refNumber_any _ _).mono ?_; rintro e w' ⟨rfl, rfl⟩; rw [hn])
        go_ret2
        exact ⟨ret_pair HF.out, rfl⟩
    | true =>
      have HF : Hid (unaryR op a = (unaryF op a, 0)) := by show unaryR op a = _; unfold unaryR; rw [if_neg (by rw [hn]; simp; omega)]
      have hop' : op = 18 ∨ op = 19 := by omega
      clear hop
      have HN := num_of_numB hn
      unfold Num at HN
      obtain ⟨hn1, hn2⟩ := HN
      rcases hop' with h | h
      all_goals
        subst h
        go_enter Tryz.func70, Tryz.ntmps70
        go_wp2_with (first
          | (go_at_call 15; refine (refNumber_any _ _).mono ?_; rintro e w' ⟨rfl, rfl⟩; rw [hn])
          | (go_at_call 79; refine (refTruth_any _ _).mono ?_; rintro e w' ⟨rfl, rfl⟩))
        go_ret2
        exact ⟨ret_pair HF.out, rfl⟩

set_option maxHeartbeats 1000000 in
theorem apply_any (op a b : Int) (w : World) (h1 : 30 ≤ op) (h2 : op ≤ 42) (ha : Num a) (hb : Num b) : Calls Tryz.prog 36 #[.int .i64 op, .int .i64 a, .int .i64 b] w fun e w' => e = .returned (.int .i64 (applyF op a b)) ∧ w = w' := by
  have hq := quotF_bound a b ha
  have hm := mul_bound a b ha (by unfold Num at hb; omega)
  have hm2 := mul_bound b (quotF a b) hb (by omega)
  obtain ⟨hq1, hq2⟩ := hq
  obtain ⟨hm1, hm3⟩ := hm
  obtain ⟨hm4, hm5⟩ := hm2
  have HA := Lib.hid ha
  have HB := Lib.hid hb
  unfold Num at ha hb
  obtain ⟨ha1, ha2⟩ := ha
  obtain ⟨hb1, hb2⟩ := hb
  by_cases h32 : op = 32
  · subst h32
    by_cases h0 : b = 0
    · subst h0
      go_enter Tryz.func36, Tryz.ntmps36
      go_wp2
      go_ret
      exact ⟨rfl, rfl⟩
    · have hz : (b == 0) = false := by simpa using h0
      have HF : Hid (applyF 32 a b = (a - b * quotF a b)) := by
        show applyF 32 a b = _
        unfold applyF; simp [h0]
      clear h0
      go_enter Tryz.func36, Tryz.ntmps36
      go_wp2_with (go_at_call 78; refine (refQuotient_any _ _ _ HA.out HB.out).mono ?_; rintro e w' ⟨rfl, rfl⟩)
      go_ret
      exact ⟨ret_int HF.out.symm, rfl⟩
  · by_cases h4 : 41 ≤ op
    · have h4' : op = 41 ∨ op = 42 := by omega
      clear h32 h1 h2 h4
      by_cases h0 : a = 0
      · have hz : (a != 0) = false := by simpa using h0
        rcases h4' with h | h
        · subst h
          have HF : Hid (applyF 41 a b = truthI false) := by show truthI (a != 0 && b != 0) = _; rw [hz]; rfl
          clear h0
          go_enter Tryz.func36, Tryz.ntmps36
          go_wp2_with (go_at_call 79; refine (refTruth_any _ _).mono ?_; rintro e w' ⟨rfl, rfl⟩)
          go_ret
          exact ⟨ret_int HF.out.symm, rfl⟩
        · subst h
          have HF : Hid (applyF 42 a b = truthI (b != 0)) := by show truthI (a != 0 || b != 0) = _; rw [hz]; rfl
          clear h0
          go_enter Tryz.func36, Tryz.ntmps36
          go_wp2_with (go_at_call 79; refine (refTruth_any _ _).mono ?_; rintro e w' ⟨rfl, rfl⟩)
          go_ret
          exact ⟨ret_int HF.out.symm, rfl⟩
      · have hz : (a != 0) = true := by simpa using h0
        rcases h4' with h | h
        · subst h
          have HF : Hid (applyF 41 a b = truthI (b != 0)) := by show truthI (a != 0 && b != 0) = _; rw [hz]; rfl
          clear h0
          go_enter Tryz.func36, Tryz.ntmps36
          go_wp2_with (go_at_call 79; refine (refTruth_any _ _).mono ?_; rintro e w' ⟨rfl, rfl⟩)
          go_ret
          exact ⟨ret_int HF.out.symm, rfl⟩
        · subst h
          have HF : Hid (applyF 42 a b = truthI true) := by show truthI (a != 0 || b != 0) = _; rw [hz]; rfl
          clear h0
          go_enter Tryz.func36, Tryz.ntmps36
          go_wp2_with (go_at_call 79; refine (refTruth_any _ _).mono ?_; rintro e w' ⟨rfl, rfl⟩)
          go_ret
          exact ⟨ret_int HF.out.symm, rfl⟩
    · have hcase : op = 30 ∨ op = 31 ∨ op = 33 ∨ op = 34 ∨ op = 35 ∨ op = 36 ∨ op = 37 ∨ op = 38 ∨ op = 39 ∨ op = 40 := by omega
      clear h1 h2 h32 h4
      rcases hcase with h | h | h | h | h | h | h | h | h | h
      all_goals
        subst h
        go_enter Tryz.func36, Tryz.ntmps36
        go_wp2_with (first
          | (go_at_call 78; refine (refQuotient_any _ _ _ HA.out HB.out).mono ?_; rintro e w' ⟨rfl, rfl⟩)
          | (go_at_call 79; refine (refTruth_any _ _).mono ?_; rintro e w' ⟨rfl, rfl⟩))
        go_ret
        exact ⟨rfl, rfl⟩

set_option maxHeartbeats 1000000 in
theorem evalBinary_any (op a b : Int) (w : World) : Calls Tryz.prog 114 #[.int .i64 op, .int .i64 a, .int .i64 b] w fun e w' => e = .returned (.tuple #[.int .i64 (binaryR op a b).1, .int .i64 (binaryR op a b).2]) ∧ Bel w w' := by
  by_cases h30 : op < 30
  · have HF : Hid (binaryR op a b = (0, 2)) := by show binaryR op a b = _; unfold binaryR; rw [if_pos (.inl h30)]
    have hd : decide (op < 30) = true := by simpa using h30
    clear h30
    go_enter Tryz.func114, Tryz.ntmps114
    go_wp2_with fail
    go_ret2
    exact ⟨ret_pair HF.out, (Bel.refl _)⟩
  have hd1 : decide (op < 30) = false := by simpa using h30
  by_cases h42 : 42 < op
  · have HF : Hid (binaryR op a b = (0, 2)) := by show binaryR op a b = _; unfold binaryR; rw [if_pos (.inr (.inl h42))]
    have hd : decide (42 < op) = true := by simpa using h42
    clear h42
    go_enter Tryz.func114, Tryz.ntmps114
    go_wp2_with fail
    go_ret2
    exact ⟨ret_pair HF.out, (Bel.refl _)⟩
  have hd2 : decide (42 < op) = false := by simpa using h42
  have HI := Lib.hid (ints_two w a b 3)
  cases hall : [a, b].all numB with
  | false =>
    have HF : Hid (binaryR op a b = (0, 2)) := by
      show binaryR op a b = _
      unfold binaryR; rw [if_pos (.inr (.inr (by simp at hall; cases ha : numB a <;> simp_all)))]
    clear h30 h42
    go_enter Tryz.func114, Tryz.ntmps114
    go_wp2_with (go_at_call 144; refine (inRange_any _ _ _ [a, b] _ HI.out (by decide)).mono ?_; rintro e w' ⟨rfl, rfl⟩; rw [hall])
    go_ret2
    exact ⟨ret_pair HF.out, ((Bel.refl _).alloc _)⟩
  | true =>
    have hab : numB a = true ∧ numB b = true := by simpa using hall
    have HF : Hid (binaryR op a b = (binaryF op a b, 0)) := by
      show binaryR op a b = _
      unfold binaryR; rw [if_neg (by rw [hab.1, hab.2]; simp; omega)]
    have HA := Lib.hid (num_of_numB hab.1)
    have HB := Lib.hid (num_of_numB hab.2)
    have HO : Hid (30 ≤ op ∧ op ≤ 42) := ⟨by omega, by omega⟩
    clear h30 h42 hab
    go_enter Tryz.func114, Tryz.ntmps114
    go_wp2_with (first
      | (go_at_call 144; refine (inRange_any _ _ _ [a, b] _ HI.out (by decide)).mono ?_; rintro e w' ⟨rfl, rfl⟩; rw [hall])
      | (go_at_call 135; refine (binary_any _ _ _ _ HO.out.1 HO.out.2 HA.out HB.out).mono ?_; rintro e w' ⟨rfl, rfl⟩))
    go_ret2
    exact ⟨ret_pair HF.out, ((Bel.refl _).alloc _)⟩

set_option maxHeartbeats 1000000 in
theorem refBinary_any (op a b : Int) (w : World) : Calls Tryz.prog 16 #[.int .i64 op, .int .i64 a, .int .i64 b] w fun e w' => e = .returned (.tuple #[.int .i64 (binaryR op a b).1, .int .i64 (binaryR op a b).2]) ∧ w = w' := by
  by_cases h30 : op < 30
  · have HF : Hid (binaryR op a b = (0, 2)) := by show binaryR op a b = _; unfold binaryR; rw [if_pos (.inl h30)]
    have hd : decide (op < 30) = true := by simpa using h30
    clear h30
    go_enter Tryz.func16, Tryz.ntmps16
    go_wp2_with fail
    go_ret2
    exact ⟨ret_pair HF.out, rfl⟩
  have hd1 : decide (op < 30) = false := by simpa using h30
  by_cases h42 : 42 < op
  · have HF : Hid (binaryR op a b = (0, 2)) := by show binaryR op a b = _; unfold binaryR; rw [if_pos (.inr (.inl h42))]
    have hd : decide (42 < op) = true := by simpa using h42
    clear h42
    go_enter Tryz.func16, Tryz.ntmps16
    go_wp2_with fail
    go_ret2
    exact ⟨ret_pair HF.out, rfl⟩
  have hd2 : decide (42 < op) = false := by simpa using h42
  cases hna : numB a with
  | false =>
    have HF : Hid (binaryR op a b = (0, 2)) := by show binaryR op a b = _; unfold binaryR; rw [if_pos (.inr (.inr (.inl hna)))]
    clear h30 h42
    go_enter Tryz.func16, Tryz.ntmps16
    go_wp2_with (go_at_call_of 15 a; refine (refNumber_any _ _).mono ?_; rintro e w' ⟨rfl, rfl⟩; rw [hna])
    go_ret2
    exact ⟨ret_pair HF.out, rfl⟩
  | true =>
    cases hnb : numB b with
    | false =>
      have HF : Hid (binaryR op a b = (0, 2)) := by show binaryR op a b = _; unfold binaryR; rw [if_pos (.inr (.inr (.inr hnb)))]
      clear h30 h42
      go_enter Tryz.func16, Tryz.ntmps16
      go_wp2_with (go_at_call 15; refine (refNumber_any _ _).mono ?_; rintro e w' ⟨rfl, rfl⟩; first | rw [hna] | rw [hnb])
      go_ret2
      exact ⟨ret_pair HF.out, rfl⟩
    | true =>
      have HF : Hid (binaryR op a b = (satF (applyF op a b), 0)) := by
        show binaryR op a b = _
        unfold binaryR; rw [if_neg (by rw [hna, hnb]; simp; omega)]; rfl
      have HA := Lib.hid (num_of_numB hna)
      have HB := Lib.hid (num_of_numB hnb)
      have HO : Hid (30 ≤ op ∧ op ≤ 42) := ⟨by omega, by omega⟩
      clear h30 h42
      go_enter Tryz.func16, Tryz.ntmps16
      go_wp2_with (first
        | (go_at_call 15; refine (refNumber_any _ _).mono ?_; rintro e w' ⟨rfl, rfl⟩; first | rw [hna] | rw [hnb])
        | (go_at_call 36; refine (apply_any _ _ _ _ HO.out.1 HO.out.2 HA.out HB.out).mono ?_; rintro e w' ⟨rfl, rfl⟩)
        | (go_at_call 35; refine (refSaturate_any _ _).mono ?_; rintro e w' ⟨rfl, rfl⟩))
      go_ret2
      exact ⟨ret_pair HF.out, rfl⟩

end Go.Proofs.YtaifafljakojnaaGreat

/- Contracts of the aggregates of layer 11, of the program and of the reference. -/
namespace Go.Proofs.YtaifafljakojnaaGreat
open Go.RowKit

theorem ite_min (a b : Int) : ∃ m, (if b < a then b else a) = m ∧ m = min a b := ⟨_, rfl, by split <;> omega⟩
theorem ite_max (a b : Int) : ∃ m, (if a < b then b else a) = m ∧ m = max a b := ⟨_, rfl, by split <;> omega⟩
theorem sum_bound (l : List Int) (h : ∀ x ∈ l, Num x) : ∀ s : Int, s - 1073741824 * l.length ≤ l.foldl (· + ·) s ∧ l.foldl (· + ·) s ≤ s + 1073741824 * l.length := by
  induction l with
  | nil => intro s; simp
  | cons x l ih =>
    intro s
    have hx := h x (by simp)
    unfold Num at hx
    have := ih (fun y hy => h y (by simp [hy])) (s + x)
    simp only [List.foldl_cons, List.length_cons]
    omega

theorem fold1_any (a : Int) (w : World) : Calls Tryz.prog 159 #[.int .i64 a] w fun e w' => e = .returned (.bool (a != 0)) ∧ w = w' := by
  go_enter Tryz.func159, Tryz.ntmps159
  go_wp2
  go_ret
  exact ⟨rfl, rfl⟩

set_option maxRecDepth 100000 in
set_option maxHeartbeats 1000000 in
theorem count_any (A : Option Addr) (n c : Nat) (l : List Int) (w : World) (h : IntsR w A n l) (hl : n ≤ 1000) :
    Calls Tryz.prog 157 #[.slice A n c] w fun e w' => e = .returned (.int .i64 (countF l)) ∧ w = w' := by
  obtain rfl := h.1
  have H := Lib.hid h; clear h
  go_enter Tryz.func157, Tryz.ntmps157
  go_wp2_with fail
  go_loopg [3, 8] l.length (fun g cv iv wr => ∃ (k : Nat) (z : Int), k + g = l.length ∧ 0 ≤ z ∧ z ≤ k ∧ Hid (z + countF (l.drop k) = countF l) ∧ cv = .int .i64 z ∧ iv = .int .i64 k ∧ w = wr)
  case atStart => exact ⟨0, 0, by omega, by omega, by omega, by show _ = _; simp, rfl, rfl, rfl⟩
  case round =>
    obtain ⟨k, z, hk, hz0, hz1, HZ, rfl, rfl, rfl⟩ := hrel
    by_cases hlt : k < l.length
    · obtain ⟨b, o, rfl, hb, hc⟩ := H.out.at_ k hlt
      have hstep : Hid (countF (l.drop k) = (if l[k] = 0 then 0 else 1) + countF (l.drop (k + 1))) := by
        show countF (l.drop k) = _
        rw [List.drop_eq_getElem_cons hlt, countF_cons]
      by_cases h0 : l[k] = 0
      · have hz : (l[k] != 0) = false := by simpa using h0
        have HZ2 : Hid (z + countF (l.drop (k + 1)) = countF l) := by show _ = _; rw [← HZ.out, hstep.out, if_pos h0]; omega
        clear h0
        go_wp2_with fail
        go_roundg (gk - 1)
        case rel => exact ⟨k + 1, z, by omega, by omega, by omega, HZ2, rfl, by go_num, rfl⟩
        case measure => omega
      · have hz : (l[k] != 0) = true := by simpa using h0
        have HZ2 : Hid (z + 1 + countF (l.drop (k + 1)) = countF l) := by show _ = _; rw [← HZ.out, hstep.out, if_neg h0]; omega
        clear h0
        go_wp2_with fail
        go_roundg (gk - 1)
        case rel => exact ⟨k + 1, z + 1, by omega, by omega, by omega, HZ2, rfl, by go_num, rfl⟩
        case measure => omega
    · go_wp2_with fail
      go_ret
      refine ⟨ret_int ?_, rfl⟩
      have := HZ.out
      rw [List.drop_eq_nil_of_le (by omega)] at this
      simpa [countF] using this

set_option maxRecDepth 100000 in
set_option maxHeartbeats 1000000 in
theorem two_any (A : Option Addr) (n c : Nat) (l : List Int) (w : World) (h : IntsR w A n l) (hl : n ≤ 1000) :
    Calls Tryz.prog 160 #[.slice A n c] w fun e w' => e = .returned (.tuple #[.int .i64 (twoF l).1, .int .i64 (twoF l).2]) ∧ w = w' := by
  obtain rfl := h.1
  have H := Lib.hid h; clear h
  go_enter Tryz.func160, Tryz.ntmps160
  go_wp2_with fail
  go_loopg [2, 3, 8] l.length (fun g av sv iv wr => ∃ (k : Nat) (a s : Int), k + g = l.length ∧ Hid (twoGo (l.drop k) a s = twoF l) ∧ av = .int .i64 a ∧ sv = .int .i64 s ∧ iv = .int .i64 k ∧ w = wr)
  case atStart => exact ⟨0, _, _, by omega, rfl, rfl, rfl, rfl, rfl⟩
  case round =>
    obtain ⟨k, a, s, hk, HZ, rfl, rfl, rfl, rfl⟩ := hrel
    by_cases hlt : k < l.length
    · obtain ⟨b, o, rfl, hb, hc⟩ := H.out.at_ k hlt
      have hstep : Hid (twoGo (l.drop k) a s = if a < l[k] then twoGo (l.drop (k + 1)) l[k] a else twoGo (l.drop (k + 1)) a (max s l[k])) := by
        show twoGo (l.drop k) a s = _
        rw [List.drop_eq_getElem_cons hlt]; rfl
      obtain ⟨m, hm, hm'⟩ := ite_max s l[k]
      have HM := Lib.hid hm'; clear hm'
      by_cases h0 : a < l[k]
      · have hd : decide (a < l[k]) = true := by simpa using h0
        have HZ2 : Hid (twoGo (l.drop (k + 1)) l[k] a = twoF l) := by show _ = _; rw [← HZ.out, hstep.out, if_pos h0]
        clear h0
        go_wp2_with fail
        go_roundg (gk - 1)
        case rel => exact ⟨k + 1, l[k], a, by omega, HZ2, rfl, rfl, by go_num, rfl⟩
        case measure => omega
      · have hd : decide (a < l[k]) = false := by simpa using h0
        have HZ2 : Hid (twoGo (l.drop (k + 1)) a m = twoF l) := by show _ = _; rw [← HZ.out, hstep.out, if_neg h0, HM.out]
        clear h0
        go_wp2_with fail
        go_roundg (gk - 1)
        case rel => exact ⟨k + 1, a, m, by omega, HZ2, rfl, rfl, by go_num, rfl⟩
        case measure => omega
    · go_wp2_with fail
      go_ret2
      have hz := HZ.out
      rw [List.drop_eq_nil_of_le (by omega)] at hz
      exact ⟨ret_pair hz.symm, rfl⟩

def idxGo : List Int → (Int → Bool) → Int → Int
  | [], _, _ => -1
  | a :: l, f, i => if f a then i else idxGo l f (i + 1)
theorem idxGo_first (l : List Int) : ∀ i, idxGo l (fun a => a != 0) i = firstGo l i := by
  induction l with
  | nil => intro i; rfl
  | cons a l ih =>
    intro i
    simp only [idxGo, firstGo]
    by_cases h : a = 0
    · simp [h, ih]
    · simp [h]
theorem idxGo_mem (l : List Int) (x : Int) : ∀ i, 0 ≤ i → (0 ≤ idxGo l (fun a => x == a) i ↔ x ∈ l) := by
  induction l with
  | nil => intro i _; simp [idxGo]
  | cons a l ih =>
    intro i hi
    simp only [idxGo]
    by_cases h : x = a
    · simp [h, hi]
    · simp [h, ih (i + 1) (by omega)]

set_option maxRecDepth 100000 in
set_option maxHeartbeats 1000000 in
theorem index_any (A : Option Addr) (n c : Nat) (l : List Int) (x : Int) (w : World) (h : IntsR w A n l) (hl : n ≤ 1000) :
    Calls Tryz.prog 174 #[.slice A n c, .int .i64 x] w fun e w' => e = .returned (.int .i64 (idxGo l (fun a => x == a) 0)) ∧ w = w' := by
  obtain rfl := h.1
  have H := Lib.hid h; clear h
  go_enter Tryz.func174, Tryz.ntmps174
  go_wp2_with fail
  go_loopg [8] l.length (fun g iv wr => ∃ (k : Nat), k + g = l.length ∧ Hid (idxGo (l.drop k) (fun a => x == a) k = idxGo l (fun a => x == a) 0) ∧ iv = .int .i64 k ∧ w = wr)
  case atStart => exact ⟨0, by omega, rfl, rfl, rfl⟩
  case round =>
    obtain ⟨k, hk, HZ, rfl, rfl⟩ := hrel
    by_cases hlt : k < l.length
    · obtain ⟨b, o, rfl, hb, hc⟩ := H.out.at_ k hlt
      have hstep : Hid (idxGo (l.drop k) (fun a => x == a) k = if (x == l[k]) = true then (k : Int) else idxGo (l.drop (k + 1)) (fun a => x == a) ((k : Int) + 1)) := by
        show idxGo (l.drop k) (fun a => x == a) k = _
        rw [List.drop_eq_getElem_cons hlt]; rfl
      cases h0 : (x == l[k]) with
      | true =>
        have HZ2 : Hid ((k : Int) = idxGo l (fun a => x == a) 0) := by show _ = _; rw [← HZ.out, hstep.out, if_pos h0]
        go_wp2_with fail
        go_ret
        exact ⟨ret_int HZ2.out, rfl⟩
      | false =>
        have HZ2 : Hid (idxGo (l.drop (k + 1)) (fun a => x == a) ((k + 1 : Nat) : Int) = idxGo l (fun a => x == a) 0) := by show _ = _; rw [← HZ.out, hstep.out, if_neg (by rw [h0]; decide)]; rfl
        go_wp2_with fail
        go_roundg (gk - 1)
        case rel => exact ⟨k + 1, by omega, HZ2, by go_num, rfl⟩
        case measure => omega
    · go_wp2_with fail
      go_ret
      have hz := HZ.out
      rw [List.drop_eq_nil_of_le (by omega)] at hz
      exact ⟨ret_int hz, rfl⟩

set_option maxRecDepth 100000 in
set_option maxHeartbeats 1000000 in
theorem contains_any (A : Option Addr) (n c : Nat) (l : List Int) (x : Int) (w : World) (h : IntsR w A n l) (hl : n ≤ 1000) :
    Calls Tryz.prog 169 #[.slice A n c, .int .i64 x] w fun e w' => e = .returned (.bool (decide (x ∈ l))) ∧ w = w' := by
  obtain rfl := h.1
  have H := Lib.hid h; clear h
  have HF : Hid (decide (x ∈ l) = decide (0 ≤ idxGo l (fun a => x == a) 0)) := by
    show decide (x ∈ l) = _
    rw [Bool.eq_iff_iff]; simp [idxGo_mem l x 0 (by omega)]
  go_enter Tryz.func169, Tryz.ntmps169
  go_wp2_with (go_at_call 174; refine (index_any _ _ _ l _ _ H.out hl).mono ?_; rintro e w' ⟨rfl, rfl⟩)
  go_ret
  exact ⟨ret_bool HF.out.symm, rfl⟩

set_option maxRecDepth 100000 in
set_option maxHeartbeats 1000000 in
theorem mex_any (A : Option Addr) (n c : Nat) (l : List Int) (w : World) (h : IntsR w A n l) (hl : n ≤ 1000) :
    Calls Tryz.prog 161 #[.slice A n c] w fun e w' => e = .returned (.int .i64 (mexF l)) ∧ w = w' := by
  obtain rfl := h.1
  have H := Lib.hid h; clear h
  have hcl := cntGe_le l 0
  go_enter Tryz.func161, Tryz.ntmps161
  go_wp2_with fail
  go_loopg [3] (cntGe l 0) (fun g rv wr => ∃ (k : Int), 0 ≤ k ∧ k + g = cntGe l 0 ∧ cntGe l k ≤ g ∧ Hid (mexGo l g k = mexF l) ∧ rv = .int .i64 k ∧ w = wr)
  case atStart => exact ⟨0, by omega, by omega, Nat.le_refl _, rfl, rfl, rfl⟩
  case round =>
    obtain ⟨k, hk0, hk, hg, HZ, rfl, rfl⟩ := hrel
    by_cases hm : k ∈ l
    · have hc := cntGe_lt hm
      obtain ⟨g, rfl⟩ : ∃ g, gk = g + 1 := ⟨gk - 1, by omega⟩
      have HZ2 : Hid (mexGo l g (k + 1) = mexF l) := by
        have := HZ.out
        simp only [mexGo] at this
        rw [if_pos hm] at this
        exact this
      have hd : decide (k ∈ l) = true := decide_eq_true hm
      have hk6 : k ≤ 1000000 := by omega
      clear hm
      go_wp2_with (go_at_call 169; refine (contains_any _ _ _ l _ _ H.out hl).mono ?_; rintro e w' ⟨rfl, rfl⟩; rw [hd])
      go_roundg g
      case rel => exact ⟨k + 1, by omega, by omega, by omega, HZ2, rfl, rfl⟩
      case measure => omega
    · have HZ2 : Hid (k = mexF l) := by
        have := HZ.out
        cases gk with
        | zero => exact this
        | succ g => simp only [mexGo] at this; rw [if_neg hm] at this; exact this
      have hd : decide (k ∈ l) = false := decide_eq_false hm
      clear hm
      go_wp2_with (go_at_call 169; refine (contains_any _ _ _ l _ _ H.out hl).mono ?_; rintro e w' ⟨rfl, rfl⟩; rw [hd])
      go_ret
      exact ⟨ret_int HZ2.out, rfl⟩

set_option maxHeartbeats 1000000 in
theorem indexFunc_any (f : FuncId) (p : Int → Bool) (hf : ∀ a w, Calls Tryz.prog f #[.int .i64 a] w fun e w' => e = .returned (.bool (p a)) ∧ w = w') (hcall : ∀ a w, (callFunc f #[a]).run Tryz.prog w = .ok (.enter f #[a]) w)
    (A : Option Addr) (n c : Nat) (l : List Int) (w : World) (h : IntsR w A n l) (hl : n ≤ 1000) :
    Calls Tryz.prog 158 #[.slice A n c, .func (.func f) #[] #[]] w fun e w' => e = .returned (.int .i64 (idxGo l p 0)) ∧ w = w' := by
  obtain rfl := h.1
  have H := Lib.hid h; clear h
  have HF := Lib.hid hf; clear hf
  go_enter Tryz.func158, Tryz.ntmps158
  go_wp2_with fail
  go_loopg [8] l.length (fun g iv wr => ∃ (k : Nat), k + g = l.length ∧ Hid (idxGo (l.drop k) p k = idxGo l p 0) ∧ iv = .int .i64 k ∧ w = wr)
  case atStart => exact ⟨0, by omega, rfl, rfl, rfl⟩
  case round =>
    obtain ⟨k, hk, HZ, rfl, rfl⟩ := hrel
    by_cases hlt : k < l.length
    · obtain ⟨b, o, rfl, hb, hc⟩ := H.out.at_ k hlt
      have hstep : Hid (idxGo (l.drop k) p k = if p l[k] = true then (k : Int) else idxGo (l.drop (k + 1)) p ((k : Int) + 1)) := by
        show idxGo (l.drop k) p k = _
        rw [List.drop_eq_getElem_cons hlt]; rfl
      cases h0 : p l[k] with
      | true =>
        have HZ2 : Hid ((k : Int) = idxGo l p 0) := by show _ = _; rw [← HZ.out, hstep.out, if_pos h0]
        go_wp2_with (((with_reducible refine (HF.out _ _).mono ?_); rintro e w' ⟨rfl, rfl⟩; rw [h0]))
        go_ret
        exact ⟨ret_int HZ2.out, rfl⟩
      | false =>
        have HZ2 : Hid (idxGo (l.drop (k + 1)) p ((k + 1 : Nat) : Int) = idxGo l p 0) := by show _ = _; rw [← HZ.out, hstep.out, if_neg (by rw [h0]; decide)]; rfl
        go_wp2_with (((with_reducible refine (HF.out _ _).mono ?_); rintro e w' ⟨rfl, rfl⟩; rw [h0]))
        go_roundg (gk - 1)
        case rel => exact ⟨k + 1, by omega, HZ2, by go_num, rfl⟩
        case measure => omega
    · go_wp2_with fail
      go_ret
      have hz := HZ.out
      rw [List.drop_eq_nil_of_le (by omega)] at hz
      exact ⟨ret_int hz, rfl⟩

set_option maxRecDepth 100000 in
set_option maxHeartbeats 1000000 in
theorem occurs_any (A : Option Addr) (n c : Nat) (l : List Int) (x : Int) (w : World) (h : IntsR w A n l) (hl : n ≤ 1000) :
    Calls Tryz.prog 148 #[.slice A n c, .int .i64 x] w fun e w' => e = .returned (.bool (decide (x ∈ l))) ∧ w = w' := by
  obtain rfl := h.1
  have H := Lib.hid h; clear h
  go_enter Tryz.func148, Tryz.ntmps148
  go_wp2_with fail
  go_loopg [5] l.length (fun g iv wr => ∃ (k : Nat), k + g = l.length ∧ Hid (decide (x ∈ l.drop k) = decide (x ∈ l)) ∧ iv = .int .i64 k ∧ w = wr)
  case atStart => exact ⟨0, by omega, rfl, rfl, rfl⟩
  case round =>
    obtain ⟨k, hk, HZ, rfl, rfl⟩ := hrel
    by_cases hlt : k < l.length
    · obtain ⟨b, o, rfl, hb, hc⟩ := H.out.at_ k hlt
      have hstep : Hid (decide (x ∈ l.drop k) = ((l[k] == x) || decide (x ∈ l.drop (k + 1)))) := by
        show decide (x ∈ l.drop k) = _
        rw [List.drop_eq_getElem_cons hlt, Bool.eq_iff_iff]
        simp only [List.mem_cons, decide_eq_true_eq, Bool.or_eq_true, beq_iff_eq]
        exact ⟨fun h => h.elim (fun e => .inl e.symm) .inr, fun h => h.elim (fun e => .inl e.symm) .inr⟩
      cases h0 : (l[k] == x) with
      | true =>
        have HZ2 : Hid (true = decide (x ∈ l)) := by show _ = _; rw [← HZ.out, hstep.out, h0]; rfl
        go_wp2_with fail
        go_ret
        exact ⟨ret_bool HZ2.out, rfl⟩
      | false =>
        have HZ2 : Hid (decide (x ∈ l.drop (k + 1)) = decide (x ∈ l)) := by show _ = _; rw [← HZ.out, hstep.out, h0]; rfl
        go_wp2_with fail
        go_roundg (gk - 1)
        case rel => exact ⟨k + 1, by omega, HZ2, by go_num, rfl⟩
        case measure => omega
    · go_wp2_with fail
      go_ret
      have hz := HZ.out
      rw [List.drop_eq_nil_of_le (by omega)] at hz
      exact ⟨ret_bool (by simpa using hz), rfl⟩

set_option maxRecDepth 100000 in
set_option maxHeartbeats 1000000 in
theorem fold_any (A : Option Addr) (n c : Nat) (l : List Int) (op : Int) (w : World) (h : IntsR w A n l) (hl : n ≤ 1000) (h1 : 20 ≤ op) (h2 : op ≤ 29) (hn : ∀ x ∈ l, Num x) :
    Calls Tryz.prog 145 #[.int .i64 op, .slice A n c] w fun e w' => e = .returned (.int .i64 (foldF op l)) ∧ w = w' := by
  obtain rfl := h.1
  have H := Lib.hid h; clear h
  have HN := Lib.hid hn; clear hn
  have hcase : op = 20 ∨ op = 21 ∨ op = 22 ∨ op = 23 ∨ op = 24 ∨ op = 25 ∨ op = 26 ∨ op = 27 ∨ op = 28 ∨ op = 29 := by omega
  clear h1 h2
  rcases hcase with h | h | h | h | h | h | h | h | h | h
  · subst h
    go_enter Tryz.func145, Tryz.ntmps145
    go_wp2_with (first
      | (go_at_call 157; refine (count_any _ _ _ l _ H.out hl).mono ?_; rintro e w' ⟨rfl, rfl⟩)
      | (go_at_call 143; refine (truth_any _ _).mono ?_; rintro e w' ⟨rfl, rfl⟩))
    go_ret
    exact ⟨rfl, rfl⟩
  · subst h
    go_enter Tryz.func145, Tryz.ntmps145
    go_wp2_with (first
      | (go_at_call 157; refine (count_any _ _ _ l _ H.out hl).mono ?_; rintro e w' ⟨rfl, rfl⟩)
      | (go_at_call 143; refine (truth_any _ _).mono ?_; rintro e w' ⟨rfl, rfl⟩))
    go_ret
    exact ⟨rfl, rfl⟩
  · subst h
    go_enter Tryz.func145, Tryz.ntmps145
    go_wp2_with (first
      | (go_at_call 157; refine (count_any _ _ _ l _ H.out hl).mono ?_; rintro e w' ⟨rfl, rfl⟩))
    go_ret
    exact ⟨rfl, rfl⟩
  · subst h
    have HF : Hid (idxGo l (fun a => a != 0) 0 = foldF 23 l) := idxGo_first l 0
    go_enter Tryz.func145, Tryz.ntmps145
    go_wp2_with (go_at_call 158; refine (indexFunc_any 159 (fun a => a != 0) (fun a w => fold1_any a w) (fun _ _ => by kernel_rfl) _ _ _ l _ H.out hl).mono ?_; rintro e w' ⟨rfl, rfl⟩)
    go_ret
    exact ⟨ret_int HF.out, rfl⟩
  · subst h
    go_enter Tryz.func145, Tryz.ntmps145
    go_wp2_with fail
    go_loopg [5, 42] l.length (fun g mv iv wr => ∃ (k : Nat) (z : Int), k + g = l.length ∧ Hid ((l.drop k).foldl min z = foldF 24 l) ∧ mv = .int .i64 z ∧ iv = .int .i64 k ∧ w = wr)
    case atStart => exact ⟨0, _, by omega, rfl, rfl, rfl, rfl⟩
    case round =>
      obtain ⟨k, z, hk, HZ, rfl, rfl, rfl⟩ := hrel
      by_cases hlt : k < l.length
      · obtain ⟨b, o, rfl, hb, hc⟩ := H.out.at_ k hlt
        obtain ⟨m, hm, hm'⟩ := ite_min z l[k]
        have HZ2 : Hid ((l.drop (k + 1)).foldl min m = foldF 24 l) := by
          have := HZ.out
          rw [List.drop_eq_getElem_cons hlt, List.foldl_cons, ← hm'] at this
          exact this
        clear hm'
        go_wp2_with fail
        go_roundg (gk - 1)
        case rel => exact ⟨k + 1, m, by omega, HZ2, rfl, by go_num, rfl⟩
        case measure => omega
      · go_wp2_with fail
        go_ret
        have hz := HZ.out
        rw [List.drop_eq_nil_of_le (by omega)] at hz
        exact ⟨ret_int hz, rfl⟩
  · subst h
    go_enter Tryz.func145, Tryz.ntmps145
    go_wp2_with (first
      | (go_at_call 160; refine (two_any _ _ _ l _ H.out hl).mono ?_; rintro e w' ⟨rfl, rfl⟩))
    go_ret
    exact ⟨rfl, rfl⟩
  · subst h
    go_enter Tryz.func145, Tryz.ntmps145
    go_wp2_with fail
    go_loopg [10, 63] l.length (fun g sv iv wr => ∃ (k : Nat) (z : Int), k + g = l.length ∧ -(1073741824 * k) ≤ z ∧ z ≤ 1073741824 * k ∧ Hid (satF ((l.drop k).foldl (· + ·) z) = foldF 26 l) ∧ sv = .int .i64 z ∧ iv = .int .i64 k ∧ w = wr)
    case atStart => exact ⟨0, 0, by omega, by omega, by omega, rfl, rfl, rfl, rfl⟩
    case round =>
      obtain ⟨k, z, hk, hz1, hz2, HZ, rfl, rfl, rfl⟩ := hrel
      by_cases hlt : k < l.length
      · obtain ⟨b, o, rfl, hb, hc⟩ := H.out.at_ k hlt
        have hx := HN.out l[k] (List.getElem_mem _)
        unfold Num at hx
        obtain ⟨hx1, hx2⟩ := hx
        have HZ2 : Hid (satF ((l.drop (k + 1)).foldl (· + ·) (z + l[k])) = foldF 26 l) := by
          have := HZ.out
          rw [List.drop_eq_getElem_cons hlt, List.foldl_cons] at this
          exact this
        go_wp2_with fail
        go_roundg (gk - 1)
        case rel => exact ⟨k + 1, z + l[k], by omega, by omega, by omega, HZ2, rfl, by go_num, rfl⟩
        case measure => omega
      · have hz := HZ.out
        rw [List.drop_eq_nil_of_le (by omega)] at hz
        have HZ2 := Lib.hid hz; clear hz
        go_wp2_with (go_at_call 150; refine (saturated_any _ _).mono ?_; rintro e w' ⟨rfl, rfl⟩)
        go_ret
        exact ⟨ret_int HZ2.out, rfl⟩
  · subst h
    go_enter Tryz.func145, Tryz.ntmps145
    go_wp2_with (first
      | (go_at_call 161; refine (mex_any _ _ _ l _ H.out hl).mono ?_; rintro e w' ⟨rfl, rfl⟩))
    go_ret
    exact ⟨rfl, rfl⟩
  · subst h
    go_enter Tryz.func145, Tryz.ntmps145
    go_wp2_with (first
      | (go_at_call 160; refine (two_any _ _ _ l _ H.out hl).mono ?_; rintro e w' ⟨rfl, rfl⟩))
    go_ret
    exact ⟨rfl, rfl⟩
  · subst h
    rcases l with _ | ⟨x, l⟩
    · go_enter Tryz.func145, Tryz.ntmps145
      go_wp2_with fail
      go_ret
      exact ⟨rfl, rfl⟩
    · obtain ⟨b, o, rfl, hb, hc⟩ := H.out.at_ 0 (by simp)
      have hc' : w.cell? ⟨b, o, none⟩ = some (.int .i64 x) := by simpa using hc
      clear hc
      have hne : (((x :: l).length : Int) == 0) = false := by simp; omega
      go_enter Tryz.func145, Tryz.ntmps145
      go_wp2_with fail
      go_ret
      exact ⟨rfl, rfl⟩

end Go.Proofs.YtaifafljakojnaaGreat

/- Contracts: Valid of graphs, the greatest identifier, the bounds of a variable. -/
namespace Go.Proofs.YtaifafljakojnaaGreat
open Go.RowKit

theorem nat_lt1 {n : Nat} (h : 1 ≤ n) : decide (n < 1) = false := by simp; omega
theorem int_lt1 {n : Nat} (h : 1 ≤ n) : decide ((n : Int) < 1) = false := by simp; omega
theorem nat_lt1' {n : Nat} (h : n < 1) : decide (n < 1) = true := by simp; omega
theorem int_lt1' {n : Nat} (h : n < 1) : decide ((n : Int) < 1) = true := by simp; omega
set_option maxRecDepth 100000 in
set_option maxHeartbeats 2000000 in
theorem graphValid_any (v : Value) (g : Graph) (w : World) (h : GraphV w v g) (hlg : lightG g = true) :
    Calls Tryz.prog 108 #[v] w fun e w' => e = .returned (.bool (graphB g)) ∧ Bel w w' := by
  obtain ⟨A, k, A2, k2, rfl, hI, _, _, hP, _, _⟩ := h
  have HI := Lib.hid (fun w' (k : Bel w w') => IntsR.keep hI k); clear hI
  have HP := Lib.hid (fun w' (k : Bel w w') => PortsR.keep hP k); clear hP
  obtain ⟨hl1, hl2, hl3⟩ := lightG_parts hlg
  have HL3 := Lib.hid hl3; clear hl3 hlg
  have HG := Lib.hid (graphB_sym g)
  have HB := Bel.refl (w.alloc (.cells #[.slice A g.ids.length k, .slice A2 g.ports.length k2] 30))
  by_cases hn : 1 ≤ g.ports.length ∧ g.ports.length ≤ 24 ∧ g.ids.length = g.ports.length
  · have hd1 : decide (g.ids.length < 1) = false := nat_lt1 (by omega)
    have hd2 : decide (24 < g.ids.length) = false := by simp; omega
    have hd3 : (g.ports.length != g.ids.length) = false := by simp; omega
    have hd3' : ((g.ports.length : Int) != (g.ids.length : Int)) = false := by simp; omega
    have hd1' : decide ((g.ids.length : Int) < 1) = false := int_lt1 (by omega)
    rw [decide_eq_true hn] at HG
    have hn1 : 1 ≤ g.ids.length := by omega
    have hn2 : g.ids.length ≤ 24 := by omega
    clear hn
    cases hi : idsOK g.ids with
    | false =>
      go_enter Tryz.func108, Tryz.ntmps108
      go_wp2_with (go_at_call 137; refine (differentIDs_any _ _ g.ids _ (HI.out _ (box_bel HB)) (by omega)).mono ?_; rintro e w' ⟨rfl, hb⟩; rw [hi]; replace HB := HB.trans hb; clear hb)
      go_ret
      exact ⟨ret_bool (by rw [HG.out, hi]; rfl), box_bel HB⟩
    | true =>
      have HII := Lib.hid hi; clear hi
      go_enter Tryz.func108, Tryz.ntmps108
      go_wp2_with (first
        | (go_at_call 137; refine (differentIDs_any _ _ g.ids _ (HI.out _ (box_bel HB)) (by omega)).mono ?_; rintro e w' ⟨rfl, hb⟩; rw [HII.out]; replace HB := HB.trans hb; clear hb; have q1 := box_cell HB 1 rfl; have q2 := box_lt HB)
        | (go_at_call 138; refine (symmetric_any _ _ g.ports _ (HP.out _ (box_bel HB)) (by omega) HL3.out).mono ?_; rintro e w' ⟨rfl, hb⟩; replace HB := HB.trans hb; clear hb))
      go_ret
      exact ⟨ret_bool (by rw [HG.out, HII.out]; rfl), box_bel HB⟩
  · rw [decide_eq_false hn] at HG
    by_cases h1 : g.ids.length < 1
    · have hd1 : decide (g.ids.length < 1) = true := nat_lt1' h1
      have hd1' : decide ((g.ids.length : Int) < 1) = true := int_lt1' h1
      clear hn
      go_enter Tryz.func108, Tryz.ntmps108
      go_wp2_with fail
      go_ret
      exact ⟨ret_bool (by rw [HG.out]; rfl), box_bel HB⟩
    · have hd1 : decide (g.ids.length < 1) = false := nat_lt1 (by omega)
      have hd1' : decide ((g.ids.length : Int) < 1) = false := int_lt1 (by omega)
      by_cases h2 : 24 < g.ids.length
      · have hd2 : decide (24 < g.ids.length) = true := by simpa using h2
        clear hn
        go_enter Tryz.func108, Tryz.ntmps108
        go_wp2_with fail
        go_ret
        exact ⟨ret_bool (by rw [HG.out]; rfl), box_bel HB⟩
      · have hd2 : decide (24 < g.ids.length) = false := by simpa using h2
        have hd3 : (g.ports.length != g.ids.length) = true := by simp; omega
        have hd3' : ((g.ports.length : Int) != (g.ids.length : Int)) = true := by simp; omega
        clear hn
        go_enter Tryz.func108, Tryz.ntmps108
        go_wp2_with fail
        go_ret
        exact ⟨ret_bool (by rw [HG.out]; rfl), box_bel HB⟩

theorem gmax_take_succ {l : List Int} {k : Nat} (h : k < l.length) : gmax (l.take (k + 1)) = max (gmax (l.take k)) l[k] := by
  unfold gmax
  rw [List.take_succ_eq_append_getElem h, List.foldl_append]; rfl

set_option maxRecDepth 100000 in
theorem slicesMax_any (A : Option Addr) (c : Nat) (ids : List Int) (w : World) (h : IntsR w A ids.length ids) (hl : ids.length ≤ 1000) (hp : 1 ≤ ids.length) (h0 : ∀ i ∈ ids, 0 ≤ i) :
    Calls Tryz.prog 140 #[.slice A ids.length c] w fun e w' => e = .returned (.int .i64 (gmax ids)) ∧ w = w' := by
  have H := Lib.hid h; clear h
  have hz : decide (ids.length < 1) = false := nat_lt1 hp
  have hz' : decide ((ids.length : Int) < 1) = false := int_lt1 hp
  obtain ⟨b, o, rfl, hb, hc⟩ := H.out.at_ 0 (by omega)
  have hpos : 0 < ids.length := by omega
  simp only [Nat.add_zero] at hc
  have HS : Hid (gmax (ids.take 1) = ids[0]) := by
    show gmax (ids.take 1) = ids[0]
    rw [gmax_take_succ (k := 0) (by omega)]
    have := h0 ids[0] (List.getElem_mem _)
    simp [gmax]; omega
  clear h0
  go_enter Tryz.func140, Tryz.ntmps140
  go_wp2
  clear hz hz' hc
  go_loopg [3, 4] (ids.length - 1) (fun m s z wr => ∃ j : Nat, j ≤ ids.length ∧ m = ids.length - j ∧ z = .int .i64 j ∧ s = .int .i64 (gmax (ids.take j)) ∧ w = wr)
  case atStart => exact ⟨1, by omega, rfl, rfl, by rw [HS.out], rfl⟩
  case round =>
    obtain ⟨j, hj, rfl, rfl, rfl, rfl⟩ := hrel
    by_cases hlt : j < ids.length
    · have hd0 : decide (j < ids.length) = true := by simpa using hlt
      obtain ⟨b', o', e', _, hc⟩ := H.out.at_ j hlt
      obtain ⟨rfl, rfl⟩ : b = b' ∧ o = o' := by simpa using e'
      have HN := Lib.hid (gmax_take_succ hlt)
      generalize gmax (ids.take j) = G at *
      obtain ⟨m, hm, hm'⟩ := ite_max G ids[j]
      have HM := Lib.hid hm'
      clear hm' e'
      go_wp2
      go_roundg (ids.length - (j + 1))
      case rel => exact ⟨j + 1, by omega, rfl, by go_num, by rw [HN.out, ← HM.out], rfl⟩
      case measure => omega
    · have hd0 : decide (j < ids.length) = false := by simpa using hlt
      go_wp2
      go_ret
      exact ⟨ret_int (by rw [List.take_of_length_le (by omega)]), rfl⟩

set_option maxRecDepth 100000 in
theorem greatest_any (v : Value) (g : Graph) (w : World) (h : GraphV w v g) (hl : g.ids.length ≤ 1000) :
    Calls Tryz.prog 118 #[v] w fun e w' => e = .returned (.int .i64 (gmax g.ids)) ∧ Bel w w' := by
  obtain ⟨A, k, A2, k2, rfl, hI, _, _, hP, _, _⟩ := h
  have H := Lib.hid hI; clear hI hP
  go_enter Tryz.func118, Tryz.ntmps118
  go_wp2
  go_loopg [3, 4] g.ids.length (fun m s z wr => ∃ j : Nat, j ≤ g.ids.length ∧ m = g.ids.length - j ∧ z = .int .i64 j ∧ s = .int .i64 (gmax (g.ids.take j)) ∧ w.alloc (.cells #[.slice A g.ids.length k, .slice A2 g.ports.length k2] 30) = wr)
  case atStart => exact ⟨0, by omega, rfl, rfl, rfl, rfl⟩
  case round =>
    obtain ⟨j, hj, rfl, rfl, rfl, rfl⟩ := hrel
    by_cases hlt : j < g.ids.length
    · have hd0 : decide (j < g.ids.length) = true := by simpa using hlt
      obtain ⟨b, o, rfl, hb, hc⟩ := H.out.at_ j hlt
      have HN := Lib.hid (gmax_take_succ hlt)
      generalize gmax (g.ids.take j) = G at *
      obtain ⟨m, hm, hm'⟩ := ite_max G g.ids[j]
      have HM := Lib.hid hm'
      clear hm'
      go_wp2
      go_roundg (g.ids.length - (j + 1))
      case rel => exact ⟨j + 1, by omega, rfl, by go_num, by rw [HN.out, ← HM.out], rfl⟩
      case measure => omega
    · have hd0 : decide (j < g.ids.length) = false := by simpa using hlt
      go_wp2
      go_ret
      exact ⟨ret_int (by rw [List.take_of_length_le (by omega)]), (Bel.refl _).alloc _⟩

end Go.Proofs.YtaifafljakojnaaGreat

