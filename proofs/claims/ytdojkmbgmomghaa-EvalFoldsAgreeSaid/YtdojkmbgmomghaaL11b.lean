/- The walks of EvalDivides, EvalSaturates and EvalCompares. -/
import Derived.Test.YtdojkmbgmomghaaL11a
namespace Go.Proofs.Ytdojkmbgmomghaa
open Go.RowKit

theorem binaryR_ok {op a b : Int} (h1 : 30 ≤ op) (h2 : op ≤ 42) (ha : Num a) (hb : Num b) : binaryR op a b = (binaryF op a b, 0) := by
  unfold binaryR
  rw [if_neg (by rw [numB_true ha, numB_true hb]; simp; omega)]
theorem unaryR_ok {op a : Int} (h : op = 18 ∨ op = 19) (ha : Num a) : unaryR op a = (unaryF op a, 0) := by
  unfold unaryR
  rw [if_neg (by rw [numB_true ha]; simp; omega)]

theorem divides_facts (a b : Int) (ha : Num a) (hb : Num b) : ∃ q r, binaryR 31 a b = (q, 0) ∧ binaryR 32 a b = (r, 0) ∧ (Num q ∧ Num r) ∧ (b = 0 → q = 0 ∧ r = 0) ∧
    (b ≠ 0 → q * b + r = a ∧ (0 < b → 0 ≤ r ∧ r < b) ∧ (b < 0 → r ≤ 0 ∧ b < r)) := by
  have h31 : binaryF 31 a b = satF (quotF a b) := rfl
  have h32 : binaryF 32 a b = satF (if b = 0 then 0 else a - b * quotF a b) := rfl
  rw [binaryR_ok (by decide) (by decide) ha hb, binaryR_ok (by decide) (by decide) ha hb, h31, h32]
  by_cases h0 : b = 0
  · refine ⟨_, _, rfl, rfl, ⟨satF_num _, satF_num _⟩, fun _ => ?_, fun h => absurd h0 h⟩
    subst h0
    exact ⟨by simp [quotF]; decide, by simp; decide⟩
  · have hq := quotF_div a b h0
    have hqb := quotF_bound a b ha
    have hqn : Num (quotF a b) := by
      generalize quotF a b = q at *
      unfold Num at *
      refine ⟨?_, hqb.2⟩
      by_cases hlow : -1073741824 ≤ q
      · exact hlow
      · obtain rfl : q = -1073741825 := by omega
        rcases Int.lt_or_gt_of_ne h0 with hn | hp
        · have := hq.2 hn; omega
        · have := hq.1 hp; omega
    have hrn : Num (a - b * quotF a b) := by
      generalize b * quotF a b = P at *
      unfold Num at *
      rcases Int.lt_or_gt_of_ne h0 with hn | hp
      · have := hq.2 hn; omega
      · have := hq.1 hp; omega
    rw [if_neg h0, satF_id hqn, satF_id hrn]
    refine ⟨_, _, rfl, rfl, ⟨hqn, hrn⟩, fun h => absurd h h0, fun _ => ⟨?_, fun hp => hq.1 hp, fun hn => ?_⟩⟩
    · rw [Int.mul_comm]; omega
    · have := hq.2 hn; omega

set_option maxRecDepth 100000 in
set_option maxHeartbeats 1000000 in
theorem evalDivides_walk (a0 b0 : Int) (w : World) : Calls Try.prog 4 #[.int .i64 a0, .int .i64 b0] w fun e w' => e = .returned (.bool true) ∧ Bel w w' := by
  have ha := satF_num a0
  have hb := satF_num b0
  obtain ⟨a, hsa⟩ : ∃ x, satF a0 = x := ⟨_, rfl⟩
  obtain ⟨b, hsb⟩ : ∃ x, satF b0 = x := ⟨_, rfl⟩
  rw [hsa] at ha
  rw [hsb] at hb
  obtain ⟨q, r, h31, h32, ⟨hqn, hrn⟩, hz, hnz⟩ := divides_facts a b ha hb
  have hqb := mul_bound q b hqn (by unfold Num at hb; omega)
  unfold Num at ha hb hqn hrn
  obtain ⟨ha1, ha2⟩ := ha
  obtain ⟨hb1, hb2⟩ := hb
  obtain ⟨hq1, hq2⟩ := hqn
  obtain ⟨hr1, hr2⟩ := hrn
  obtain ⟨hqb1, hqb2⟩ := hqb
  have HB := Bel.refl w
  by_cases h0 : b = 0
  · obtain ⟨e1, e2⟩ := hz h0
    subst e1; subst e2; subst h0
    clear hnz hz
    go_enter Try.func4, Try.ntmps4
    go_wp2_with (first
      | (go_at_call 13; refine (refSaturate_any _ _).mono ?_; rintro e w' ⟨rfl, rfl⟩; first | rw [hsa] | rw [hsb])
      | (go_at_call 14; refine (evalBinary_any _ _ _ _).mono ?_; rintro e w' ⟨rfl, hb⟩; replace HB := HB.trans hb; clear hb; first | rw [h31] | rw [h32])
      | (go_at_call 10; refine (awake11_any _).mono ?_; rintro e w' ⟨rfl, hb⟩; replace HB := HB.trans hb; clear hb))
    go_ret
    exact ⟨rfl, HB⟩
  · obtain ⟨e1, e2, e3⟩ := hnz h0
    have hb0 : (b == 0) = false := by simpa using h0
    clear hnz hz
    rcases Int.lt_or_gt_of_ne h0 with hn | hp
    · obtain ⟨g1, g2⟩ := e3 hn
      have d1 : decide (0 < b) = false := by simp; omega
      have d2 : decide (b < 0) = true := by simpa using hn
      have d3 : decide (r ≤ 0) = true := by simpa using g1
      have d4 : decide (b < r) = true := by simpa using g2
      clear h0 e2 e3
      go_enter Try.func4, Try.ntmps4
      go_wp2_with (first
        | (go_at_call 13; refine (refSaturate_any _ _).mono ?_; rintro e w' ⟨rfl, rfl⟩; first | rw [hsa] | rw [hsb])
        | (go_at_call 14; refine (evalBinary_any _ _ _ _).mono ?_; rintro e w' ⟨rfl, hb⟩; replace HB := HB.trans hb; clear hb; first | rw [h31] | rw [h32])
        | (go_at_call 10; refine (awake11_any _).mono ?_; rintro e w' ⟨rfl, hb⟩; replace HB := HB.trans hb; clear hb))
      go_ret
      exact ⟨by simp_all, HB⟩
    · obtain ⟨g1, g2⟩ := e2 hp
      have d1 : decide (0 < b) = true := by simpa using hp
      have d3 : decide (0 ≤ r) = true := by simpa using g1
      have d4 : decide (r < b) = true := by simpa using g2
      clear h0 e2 e3
      go_enter Try.func4, Try.ntmps4
      go_wp2_with (first
        | (go_at_call 13; refine (refSaturate_any _ _).mono ?_; rintro e w' ⟨rfl, rfl⟩; first | rw [hsa] | rw [hsb])
        | (go_at_call 14; refine (evalBinary_any _ _ _ _).mono ?_; rintro e w' ⟨rfl, hb⟩; replace HB := HB.trans hb; clear hb; first | rw [h31] | rw [h32])
        | (go_at_call 10; refine (awake11_any _).mono ?_; rintro e w' ⟨rfl, hb⟩; replace HB := HB.trans hb; clear hb))
      go_ret
      exact ⟨by simp_all, HB⟩

set_option maxRecDepth 100000 in
set_option maxHeartbeats 1000000 in
theorem evalSaturates_walk (op a0 b0 : Int) (w : World) : Calls Try.prog 8 #[.int .i64 op, .int .i64 a0, .int .i64 b0] w fun e w' => e = .returned (.bool true) ∧ Bel w w' := by
  have ha := satF_num a0
  have hb := satF_num b0
  obtain ⟨a, hsa⟩ : ∃ x, satF a0 = x := ⟨_, rfl⟩
  obtain ⟨b, hsb⟩ : ∃ x, satF b0 = x := ⟨_, rfl⟩
  rw [hsa] at ha
  rw [hsb] at hb
  have hm1 : 0 ≤ modF op 13 := Int.emod_nonneg _ (by omega)
  have hm2 : modF op 13 < 13 := Int.emod_lt_of_pos _ (by omega)
  have hnb : Num (-b) := by unfold Num at *; omega
  have e1 := binaryR_ok (op := 30 + modF op 13) (by omega) (by omega) ha hb
  have e2 := binaryR_ok (op := 30) (by omega) (by omega) ha hb
  have e3 : binaryR 30 b a = (binaryF 30 a b, 0) := by
    rw [binaryR_ok (op := 30) (by omega) (by omega) hb ha]
    show (satF (b * a), 0) = (satF (a * b), 0)
    rw [Int.mul_comm]
  have e4 := binaryR_ok (op := 34) (by omega) (by omega) ha hb
  have e5 : unaryR 18 b = (-b, 0) := by rw [unaryR_ok (.inl rfl) hb]; rfl
  have e6 : binaryR 33 (-b) a = (binaryF 34 a b, 0) := by
    rw [binaryR_ok (op := 33) (by omega) (by omega) hnb ha]
    show (satF (-b + a), 0) = (satF (a - b), 0)
    rw [show -b + a = a - b by omega]
  have n1 : numB (binaryF (30 + modF op 13) a b) = true := numB_true (satF_num _)
  have n2 : numB (binaryF 30 a b) = true := numB_true (satF_num _)
  generalize hO : modF op 13 = O at *
  generalize hx : binaryF (30 + O) a b = x at *
  generalize hxm : binaryF 30 a b = m at *
  generalize hxs : binaryF 34 a b = s at *
  clear hx hxm hxs hnb
  unfold Num at ha hb
  obtain ⟨ha1, ha2⟩ := ha
  obtain ⟨hb1, hb2⟩ := hb
  have HB := Bel.refl w
  go_enter Try.func8, Try.ntmps8
  go_wp2_with (first
    | (go_at_call 13; refine (refSaturate_any _ _).mono ?_; rintro e w' ⟨rfl, rfl⟩; first | rw [hsa] | rw [hsb])
    | (go_at_call 15; refine (mod_any _ _ _ (by omega) (by omega)).mono ?_; rintro e w' ⟨rfl, rfl⟩; rw [hO])
    | (go_at_call 14; refine (evalBinary_any _ _ _ _).mono ?_; rintro e w' ⟨rfl, hb⟩; replace HB := HB.trans hb; clear hb; first | rw [e2] | rw [e3] | rw [e4] | rw [e6] | rw [e1])
    | (go_at_call 16; refine (evalUnary_any _ _ _).mono ?_; rintro e w' ⟨rfl, hb⟩; replace HB := HB.trans hb; clear hb; rw [e5])
    | (go_at_call 19; refine (refNumber_any _ _).mono ?_; rintro e w' ⟨rfl, rfl⟩; first | rw [n2] | rw [n1])
    | (go_at_call 10; refine (awake11_any _).mono ?_; rintro e w' ⟨rfl, hb⟩; replace HB := HB.trans hb; clear hb))
  go_ret
  exact ⟨by simp, HB⟩

theorem compares_facts (a b : Int) (ha : Num a) (hb : Num b) : ∃ lt eq gt ge le ne an x y o : Int,
    binaryR 37 a b = (lt, 0) ∧ binaryR 35 a b = (eq, 0) ∧ binaryR 39 a b = (gt, 0) ∧ binaryR 40 a b = (ge, 0) ∧ binaryR 38 a b = (le, 0) ∧ binaryR 36 a b = (ne, 0) ∧ binaryR 41 a b = (an, 0) ∧
    unaryR 19 a = (x, 0) ∧ unaryR 19 b = (y, 0) ∧ binaryR 42 x y = (o, 0) ∧
    (0 ≤ lt ∧ lt ≤ 1) ∧ (0 ≤ eq ∧ eq ≤ 1) ∧ (0 ≤ gt ∧ gt ≤ 1) ∧ (0 ≤ ge ∧ ge ≤ 1) ∧ (0 ≤ le ∧ le ≤ 1) ∧ (0 ≤ ne ∧ ne ≤ 1) ∧ (0 ≤ an ∧ an ≤ 1) ∧ (0 ≤ o ∧ o ≤ 1) ∧
    lt + eq + gt = 1 ∧ lt + ge = 1 ∧ gt + le = 1 ∧ eq + ne = 1 ∧ an + o = 1 := by
  have tb : ∀ c : Bool, 0 ≤ truthI c ∧ truthI c ≤ 1 := by intro c; have := truthI_01 c; omega
  refine ⟨truthI (decide (a < b)), truthI (a == b), truthI (decide (b < a)), truthI (decide (b ≤ a)), truthI (decide (a ≤ b)), truthI (a != b), truthI (a != 0 && b != 0), truthI (a == 0), truthI (b == 0), truthI (truthI (a == 0) != 0 || truthI (b == 0) != 0), ?_⟩
  rw [binaryR_ok (by omega) (by omega) ha hb, binaryR_ok (by omega) (by omega) ha hb, binaryR_ok (by omega) (by omega) ha hb, binaryR_ok (by omega) (by omega) ha hb, binaryR_ok (by omega) (by omega) ha hb, binaryR_ok (by omega) (by omega) ha hb, binaryR_ok (by omega) (by omega) ha hb,
    unaryR_ok (.inr rfl) ha, unaryR_ok (.inr rfl) hb, binaryR_ok (by omega) (by omega) (truthI_num _) (truthI_num _)]
  refine ⟨?_, ?_, ?_, ?_, ?_, ?_, ?_, rfl, rfl, ?_, tb _, tb _, tb _, tb _, tb _, tb _, tb _, tb _, ?_, ?_, ?_, ?_, ?_⟩
  all_goals first
    | (congr 1; exact satF_truthI _)
    | skip
  all_goals unfold truthI
  · rcases Int.lt_trichotomy a b with h | h | h <;> simp [h] <;> omega
  · by_cases h : a < b <;> simp [h] <;> omega
  · by_cases h : b < a <;> simp [h] <;> omega
  · by_cases h : a = b <;> simp [h]
  · by_cases h : a = 0 <;> by_cases h' : b = 0 <;> simp [h, h']

set_option maxRecDepth 100000 in
set_option maxHeartbeats 1000000 in
theorem evalCompares_walk (a0 b0 : Int) (w : World) : Calls Try.prog 9 #[.int .i64 a0, .int .i64 b0] w fun e w' => e = .returned (.bool true) ∧ Bel w w' := by
  have ha := satF_num a0
  have hb := satF_num b0
  obtain ⟨a, hsa⟩ : ∃ x, satF a0 = x := ⟨_, rfl⟩
  obtain ⟨b, hsb⟩ : ∃ x, satF b0 = x := ⟨_, rfl⟩
  rw [hsa] at ha
  rw [hsb] at hb
  obtain ⟨lt, eq, gt, ge, le, ne, an, x, y, o, e1, e2, e3, e4, e5, e6, e7, e8, e9, e10, ⟨a1, b1⟩, ⟨a2, b2⟩, ⟨a3, b3⟩, ⟨a4, b4⟩, ⟨a5, b5⟩, ⟨a6, b6⟩, ⟨a7, b7⟩, ⟨a8, b8⟩, s1, s2, s3, s4, s5⟩ := compares_facts a b ha hb
  clear ha hb
  have HB := Bel.refl w
  go_enter Try.func9, Try.ntmps9
  go_wp2_with (first
    | (go_at_call 13; refine (refSaturate_any _ _).mono ?_; rintro e w' ⟨rfl, rfl⟩; first | rw [hsa] | rw [hsb])
    | (go_at_call 14; refine (evalBinary_any _ _ _ _).mono ?_; rintro e w' ⟨rfl, hb⟩; replace HB := HB.trans hb; clear hb; first | rw [e1] | rw [e2] | rw [e3] | rw [e4] | rw [e5] | rw [e6] | rw [e7] | rw [e10])
    | (go_at_call 16; refine (evalUnary_any _ _ _).mono ?_; rintro e w' ⟨rfl, hb⟩; replace HB := HB.trans hb; clear hb; first | rw [e8] | rw [e9])
    | (go_at_call 10; refine (awake11_any _).mono ?_; rintro e w' ⟨rfl, hb⟩; replace HB := HB.trans hb; clear hb))
  go_ret
  exact ⟨by simp_all, HB⟩
end Go.Proofs.Ytdojkmbgmomghaa
