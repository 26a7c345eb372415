/- Merged of: L11b (see NOTES.md). -/
import Derived.Test.YtibfjhhadbkkgaaGreatZ03
set_option linter.unusedSimpArgs false
set_option linter.unnecessarySimpa false
set_option linter.unusedVariables false

/- The walks of EvalDivides, EvalSaturates and EvalCompares. -/
namespace Go.Proofs.YtibfjhhadbkkgaaGreat
open Go.RowKit

theorem binaryR_ok {op a b : Int} (h1 : 30 ≤ op) (h2 : op ≤ 42) (ha : Num a) (hb : Num b) : binaryR op a b = (binaryF op a b, 0) := by
  unfold binaryR
  rw [if_neg (by rw [numB_true ha, numB_true hb]; simp; omega)]
theorem unaryR_ok {op a : Int} (h : op = 18 ∨ op = 19) (ha : Num a) : unaryR op a = (unaryF op a, 0) := by
  unfold unaryR
  rw [if_neg (by rw [numB_true ha]; simp; omega)]

theorem divides_facts (a b : Int) (ha : Num a) (hb : Num b) : ∃ q r, binaryR 31 a b = (q, 0) ∧ binaryR 32 a b = (r, 0) ∧ (Num q ∧ Num r) ∧ (b = 0 → q = 0 ∧ r = 0) ∧
    (b ≠ 0 → q * b + r = a ∧ (0 < b → 0 ≤ r ∧ r < b) ∧ (b < 0 → r ≤ 0 ∧ b < r)) := by
  have h31 : binaryF 31 a b = satF (quotF a b) := rfl
  have h32 : binaryF 32 a b = satF (if b = 0 then 0 else a - b * quotF a b) := rfl
  rw [binaryR_ok (by decide) (by decide) ha hb, binaryR_ok (by decide) (by decide) ha hb, h31, h32]
  by_cases h0 : b = 0
  · refine ⟨_, _, rfl, rfl, ⟨satF_num _, satF_num _⟩, fun _ => ?_, fun h => absurd h0 h⟩
    subst h0
    exact ⟨by simp [quotF]; decide, by simp; decide⟩
  · have hq := quotF_div a b h0
    have hqb := quotF_bound a b ha
    have hqn : Num (quotF a b) := by
      generalize quotF a b = q at *
      unfold Num at *
      refine ⟨?_, hqb.2⟩
      by_cases hlow : -1073741824 ≤ q
      · exact hlow
      · obtain rfl : q = -1073741825 := by omega
        rcases Int.lt_or_gt_of_ne h0 with hn | hp
        · have := hq.2 hn; omega
        · have := hq.1 hp; omega
    have hrn : Num (a - b * quotF a b) := by
      generalize b * quotF a b = P at *
      unfold Num at *
      rcases Int.lt_or_gt_of_ne h0 with hn | hp
      · have := hq.2 hn; omega
      · have := hq.1 hp; omega
    rw [if_neg h0, satF_id hqn, satF_id hrn]
    refine ⟨_, _, rfl, rfl, ⟨hqn, hrn⟩, fun h => absurd h h0, fun _ => ⟨?_, fun hp => hq.1 hp, fun hn => ?_⟩⟩
    · rw [Int.mul_comm]; omega
    · have := hq.2 hn; omega



theorem compares_facts (a b : Int) (ha : Num a) (hb : Num b) : ∃ lt eq gt ge le ne an x y o : Int,
    binaryR 37 a b = (lt, 0) ∧ binaryR 35 a b = (eq, 0) ∧ binaryR 39 a b = (gt, 0) ∧ binaryR 40 a b = (ge, 0) ∧ binaryR 38 a b = (le, 0) ∧ binaryR 36 a b = (ne, 0) ∧ binaryR 41 a b = (an, 0) ∧
    unaryR 19 a = (x, 0) ∧ unaryR 19 b = (y, 0) ∧ binaryR 42 x y = (o, 0) ∧
    (0 ≤ lt ∧ lt ≤ 1) ∧ (0 ≤ eq ∧ eq ≤ 1) ∧ (0 ≤ gt ∧ gt ≤ 1) ∧ (0 ≤ ge ∧ ge ≤ 1) ∧ (0 ≤ le ∧ le ≤ 1) ∧ (0 ≤ ne ∧ ne ≤ 1) ∧ (0 ≤ an ∧ an ≤ 1) ∧ (0 ≤ o ∧ o ≤ 1) ∧
    lt + eq + gt = 1 ∧ lt + ge = 1 ∧ gt + le = 1 ∧ eq + ne = 1 ∧ an + o = 1 := by
  have tb : ∀ c : Bool, 0 ≤ truthI c ∧ truthI c ≤ 1 := by intro c; have := truthI_01 c; omega
  refine ⟨truthI (decide (a < b)), truthI (a == b), truthI (decide (b < a)), truthI (decide (b ≤ a)), truthI (decide (a ≤ b)), truthI (a != b), truthI (a != 0 && b != 0), truthI (a == 0), truthI (b == 0), truthI (truthI (a == 0) != 0 || truthI (b == 0) != 0), ?_⟩
  rw [binaryR_ok (by omega) (by omega) ha hb, binaryR_ok (by omega) (by omega) ha hb, binaryR_ok (by omega) (by omega) ha hb, binaryR_ok (by omega) (by omega) ha hb, binaryR_ok (by omega) (by omega) ha hb, binaryR_ok (by omega) (by omega) ha hb, binaryR_ok (by omega) (by omega) ha hb,
    unaryR_ok (.inr rfl) ha, unaryR_ok (.inr rfl) hb, binaryR_ok (by omega) (by omega) (truthI_num _) (truthI_num _)]
  refine ⟨?_, ?_, ?_, ?_, ?_, ?_, ?_, rfl, rfl, ?_, tb _, tb _, tb _, tb _, tb _, tb _, tb _, tb _, ?_, ?_, ?_, ?_, ?_⟩
  all_goals first
    | (congr 1; exact satF_truthI _)
    | skip
  all_goals unfold truthI
  · rcases Int.lt_trichotomy a b with h | h | h <;> simp [h] <;> omega
  · by_cases h : a < b <;> simp [h] <;> omega
  · by_cases h : b < a <;> simp [h] <;> omega
  · by_cases h : a = b <;> simp [h]
  · by_cases h : a = 0 <;> by_cases h' : b = 0 <;> simp [h, h']

end Go.Proofs.YtibfjhhadbkkgaaGreat

