/- Merged of: WBa P18a P18b P18c (see NOTES.md). -/
import Derived.Test.YtgemlgpjbclonaaGreatDoorZ01
set_option linter.unusedSimpArgs false
set_option linter.unnecessarySimpa false
set_option linter.unusedVariables false

/- Contracts: sets of nodes as bits: nodes, Has. -/
namespace Go.Proofs.YtgemlgpjbclonaaGreatDoor
open Go.RowKit


set_option maxHeartbeats 1000000 in
theorem has_any (S : Nat) (x : Int) (w : World) (hS : S < 4294967296) :
  Calls Tryz.prog 54 #[.int .u32 (S : Int), .int .i64 x] w fun e w' => e = .returned (.bool (hasB S x)) ∧ w = w' := by
 have HF : Hid (hasB S x = (decide (0 ≤ x) && decide (x < 32) && S.testBit x.toNat)) := rfl
 by_cases h0 : 0 ≤ x
 ·have d0 : decide (0 ≤ x) = true := by simpa using h0
  rw [d0] at HF
  obtain ⟨v, rfl⟩ := Int.eq_ofNat_of_zero_le h0
  by_cases h1 : v < 32
  ·have d1 : decide ((v : Int) < 32) = true := by simp; omega
   have d2 : decide (v < 32) = true := by simpa using h1
   rw [d1, Int.toNat_natCast] at HF
   clear h0
   have hq := bit_ask (v := v) hS
   go_enter Tryz.func54, Tryz.ntmps54
   go_wp2_with fail
   go_ret
   exact ⟨ret_bool (by rw [HF.out]; simp [toNat_beq]), rfl⟩
  ·have d1 : decide ((v : Int) < 32) = false := by simp; omega
   have d2 : decide (v < 32) = false := by simpa using h1
   rw [d1] at HF
   clear h0
   go_enter Tryz.func54, Tryz.ntmps54
   go_wp2_with fail
   go_ret
   exact ⟨ret_bool (by rw [HF.out]; simp), rfl⟩
 ·have d0 : decide (0 ≤ x) = false := by simpa using h0
  rw [d0] at HF
  go_enter Tryz.func54, Tryz.ntmps54
  go_wp2_with fail
  go_ret
  exact ⟨ret_bool (by rw [HF.out]; simp), rfl⟩

end Go.Proofs.YtgemlgpjbclonaaGreatDoor

/- The parts of a set in ascending order, plain. -/
namespace Go.Proofs.YtgemlgpjbclonaaGreatDoor

theorem and_two (x y a b : Nat) (ha : a < 2) (hb : b < 2) : (2 * x + a) &&& (2 * y + b) = 2 * (x &&& y) + a * b := by
 have hab : a * b < 2 := by
  have h1 : a = 0 ∨ a = 1 := by omega
  rcases h1 with rfl | rfl <;> omega
 refine Nat.eq_of_testBit_eq fun i => ?_
 rw [Nat.testBit_and]
 cases i with
 | zero =>
  have h1 : a = 0 ∨ a = 1 := by omega
  have h2 : b = 0 ∨ b = 1 := by omega
  rcases h1 with rfl | rfl <;> rcases h2 with rfl | rfl <;> simp [Nat.testBit_zero] <;> omega
 | succ i =>
  rw [Nat.testBit_succ, Nat.testBit_succ, Nat.testBit_succ, show (2 * x + a) / 2 = x by omega, show (2 * y + b) / 2 = y by omega, show (2 * (x &&& y) + a * b) / 2 = x &&& y by omega, Nat.testBit_and]

/-- What follows a part s of S: (s - S) and S, in words of w bits. -/
def nextW (w S s : Nat) : Nat := (s + (2 ^ w - S)) % 2 ^ w &&& S

theorem split2 (n : Nat) : ∃ x a, a < 2 ∧ n = 2 * x + a := ⟨n / 2, n % 2, Nat.mod_lt _ (by decide), by omega⟩

theorem part_two {x y a b : Nat} (ha : a < 2) (hb : b < 2) (h : (2 * x + a) &&& (2 * y + b) = 2 * x + a) : x &&& y = x ∧ a ≤ b := by
 rw [and_two x y a b ha hb] at h
 have h1 : a = 0 ∨ a = 1 := by omega
 have h2 : b = 0 ∨ b = 1 := by omega
 rcases h1 with rfl | rfl <;> rcases h2 with rfl | rfl <;> omega

theorem compl_part (w : Nat) : ∀ S s, S < 2 ^ w → s &&& S = s → (s + (2 ^ w - 1 - S)) &&& S = s := by
 induction w with
 | zero => intro S s h hs; have : S = 0 := by simpa using h
           subst this; simpa using hs
 | succ w ih =>
  intro S s h hs
  obtain ⟨y, b, hb, rfl⟩ := split2 S
  obtain ⟨x, a, ha, rfl⟩ := split2 s
  obtain ⟨hxy, hab⟩ := part_two ha hb hs
  have hp : 2 ^ (w + 1) = 2 * 2 ^ w := by rw [Nat.pow_succ]; omega
  have hy : y < 2 ^ w := by omega
  have e : 2 * x + a + (2 ^ (w + 1) - 1 - (2 * y + b)) = 2 * (x + (2 ^ w - 1 - y)) + (a + 1 - b) := by omega
  rw [e, and_two _ _ _ _ (by omega) hb, ih y x hy hxy]
  have h1 : a = 0 ∨ a = 1 := by omega
  have h2 : b = 0 ∨ b = 1 := by omega
  rcases h1 with rfl | rfl <;> rcases h2 with rfl | rfl <;> omega

theorem partW_le {s S : Nat} (h : s &&& S = s) : s ≤ S := by rw [← h]; exact Nat.and_le_right

theorem nextW_last (w S : Nat) (h : S < 2 ^ w) : nextW w S S = 0 := by
 unfold nextW; rw [show S + (2 ^ w - S) = 2 ^ w by omega, Nat.mod_self, Nat.zero_and]

theorem nextW_next (w : Nat) : ∀ S s, S < 2 ^ w → s &&& S = s → s ≠ S →
  s < nextW w S s ∧ nextW w S s &&& S = nextW w S s ∧ ∀ t, t &&& S = t → s < t → nextW w S s ≤ t := by
 induction w with
 | zero =>
  intro S s h hs hne
  have : S = 0 := by simpa using h
  have := partW_le hs
  omega
 | succ w ih =>
  intro S s h hs hne
  obtain ⟨y, b, hb, rfl⟩ := split2 S
  obtain ⟨x, a, ha, rfl⟩ := split2 s
  obtain ⟨hxy, hab⟩ := part_two ha hb hs
  have hp : 2 ^ (w + 1) = 2 * 2 ^ w := by rw [Nat.pow_succ]; omega
  have hy : y < 2 ^ w := by omega
  have hle := partW_le hxy
  by_cases hc : a = 0 ∧ b = 1
  ·obtain ⟨rfl, rfl⟩ := hc
   have e : nextW (w + 1) (2 * y + 1) (2 * x + 0) = 2 * x + 1 := by
    unfold nextW
    rw [Nat.mod_eq_of_lt (by omega), show 2 * x + 0 + (2 ^ (w + 1) - (2 * y + 1)) = 2 * (x + (2 ^ w - 1 - y)) + 1 by omega, and_two _ _ _ _ (by omega) (by omega), compl_part w y x hy hxy]
   rw [e]
   exact ⟨by omega, by rw [and_two _ _ _ _ (by omega) (by omega), hxy], fun t _ ht => by omega⟩
  ·have hab' : a = b := by omega
   subst hab'
   have hne' : x ≠ y := fun e => hne (by rw [e])
   have e : nextW (w + 1) (2 * y + a) (2 * x + a) = 2 * nextW w y x := by
    unfold nextW
    rw [show 2 * x + a + (2 ^ (w + 1) - (2 * y + a)) = 2 * (x + (2 ^ w - y)) by omega, hp, Nat.mul_mod_mul_left,
     show 2 * ((x + (2 ^ w - y)) % 2 ^ w) = 2 * ((x + (2 ^ w - y)) % 2 ^ w) + 0 by omega, and_two _ _ _ _ (by omega) ha]
    omega
   obtain ⟨h1, h2, h3⟩ := ih y x hy hxy hne'
   rw [e]
   refine ⟨by omega, ?_, fun t ht hlt => ?_⟩
   ·rw [show 2 * nextW w y x = 2 * nextW w y x + 0 by omega, and_two _ _ _ _ (by omega) ha, h2]; omega
   ·obtain ⟨u, c, hcc, rfl⟩ := split2 t
    obtain ⟨hu, hca⟩ := part_two hcc ha ht
    have := h3 u hu (by omega)
    omega

/-- The parts of S from s on, at most f of them. -/
def partsF (S : Nat) : Nat → Nat → List Nat
 | 0, _ => []
 | f + 1, s => if s = 0 then [] else s :: partsF S f (nextW 32 S s)

/-- Enough fuel is enough. -/
theorem partsF_fuel {S : Nat} (hS : S < 2 ^ 32) : ∀ f g s, s &&& S = s → S < f + s → S < g + s → partsF S f s = partsF S g s := by
 intro f
 induction f with
 | zero => intro g s hs hf _; have := partW_le hs; omega
 | succ f ih =>
  intro g s hs hf hg
  cases g with
  | zero => have := partW_le hs; omega
  | succ g =>
   unfold partsF
   by_cases h0 : s = 0
   ·rw [if_pos h0, if_pos h0]
   ·rw [if_neg h0, if_neg h0]
    by_cases hl : s = S
    ·subst hl
     rw [nextW_last 32 s hS]
     cases f <;> cases g <;> simp [partsF]
    ·obtain ⟨h1, h2, _⟩ := nextW_next 32 S s hS hs hl
     rw [ih g _ h2 (by omega) (by omega)]

theorem partsF_succ (S f s : Nat) : partsF S (f + 1) s = if s = 0 then [] else s :: partsF S f (nextW 32 S s) := rfl

/-- All parts of S that are not empty, from s on. -/
def partsFrom (S s : Nat) : List Nat := partsF S (S + 1) s

theorem partsFrom_zero (S : Nat) : partsFrom S 0 = [] := by unfold partsFrom partsF; rw [if_pos rfl]
theorem partsFrom_step {S s : Nat} (hS : S < 2 ^ 32) (hs : s &&& S = s) (h0 : s ≠ 0) : partsFrom S s = s :: partsFrom S (nextW 32 S s) := by
 have e : partsFrom S s = s :: partsF S S (nextW 32 S s) := by unfold partsFrom; rw [partsF_succ, if_neg h0]
 rw [e]
 by_cases hl : s = S
 ·subst hl
  rw [nextW_last 32 s hS, partsFrom_zero]
  cases s <;> simp [partsF]
 ·obtain ⟨h1, h2, _⟩ := nextW_next 32 S s hS hs hl
  unfold partsFrom
  rw [partsF_fuel hS S (S + 1) _ h2 (by omega) (by omega)]

/-- What is among the parts from s on: the parts that are s at least. -/
theorem mem_partsFrom {S : Nat} (hS : S < 2 ^ 32) : ∀ n s, S - s < n → s &&& S = s → s ≠ 0 → ∀ t, t ∈ partsFrom S s ↔ s ≤ t ∧ t &&& S = t := by
 intro n
 induction n with
 | zero => intro s h; omega
 | succ n ih =>
  intro s hn hs h0 t
  rw [partsFrom_step hS hs h0, List.mem_cons]
  by_cases hl : s = S
  ·subst hl
   rw [nextW_last 32 s hS, partsFrom_zero]
   constructor
   ·rintro (rfl | h)
    ·exact ⟨Nat.le_refl _, hs⟩
    ·cases h
   ·rintro ⟨h1, h2⟩
    exact .inl (Nat.le_antisymm (partW_le h2) h1)
  ·obtain ⟨h1, h2, h3⟩ := nextW_next 32 S s hS hs hl
   have hle := partW_le h2
   rw [ih _ (by omega) h2 (by omega) t]
   constructor
   ·rintro (rfl | ⟨ha, hb⟩)
    ·exact ⟨Nat.le_refl _, hs⟩
    ·exact ⟨by omega, hb⟩
   ·rintro ⟨ha, hb⟩
    rcases Nat.eq_or_lt_of_le ha with rfl | hlt
    ·exact .inl rfl
    ·exact .inr ⟨h3 t hb hlt, hb⟩

/-- The parts stand in ascending order. -/
theorem sorted_partsFrom {S : Nat} (hS : S < 2 ^ 32) : ∀ n s, S - s < n → s &&& S = s → (partsFrom S s).Pairwise (· < ·) := by
 intro n
 induction n with
 | zero => intro s h; omega
 | succ n ih =>
  intro s hn hs
  by_cases h0 : s = 0
  ·subst h0; rw [partsFrom_zero]; exact .nil
  ·rw [partsFrom_step hS hs h0]
   by_cases hl : s = S
   ·subst hl; rw [nextW_last 32 s hS, partsFrom_zero]; exact .cons (fun _ h => by cases h) .nil
   ·obtain ⟨h1, h2, _⟩ := nextW_next 32 S s hS hs hl
    have hle := partW_le h2
    refine .cons (fun t ht => ?_) (ih _ (by omega) h2)
    have := ((mem_partsFrom hS n _ (by omega) h2 (by omega) t).1 ht).1
    omega

end Go.Proofs.YtgemlgpjbclonaaGreatDoor

/- The elements of a set in ascending order, and its least element, plain. -/
namespace Go.Proofs.YtgemlgpjbclonaaGreatDoor

theorem odd_split : ∀ n S : Nat, S < n → S ≠ 0 → ∃ k m, S = 2 ^ k * (2 * m + 1) := by
 intro n
 induction n with
 | zero => intro S h; omega
 | succ n ih =>
  intro S h h0
  obtain ⟨x, a, ha, rfl⟩ := split2 S
  by_cases h1 : a = 1
  ·subst h1; exact ⟨0, x, by omega⟩
  ·obtain rfl : a = 0 := by omega
   obtain ⟨k, m, e⟩ := ih x (by omega) (by omega)
   exact ⟨k + 1, m, by rw [Nat.pow_succ, e]; rw [Nat.mul_right_comm, Nat.mul_comm]; omega⟩

theorem and_compl (w : Nat) : ∀ S, S < 2 ^ w → S &&& (2 ^ w - 1 - S) = 0 := by
 induction w with
 | zero => intro S h; have : S = 0 := by simpa using h
           subst this; rfl
 | succ w ih =>
  intro S h
  obtain ⟨x, a, ha, rfl⟩ := split2 S
  have hp : 2 ^ (w + 1) = 2 * 2 ^ w := by rw [Nat.pow_succ]; omega
  rw [show 2 ^ (w + 1) - 1 - (2 * x + a) = 2 * (2 ^ w - 1 - x) + (1 - a) by omega, and_two _ _ _ _ ha (by omega), ih x (by omega)]
  have h1 : a = 0 ∨ a = 1 := by omega
  rcases h1 with rfl | rfl <;> rfl

theorem and_even (x y : Nat) : (2 * x) &&& (2 * y) = 2 * (x &&& y) := by
 have := and_two x y 0 0 (by decide) (by decide)
 simpa using this

/-- S and (S - 1): the least element is taken out. -/
theorem drop_least (k m : Nat) : 2 ^ k * (2 * m + 1) &&& (2 ^ k * (2 * m + 1) - 1) = 2 ^ k * (2 * m) := by
 induction k with
 | zero =>
  have := and_two m m 1 0 (by decide) (by decide)
  simpa using this
 | succ k ih =>
  have hpos : 0 < 2 ^ k * (2 * m + 1) := Nat.mul_pos (Nat.two_pow_pos k) (by omega)
  rw [show 2 ^ (k + 1) * (2 * m + 1) = 2 * (2 ^ k * (2 * m + 1)) by rw [Nat.pow_succ, Nat.mul_comm (2 ^ k) 2, Nat.mul_assoc],
   show 2 ^ (k + 1) * (2 * m) = 2 * (2 ^ k * (2 * m)) by rw [Nat.pow_succ, Nat.mul_comm (2 ^ k) 2, Nat.mul_assoc]]
  generalize 2 ^ k * (2 * m + 1) = S at *
  have h := and_two S (S - 1) 0 1 (by decide) (by decide)
  rw [show 2 * (S - 1) + 1 = 2 * S - 1 by omega] at h
  rw [← ih]
  simpa using h

/-- S and -S: the set of the least element. -/
theorem low_bit (k : Nat) : ∀ w m, 2 ^ k * (2 * m + 1) < 2 ^ w → 2 ^ k * (2 * m + 1) &&& (2 ^ w - 2 ^ k * (2 * m + 1)) = 2 ^ k := by
 induction k with
 | zero =>
  intro w m h
  cases w with
  | zero => simp at h
  | succ w =>
   have hp : 2 ^ (w + 1) = 2 * 2 ^ w := by rw [Nat.pow_succ]; omega
   simp only [Nat.pow_zero, Nat.one_mul] at h ⊢
   rw [show 2 ^ (w + 1) - (2 * m + 1) = 2 * (2 ^ w - 1 - m) + 1 by omega, and_two _ _ _ _ (by decide) (by decide), and_compl w m (by omega)]
 | succ k ih =>
  intro w m h
  have e : 2 ^ (k + 1) * (2 * m + 1) = 2 * (2 ^ k * (2 * m + 1)) := by rw [Nat.pow_succ, Nat.mul_comm (2 ^ k) 2, Nat.mul_assoc]
  rw [e] at h ⊢
  cases w with
  | zero =>
   have hpos : 0 < 2 ^ k * (2 * m + 1) := Nat.mul_pos (Nat.two_pow_pos k) (by omega)
   omega
  | succ w =>
   have hp : 2 ^ (w + 1) = 2 * 2 ^ w := by rw [Nat.pow_succ]; omega
   have h2 := ih w m (by omega)
   rw [show 2 ^ (w + 1) - 2 * (2 ^ k * (2 * m + 1)) = 2 * (2 ^ w - 2 ^ k * (2 * m + 1)) by omega, and_even, h2, Nat.pow_succ]
   omega

/-- The elements of a set, in ascending order. -/
def elemsF (S : Nat) : List Nat := (List.range 32).filter (S.testBit ·)
theorem elemsF_zero : elemsF 0 = [] := by unfold elemsF; simp
theorem mem_elemsF {S v : Nat} : v ∈ elemsF S ↔ v < 32 ∧ S.testBit v = true := by unfold elemsF; simp [List.mem_filter]

theorem low_lt {k m w : Nat} (h : 2 ^ k * (2 * m + 1) < 2 ^ w) : k < w := by
 rcases Nat.lt_or_ge k w with hk | hk
 ·exact hk
 ·have h1 : 2 ^ w ≤ 2 ^ k := Nat.pow_le_pow_right (by decide) hk
  have h2 : 2 ^ k * 1 ≤ 2 ^ k * (2 * m + 1) := Nat.mul_le_mul_left _ (by omega)
  omega

theorem bit_low (k m i : Nat) : (2 ^ k * (2 * m + 1)).testBit i = (decide (i = k) || (2 ^ k * (2 * m)).testBit i) := by
 rw [Nat.testBit_two_pow_mul, Nat.testBit_two_pow_mul]
 by_cases h : i = k
 ·subst h; simp [Nat.testBit_zero]
 ·by_cases hk : k ≤ i
  ·obtain ⟨j, rfl⟩ : ∃ j, i = k + (j + 1) := ⟨i - k - 1, by omega⟩
   rw [show k + (j + 1) - k = j + 1 by omega, Nat.testBit_succ, Nat.testBit_succ, show (2 * m + 1) / 2 = 2 * m / 2 by omega]
   simp
  ·simp [h, hk]

theorem bit_below (k m i : Nat) (h : i ≤ k) : (2 ^ k * (2 * m)).testBit i = false := by
 rw [Nat.testBit_two_pow_mul]
 by_cases hk : i = k
 ·subst hk; simp [Nat.testBit_zero]
 ·have : ¬ i ≥ k := by omega
  simp [this]

/-- The elements: the least one first, then those that are left. -/
theorem elemsF_cons {k m : Nat} (h : 2 ^ k * (2 * m + 1) < 2 ^ 32) : elemsF (2 ^ k * (2 * m + 1)) = k :: elemsF (2 ^ k * (2 * m)) := by
 have hk : k < 32 := low_lt h
 unfold elemsF
 obtain ⟨d, hd⟩ : ∃ d, 32 = k + (1 + d) := ⟨31 - k, by omega⟩
 rw [hd, List.range_add, List.filter_append, List.filter_append, List.range_add, List.map_append, List.filter_append, List.filter_append]
 have h1 : ∀ S : Nat, (∀ i, i < k → S.testBit i = false) → (List.range k).filter (S.testBit ·) = [] := by
  intro S hS; rw [List.filter_eq_nil_iff]; intro a ha; rw [hS a (List.mem_range.1 ha)]; decide
 rw [h1 _ (fun i hi => by rw [bit_low, bit_below k m i (by omega)]; simp; omega), h1 _ (fun i hi => bit_below k m i (by omega))]
 have h2 : (List.map (k + ·) (List.range 1)) = [k] := rfl
 rw [h2, List.nil_append, List.nil_append]
 have e1 : List.filter (fun x => (2 ^ k * (2 * m + 1)).testBit x) [k] = [k] := by simp [bit_low]
 have e2 : List.filter (fun x => (2 ^ k * (2 * m)).testBit x) [k] = [] := by simp [bit_below k m k (Nat.le_refl _)]
 rw [e1, e2, List.nil_append, List.singleton_append]
 congr 1
 refine List.filter_congr fun i hi => ?_
 simp only [List.mem_map, List.mem_range] at hi
 obtain ⟨a, ⟨b, _, rfl⟩, rfl⟩ := hi
 rw [bit_low]
 have : ¬ k + (1 + b) = k := by omega
 simp [this]

end Go.Proofs.YtgemlgpjbclonaaGreatDoor

/- Configurations as numbers in mixed radix, plain: lists of bounds and lists of values. -/
namespace Go.Proofs.YtgemlgpjbclonaaGreatDoor

/-- How many lists of values lie within bounds. -/
def sizeL : List (Int × Int) → Int
 | [] => 1
 | b :: bs => (b.2 - b.1 + 1) * sizeL bs
def okL (bs : List (Int × Int)) : Prop := ∀ b ∈ bs, b.1 ≤ b.2
def inL : List (Int × Int) → List Int → Prop
 | [], [] => True
 | b :: bs, c :: cs => b.1 ≤ c ∧ c ≤ b.2 ∧ inL bs cs
 | _, _ => False
def numL : List (Int × Int) → List Int → Int
 | b :: bs, c :: cs => (c - b.1) * sizeL bs + numL bs cs
 | _, _ => 0
def leastL (bs : List (Int × Int)) : List Int := bs.map (·.1)
/-- The next list of values, and whether there is none (then it is the least again). -/
def advL : List (Int × Int) → List Int → List Int × Bool
 | b :: bs, c :: cs =>
  if (advL bs cs).2 then (if c < b.2 then ((c + 1) :: (advL bs cs).1, false) else (b.1 :: (advL bs cs).1, true))
  else (c :: (advL bs cs).1, false)
 | _, _ => ([], true)
/-- The list of values with a number. -/
def confL : List (Int × Int) → Int → List Int
 | [], _ => []
 | b :: bs, k => (b.1 + k / sizeL bs) :: confL bs (k % sizeL bs)

theorem okL_cons {b : Int × Int} {bs : List (Int × Int)} (h : okL (b :: bs)) : b.1 ≤ b.2 ∧ okL bs :=
 ⟨h b (List.mem_cons_self ..), fun x hx => h x (List.mem_cons_of_mem _ hx)⟩
theorem sizeL_pos : ∀ {bs : List (Int × Int)}, okL bs → 0 < sizeL bs
 | [], _ => by decide
 | b :: bs, h => Int.mul_pos (by have := (okL_cons h).1; omega) (sizeL_pos (okL_cons h).2)

theorem leastL_in : ∀ {bs : List (Int × Int)}, okL bs → inL bs (leastL bs)
 | [], _ => trivial
 | _ :: _, h => ⟨Int.le_refl _, (okL_cons h).1, leastL_in (okL_cons h).2⟩
theorem numL_least : ∀ bs : List (Int × Int), numL bs (leastL bs) = 0
 | [] => rfl
 | b :: bs => by
  show (b.1 - b.1) * sizeL bs + numL bs (leastL bs) = 0
  rw [numL_least bs, Int.sub_self, Int.zero_mul]; rfl

theorem numL_range : ∀ {bs : List (Int × Int)} {cs : List Int}, inL bs cs → 0 ≤ numL bs cs ∧ numL bs cs < sizeL bs
 | [], [], _ => by decide
 | [], _ :: _, h => h.elim
 | _ :: _, [], h => h.elim
 | b :: bs, c :: cs, h => by
  obtain ⟨h1, h2, h3⟩ := h
  obtain ⟨h4, h5⟩ := numL_range h3
  show 0 ≤ (c - b.1) * sizeL bs + numL bs cs ∧ (c - b.1) * sizeL bs + numL bs cs < (b.2 - b.1 + 1) * sizeL bs
  have hp : 0 < sizeL bs := by omega
  have hm : 0 ≤ (c - b.1) * sizeL bs := Int.mul_nonneg (by omega) (by omega)
  have hm2 : (c - b.1 + 1) * sizeL bs ≤ (b.2 - b.1 + 1) * sizeL bs := Int.mul_le_mul_of_nonneg_right (by omega) (by omega)
  rw [Int.add_mul (c - b.1) 1, Int.one_mul] at hm2
  omega

theorem confL_num : ∀ {bs : List (Int × Int)} {cs : List Int}, inL bs cs → confL bs (numL bs cs) = cs
 | [], [], _ => rfl
 | [], _ :: _, h => h.elim
 | _ :: _, [], h => h.elim
 | b :: bs, c :: cs, h => by
  obtain ⟨h1, h2, h3⟩ := h
  obtain ⟨h4, h5⟩ := numL_range h3
  show (b.1 + ((c - b.1) * sizeL bs + numL bs cs) / sizeL bs) :: confL bs (((c - b.1) * sizeL bs + numL bs cs) % sizeL bs) = c :: cs
  have hp : sizeL bs ≠ 0 := by omega
  rw [Int.add_comm ((c - b.1) * sizeL bs), Int.add_mul_ediv_right _ _ hp, Int.add_mul_emod_self_right, Int.ediv_eq_zero_of_lt h4 h5, Int.emod_eq_of_lt h4 h5, confL_num h3]
  congr 1; omega

theorem confL_in : ∀ {bs : List (Int × Int)} {k : Int}, okL bs → 0 ≤ k → k < sizeL bs → inL bs (confL bs k)
 | [], _, _, _, _ => trivial
 | b :: bs, k, ho, h0, hk => by
  have hp := sizeL_pos (okL_cons ho).2
  have h1 : 0 ≤ k / sizeL bs := Int.ediv_nonneg h0 (by omega)
  have h2 : k / sizeL bs < b.2 - b.1 + 1 := Int.ediv_lt_of_lt_mul hp hk
  exact ⟨by omega, by omega, confL_in (okL_cons ho).2 (Int.emod_nonneg _ (by omega)) (Int.emod_lt_of_pos _ hp)⟩
theorem numL_conf : ∀ {bs : List (Int × Int)} {k : Int}, okL bs → 0 ≤ k → k < sizeL bs → numL bs (confL bs k) = k
 | [], k, _, h0, hk => by
  have : sizeL [] = 1 := rfl
  show (0 : Int) = k; omega
 | b :: bs, k, ho, h0, hk => by
  have hp := sizeL_pos (okL_cons ho).2
  show (b.1 + k / sizeL bs - b.1) * sizeL bs + numL bs (confL bs (k % sizeL bs)) = k
  rw [numL_conf (okL_cons ho).2 (Int.emod_nonneg _ (by omega)) (Int.emod_lt_of_pos _ hp), show b.1 + k / sizeL bs - b.1 = k / sizeL bs by omega]
  exact Int.ediv_mul_add_emod k (sizeL bs)

/-- The next list of values: it has the next number; behind the last one comes the least. -/
theorem advL_law : ∀ {bs : List (Int × Int)} {cs : List Int}, inL bs cs →
  ((advL bs cs).2 = false → numL bs (advL bs cs).1 = numL bs cs + 1) ∧ ((advL bs cs).2 = true → numL bs cs = sizeL bs - 1 ∧ (advL bs cs).1 = leastL bs) ∧ inL bs (advL bs cs).1
 | [], [], _ => ⟨(fun h => by cases h), fun _ => ⟨rfl, rfl⟩, trivial⟩
 | [], _ :: _, h => h.elim
 | _ :: _, [], h => h.elim
 | b :: bs, c :: cs, h => by
  obtain ⟨h1, h2, h3⟩ := h
  obtain ⟨ih1, ih2, ih3⟩ := advL_law h3
  have hs : sizeL (b :: bs) = (b.2 - b.1 + 1) * sizeL bs := rfl
  cases hk : (advL bs cs).2 with
  | false =>
   have e : advL (b :: bs) (c :: cs) = (c :: (advL bs cs).1, false) := by simp [advL, hk]
   rw [e]
   refine ⟨fun _ => ?_, (fun h => by cases h), h1, h2, ih3⟩
   show (c - b.1) * sizeL bs + numL bs (advL bs cs).1 = (c - b.1) * sizeL bs + numL bs cs + 1
   rw [ih1 hk]; omega
  | true =>
   obtain ⟨e1, e2⟩ := ih2 hk
   by_cases hc : c < b.2
   ·have e : advL (b :: bs) (c :: cs) = ((c + 1) :: (advL bs cs).1, false) := by simp [advL, hk, hc]
    rw [e]
    refine ⟨fun _ => ?_, (fun h => by cases h), by omega, by omega, ih3⟩
    show (c + 1 - b.1) * sizeL bs + numL bs (advL bs cs).1 = (c - b.1) * sizeL bs + numL bs cs + 1
    rw [e2, numL_least, e1, show c + 1 - b.1 = (c - b.1) + 1 by omega, Int.add_mul, Int.one_mul]; omega
   ·have e : advL (b :: bs) (c :: cs) = (b.1 :: (advL bs cs).1, true) := by simp [advL, hk, hc]
    rw [e]
    refine ⟨(fun h => by cases h), fun _ => ⟨?_, ?_⟩, Int.le_refl _, by omega, ih3⟩
    ·show (c - b.1) * sizeL bs + numL bs cs = sizeL (b :: bs) - 1
     obtain rfl : c = b.2 := by omega
     rw [hs, e1, Int.add_mul, Int.one_mul]; omega
    ·show b.1 :: (advL bs cs).1 = b.1 :: leastL bs
     rw [e2]

end Go.Proofs.YtgemlgpjbclonaaGreatDoor

