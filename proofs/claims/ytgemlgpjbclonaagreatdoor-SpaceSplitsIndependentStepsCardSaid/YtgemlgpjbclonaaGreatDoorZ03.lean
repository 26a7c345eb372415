/- Merged of: P18d P18e PDz WQa (see NOTES.md). -/
import Derived.Test.YtgemlgpjbclonaaGreatDoorZ02
set_option linter.unusedSimpArgs false
set_option linter.unnecessarySimpa false
set_option linter.unusedVariables false

/- Configurations of several nodes as numbers, the next one, and how the number grows with values, plain. -/
namespace Go.Proofs.YtgemlgpjbclonaaGreatDoor

def sizeN : List (List (Int × Int)) → Int
 | [] => 1
 | t :: T => sizeL t * sizeN T
def okN (T : List (List (Int × Int))) : Prop := ∀ t ∈ T, okL t
def inN : List (List (Int × Int)) → List (List Int) → Prop
 | [], [] => True
 | t :: T, c :: C => inL t c ∧ inN T C
 | _, _ => False
def numN : List (List (Int × Int)) → List (List Int) → Int
 | t :: T, c :: C => numL t c * sizeN T + numN T C
 | _, _ => 0
def leastN (T : List (List (Int × Int))) : List (List Int) := T.map leastL
def advN : List (List (Int × Int)) → List (List Int) → List (List Int) × Bool
 | t :: T, c :: C => if (advN T C).2 then ((advL t c).1 :: (advN T C).1, (advL t c).2) else (c :: (advN T C).1, false)
 | _, _ => ([], true)
def confN : List (List (Int × Int)) → Int → List (List Int)
 | [], _ => []
 | t :: T, k => confL t (k / sizeN T) :: confN T (k % sizeN T)

theorem okN_cons {t : List (Int × Int)} {T : List (List (Int × Int))} (h : okN (t :: T)) : okL t ∧ okN T :=
 ⟨h t (List.mem_cons_self ..), fun x hx => h x (List.mem_cons_of_mem _ hx)⟩
theorem sizeN_pos : ∀ {T : List (List (Int × Int))}, okN T → 0 < sizeN T
 | [], _ => by decide
 | _ :: _, h => Int.mul_pos (sizeL_pos (okN_cons h).1) (sizeN_pos (okN_cons h).2)
theorem leastN_in : ∀ {T : List (List (Int × Int))}, okN T → inN T (leastN T)
 | [], _ => trivial
 | _ :: _, h => ⟨leastL_in (okN_cons h).1, leastN_in (okN_cons h).2⟩
theorem numN_least : ∀ T : List (List (Int × Int)), numN T (leastN T) = 0
 | [] => rfl
 | t :: T => by
  show numL t (leastL t) * sizeN T + numN T (leastN T) = 0
  rw [numN_least T, numL_least, Int.zero_mul]; rfl

theorem numN_range : ∀ {T : List (List (Int × Int))} {C : List (List Int)}, inN T C → 0 ≤ numN T C ∧ numN T C < sizeN T
 | [], [], _ => by decide
 | [], _ :: _, h => h.elim
 | _ :: _, [], h => h.elim
 | t :: T, c :: C, h => by
  obtain ⟨h1, h2⟩ := h
  obtain ⟨h3, h4⟩ := numN_range h2
  obtain ⟨h5, h6⟩ := numL_range h1
  show 0 ≤ numL t c * sizeN T + numN T C ∧ numL t c * sizeN T + numN T C < sizeL t * sizeN T
  have hm : 0 ≤ numL t c * sizeN T := Int.mul_nonneg h5 (by omega)
  have hm2 : (numL t c + 1) * sizeN T ≤ sizeL t * sizeN T := Int.mul_le_mul_of_nonneg_right (by omega) (by omega)
  rw [Int.add_mul, Int.one_mul] at hm2
  omega

theorem confN_num : ∀ {T : List (List (Int × Int))} {C : List (List Int)}, inN T C → confN T (numN T C) = C
 | [], [], _ => rfl
 | [], _ :: _, h => h.elim
 | _ :: _, [], h => h.elim
 | t :: T, c :: C, h => by
  obtain ⟨h1, h2⟩ := h
  obtain ⟨h3, h4⟩ := numN_range h2
  show confL t ((numL t c * sizeN T + numN T C) / sizeN T) :: confN T ((numL t c * sizeN T + numN T C) % sizeN T) = c :: C
  have hp : sizeN T ≠ 0 := by omega
  rw [Int.add_comm (numL t c * sizeN T), Int.add_mul_ediv_right _ _ hp, Int.add_mul_emod_self_right, Int.ediv_eq_zero_of_lt h3 h4, Int.emod_eq_of_lt h3 h4, confN_num h2, Int.zero_add, confL_num h1]

theorem confN_in : ∀ {T : List (List (Int × Int))} {k : Int}, okN T → 0 ≤ k → k < sizeN T → inN T (confN T k)
 | [], _, _, _, _ => trivial
 | t :: T, k, ho, h0, hk => by
  have hp := sizeN_pos (okN_cons ho).2
  exact ⟨confL_in (okN_cons ho).1 (Int.ediv_nonneg h0 (by omega)) (Int.ediv_lt_of_lt_mul hp hk), confN_in (okN_cons ho).2 (Int.emod_nonneg _ (by omega)) (Int.emod_lt_of_pos _ hp)⟩
theorem numN_conf : ∀ {T : List (List (Int × Int))} {k : Int}, okN T → 0 ≤ k → k < sizeN T → numN T (confN T k) = k
 | [], k, _, h0, hk => by
  have : sizeN [] = 1 := rfl
  show (0 : Int) = k; omega
 | t :: T, k, ho, h0, hk => by
  have hp := sizeN_pos (okN_cons ho).2
  show numL t (confL t (k / sizeN T)) * sizeN T + numN T (confN T (k % sizeN T)) = k
  rw [numN_conf (okN_cons ho).2 (Int.emod_nonneg _ (by omega)) (Int.emod_lt_of_pos _ hp), numL_conf (okN_cons ho).1 (Int.ediv_nonneg h0 (by omega)) (Int.ediv_lt_of_lt_mul hp hk)]
  exact Int.ediv_mul_add_emod k (sizeN T)

theorem advN_law : ∀ {T : List (List (Int × Int))} {C : List (List Int)}, inN T C →
  ((advN T C).2 = false → numN T (advN T C).1 = numN T C + 1) ∧ ((advN T C).2 = true → numN T C = sizeN T - 1 ∧ (advN T C).1 = leastN T) ∧ inN T (advN T C).1
 | [], [], _ => ⟨(fun h => by cases h), fun _ => ⟨rfl, rfl⟩, trivial⟩
 | [], _ :: _, h => h.elim
 | _ :: _, [], h => h.elim
 | t :: T, c :: C, h => by
  obtain ⟨h1, h2⟩ := h
  obtain ⟨ih1, ih2, ih3⟩ := advN_law h2
  obtain ⟨a1, a2, a3⟩ := advL_law h1
  have hs : sizeN (t :: T) = sizeL t * sizeN T := rfl
  cases hk : (advN T C).2 with
  | false =>
   have e : advN (t :: T) (c :: C) = (c :: (advN T C).1, false) := by simp [advN, hk]
   rw [e]
   refine ⟨fun _ => ?_, (fun h => by cases h), h1, ih3⟩
   show numL t c * sizeN T + numN T (advN T C).1 = numL t c * sizeN T + numN T C + 1
   rw [ih1 hk]; omega
  | true =>
   obtain ⟨e1, e2⟩ := ih2 hk
   have e : advN (t :: T) (c :: C) = ((advL t c).1 :: (advN T C).1, (advL t c).2) := by simp [advN, hk]
   rw [e]
   refine ⟨fun hc => ?_, fun hc => ?_, a3, ih3⟩
   ·show numL t (advL t c).1 * sizeN T + numN T (advN T C).1 = numL t c * sizeN T + numN T C + 1
    rw [e2, numN_least, e1, a1 hc, Int.add_mul, Int.one_mul]; omega
   ·obtain ⟨b1, b2⟩ := a2 hc
    refine ⟨?_, ?_⟩
    ·show numL t c * sizeN T + numN T C = sizeN (t :: T) - 1
     rw [hs, e1, b1, Int.sub_mul, Int.one_mul]; omega
    ·show (advL t c).1 :: (advN T C).1 = leastL t :: leastN T
     rw [b2, e2]

theorem advN_conf {T : List (List (Int × Int))} {k : Int} (ho : okN T) (h0 : 0 ≤ k) (hk : k + 1 < sizeN T) : (advN T (confN T k)).1 = confN T (k + 1) := by
 have hin := confN_in ho h0 (show k < sizeN T by omega)
 have hn := numN_conf ho h0 (show k < sizeN T by omega)
 obtain ⟨h1, h2, h3⟩ := advN_law hin
 cases hc : (advN T (confN T k)).2 with
 | true => have := (h2 hc).1; omega
 | false =>
  have := h1 hc
  rw [hn] at this
  rw [← this, confN_num h3]
theorem confN_zero {T : List (List (Int × Int))} (ho : okN T) : confN T 0 = leastN T := by
 have := confN_num (leastN_in ho)
 rwa [numN_least] at this

/-! ### How the number grows -/
/-- By how much the number grows with each value, where m numbers lie behind. -/
def placesL (m : Int) : List (Int × Int) → List Int
 | [] => []
 | _ :: bs => (sizeL bs * m) :: placesL m bs
def placesN : List (List (Int × Int)) → List (List Int)
 | [] => []
 | t :: T => placesL (sizeN T) t :: placesN T
def dotL : List Int → List Int → List Int → Int
 | p :: ps, d :: ds, c :: cs => (d - c) * p + dotL ps ds cs
 | _, _, _ => 0
theorem dot_place (m : Int) : ∀ (bs : List (Int × Int)) (cs ds : List Int), inL bs cs → inL bs ds → dotL (placesL m bs) ds cs = (numL bs ds - numL bs cs) * m
 | [], [], [], _, _ => by show (0 : Int) = (0 - 0) * m; rw [Int.sub_self, Int.zero_mul]
 | [], _ :: _, _, h, _ => h.elim
 | [], [], _ :: _, _, h => h.elim
 | _ :: _, [], _, h, _ => h.elim
 | _ :: _, _ :: _, [], _, h => h.elim
 | b :: bs, c :: cs, d :: ds, h, h' => by
  show (d - c) * (sizeL bs * m) + dotL (placesL m bs) ds cs = ((d - b.1) * sizeL bs + numL bs ds - ((c - b.1) * sizeL bs + numL bs cs)) * m
  rw [dot_place m bs cs ds h.2.2 h'.2.2, ← Int.mul_assoc, ← Int.add_mul]
  have e : (d - c) * sizeL bs = (d - b.1) * sizeL bs - (c - b.1) * sizeL bs := by rw [← Int.sub_mul]; congr 1; omega
  rw [e]; congr 1; omega
/-- The growth of all nodes from one list of values to another. -/
def growN : List (List Int) → List (List Int) → List (List Int) → Int
 | p :: P, d :: D, c :: C => dotL p d c + growN P D C
 | _, _, _ => 0
theorem grow_num : ∀ (T : List (List (Int × Int))) (C D : List (List Int)), inN T C → inN T D → numN T D = numN T C + growN (placesN T) D C
 | [], [], [], _, _ => rfl
 | [], _ :: _, _, h, _ => h.elim
 | [], [], _ :: _, _, h => h.elim
 | _ :: _, [], _, h, _ => h.elim
 | _ :: _, _ :: _, [], _, h => h.elim
 | t :: T, c :: C, d :: D, h, h' => by
  show numL t d * sizeN T + numN T D = numL t c * sizeN T + numN T C + (dotL (placesL (sizeN T) t) d c + growN (placesN T) D C)
  rw [dot_place _ t c d h.1 h'.1, grow_num T C D h.2 h'.2, Int.sub_mul]; omega

end Go.Proofs.YtgemlgpjbclonaaGreatDoor

/- How the number grows when the nodes of a set move, plain. -/
namespace Go.Proofs.YtgemlgpjbclonaaGreatDoor

theorem dotL_same : ∀ p c : List Int, dotL p c c = 0
 | [], _ => by simp [dotL]
 | _ :: _, [] => by simp [dotL]
 | p :: ps, c :: cs => by
  show (c - c) * p + dotL ps cs cs = 0
  rw [dotL_same ps cs, Int.sub_self, Int.zero_mul]; rfl

theorem growN_sum : ∀ (n : Nat) (P D C : List (List Int)), P.length = n → D.length = n → C.length = n →
  growN P D C = ((List.range n).map fun v => dotL (P.getD v []) (D.getD v []) (C.getD v [])).sum
 | 0, [], [], [], _, _, _ => rfl
 | n + 1, p :: P, d :: D, c :: C, h1, h2, h3 => by
  have ih := growN_sum n P D C (by simpa using h1) (by simpa using h2) (by simpa using h3)
  show dotL p d c + growN P D C = _
  rw [List.range_succ_eq_map, List.map_cons, List.map_map, List.sum_cons, ih]
  rfl

theorem sum_filter (f g : Nat → Int) (q : Nat → Bool) : ∀ l : List Nat, (∀ v ∈ l, f v = if q v then g v else 0) → (l.map f).sum = ((l.filter q).map g).sum
 | [], _ => rfl
 | v :: l, h => by
  have ih := sum_filter f g q l (fun w hw => h w (List.mem_cons_of_mem _ hw))
  have hv := h v (List.mem_cons_self ..)
  rw [List.map_cons, List.sum_cons, ih, hv]
  cases hq : q v with
  | true => rw [List.filter_cons_of_pos hq, List.map_cons, List.sum_cons]; rfl
  | false => rw [List.filter_cons_of_neg (by rw [hq]; decide)]; simp

theorem elemsF_upto {S n : Nat} (hn : n ≤ 32) (hS : S < 2 ^ n) : elemsF S = (List.range n).filter (S.testBit ·) := by
 unfold elemsF
 rw [show (32 : Nat) = n + (32 - n) by omega, List.range_add, List.filter_append]
 have e : List.filter (fun x => S.testBit x) (List.map (n + ·) (List.range (32 - n))) = [] := by
  rw [List.filter_eq_nil_iff]
  intro a ha
  simp only [List.mem_map, List.mem_range] at ha
  obtain ⟨b, _, rfl⟩ := ha
  rw [Nat.testBit_lt_two_pow (Nat.lt_of_lt_of_le hS (Nat.pow_le_pow_right (by decide) (Nat.le_add_right n b)))]
  decide
 rw [e, List.append_nil]

/-- The nodes of a set move, the others stay: the number grows by what the nodes of the set add. -/
theorem grow_set {n S : Nat} {P D C : List (List Int)} {g : Nat → Int} (hn : n ≤ 32) (hS : S < 2 ^ n) (h1 : P.length = n) (h2 : D.length = n) (h3 : C.length = n)
  (hin : ∀ v, v < n → S.testBit v = true → dotL (P.getD v []) (D.getD v []) (C.getD v []) = g v) (hout : ∀ v, v < n → S.testBit v = false → D.getD v [] = C.getD v []) :
  growN P D C = ((elemsF S).map g).sum := by
 rw [growN_sum n P D C h1 h2 h3, elemsF_upto hn hS]
 refine sum_filter _ g _ _ fun v hv => ?_
 have hv' := List.mem_range.1 hv
 cases hb : S.testBit v with
 | true => rw [if_pos rfl]; exact hin v hv' hb
 | false => rw [if_neg (by decide), hout v hv' hb]; exact dotL_same _ _

/-! ### The table of the least element -/
def bruijn : List Nat := [0, 1, 28, 2, 29, 14, 24, 3, 30, 22, 20, 15, 25, 17, 4, 8, 31, 27, 13, 23, 21, 19, 16, 7, 26, 12, 18, 6, 11, 5, 10, 9]
theorem bruijn_at : ∀ k, k < 32 → bruijn[(2 ^ k * 125613361 % 4294967296) / 134217728]? = some k := by decide

end Go.Proofs.YtgemlgpjbclonaaGreatDoor

/- The least element of a set, plain. -/
namespace Go.Proofs.YtgemlgpjbclonaaGreatDoor

/-! ### The least element -/
def lsb (S : Nat) : Nat := S &&& (4294967296 - S)
theorem set_split {S : Nat} (hS : S < 4294967296) (h0 : S ≠ 0) : ∃ k m, S = 2 ^ k * (2 * m + 1) ∧ k < 32 ∧ lsb S = 2 ^ k ∧ S &&& (S - 1) = 2 ^ k * (2 * m) ∧ elemsF S = k :: elemsF (2 ^ k * (2 * m)) := by
 obtain ⟨k, m, e⟩ := odd_split (S + 1) S (Nat.lt_succ_self S) h0
 have h32 : 2 ^ k * (2 * m + 1) < 2 ^ 32 := by rw [← e]; exact hS
 refine ⟨k, m, e, low_lt h32, ?_, ?_, ?_⟩
 ·unfold lsb; rw [e]; exact low_bit k 32 m h32
 ·rw [e]; exact drop_least k m
 ·rw [e]; exact elemsF_cons h32
theorem lsb_zero : lsb 0 = 0 := by decide
theorem lsb_part {S : Nat} : lsb S &&& S = lsb S := by unfold lsb; rw [Nat.and_comm (S &&& _) S, ← Nat.and_assoc, Nat.and_self]
theorem lsb_ne {S : Nat} (hS : S < 4294967296) (h0 : S ≠ 0) : lsb S ≠ 0 := by
 obtain ⟨k, m, _, _, h, _⟩ := set_split hS h0
 rw [h]; exact Nat.ne_of_gt (Nat.two_pow_pos k)
theorem lsb_lt {S : Nat} (hS : S < 4294967296) : lsb S < 4294967296 := Nat.lt_of_le_of_lt Nat.and_le_left hS
theorem elems_len_zero {S : Nat} (hS : S < 4294967296) : (elemsF S).length = 0 ↔ S = 0 := by
 constructor
 ·intro h
  by_cases h0 : S = 0
  ·exact h0
  ·obtain ⟨k, m, _, _, _, _, e⟩ := set_split hS h0
   rw [e] at h; simp at h
 ·rintro rfl; rw [elemsF_zero]; rfl
/-- One element and no more. -/
theorem single_iff {S : Nat} (hS : S < 4294967296) (h0 : S ≠ 0) : (S &&& (S - 1) == 0) = decide ((elemsF S).length = 1) := by
 obtain ⟨k, m, e, _, _, h2, h3⟩ := set_split hS h0
 have hlt : 2 ^ k * (2 * m) < 4294967296 := by
  have : 2 ^ k * (2 * m) ≤ 2 ^ k * (2 * m + 1) := Nat.mul_le_mul_left _ (by omega)
  omega
 rw [h2, h3, List.length_cons, Bool.eq_iff_iff, beq_iff_eq, decide_eq_true_eq]
 rw [show ((elemsF (2 ^ k * (2 * m))).length + 1 = 1) ↔ (elemsF (2 ^ k * (2 * m))).length = 0 by omega, elems_len_zero hlt]
theorem lsb_zero_iff {S : Nat} (hS : S < 4294967296) : lsb S = 0 ↔ S = 0 := by
 constructor
 ·intro h
  by_cases h0 : S = 0
  ·exact h0
  ·exact absurd h (lsb_ne hS h0)
 ·rintro rfl; exact lsb_zero
/-- The least element, as the reference finds it: the first of the elements. -/
theorem lsb_find {S : Nat} (hS : S < 4294967296) : lsb S = match (elemsF S).head? with | some v => 2 ^ v | none => 0 := by
 by_cases h0 : S = 0
 ·subst h0; rw [elemsF_zero]; exact lsb_zero
 ·obtain ⟨k, m, _, _, h1, _, h3⟩ := set_split hS h0
  rw [h3, h1]; rfl

end Go.Proofs.YtgemlgpjbclonaaGreatDoor

/- Contracts: TrailingZeros32 where its table lies as the library lays it; OnesCount32. -/
namespace Go.Proofs.YtgemlgpjbclonaaGreatDoor
open Go.RowKit

/-- The library's table of the least element lies in memory. -/
def Tab32 (w : World) : Prop := 0 < w.heap.size ∧ ∀ i, i < 32 → w.cell? ⟨0, i, none⟩ = some (.int .u8 ((bruijn.getD i 0 : Nat) : Int))
theorem Tab32.keep {w w' : World} (h : Tab32 w) (k : Bel w w') : Tab32 w' := ⟨Nat.lt_of_lt_of_le h.1 k.size, fun i hi => (k.cell h.1).trans (h.2 i hi)⟩

theorem neg_u32 {S : Nat} (h0 : S ≠ 0) (hS : S < 4294967296) : -(S : Int) % 4294967296 = ((4294967296 - S : Nat) : Int) := by omega
theorem bits_lsb {S : Nat} (hS : S < 4294967296) (h0 : S ≠ 0) : bits .and .u32 (S : Int) (-(S : Int) % 4294967296) = ((lsb S : Nat) : Int) := by
 rw [neg_u32 h0 hS, bits_and hS (by omega)]; rfl
theorem bits_lsb' {S : Nat} (hS : S < 4294967296) (h0 : S ≠ 0) : bits .and .u32 (-(S : Int) % 4294967296) (S : Int) = ((lsb S : Nat) : Int) := by
 rw [neg_u32 h0 hS, bits_and (by omega) hS, Nat.and_comm]; rfl
theorem bruijn_index {k : Nat} (hk : k < 32) : ∃ J : Nat, J < 32 ∧ ((2 ^ k : Nat) : Int) * 125613361 % 4294967296 / 134217728 = (J : Int) ∧ bruijn.getD J 0 = k := by
 have h := bruijn_at k hk
 refine ⟨2 ^ k * 125613361 % 4294967296 / 134217728, ?_, by omega, ?_⟩
 ·omega
 ·rw [List.getD_eq_getElem?_getD, h]; rfl

set_option maxRecDepth 100000 in
theorem tz_any (S : Nat) (k m : Nat) (w : World) (hT : Tab32 w) (hS : S < 4294967296) (e : S = 2 ^ k * (2 * m + 1)) :
  Calls Tryz.prog 94 #[.int .u32 (S : Int)] w fun e w' => e = .returned (.int .i64 (k : Int)) ∧ w = w' := by
 have h0 : S ≠ 0 := by rw [e]; exact Nat.ne_of_gt (Nat.mul_pos (Nat.two_pow_pos k) (by omega))
 have hb : ((S : Int) == 0) = false := by simp; omega
 have hlt := hT.1
 obtain ⟨k', m', e', hk, hl, _⟩ := set_split hS h0
 obtain rfl : k = k' := by
  have h1 := elemsF_cons (k := k) (m := m) (by rw [← e]; exact hS)
  have h2 := elemsF_cons (k := k') (m := m') (by rw [← e']; exact hS)
  rw [← e] at h1
  rw [← e', h1] at h2
  injection h2
 have q1 := bits_lsb hS h0
 rw [hl] at q1
 obtain ⟨J, hJ, q2, hv⟩ := bruijn_index hk
 have hc := hT.2 J hJ
 rw [hv] at hc
 generalize 2 ^ k = P at q1 q2
 have dJ : decide (J < 32) = true := by simpa using hJ
 clear e e' hl hv hT h0 hS hJ
 go_enter Tryz.func94, Tryz.ntmps94
 go_wp2_with fail
 go_ret
 exact ⟨rfl, rfl⟩

end Go.Proofs.YtgemlgpjbclonaaGreatDoor

