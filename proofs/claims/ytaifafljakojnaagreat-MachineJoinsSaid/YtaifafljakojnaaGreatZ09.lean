/- Merged of: WTe WTf WTg WN (see NOTES.md). -/
import Derived.Test.YtaifafljakojnaaGreatZ08
import Derived.Test.YtaifafljakojnaaGreatZ05
import Derived.Deep.RegionHeld3
import Derived.Test.YtaifafljakojnaaGreatZ04
set_option linter.unusedSimpArgs false
set_option linter.unnecessarySimpa false
set_option linter.unusedVariables false

/- Contracts: Of and numbers, of the program and of the reference. -/
namespace Go.Proofs.YtaifafljakojnaaGreat
open Go.RowKit

theorem inB_false_iff {v lo hi : Int} : inB v lo hi = false ↔ v < lo ∨ hi < v := by unfold inB; simp; omega

set_option maxRecDepth 100000 in
set_option maxHeartbeats 2000000 in
theorem of_any (A : Option Addr) (c : Nat) (es : List Term) (K : Option Addr) (ck : Nat) (kinds : List Int) (bound : Bool) (w : World) (hT : TermsR w A es.length es) (hK : IntsR w K kinds.length kinds) (hlen : es.length ≤ 1000) :
    Calls Tryz.prog 44 #[.slice A es.length c, .slice K kinds.length ck, .bool bound] w fun e w' => e = .returned (.tuple #[.int .i64 (ofF es kinds bound).1, .int .i64 (ofF es kinds bound).2]) ∧ Bel w w' := by
  have HT := Lib.hid (fun w' (k : Bel w w') => TermsR.keep hT k); clear hT
  have HK := Lib.hid (fun w' (k : Bel w w') => IntsR.keep hK k); clear hK
  by_cases h6 : 6 < kinds.length
  · have HF : Hid (ofF es kinds bound = (0, 7)) := by show ofF es kinds bound = _; unfold ofF; rw [if_pos h6]
    have hd : decide (6 < kinds.length) = true := by simpa using h6
    go_enter Tryz.func44, Tryz.ntmps44
    go_wp2_with fail
    go_ret2
    rw [HF.out]
    exact ⟨rfl, Bel.refl _⟩
  · have hd : decide (6 < kinds.length) = false := by simpa using h6
    have h6' : kinds.length ≤ 6 := by omega
    go_enter Tryz.func44, Tryz.ntmps44
    go_wp2_with fail
    clear hd
    go_loopg [9, 18] kinds.length (fun m _x z wr => ∃ j : Nat, j ≤ kinds.length ∧ m = kinds.length - j ∧ Hid ((kinds.take j).all knownK = true) ∧ z = .int .i64 j ∧ w = wr)
    case atStart => exact ⟨0, by omega, rfl, rfl, rfl, rfl⟩
    case round =>
      obtain ⟨j, hj, rfl, HJ, rfl, rfl⟩ := hrel
      by_cases hlt : j < kinds.length
      · have hd0 : decide (j < kinds.length) = true := by simpa using hlt
        obtain ⟨b, o, rfl, hb, hc⟩ := (HK.out _ (Bel.refl _)).at_ j hlt
        cases hk : knownK kinds[j] with
        | false =>
          have HF : Hid (ofF es kinds bound = (0, 7)) := by show ofF es kinds bound = _; unfold ofF; rw [if_neg h6, if_pos (all_false_at hlt hk)]
          go_wp2_with (go_at_call 104; refine (possible_any _ _).mono ?_; rintro e w' ⟨rfl, rfl⟩)
          go_ret2
          rw [HF.out]
          exact ⟨rfl, Bel.refl _⟩
        | true =>
          have HN := Lib.hid (all_take_succ hlt HJ.out hk)
          go_wp2_with (go_at_call 104; refine (possible_any _ _).mono ?_; rintro e w' ⟨rfl, rfl⟩)
          go_roundg (kinds.length - (j + 1))
          case rel => exact ⟨j + 1, by omega, rfl, HN, by go_num, rfl⟩
          case measure => omega
      · have hd0 : decide (j < kinds.length) = false := by simpa using hlt
        have HA := Lib.hid (all_of_take (by omega) HJ.out)
        clear HJ hlt
        have HB := Bel.refl w
        cases hv : validF es kinds.length with
        | false =>
          have HF : Hid (ofF es kinds bound = (0, 7)) := by show ofF es kinds bound = _; unfold ofF; rw [if_neg h6, if_neg (by rw [HA.out]; decide), if_pos hv]
          go_wp2_with (go_at_call 42; refine (valid_any _ _ _ es _ _ (HT.out _ HB) (by omega)).mono ?_; rintro e w' ⟨rfl, hbb⟩; replace HB := HB.trans hbb; clear hbb; rw [hv])
          go_ret2
          rw [HF.out]
          exact ⟨rfl, HB⟩
        | true =>
          obtain ⟨v1, v2, v3, v4, _, _⟩ := valid_treeOf hv
          have HV4 := Lib.hid v4
          have HAT := Lib.hid (At.whole v1 v2)
          have HVV := Lib.hid hv
          have HF : Hid (ofF es kinds bound = if kindF kinds bound (treeOf es) = 0 then (0, 6) else (kindF kinds bound (treeOf es), 0)) := by
            show ofF es kinds bound = _
            unfold ofF; rw [if_neg h6, if_neg (by rw [HA.out]; decide), if_neg (by rw [hv]; decide)]
          clear v1 v2 v3 v4 hv h6
          go_wp2_with (first
            | (go_at_call 42; refine (valid_any _ _ _ es _ _ (HT.out _ HB) (by omega)).mono ?_; rintro e w' ⟨rfl, hbb⟩; replace HB := HB.trans hbb; clear hbb; rw [HVV.out])
            | (go_at_call 105; replace HB := HB.alloc (.cells #[.slice A es.length c, .slice K kinds.length ck] 136); refine (read_any kinds (treeOf es) bound _ _ es K ck 0 _ HAT.out (HT.out _ HB) (HK.out _ HB) HV4.out hlen).mono ?_; rintro e w' ⟨rfl, hbb⟩; replace HB := HB.trans hbb; clear hbb))
          all_goals (try simp only [beq_iff_eq, beq_eq_false_iff_ne] at *)
          all_goals (go_ret2; refine ⟨?_, HB⟩; rw [HF.out]; simp_all)

set_option maxRecDepth 100000 in
set_option maxHeartbeats 2000000 in
theorem refOf_any (A : Option Addr) (c : Nat) (es : List Term) (K : Option Addr) (ck : Nat) (kinds : List Int) (bound : Bool) (w : World) (hT : TermsR w A es.length es) (hK : IntsR w K kinds.length kinds) (hlen : es.length ≤ 1000) :
    Calls Tryz.prog 20 #[.slice A es.length c, .slice K kinds.length ck, .bool bound] w fun e w' => e = .returned (.tuple #[.int .i64 (ofF es kinds bound).1, .int .i64 (ofF es kinds bound).2]) ∧ Bel w w' := by
  have HT := Lib.hid (fun w' (k : Bel w w') => TermsR.keep hT k); clear hT
  have HK := Lib.hid (fun w' (k : Bel w w') => IntsR.keep hK k); clear hK
  by_cases h6 : 6 < kinds.length
  · have HF : Hid (ofF es kinds bound = (0, 7)) := by show ofF es kinds bound = _; unfold ofF; rw [if_pos h6]
    have hd : decide (6 < kinds.length) = true := by simpa using h6
    go_enter Tryz.func20, Tryz.ntmps20
    go_wp2_with fail
    go_ret2
    rw [HF.out]
    exact ⟨rfl, Bel.refl _⟩
  · have hd : decide (6 < kinds.length) = false := by simpa using h6
    have h6' : kinds.length ≤ 6 := by omega
    go_enter Tryz.func20, Tryz.ntmps20
    go_wp2_with fail
    clear hd
    go_loopg [8] kinds.length (fun m z wr => ∃ j : Nat, j ≤ kinds.length ∧ m = kinds.length - j ∧ Hid ((kinds.take j).all knownK = true) ∧ z = .int .i64 j ∧ w = wr)
    case atStart => exact ⟨0, by omega, rfl, rfl, rfl, rfl⟩
    case round =>
      obtain ⟨j, hj, rfl, HJ, rfl, rfl⟩ := hrel
      by_cases hlt : j < kinds.length
      · have hd0 : decide (j < kinds.length) = true := by simpa using hlt
        obtain ⟨b, o, rfl, hb, hc⟩ := (HK.out _ (Bel.refl _)).at_ j hlt
        cases hk : knownK kinds[j] with
        | false =>
          have HF : Hid (ofF es kinds bound = (0, 7)) := by show ofF es kinds bound = _; unfold ofF; rw [if_neg h6, if_pos (all_false_at hlt hk)]
          go_wp2_with (go_at_call 39; refine (refKnown_any _ _).mono ?_; rintro e w' ⟨rfl, rfl⟩)
          go_ret2
          rw [HF.out]
          exact ⟨rfl, Bel.refl _⟩
        | true =>
          have HN := Lib.hid (all_take_succ hlt HJ.out hk)
          go_wp2_with (go_at_call 39; refine (refKnown_any _ _).mono ?_; rintro e w' ⟨rfl, rfl⟩)
          go_roundg (kinds.length - (j + 1))
          case rel => exact ⟨j + 1, by omega, rfl, HN, by go_num, rfl⟩
          case measure => omega
      · have hd0 : decide (j < kinds.length) = false := by simpa using hlt
        have HA := Lib.hid (all_of_take (by omega) HJ.out)
        clear HJ hlt
        have HB := Bel.refl w
        cases hv : validF es kinds.length with
        | false =>
          have HF : Hid (ofF es kinds bound = (0, 7)) := by show ofF es kinds bound = _; unfold ofF; rw [if_neg h6, if_neg (by rw [HA.out]; decide), if_pos hv]
          go_wp2_with (go_at_call 40; refine (refValid_any _ _ _ es _ _ (HT.out _ HB) (by omega)).mono ?_; rintro e w' ⟨rfl, hbb⟩; replace HB := HB.trans hbb; clear hbb; rw [hv])
          go_ret2
          rw [HF.out]
          exact ⟨rfl, HB⟩
        | true =>
          obtain ⟨v1, v2, v3, v4, _, _⟩ := valid_treeOf hv
          have HV4 := Lib.hid v4
          have HAT := Lib.hid (At.whole v1 v2)
          have HVV := Lib.hid hv
          have HF : Hid (ofF es kinds bound = if kindF kinds bound (treeOf es) = 0 then (0, 6) else (kindF kinds bound (treeOf es), 0)) := by
            show ofF es kinds bound = _
            unfold ofF; rw [if_neg h6, if_neg (by rw [HA.out]; decide), if_neg (by rw [hv]; decide)]
          clear v1 v2 v3 v4 hv h6
          go_wp2_with (first
            | (go_at_call 40; refine (refValid_any _ _ _ es _ _ (HT.out _ HB) (by omega)).mono ?_; rintro e w' ⟨rfl, hbb⟩; replace HB := HB.trans hbb; clear hbb; rw [HVV.out])
            | (go_at_call 41; refine (refKind_any kinds (treeOf es) bound _ _ es K ck 0 _ HAT.out (HT.out _ HB) (HK.out _ HB) HV4.out hlen).mono ?_; rintro e w' ⟨rfl, hbb⟩; replace HB := HB.trans hbb; clear hbb))
          all_goals (try simp only [beq_iff_eq, beq_eq_false_iff_ne] at *)
          all_goals (go_ret2; refine ⟨?_, HB⟩; rw [HF.out]; simp_all)

def numbersF (x : Var) : Bool :=
  decide ((x.kind ≠ 1 ∧ (x.kind = 2 ∨ x.kind = 3) ∧ x.lo = 0 ∧ x.hi = 0 ∧ x.perNode = 0 ∧ x.perID = 0)
    ∨ (x.kind = 1 ∧ (0 ≤ x.lo ∧ x.lo ≤ 4096) ∧ (0 ≤ x.perNode ∧ x.perNode ≤ 255) ∧ (0 ≤ x.perID ∧ x.perID ≤ 255) ∧ (x.perNode = 0 ∨ x.perID = 0) ∧ -4096 ≤ x.hi ∧ x.hi ≤ 4096 ∧ (x.perNode ≠ 0 ∨ x.perID ≠ 0 ∨ 0 ≤ x.hi)))

/-- A variable by value. -/
def varV (x : Var) : Value := .agg #[.string x.name, .int .i64 x.kind, .int .i64 x.lo, .int .i64 x.hi, .int .i64 x.perNode, .int .i64 x.perID]

set_option maxRecDepth 100000 in
set_option maxHeartbeats 2000000 in
theorem numbers_any (x : Var) (w : World) : Calls Tryz.prog 154 #[varV x] w fun e w' => e = .returned (.bool (numbersF x)) ∧ Bel w w' := by
  obtain ⟨name, kind, lo, hi, pn, pi⟩ := x
  unfold varV
  dsimp only
  have HF : Hid (numbersF ⟨name, kind, lo, hi, pn, pi⟩ = true ↔ _) := (decide_eq_true_iff)
  dsimp only at HF
  by_cases hk : kind = 1
  · subst hk
    have hp : knownK 1 = true := rfl
    go_enter Tryz.func154, Tryz.ntmps154
    go_wp2_with (first
      | (go_at_call 104; refine (possible_any _ _).mono ?_; rintro e w' ⟨rfl, rfl⟩; rw [hp])
      | (go_at_call 168; refine (within_any _ _ _ _).mono ?_; rintro e w' ⟨rfl, rfl⟩))
    all_goals (try simp only [beq_iff_eq, beq_eq_false_iff_ne, bne_iff_ne, bne_eq_false_iff_eq, inB_iff, inB_false_iff, Bool.not_eq_true', Bool.not_eq_eq_eq_not, Bool.not_true, Bool.not_false] at *)
    all_goals (go_ret; refine ⟨ret_bool ?_, (Bel.refl _).alloc _⟩; rw [Bool.eq_iff_iff, HF.out]; simp only [inB_iff, Bool.false_eq_true, false_iff, true_and]; omega)
  · have hne : (kind != 1) = true := by simpa using hk
    cases hkk : knownK kind with
    | false =>
      have hk2 : ¬ (kind = 1 ∨ kind = 2 ∨ kind = 3) := by
        intro h; unfold knownK at hkk; simp at hkk; omega
      go_enter Tryz.func154, Tryz.ntmps154
      go_wp2_with (go_at_call 104; refine (possible_any _ _).mono ?_; rintro e w' ⟨rfl, rfl⟩; rw [hkk])
      go_ret
      refine ⟨ret_bool ?_, (Bel.refl _).alloc _⟩
      symm
      rw [Bool.eq_false_iff, ne_eq, HF.out]
      omega
    | true =>
      have hk2 : kind = 2 ∨ kind = 3 := by
        unfold knownK at hkk; simp at hkk; omega
      have HK2 := Lib.hid hk2
      clear hk2
      go_enter Tryz.func154, Tryz.ntmps154
      go_wp2_with (go_at_call 104; refine (possible_any _ _).mono ?_; rintro e w' ⟨rfl, rfl⟩; rw [hkk])
      all_goals
        have hk2 := HK2.out
        go_ret
        refine ⟨ret_bool ?_, (Bel.refl _).alloc _⟩
        rw [Bool.eq_iff_iff, HF.out]
        simp only [beq_iff_eq, Bool.false_eq_true, false_iff]
        omega

set_option maxRecDepth 100000 in
set_option maxHeartbeats 2000000 in
theorem refNumbers_any (x : Var) (w : World) : Calls Tryz.prog 164 #[varV x] w fun e w' => e = .returned (.bool (numbersF x)) ∧ Bel w w' := by
  obtain ⟨name, kind, lo, hi, pn, pi⟩ := x
  unfold varV
  dsimp only
  have HF : Hid (numbersF ⟨name, kind, lo, hi, pn, pi⟩ = true ↔ _) := (decide_eq_true_iff)
  dsimp only at HF
  by_cases hk : kind = 1
  · subst hk
    go_enter Tryz.func164, Tryz.ntmps164
    go_wp2_with (go_at_call 162; refine (in07_any _ _ _ _).mono ?_; rintro e w' ⟨rfl, rfl⟩)
    all_goals (try simp only [beq_iff_eq, beq_eq_false_iff_ne, bne_iff_ne, bne_eq_false_iff_eq, inB_iff, inB_false_iff, Bool.not_eq_true', Bool.not_eq_eq_eq_not, Bool.not_true, Bool.not_false] at *)
    all_goals (go_ret; refine ⟨ret_bool ?_, (Bel.refl _).alloc _⟩; rw [Bool.eq_iff_iff, HF.out]; simp only [inB_iff, Bool.false_eq_true, false_iff, true_and]; omega)
  · have hne : (kind != 1) = true := by simpa using hk
    cases hkk : knownK kind with
    | false =>
      have hk2 : ¬ (kind = 1 ∨ kind = 2 ∨ kind = 3) := by
        intro h; unfold knownK at hkk; simp at hkk; omega
      go_enter Tryz.func164, Tryz.ntmps164
      go_wp2_with (go_at_call 39; refine (refKnown_any _ _).mono ?_; rintro e w' ⟨rfl, rfl⟩; rw [hkk])
      go_ret
      refine ⟨ret_bool ?_, (Bel.refl _).alloc _⟩
      symm
      rw [Bool.eq_false_iff, ne_eq, HF.out]
      omega
    | true =>
      have hk2 : kind = 2 ∨ kind = 3 := by
        unfold knownK at hkk; simp at hkk; omega
      have HK2 := Lib.hid hk2
      clear hk2
      go_enter Tryz.func164, Tryz.ntmps164
      go_wp2_with (go_at_call 39; refine (refKnown_any _ _).mono ?_; rintro e w' ⟨rfl, rfl⟩; rw [hkk])
      all_goals
        have hk2 := HK2.out
        go_ret
        refine ⟨ret_bool ?_, (Bel.refl _).alloc _⟩
        rw [Bool.eq_iff_iff, HF.out]
        simp only [beq_iff_eq, Bool.false_eq_true, false_iff]
        omega

end Go.Proofs.YtaifafljakojnaaGreat

/- Contracts: Kinds, typed, of the program and of the reference. -/
namespace Go.Proofs.YtaifafljakojnaaGreat
open Go.RowKit

def RetInts (l : List Int) (w : World) (e : Ending) (w' : World) : Prop := ∃ A c, e = .returned (.slice A l.length c) ∧ IntsR w' A l.length l ∧ l.length ≤ c ∧ c ≤ maxLen ∧ Bel w w'

def fillP (l : List Int) (k : Nat) : List Int := l.take k ++ List.replicate (l.length - k) 0
theorem own_base {w : World} {base : Nat} {e : TypeId} {size g n c : Nat} {xs : List Value} (h : w.ownsRow base e size (.slice (some ⟨g, 0, none⟩) n c) n xs) : base ≤ g ∧ g < w.heap.size := by
  rcases h.2 with ⟨hv, _⟩ | ⟨g', cap, cur, hv, hb, hg, _⟩
  · cases hv
  · injection hv with hA; injection hA with hA; injection hA with hA; subst hA; exact ⟨hb, lt_of_block hg⟩
theorem fillP_zero (l : List Int) : fillP l 0 = List.replicate l.length 0 := by simp [fillP]
theorem fillP_full (l : List Int) (k : Nat) (h : l.length ≤ k) : fillP l k = l := by simp [fillP, List.take_of_length_le h, show l.length - k = 0 by omega]
theorem fillP_length (l : List Int) (k : Nat) : (fillP l k).length = l.length := by simp [fillP]; omega
theorem fillP_get (l : List Int) (k : Nat) (h : k < l.length) : (fillP l k)[k]? = some 0 := by
  unfold fillP
  rw [List.getElem?_append_right (by simp; omega)]
  rw [List.length_take, Nat.min_eq_left (Nat.le_of_lt h), Nat.sub_self, List.getElem?_replicate, if_pos (by omega)]
theorem fillP_succ (l : List Int) (k : Nat) (h : k < l.length) : (fillP l k).set k l[k] = fillP l (k + 1) := by
  unfold fillP
  rw [List.set_append_right _ _ (by simp; omega), List.length_take, Nat.min_eq_left (Nat.le_of_lt h), Nat.sub_self, show l.length - k = (l.length - (k + 1)) + 1 by omega, List.replicate_succ, List.set_cons_zero]
  conv => rhs; rw [List.take_succ_eq_append_getElem h, List.append_assoc]
  rfl

set_option maxRecDepth 100000 in
set_option maxHeartbeats 2000000 in
theorem kinds_any (v : Value) (p : Prg) (w : World) (h : PrgV w v p) (hl : p.vars.length ≤ 1000) :
    Calls Tryz.prog 45 #[v] w (RetInts (kindsF p) w) := by
  obtain ⟨A, k, A2, k2, rfl, hV, _, _, _, _, _⟩ := h
  have HV := Lib.hid (fun w' (k : Bel w w') => VarsR.keep hV k); clear hV
  obtain ⟨i0, hi0, hz0, hz1, hz2⟩ := info_parts int_info
  have HN : Hid ((kindsF p).length = p.vars.length) := by show (kindsF p).length = _; simp [kindsF]
  have HB0 := (Bel.refl w).alloc (.cells #[.string p.name, .slice A p.vars.length k, .slice A2 p.rules.length k2] 26)
  go_enter Tryz.func45, Tryz.ntmps45
  go_wp2_with (at_make; refine wpList_make _ rfl 27 (.tmp 8) (.tmp 8) rfl (w.heap.size + 1) 3 i0 (.int .i64 0) 1 Tryz.underlying27 hi0 hz0 hz1 .i64 .i64 p.vars.length rfl rfl (by rw [hz2]; omega) (by unfold maxLen; omega) (by simp) ?_; intro g w2 hown hb2; have q1 := box_cell hb2 1 rfl; have q2 := box_lt hb2; have HB := HB0.trans hb2; rw [made_one _ rfl] at hown; have HO := Lib.hid hown; have HK2 := Lib.hid hb2; clear hown hb2 HB0)
  have hg := own_base HO.out
  have H0 : Hid (w2.ownsRow (w.heap.size + 1) 3 1 (.slice (some ⟨g, 0, none⟩) p.vars.length p.vars.length) p.vars.length ((fillP (kindsF p) 0).map (Value.int .i64))) := by
    show World.ownsRow _ _ _ _ _ _ _
    rw [fillP_zero, HN.out, List.map_replicate]; exact HO.out
  clear HO
  go_loopg [4, 5, 13] p.vars.length (fun m _x _y z wr => ∃ j : Nat, j ≤ p.vars.length ∧ m = p.vars.length - j ∧ z = .int .i64 j ∧ Hid (wr.ownsRow (w.heap.size + 1) 3 1 (.slice (some ⟨g, 0, none⟩) p.vars.length p.vars.length) p.vars.length ((fillP (kindsF p) j).map (Value.int .i64))) ∧ Bel w wr)
  case atStart => exact ⟨0, by omega, rfl, rfl, H0, HB⟩
  case round =>
    clear HB H0 HK2 q1 q2
    obtain ⟨j, hj, rfl, rfl, HO, HB⟩ := hrel
    by_cases hlt : j < p.vars.length
    · have hd0 : decide (j < p.vars.length) = true := by simpa using hlt
      obtain ⟨b, o, rfl, hb, v0, v1, v2, v3, v4, v5⟩ := (HV.out _ HB).at_ j hlt
      obtain ⟨g', e', _, hgl, y1, y2⟩ := own_at HO.out (j := j) (u := .int .i64 0) (by rw [List.getElem?_map, fillP_get _ _ (by rw [HN.out]; exact hlt)]; rfl)
      obtain rfl : g = g' := by simpa using e'
      have hst := (HO.out.stored j (.int .i64 p.vars[j].kind)).1.alloc (.cells #[.string p.vars[j].name, .int .i64 p.vars[j].kind, .int .i64 p.vars[j].lo, .int .i64 p.vars[j].hi, .int .i64 p.vars[j].perNode, .int .i64 p.vars[j].perID] 60)
      rw [← List.map_set, show p.vars[j].kind = (kindsF p)[j]'(by rw [HN.out]; exact hlt) by simp [kindsF], fillP_succ _ _ (by rw [HN.out]; exact hlt)] at hst
      have HST := Lib.hid hst
      have HKE := Lib.hid (show (kindsF p)[j]'(by rw [HN.out]; exact hlt) = p.vars[j].kind by simp [kindsF])
      have hne : wr.heap.size ≠ g := by omega
      clear hst e'
      go_wp2_with fail
      go_roundg (p.vars.length - (j + 1))
      case rel => exact ⟨j + 1, by omega, rfl, by go_num, by rw [HKE.out] at HST; exact HST, (HB.setCell (by simp; omega) _).alloc _⟩
      case measure => omega
    · have hd0 : decide (j < p.vars.length) = false := by simpa using hlt
      go_wp2_with fail
      go_ret
      have h1 := HO.out
      rw [fillP_full _ _ (by rw [HN.out]; omega)] at h1
      refine ⟨some ⟨g, 0, none⟩, p.vars.length, by rw [HN.out]; rfl, by rw [HN.out]; exact own_ints h1, by rw [HN.out]; exact Nat.le_refl _, by unfold maxLen; omega, HB⟩

end Go.Proofs.YtaifafljakojnaaGreat

/- Contracts: the reference's Kinds; typed, of the program and of the reference. -/
namespace Go.Proofs.YtaifafljakojnaaGreat
open Go.RowKit

theorem Bel.pushB {w wr w' : World} {base : Nat} {e : TypeId} {size : Nat} {v : Value} {n : Nat} {xs : List Value} (h : Bel w wr) (ho : wr.ownsRow base e size v n xs) (hb : w.heap.size ≤ base) (hg : wr.grownBy w' v.ownBlock) : Bel w w' :=
  h.grown hg (fun k hk => Nat.le_trans hb (ho.lt k hk).1)

set_option maxRecDepth 100000 in
set_option maxHeartbeats 2000000 in
theorem refKinds_any (v : Value) (p : Prg) (w : World) (h : PrgV w v p) (hl : p.vars.length ≤ 1000) :
    Calls Tryz.prog 21 #[v] w (RetInts (kindsF p) w) := by
  obtain ⟨A, k, A2, k2, rfl, hV, _, _, _, _, _⟩ := h
  have HV := Lib.hid (fun w' (k : Bel w w') => VarsR.keep hV k); clear hV
  obtain ⟨i0, hi0, hz0, hz1, hz2⟩ := info_parts int_info
  have HN : Hid ((kindsF p).length = p.vars.length) := by show (kindsF p).length = _; simp [kindsF]
  go_enter Tryz.func21, Tryz.ntmps21
  go_wp2
  go_loopg [3, 4] p.vars.length (fun m s z wr => ∃ (j : Nat) (R : Option Addr) (rc : Nat), j ≤ p.vars.length ∧ m = p.vars.length - j ∧ z = .int .i64 j ∧ s = .slice R j rc ∧ Hid (wr.ownsRow (w.heap.size + 1) 3 1 (.slice R j rc) j (((kindsF p).take j).map (Value.int .i64))) ∧ Bel (w.alloc (.cells #[.string p.name, .slice A p.vars.length k, .slice A2 p.rules.length k2] 26)) wr)
  case atStart => exact ⟨0, none, 0, by omega, rfl, rfl, rfl, World.ownsRow_nil _ _ _ _, Bel.refl _⟩
  case round =>
    obtain ⟨j, R, rc, hj, rfl, rfl, rfl, HO, HB⟩ := hrel
    have q1 := box_cell HB 1 rfl
    have q2 := box_lt HB
    by_cases hlt : j < p.vars.length
    · have hd0 : decide (j < p.vars.length) = true := by simpa using hlt
      obtain ⟨b, o, rfl, hb, v0, v1, v2, v3, v4, v5⟩ := (HV.out _ (box_bel HB)).at_ j hlt
      have HT : Hid (((kindsF p).take (j + 1)).map (Value.int .i64) = ((kindsF p).take j).map (Value.int .i64) ++ [.int .i64 p.vars[j].kind]) := by
        show ((kindsF p).take (j + 1)).map (Value.int .i64) = _
        rw [List.take_succ_eq_append_getElem (by rw [HN.out]; exact hlt), List.map_append]
        simp [kindsF]
      go_wp2_with (at_builtin; refine wpList_push _ rfl (.tmp 12) (.tmp 19) 27 rfl (w.heap.size + 1) 3 i0 (.int .i64 0) 1 8 Tryz.underlying27 hi0 hz0 hz1 hz2 rfl (by decide) R j rc _ (by simp [Act.eval]) (HO.out.alloc _) wr.heap.size #[.int .i64 p.vars[j].kind] 3 (0, 0) (by simp [Act.eval]) (heap_new _ _) rfl (one_int _ _) (by unfold maxLen; omega) (by omega) (by simp; omega) ?_; intro R2 rc2 w2 hown hgr hat; have HB2 := (HB.alloc _).pushB (HO.out.alloc _) (by simp) hgr; have HO2 := Lib.hid hown; clear hown hgr hat)
      go_roundg (p.vars.length - (j + 1))
      case rel =>
        refine ⟨j + 1, R2, rc2, by omega, rfl, by go_num, rfl, ?_, HB2⟩
        show World.ownsRow _ _ _ _ _ _ _
        rw [HT.out]; exact HO2.out
      case measure => omega
    · obtain rfl : j = p.vars.length := by omega
      have hd0 : decide (p.vars.length < p.vars.length) = false := by simp
      go_wp2_with fail
      go_ret
      have h1 := HO.out
      rw [List.take_of_length_le (by rw [HN.out]; exact Nat.le_refl _)] at h1
      refine ⟨R, rc, by rw [HN.out]; rfl, by rw [HN.out]; exact own_ints h1, by rw [HN.out]; exact (own_cap h1).1, (own_cap h1).2, box_bel HB⟩

def formedF (vars : Nat) (r : Rule) : Bool :=
  decide (1 ≤ r.sets.length ∧ r.sets.length ≤ 6) && validF r.guard vars && r.sets.all (fun s => decide (0 ≤ s.var ∧ s.var ≤ (vars : Int) - 1) && validF s.value vars) && decide ((r.sets.map SetT.var).Nodup)
def typedF (kinds : List Int) (r : Rule) : Bool := (kindF kinds false (treeOf r.guard) == 2) && r.sets.all (fun s => kindF kinds false (treeOf s.value) == kinds.getD s.var.toNat 0)
structure FOK (vars : Nat) (r : Rule) : Prop where
  pos : 1 ≤ r.sets.length
  le : r.sets.length ≤ 6
  guard : validF r.guard vars = true
  sets : ∀ s ∈ r.sets, (0 ≤ s.var ∧ s.var ≤ (vars : Int) - 1) ∧ validF s.value vars = true
  diff : (r.sets.map SetT.var).Nodup
theorem formedF_iff (vars : Nat) (r : Rule) : formedF vars r = true ↔ FOK vars r := by
  unfold formedF
  simp only [Bool.and_eq_true, decide_eq_true_eq, List.all_eq_true]
  constructor
  · rintro ⟨⟨⟨⟨h1, h2⟩, h3⟩, h4⟩, h5⟩
    exact ⟨h1, h2, h3, h4, h5⟩
  · rintro ⟨h1, h2, h3, h4, h5⟩
    exact ⟨⟨⟨⟨h1, h2⟩, h3⟩, h4⟩, h5⟩
theorem of_kind {es : List Term} {kinds : List Int} (h6 : kinds.length ≤ 6) (hk : kinds.all knownK = true) (hv : validF es kinds.length = true) : (ofF es kinds false).1 = kindF kinds false (treeOf es) := by
  unfold ofF
  rw [if_neg (by omega), if_neg (by rw [hk]; decide), if_neg (by rw [hv]; decide)]
  split
  · rename_i h; rw [h]
  · rfl

set_option maxRecDepth 100000 in
set_option maxHeartbeats 2000000 in
theorem typed_any (v : Value) (r : Rule) (K : Option Addr) (ck : Nat) (kinds : List Int) (w : World) (h : RuleV w v r) (hK : IntsR w K kinds.length kinds) (h6 : kinds.length ≤ 6) (hk : kinds.all knownK = true) (hf : FOK kinds.length r) (hL : lightR r = true) :
    Calls Tryz.prog 156 #[v, .slice K kinds.length ck] w fun e w' => e = .returned (.bool (typedF kinds r)) ∧ Bel w w' := by
  obtain ⟨G, c, S, c2, rfl, hG, _, _, hS, _, _⟩ := h
  have HG := Lib.hid (fun w' (k : Bel w w') => TermsR.keep hG k); clear hG
  have HS := Lib.hid (fun w' (k : Bel w w') => SetsR.keep hS k); clear hS
  have HK := Lib.hid (fun w' (k : Bel w w') => IntsR.keep hK k); clear hK
  obtain ⟨_, l2, l3, l4⟩ := lightR_parts hL
  have HL4 := Lib.hid l4; clear l4
  have HOg := Lib.hid (of_kind h6 hk hf.guard)
  have HFS := Lib.hid hf.sets
  have HKK := Lib.hid hk
  have HB := Bel.refl (w.alloc (.cells #[.string r.name, .slice G r.guard.length c, .slice S r.sets.length c2] 143))
  clear hL hf hk
  by_cases hg : kindF kinds false (treeOf r.guard) = 2
  · have hgb : (kindF kinds false (treeOf r.guard) != 2) = false := by simp [hg]
    have HGG := Lib.hid hg; clear hg
    go_enter Tryz.func156, Tryz.ntmps156
    go_wp2_with (go_at_call 44; refine (of_any _ _ r.guard _ _ kinds _ _ (HG.out _ (box_bel HB)) (HK.out _ (box_bel HB)) (by omega)).mono ?_; rintro e w' ⟨rfl, hb⟩; rw [HOg.out]; replace HB := HB.trans hb; clear hb; have q1 := box_cell HB 2 rfl; have q2 := box_lt HB)
    clear q1 q2 hgb
    go_loopg [8, 9, 10, 23] r.sets.length (fun m _x _y _u z wr => ∃ j : Nat, j ≤ r.sets.length ∧ m = r.sets.length - j ∧ z = .int .i64 j ∧ Hid ((r.sets.take j).all (fun s => kindF kinds false (treeOf s.value) == kinds.getD s.var.toNat 0) = true) ∧ Bel (w.alloc (.cells #[.string r.name, .slice G r.guard.length c, .slice S r.sets.length c2] 143)) wr)
    case atStart => exact ⟨0, by omega, rfl, rfl, rfl, HB⟩
    case round =>
      clear HB
      obtain ⟨j, hj, rfl, rfl, HJ, HB⟩ := hrel
      by_cases hlt : j < r.sets.length
      · have hd0 : decide (j < r.sets.length) = true := by simpa using hlt
        obtain ⟨⟨f1, f2⟩, f3⟩ := HFS.out _ (List.getElem_mem hlt)
        have hlen := HL4.out _ (List.getElem_mem hlt)
        have HOs := Lib.hid (of_kind h6 HKK.out f3)
        obtain ⟨a, ha⟩ := Int.eq_ofNat_of_zero_le f1
        have hak : a < kinds.length := by omega
        have HAK : Hid (kinds.getD r.sets[j].var.toNat 0 = kinds[a]) := by show kinds.getD r.sets[j].var.toNat 0 = _; rw [ha, Int.toNat_natCast, getD_eq hak]
        obtain ⟨b, o, R, c', rfl, hb, s1, s2, hTv, _, _⟩ := (HS.out _ (box_bel HB)).at_ j hlt
        rw [ha] at s1
        have HTv := Lib.hid (fun w' (k : Bel wr w') => TermsR.keep hTv k); clear hTv
        have HAE := Lib.hid ha
        clear f1 f2 f3 ha
        have HB2 := Bel.refl (wr.alloc (.cells #[.int .i64 (a : Int), .slice R r.sets[j].value.length c'] 145))
        go_wp2_with fail
        refine (of_any _ _ r.sets[j].value _ _ kinds _ _ (HTv.out _ (box_bel HB2)) (HK.out _ ((box_bel HB).trans (box_bel HB2))) (by omega)).mono ?_
        rintro e w' ⟨rfl, hb⟩
        rw [HOs.out]
        replace HB2 := HB2.trans hb
        clear hb
        have q1 := box_cell HB2 0 rfl
        have q2 := box_lt HB2
        obtain ⟨bk, ok, rfl, hbk, ck1⟩ := (HK.out _ ((box_bel HB).trans (box_bel HB2))).at_ a hak
        by_cases he : kindF kinds false (treeOf r.sets[j].value) = kinds[a]
        · have heb : (kindF kinds false (treeOf r.sets[j].value) != kinds[a]) = false := by simpa using he
          have HN := Lib.hid (all_take_succ hlt HJ.out (by simp only [HAK.out, he, BEq.rfl]))
          clear he
          go_wp2_with fail
          go_roundg (r.sets.length - (j + 1))
          case rel => exact ⟨j + 1, by omega, rfl, by go_num, HN, HB.trans (box_bel HB2)⟩
          case measure => omega
        · have heb : (kindF kinds false (treeOf r.sets[j].value) != kinds[a]) = true := by simpa using he
          have HF : Hid (typedF kinds r = false) := by
            show typedF kinds r = false
            unfold typedF
            rw [all_false_at hlt (by rw [HAK.out]; simpa using he)]; simp
          clear he
          go_wp2_with fail
          go_ret
          exact ⟨ret_bool HF.out.symm, (box_bel HB).trans (box_bel HB2)⟩
      · have hd0 : decide (j < r.sets.length) = false := by simpa using hlt
        have HF : Hid (typedF kinds r = true) := by
          show typedF kinds r = true
          unfold typedF
          rw [all_of_take (by omega) HJ.out, HGG.out]; rfl
        go_wp2_with fail
        go_ret
        exact ⟨ret_bool HF.out.symm, box_bel HB⟩
  · have hgb : (kindF kinds false (treeOf r.guard) != 2) = true := by simp [hg]
    have HF : Hid (typedF kinds r = false) := by
      show typedF kinds r = false
      unfold typedF
      rw [show (kindF kinds false (treeOf r.guard) == 2) = false by simpa using hg]; rfl
    clear hg
    go_enter Tryz.func156, Tryz.ntmps156
    go_wp2_with (go_at_call 44; refine (of_any _ _ r.guard _ _ kinds _ _ (HG.out _ (box_bel HB)) (HK.out _ (box_bel HB)) (by omega)).mono ?_; rintro e w' ⟨rfl, hb⟩; rw [HOg.out]; replace HB := HB.trans hb; clear hb)
    go_ret
    exact ⟨ret_bool HF.out.symm, box_bel HB⟩

set_option maxRecDepth 100000 in
set_option maxHeartbeats 2000000 in
theorem refTyped_any (v : Value) (r : Rule) (K : Option Addr) (ck : Nat) (kinds : List Int) (w : World) (h : RuleV w v r) (hK : IntsR w K kinds.length kinds) (hf : FOK kinds.length r) (hL : lightR r = true) :
    Calls Tryz.prog 166 #[v, .slice K kinds.length ck] w fun e w' => e = .returned (.bool (typedF kinds r)) ∧ Bel w w' := by
  obtain ⟨G, c, S, c2, rfl, hG, _, _, hS, _, _⟩ := h
  have HG := Lib.hid (fun w' (k : Bel w w') => TermsR.keep hG k); clear hG
  have HS := Lib.hid (fun w' (k : Bel w w') => SetsR.keep hS k); clear hS
  have HK := Lib.hid (fun w' (k : Bel w w') => IntsR.keep hK k); clear hK
  obtain ⟨_, l2, l3, l4⟩ := lightR_parts hL
  have HL4 := Lib.hid l4; clear l4
  obtain ⟨g1, g2, _, g4, _, _⟩ := valid_treeOf hf.guard
  have HGA := Lib.hid (At.whole g1 g2)
  have HG4 := Lib.hid g4
  have HFS := Lib.hid hf.sets
  have HB := Bel.refl (w.alloc (.cells #[.string r.name, .slice G r.guard.length c, .slice S r.sets.length c2] 143))
  clear hL hf g1 g2 g4
  by_cases hg : kindF kinds false (treeOf r.guard) = 2
  · have hgb : (kindF kinds false (treeOf r.guard) != 2) = false := by simp [hg]
    have HGG := Lib.hid hg; clear hg
    go_enter Tryz.func166, Tryz.ntmps166
    go_wp2_with (go_at_call 41; refine (refKind_any kinds (treeOf r.guard) _ _ _ r.guard _ _ 0 _ HGA.out (HG.out _ (box_bel HB)) (HK.out _ (box_bel HB)) HG4.out (by omega)).mono ?_; rintro e w' ⟨rfl, hb⟩; replace HB := HB.trans hb; clear hb; have q1 := box_cell HB 2 rfl; have q2 := box_lt HB)
    clear q1 q2 hgb
    go_loopg [5] r.sets.length (fun m z wr => ∃ j : Nat, j ≤ r.sets.length ∧ m = r.sets.length - j ∧ z = .int .i64 j ∧ Hid ((r.sets.take j).all (fun s => kindF kinds false (treeOf s.value) == kinds.getD s.var.toNat 0) = true) ∧ Bel (w.alloc (.cells #[.string r.name, .slice G r.guard.length c, .slice S r.sets.length c2] 143)) wr)
    case atStart => exact ⟨0, by omega, rfl, rfl, rfl, HB⟩
    case round =>
      clear HB
      obtain ⟨j, hj, rfl, rfl, HJ, HB⟩ := hrel
      have q1 := box_cell HB 2 rfl
      have q2 := box_lt HB
      by_cases hlt : j < r.sets.length
      · have hd0 : decide (j < r.sets.length) = true := by simpa using hlt
        obtain ⟨⟨f1, f2⟩, f3⟩ := HFS.out _ (List.getElem_mem hlt)
        have hlen := HL4.out _ (List.getElem_mem hlt)
        obtain ⟨t1, t2, _, t4, _, _⟩ := valid_treeOf f3
        have HTA := Lib.hid (At.whole t1 t2)
        have HT4 := Lib.hid t4
        obtain ⟨a, ha⟩ := Int.eq_ofNat_of_zero_le f1
        have hak : a < kinds.length := by omega
        have HAK : Hid (kinds.getD r.sets[j].var.toNat 0 = kinds[a]) := by show kinds.getD r.sets[j].var.toNat 0 = _; rw [ha, Int.toNat_natCast, getD_eq hak]
        obtain ⟨b, o, R, c', rfl, hb, s1, s2, hTv, _, _⟩ := (HS.out _ (box_bel HB)).at_ j hlt
        rw [ha] at s1
        obtain ⟨bk, ok, rfl, hbk, ck1⟩ := (HK.out _ (box_bel HB)).at_ a hak
        have HTv := Lib.hid (fun w' (k : Bel wr w') => TermsR.keep hTv k); clear hTv
        have hcell := Lib.hid (fun w' (k : Bel wr w') => And.intro ((k.cell q2).trans q1) (And.intro ((k.cell hb).trans s1) (And.intro ((k.cell hbk).trans ck1) (And.intro ((k.cell hb).trans s2) (Nat.lt_of_lt_of_le q2 k.size)))))
        clear f1 f2 f3 ha t1 t2 t4
        have HB2 := Bel.refl wr
        go_wp2_with fail
        replace HB2 := HB2.drew
        go_region_held3 (fun w' => w'.cell? ⟨w.heap.size, 2, none⟩ = some (.slice (some ⟨b, o, none⟩) r.sets.length c2) ∧ w'.cell? ⟨b, o + j * 2, none⟩ = some (.int .i64 (a : Int)) ∧ w'.cell? ⟨bk, ok + a, none⟩ = some (.int .i64 kinds[a]) ∧ w'.cell? ⟨b, o + j * 2 + 1, none⟩ = some (.slice R r.sets[j].value.length c') ∧ w.heap.size < w'.heap.size) (exact hcell.out _ HB2) (first | (go_simp; go_at_call 41; refine (refKind_any kinds (treeOf r.sets[j].value) _ _ _ r.sets[j].value _ _ 0 _ HTA.out (HTv.out _ HB2) (HK.out _ ((box_bel HB).trans HB2)) HT4.out (by omega)).mono ?_; rintro e w' ⟨rfl, hbb⟩; replace HB2 := HB2.trans hbb; clear hbb))
        go_wp2_with fail
        · have he : (kindF kinds false (treeOf r.sets[j].value) != kinds[a]) = true := by assumption
          have HF : Hid (typedF kinds r = false) := by
            show typedF kinds r = false
            unfold typedF
            rw [all_false_at hlt (by rw [HAK.out]; simpa using he)]; simp
          go_ret
          exact ⟨ret_bool HF.out.symm, (box_bel HB).trans HB2⟩
        · have he : (kindF kinds false (treeOf r.sets[j].value) != kinds[a]) = false := by assumption
          have HN := Lib.hid (all_take_succ hlt HJ.out (by simp only [HAK.out]; simpa using he))
          go_roundg (r.sets.length - (j + 1))
          case rel => exact ⟨j + 1, by omega, rfl, by go_num, HN, HB.trans HB2⟩
          case measure => omega
      · have hd0 : decide (j < r.sets.length) = false := by simpa using hlt
        have HF : Hid (typedF kinds r = true) := by
          show typedF kinds r = true
          unfold typedF
          rw [all_of_take (by omega) HJ.out, HGG.out]; rfl
        go_wp2_with fail
        go_ret
        exact ⟨ret_bool HF.out.symm, box_bel HB⟩
  · have hgb : (kindF kinds false (treeOf r.guard) != 2) = true := by simp [hg]
    have HF : Hid (typedF kinds r = false) := by
      show typedF kinds r = false
      unfold typedF
      rw [show (kindF kinds false (treeOf r.guard) == 2) = false by simpa using hg]; rfl
    clear hg
    go_enter Tryz.func166, Tryz.ntmps166
    go_wp2_with (go_at_call 41; refine (refKind_any kinds (treeOf r.guard) _ _ _ r.guard _ _ 0 _ HGA.out (HG.out _ (box_bel HB)) (HK.out _ (box_bel HB)) HG4.out (by omega)).mono ?_; rintro e w' ⟨rfl, hb⟩; replace HB := HB.trans hb; clear hb)
    go_ret
    exact ⟨ret_bool HF.out.symm, box_bel HB⟩

end Go.Proofs.YtaifafljakojnaaGreat

/- Contracts: names. -/
namespace Go.Proofs.YtaifafljakojnaaGreat
open Go.RowKit

def letterB (c : UInt8) : Bool := decide ((97 ≤ (c.toNat : Int) ∧ (c.toNat : Int) ≤ 122) ∨ (65 ≤ (c.toNat : Int) ∧ (c.toNat : Int) ≤ 90))
def digitB (c : UInt8) : Bool := decide (48 ≤ (c.toNat : Int) ∧ (c.toNat : Int) ≤ 57)
def inWordB (c : UInt8) : Bool := letterB c || digitB c || decide ((c.toNat : Int) = 95)

theorem letter_any (c : UInt8) (w : World) : Calls Tryz.prog 171 #[.int .u8 (c.toNat : Int)] w fun e w' => e = .returned (.bool (letterB c)) ∧ w = w' := by
  go_enter Tryz.func171, Tryz.ntmps171
  go_wp2
  all_goals (go_ret; refine ⟨ret_bool ?_, rfl⟩; unfold letterB; rw [Bool.eq_iff_iff]; simp) <;> omega
theorem refLetter_any (c : UInt8) (w : World) : Calls Tryz.prog 175 #[.int .u8 (c.toNat : Int)] w fun e w' => e = .returned (.bool (letterB c)) ∧ w = w' := by
  go_enter Tryz.func175, Tryz.ntmps175
  go_wp2
  all_goals (go_ret; refine ⟨ret_bool ?_, rfl⟩; unfold letterB; rw [Bool.eq_iff_iff]; simp) <;> omega
theorem digit_any (c : UInt8) (w : World) : Calls Tryz.prog 178 #[.int .u8 (c.toNat : Int)] w fun e w' => e = .returned (.bool (digitB c)) ∧ w = w' := by
  go_enter Tryz.func178, Tryz.ntmps178
  go_wp2
  all_goals (go_ret; refine ⟨ret_bool ?_, rfl⟩; unfold digitB; rw [Bool.eq_iff_iff]; simp) <;> omega
theorem refDigit_any (c : UInt8) (w : World) : Calls Tryz.prog 179 #[.int .u8 (c.toNat : Int)] w fun e w' => e = .returned (.bool (digitB c)) ∧ w = w' := by
  go_enter Tryz.func179, Tryz.ntmps179
  go_wp2
  all_goals (go_ret; refine ⟨ret_bool ?_, rfl⟩; unfold digitB; rw [Bool.eq_iff_iff]; simp) <;> omega
theorem inWord_any (c : UInt8) (w : World) : Calls Tryz.prog 172 #[.int .u8 (c.toNat : Int)] w fun e w' => e = .returned (.bool (inWordB c)) ∧ w = w' := by
  cases h1 : letterB c <;> cases h2 : digitB c
  all_goals
    have HF := Lib.hid (show inWordB c = (letterB c || digitB c || decide ((c.toNat : Int) = 95)) from rfl)
    rw [h1, h2] at HF
    go_enter Tryz.func172, Tryz.ntmps172
    go_wp2_with (first
      | (go_at_call 171; refine (letter_any _ _).mono ?_; rintro e w' ⟨rfl, rfl⟩)
      | (go_at_call 178; refine (digit_any _ _).mono ?_; rintro e w' ⟨rfl, rfl⟩))
    all_goals (go_ret; refine ⟨ret_bool ?_, rfl⟩; rw [HF.out]; simp; try (rw [Bool.eq_iff_iff]; simp))
theorem refInner_any (c : UInt8) (w : World) : Calls Tryz.prog 176 #[.int .u8 (c.toNat : Int)] w fun e w' => e = .returned (.bool (inWordB c)) ∧ w = w' := by
  cases h1 : letterB c <;> cases h2 : digitB c
  all_goals
    have HF := Lib.hid (show inWordB c = (letterB c || digitB c || decide ((c.toNat : Int) = 95)) from rfl)
    rw [h1, h2] at HF
    go_enter Tryz.func176, Tryz.ntmps176
    go_wp2_with (first
      | (go_at_call 175; refine (refLetter_any _ _).mono ?_; rintro e w' ⟨rfl, rfl⟩)
      | (go_at_call 179; refine (refDigit_any _ _).mono ?_; rintro e w' ⟨rfl, rfl⟩))
    all_goals (go_ret; refine ⟨ret_bool ?_, rfl⟩; rw [HF.out]; simp; try (rw [Bool.eq_iff_iff]; simp))

def wordsL : List (List UInt8) := [[112, 114, 111, 103, 114, 97, 109], [118, 97, 114], [114, 117, 108, 101], [98, 111, 111, 108], [112, 111, 114, 116], [116, 114, 117, 101], [102, 97, 108, 115, 101], [110, 111, 110, 101], [110], [105, 100, 115], [105, 100], [100, 101, 103], [114, 111, 111, 116], [113], [119, 101, 105, 103, 104, 116], [98, 97, 99, 107], [97, 108, 108], [115, 111, 109, 101], [99, 111, 117, 110, 116], [102, 105, 114, 115, 116], [109, 105, 110], [109, 97, 120], [115, 117, 109], [109, 101, 120], [115, 101, 99, 111, 110, 100], [104, 101, 97, 100]]
def reservedB (s : ByteArray) : Bool := wordsL.any fun l => s.toList == l
set_option maxRecDepth 100000 in
set_option maxHeartbeats 2000000 in
theorem reserved_any (s : ByteArray) (w : World) : Calls Tryz.prog 173 #[.string s] w fun e w' => e = .returned (.bool (reservedB s)) ∧ w = w' := by
  have HR : Hid (reservedB s = ((s.toList == [112, 114, 111, 103, 114, 97, 109]) || ((s.toList == [118, 97, 114]) || ((s.toList == [114, 117, 108, 101]) || ((s.toList == [98, 111, 111, 108]) || ((s.toList == [112, 111, 114, 116]) || ((s.toList == [116, 114, 117, 101]) || ((s.toList == [102, 97, 108, 115, 101]) || ((s.toList == [110, 111, 110, 101]) || ((s.toList == [110]) || ((s.toList == [105, 100, 115]) || ((s.toList == [105, 100]) || ((s.toList == [100, 101, 103]) || ((s.toList == [114, 111, 111, 116]) || ((s.toList == [113]) || ((s.toList == [119, 101, 105, 103, 104, 116]) || ((s.toList == [98, 97, 99, 107]) || ((s.toList == [97, 108, 108]) || ((s.toList == [115, 111, 109, 101]) || ((s.toList == [99, 111, 117, 110, 116]) || ((s.toList == [102, 105, 114, 115, 116]) || ((s.toList == [109, 105, 110]) || ((s.toList == [109, 97, 120]) || ((s.toList == [115, 117, 109]) || ((s.toList == [109, 101, 120]) || ((s.toList == [115, 101, 99, 111, 110, 100]) || ((s.toList == [104, 101, 97, 100])))))))))))))))))))))))))))) := by
    show reservedB s = _
    simp only [reservedB, wordsL, List.any_cons, List.any_nil, Bool.or_false]
  obtain ⟨b0, h0⟩ : ∃ b, (s.toList == [112, 114, 111, 103, 114, 97, 109]) = b := ⟨_, rfl⟩
  obtain ⟨b1, h1⟩ : ∃ b, (s.toList == [118, 97, 114]) = b := ⟨_, rfl⟩
  obtain ⟨b2, h2⟩ : ∃ b, (s.toList == [114, 117, 108, 101]) = b := ⟨_, rfl⟩
  obtain ⟨b3, h3⟩ : ∃ b, (s.toList == [98, 111, 111, 108]) = b := ⟨_, rfl⟩
  obtain ⟨b4, h4⟩ : ∃ b, (s.toList == [112, 111, 114, 116]) = b := ⟨_, rfl⟩
  obtain ⟨b5, h5⟩ : ∃ b, (s.toList == [116, 114, 117, 101]) = b := ⟨_, rfl⟩
  obtain ⟨b6, h6⟩ : ∃ b, (s.toList == [102, 97, 108, 115, 101]) = b := ⟨_, rfl⟩
  obtain ⟨b7, h7⟩ : ∃ b, (s.toList == [110, 111, 110, 101]) = b := ⟨_, rfl⟩
  obtain ⟨b8, h8⟩ : ∃ b, (s.toList == [110]) = b := ⟨_, rfl⟩
  obtain ⟨b9, h9⟩ : ∃ b, (s.toList == [105, 100, 115]) = b := ⟨_, rfl⟩
  obtain ⟨b10, h10⟩ : ∃ b, (s.toList == [105, 100]) = b := ⟨_, rfl⟩
  obtain ⟨b11, h11⟩ : ∃ b, (s.toList == [100, 101, 103]) = b := ⟨_, rfl⟩
  obtain ⟨b12, h12⟩ : ∃ b, (s.toList == [114, 111, 111, 116]) = b := ⟨_, rfl⟩
  obtain ⟨b13, h13⟩ : ∃ b, (s.toList == [113]) = b := ⟨_, rfl⟩
  obtain ⟨b14, h14⟩ : ∃ b, (s.toList == [119, 101, 105, 103, 104, 116]) = b := ⟨_, rfl⟩
  obtain ⟨b15, h15⟩ : ∃ b, (s.toList == [98, 97, 99, 107]) = b := ⟨_, rfl⟩
  obtain ⟨b16, h16⟩ : ∃ b, (s.toList == [97, 108, 108]) = b := ⟨_, rfl⟩
  obtain ⟨b17, h17⟩ : ∃ b, (s.toList == [115, 111, 109, 101]) = b := ⟨_, rfl⟩
  obtain ⟨b18, h18⟩ : ∃ b, (s.toList == [99, 111, 117, 110, 116]) = b := ⟨_, rfl⟩
  obtain ⟨b19, h19⟩ : ∃ b, (s.toList == [102, 105, 114, 115, 116]) = b := ⟨_, rfl⟩
  obtain ⟨b20, h20⟩ : ∃ b, (s.toList == [109, 105, 110]) = b := ⟨_, rfl⟩
  obtain ⟨b21, h21⟩ : ∃ b, (s.toList == [109, 97, 120]) = b := ⟨_, rfl⟩
  obtain ⟨b22, h22⟩ : ∃ b, (s.toList == [115, 117, 109]) = b := ⟨_, rfl⟩
  obtain ⟨b23, h23⟩ : ∃ b, (s.toList == [109, 101, 120]) = b := ⟨_, rfl⟩
  obtain ⟨b24, h24⟩ : ∃ b, (s.toList == [115, 101, 99, 111, 110, 100]) = b := ⟨_, rfl⟩
  obtain ⟨b25, h25⟩ : ∃ b, (s.toList == [104, 101, 97, 100]) = b := ⟨_, rfl⟩
  rw [h0, h1, h2, h3, h4, h5, h6, h7, h8, h9, h10, h11, h12, h13, h14, h15, h16, h17, h18, h19, h20, h21, h22, h23, h24, h25] at HR
  go_enter Tryz.func173, Tryz.ntmps173
  cases b0 with
  | true =>
    go_wp2
    go_ret
    exact ⟨ret_bool (by rw [HR.out]; simp), rfl⟩
  | false =>
  cases b1 with
  | true =>
    go_wp2
    go_ret
    exact ⟨ret_bool (by rw [HR.out]; simp), rfl⟩
  | false =>
  cases b2 with
  | true =>
    go_wp2
    go_ret
    exact ⟨ret_bool (by rw [HR.out]; simp), rfl⟩
  | false =>
  cases b3 with
  | true =>
    go_wp2
    go_ret
    exact ⟨ret_bool (by rw [HR.out]; simp), rfl⟩
  | false =>
  cases b4 with
  | true =>
    go_wp2
    go_ret
    exact ⟨ret_bool (by rw [HR.out]; simp), rfl⟩
  | false =>
  cases b5 with
  | true =>
    go_wp2
    go_ret
    exact ⟨ret_bool (by rw [HR.out]; simp), rfl⟩
  | false =>
  cases b6 with
  | true =>
    go_wp2
    go_ret
    exact ⟨ret_bool (by rw [HR.out]; simp), rfl⟩
  | false =>
  cases b7 with
  | true =>
    go_wp2
    go_ret
    exact ⟨ret_bool (by rw [HR.out]; simp), rfl⟩
  | false =>
  cases b8 with
  | true =>
    go_wp2
    go_ret
    exact ⟨ret_bool (by rw [HR.out]; simp), rfl⟩
  | false =>
  cases b9 with
  | true =>
    go_wp2
    go_ret
    exact ⟨ret_bool (by rw [HR.out]; simp), rfl⟩
  | false =>
  cases b10 with
  | true =>
    go_wp2
    go_ret
    exact ⟨ret_bool (by rw [HR.out]; simp), rfl⟩
  | false =>
  cases b11 with
  | true =>
    go_wp2
    go_ret
    exact ⟨ret_bool (by rw [HR.out]; simp), rfl⟩
  | false =>
  cases b12 with
  | true =>
    go_wp2
    go_ret
    exact ⟨ret_bool (by rw [HR.out]; simp), rfl⟩
  | false =>
  cases b13 with
  | true =>
    go_wp2
    go_ret
    exact ⟨ret_bool (by rw [HR.out]; simp), rfl⟩
  | false =>
  cases b14 with
  | true =>
    go_wp2
    go_ret
    exact ⟨ret_bool (by rw [HR.out]; simp), rfl⟩
  | false =>
  cases b15 with
  | true =>
    go_wp2
    go_ret
    exact ⟨ret_bool (by rw [HR.out]; simp), rfl⟩
  | false =>
  cases b16 with
  | true =>
    go_wp2
    go_ret
    exact ⟨ret_bool (by rw [HR.out]; simp), rfl⟩
  | false =>
  cases b17 with
  | true =>
    go_wp2
    go_ret
    exact ⟨ret_bool (by rw [HR.out]; simp), rfl⟩
  | false =>
  cases b18 with
  | true =>
    go_wp2
    go_ret
    exact ⟨ret_bool (by rw [HR.out]; simp), rfl⟩
  | false =>
  cases b19 with
  | true =>
    go_wp2
    go_ret
    exact ⟨ret_bool (by rw [HR.out]; simp), rfl⟩
  | false =>
  cases b20 with
  | true =>
    go_wp2
    go_ret
    exact ⟨ret_bool (by rw [HR.out]; simp), rfl⟩
  | false =>
  cases b21 with
  | true =>
    go_wp2
    go_ret
    exact ⟨ret_bool (by rw [HR.out]; simp), rfl⟩
  | false =>
  cases b22 with
  | true =>
    go_wp2
    go_ret
    exact ⟨ret_bool (by rw [HR.out]; simp), rfl⟩
  | false =>
  cases b23 with
  | true =>
    go_wp2
    go_ret
    exact ⟨ret_bool (by rw [HR.out]; simp), rfl⟩
  | false =>
  cases b24 with
  | true =>
    go_wp2
    go_ret
    exact ⟨ret_bool (by rw [HR.out]; simp), rfl⟩
  | false =>
  cases b25 with
  | true =>
    go_wp2
    go_ret
    exact ⟨ret_bool (by rw [HR.out]; simp), rfl⟩
  | false =>
  go_wp2
  go_ret
  exact ⟨ret_bool (by rw [HR.out]; rfl), rfl⟩
set_option maxRecDepth 100000 in
set_option maxHeartbeats 2000000 in
theorem refReserved_any (s : ByteArray) (w : World) : Calls Tryz.prog 177 #[.string s] w fun e w' => e = .returned (.bool (reservedB s)) ∧ w = w' := by
  have HR : Hid (reservedB s = ((s.toList == [112, 114, 111, 103, 114, 97, 109]) || ((s.toList == [118, 97, 114]) || ((s.toList == [114, 117, 108, 101]) || ((s.toList == [98, 111, 111, 108]) || ((s.toList == [112, 111, 114, 116]) || ((s.toList == [116, 114, 117, 101]) || ((s.toList == [102, 97, 108, 115, 101]) || ((s.toList == [110, 111, 110, 101]) || ((s.toList == [110]) || ((s.toList == [105, 100, 115]) || ((s.toList == [105, 100]) || ((s.toList == [100, 101, 103]) || ((s.toList == [114, 111, 111, 116]) || ((s.toList == [113]) || ((s.toList == [119, 101, 105, 103, 104, 116]) || ((s.toList == [98, 97, 99, 107]) || ((s.toList == [97, 108, 108]) || ((s.toList == [115, 111, 109, 101]) || ((s.toList == [99, 111, 117, 110, 116]) || ((s.toList == [102, 105, 114, 115, 116]) || ((s.toList == [109, 105, 110]) || ((s.toList == [109, 97, 120]) || ((s.toList == [115, 117, 109]) || ((s.toList == [109, 101, 120]) || ((s.toList == [115, 101, 99, 111, 110, 100]) || ((s.toList == [104, 101, 97, 100])))))))))))))))))))))))))))) := by
    show reservedB s = _
    simp only [reservedB, wordsL, List.any_cons, List.any_nil, Bool.or_false]
  obtain ⟨b0, h0⟩ : ∃ b, (s.toList == [112, 114, 111, 103, 114, 97, 109]) = b := ⟨_, rfl⟩
  obtain ⟨b1, h1⟩ : ∃ b, (s.toList == [118, 97, 114]) = b := ⟨_, rfl⟩
  obtain ⟨b2, h2⟩ : ∃ b, (s.toList == [114, 117, 108, 101]) = b := ⟨_, rfl⟩
  obtain ⟨b3, h3⟩ : ∃ b, (s.toList == [98, 111, 111, 108]) = b := ⟨_, rfl⟩
  obtain ⟨b4, h4⟩ : ∃ b, (s.toList == [112, 111, 114, 116]) = b := ⟨_, rfl⟩
  obtain ⟨b5, h5⟩ : ∃ b, (s.toList == [116, 114, 117, 101]) = b := ⟨_, rfl⟩
  obtain ⟨b6, h6⟩ : ∃ b, (s.toList == [102, 97, 108, 115, 101]) = b := ⟨_, rfl⟩
  obtain ⟨b7, h7⟩ : ∃ b, (s.toList == [110, 111, 110, 101]) = b := ⟨_, rfl⟩
  obtain ⟨b8, h8⟩ : ∃ b, (s.toList == [110]) = b := ⟨_, rfl⟩
  obtain ⟨b9, h9⟩ : ∃ b, (s.toList == [105, 100, 115]) = b := ⟨_, rfl⟩
  obtain ⟨b10, h10⟩ : ∃ b, (s.toList == [105, 100]) = b := ⟨_, rfl⟩
  obtain ⟨b11, h11⟩ : ∃ b, (s.toList == [100, 101, 103]) = b := ⟨_, rfl⟩
  obtain ⟨b12, h12⟩ : ∃ b, (s.toList == [114, 111, 111, 116]) = b := ⟨_, rfl⟩
  obtain ⟨b13, h13⟩ : ∃ b, (s.toList == [113]) = b := ⟨_, rfl⟩
  obtain ⟨b14, h14⟩ : ∃ b, (s.toList == [119, 101, 105, 103, 104, 116]) = b := ⟨_, rfl⟩
  obtain ⟨b15, h15⟩ : ∃ b, (s.toList == [98, 97, 99, 107]) = b := ⟨_, rfl⟩
  obtain ⟨b16, h16⟩ : ∃ b, (s.toList == [97, 108, 108]) = b := ⟨_, rfl⟩
  obtain ⟨b17, h17⟩ : ∃ b, (s.toList == [115, 111, 109, 101]) = b := ⟨_, rfl⟩
  obtain ⟨b18, h18⟩ : ∃ b, (s.toList == [99, 111, 117, 110, 116]) = b := ⟨_, rfl⟩
  obtain ⟨b19, h19⟩ : ∃ b, (s.toList == [102, 105, 114, 115, 116]) = b := ⟨_, rfl⟩
  obtain ⟨b20, h20⟩ : ∃ b, (s.toList == [109, 105, 110]) = b := ⟨_, rfl⟩
  obtain ⟨b21, h21⟩ : ∃ b, (s.toList == [109, 97, 120]) = b := ⟨_, rfl⟩
  obtain ⟨b22, h22⟩ : ∃ b, (s.toList == [115, 117, 109]) = b := ⟨_, rfl⟩
  obtain ⟨b23, h23⟩ : ∃ b, (s.toList == [109, 101, 120]) = b := ⟨_, rfl⟩
  obtain ⟨b24, h24⟩ : ∃ b, (s.toList == [115, 101, 99, 111, 110, 100]) = b := ⟨_, rfl⟩
  obtain ⟨b25, h25⟩ : ∃ b, (s.toList == [104, 101, 97, 100]) = b := ⟨_, rfl⟩
  rw [h0, h1, h2, h3, h4, h5, h6, h7, h8, h9, h10, h11, h12, h13, h14, h15, h16, h17, h18, h19, h20, h21, h22, h23, h24, h25] at HR
  go_enter Tryz.func177, Tryz.ntmps177
  cases b0 with
  | true =>
    go_wp2
    go_ret
    exact ⟨ret_bool (by rw [HR.out]; simp), rfl⟩
  | false =>
  cases b1 with
  | true =>
    go_wp2
    go_ret
    exact ⟨ret_bool (by rw [HR.out]; simp), rfl⟩
  | false =>
  cases b2 with
  | true =>
    go_wp2
    go_ret
    exact ⟨ret_bool (by rw [HR.out]; simp), rfl⟩
  | false =>
  cases b3 with
  | true =>
    go_wp2
    go_ret
    exact ⟨ret_bool (by rw [HR.out]; simp), rfl⟩
  | false =>
  cases b4 with
  | true =>
    go_wp2
    go_ret
    exact ⟨ret_bool (by rw [HR.out]; simp), rfl⟩
  | false =>
  cases b5 with
  | true =>
    go_wp2
    go_ret
    exact ⟨ret_bool (by rw [HR.out]; simp), rfl⟩
  | false =>
  cases b6 with
  | true =>
    go_wp2
    go_ret
    exact ⟨ret_bool (by rw [HR.out]; simp), rfl⟩
  | false =>
  cases b7 with
  | true =>
    go_wp2
    go_ret
    exact ⟨ret_bool (by rw [HR.out]; simp), rfl⟩
  | false =>
  cases b8 with
  | true =>
    go_wp2
    go_ret
    exact ⟨ret_bool (by rw [HR.out]; simp), rfl⟩
  | false =>
  cases b9 with
  | true =>
    go_wp2
    go_ret
    exact ⟨ret_bool (by rw [HR.out]; simp), rfl⟩
  | false =>
  cases b10 with
  | true =>
    go_wp2
    go_ret
    exact ⟨ret_bool (by rw [HR.out]; simp), rfl⟩
  | false =>
  cases b11 with
  | true =>
    go_wp2
    go_ret
    exact ⟨ret_bool (by rw [HR.out]; simp), rfl⟩
  | false =>
  cases b12 with
  | true =>
    go_wp2
    go_ret
    exact ⟨ret_bool (by rw [HR.out]; simp), rfl⟩
  | false =>
  cases b13 with
  | true =>
    go_wp2
    go_ret
    exact ⟨ret_bool (by rw [HR.out]; simp), rfl⟩
  | false =>
  cases b14 with
  | true =>
    go_wp2
    go_ret
    exact ⟨ret_bool (by rw [HR.out]; simp), rfl⟩
  | false =>
  cases b15 with
  | true =>
    go_wp2
    go_ret
    exact ⟨ret_bool (by rw [HR.out]; simp), rfl⟩
  | false =>
  cases b16 with
  | true =>
    go_wp2
    go_ret
    exact ⟨ret_bool (by rw [HR.out]; simp), rfl⟩
  | false =>
  cases b17 with
  | true =>
    go_wp2
    go_ret
    exact ⟨ret_bool (by rw [HR.out]; simp), rfl⟩
  | false =>
  cases b18 with
  | true =>
    go_wp2
    go_ret
    exact ⟨ret_bool (by rw [HR.out]; simp), rfl⟩
  | false =>
  cases b19 with
  | true =>
    go_wp2
    go_ret
    exact ⟨ret_bool (by rw [HR.out]; simp), rfl⟩
  | false =>
  cases b20 with
  | true =>
    go_wp2
    go_ret
    exact ⟨ret_bool (by rw [HR.out]; simp), rfl⟩
  | false =>
  cases b21 with
  | true =>
    go_wp2
    go_ret
    exact ⟨ret_bool (by rw [HR.out]; simp), rfl⟩
  | false =>
  cases b22 with
  | true =>
    go_wp2
    go_ret
    exact ⟨ret_bool (by rw [HR.out]; simp), rfl⟩
  | false =>
  cases b23 with
  | true =>
    go_wp2
    go_ret
    exact ⟨ret_bool (by rw [HR.out]; simp), rfl⟩
  | false =>
  cases b24 with
  | true =>
    go_wp2
    go_ret
    exact ⟨ret_bool (by rw [HR.out]; simp), rfl⟩
  | false =>
  cases b25 with
  | true =>
    go_wp2
    go_ret
    exact ⟨ret_bool (by rw [HR.out]; simp), rfl⟩
  | false =>
  go_wp2
  go_ret
  exact ⟨ret_bool (by rw [HR.out]; rfl), rfl⟩

end Go.Proofs.YtaifafljakojnaaGreat

