/- The walk of TermRenamesBack. -/
import Derived.Test.YtglhfdoahmmoeaaW05j
import Derived.Test.YtglhfdoahmmoeaaP05e
namespace Go.Proofs.Ytglhfdoahmmoeaa
open Go.RowKit

theorem u32_bit (x i : Nat) (hx : x < 4294967296) : bits .and .u32 ((x : Int) / 2 ^ i) 1 = if x.testBit i then 1 else 0 := by
  have e : ((x : Int) / 2 ^ i) = ((x >>> i : Nat) : Int) := by rw [Nat.shiftRight_eq_div_pow]; simp
  have hlt : x >>> i < 4294967296 := by rw [Nat.shiftRight_eq_div_pow]; exact Nat.lt_of_le_of_lt (Nat.div_le_self _ _) hx
  rw [e, show (1 : Int) = ((1 : Nat) : Int) from rfl, u32_and_nat _ _ hlt (by decide), shift_bit]
  split <;> rfl

def RetPerm (w : World) (e : Ending) (w' : World) : Prop := ∃ A c m, e = .returned (.slice A 6 c) ∧ IsPerm m ∧ IntsR w' A 6 m ∧ Bel w w'

theorem own_swap {w : World} {base g c : Nat} {e : TypeId} {m : List Int} {i k : Nat} (ho : w.ownsRow base e 1 (.slice (some ⟨g, 0, none⟩) 6 c) 6 (m.map (Value.int .i64))) :
    ((w.setCell ⟨g, i, none⟩ (.int .i64 (m.getD k 0))).setCell ⟨g, k, none⟩ (.int .i64 (m.getD i 0))).ownsRow base e 1 (.slice (some ⟨g, 0, none⟩) 6 c) 6 ((swapL m i k).map (Value.int .i64)) := by
  have h1 := (ho.stored i (.int .i64 (m.getD k 0))).1
  have h2 := (h1.stored k (.int .i64 (m.getD i 0))).1
  unfold swapL
  rw [List.map_set, List.map_set]
  exact h2
theorem own_swap' {w : World} {base g c : Nat} {e : TypeId} {m : List Int} {i k : Nat} (hik : i ≠ k) (ho : w.ownsRow base e 1 (.slice (some ⟨g, 0, none⟩) 6 c) 6 (m.map (Value.int .i64))) :
    ((w.setCell ⟨g, k, none⟩ (.int .i64 (m.getD i 0))).setCell ⟨g, i, none⟩ (.int .i64 (m.getD k 0))).ownsRow base e 1 (.slice (some ⟨g, 0, none⟩) 6 c) 6 ((swapL m i k).map (Value.int .i64)) := by
  have h1 := (ho.stored k (.int .i64 (m.getD i 0))).1
  have h2 := (h1.stored i (.int .i64 (m.getD k 0))).1
  unfold swapL
  rw [List.map_set, List.map_set, List.set_comm _ _ hik]
  exact h2

set_option maxRecDepth 100000 in
set_option maxHeartbeats 2000000 in
theorem permutation_any (A : Option Addr) (n c : Nat) (raw : List Int) (w : World) (h : IntsR w A n raw) (hc : n ≤ c) (hcm : c ≤ 9223372036854775807) :
    Calls Try.prog 31 #[.slice A n c] w (RetPerm w) := by
  obtain rfl := h.1
  have H := Lib.hid (fun w' (k : Bel w w') => h.keep k); clear h
  have hrl : raw.length ≤ 9223372036854775807 := by omega
  go_enter Try.func31, Try.ntmps31
  go_wp2_with fail
  have HO0 := Lib.hid (World.ownsRow_lit (base := w.heap.size) (e := 3) (size := 1) w #[.int .i64 0, .int .i64 1, .int .i64 2, .int .i64 3, .int .i64 4, .int .i64 5] 6 (Nat.le_refl _) (by unfold maxLen; omega) rfl)
  generalize hg : w.heap.size = g at *
  have hgw : w.heap.size ≤ g := by omega
  go_loopg [4] 6 (fun q iv wr => ∃ (k : Nat) (m : List Int), k + q = 6 ∧ iv = .int .i64 k ∧ Hid (IsPerm m) ∧ Hid (wr.ownsRow w.heap.size 3 1 (.slice (some ⟨g, 0, none⟩) 6 6) 6 (m.map (Value.int .i64))) ∧ Bel w wr)
  case atStart => exact ⟨0, [0, 1, 2, 3, 4, 5], by omega, rfl, isPerm_start, by rw [hg]; exact HO0, (Bel.refl _).alloc _⟩
  case round =>
    clear hg HO0
    obtain ⟨k, m, hk, rfl, HP, HO, hbel⟩ := hrel
    have HRet := Lib.hid (show IntsR wr (some ⟨g, 0, none⟩) 6 m from own_ints HO.out)
    by_cases hkr : k < raw.length
    · have hd1 : decide (k < raw.length) = true := by simpa using hkr
      by_cases hk6 : k < 6
      · obtain ⟨b, o, rfl, hb, hcell⟩ := (H.out wr hbel).at_ k hkr
        have hq1 : 0 ≤ modF raw[k] 6 := Int.emod_nonneg _ (by omega)
        have hq2 : modF raw[k] 6 < 6 := Int.emod_lt_of_pos _ (by omega)
        obtain ⟨j, hj⟩ := Int.eq_ofNat_of_zero_le hq1
        rw [hj] at hq1 hq2
        have hj6 : j < 6 := by omega
        have hml := HP.out.1
        obtain ⟨g1, e1, _, hglt, hc1, hf1⟩ := own_at HO.out (j := k) (u := .int .i64 (m.getD k 0)) (by simp [List.getD_eq_getElem?_getD, List.getElem?_eq_getElem (show k < m.length by omega)])
        obtain rfl : g = g1 := by simpa using e1
        obtain ⟨g2, e2, _, _, hc2, hf2⟩ := own_at HO.out (j := j) (u := .int .i64 (m.getD j 0)) (by simp [List.getD_eq_getElem?_getD, List.getElem?_eq_getElem (show j < m.length by omega)])
        obtain rfl : g = g2 := by simpa using e2
        clear e1 e2
        have HSW := Lib.hid (isPerm_swap HP.out hk6 hj6)
        clear hml
        by_cases hkj : k = j
        · subst hkj
          generalize hv : m.getD k 0 = v at *
          have HV := Lib.hid hv; clear hv
          go_wp2_with (go_at_call 23; refine (mod_any _ _ _ (by omega) (by omega)).mono ?_; rintro e w' ⟨rfl, rfl⟩)
          go_region
          all_goals
            go_wp2_with fail
            go_roundg (gk - 1)
            case rel => exact ⟨k + 1, swapL m k k, by omega, by go_num, HSW, by
              show World.ownsRow _ _ _ _ _ _ _
              have := own_swap (i := k) (k := k) HO.out
              rw [HV.out] at this
              exact this.drew, ((hbel.setCell (by simpa using hgw) _).setCell (by simpa using hgw) _).drew⟩
            case measure => omega
        · have hjk : j ≠ k := fun h => hkj h.symm
          generalize hv : m.getD k 0 = v at *
          have HV := Lib.hid hv; clear hv
          generalize hu : m.getD j 0 = u at *
          have HU := Lib.hid hu; clear hu
          go_wp2_with (go_at_call 23; refine (mod_any _ _ _ (by omega) (by omega)).mono ?_; rintro e w' ⟨rfl, rfl⟩)
          go_region
          all_goals
            go_wp2_with fail
            go_roundg (gk - 1)
            case rel => exact ⟨k + 1, swapL m k j, by omega, by go_num, HSW, by
              show World.ownsRow _ _ _ _ _ _ _
              first
                | (have := own_swap (i := k) (k := j) HO.out; rw [HV.out, HU.out] at this; exact this.drew)
                | (have := own_swap' (i := k) (k := j) hkj HO.out; rw [HV.out, HU.out] at this; exact this.drew), ((hbel.setCell (by simpa using hgw) _).setCell (by simpa using hgw) _).drew⟩
            case measure => omega
      · have hd2 : 6 ≤ k := by omega
        go_wp2_with fail
        go_ret
        exact ⟨_, _, m, rfl, HP.out, HRet.out, hbel⟩
    · have hd1 : decide (k < raw.length) = false := by simpa using hkr
      go_wp2_with fail
      go_ret
      exact ⟨_, _, m, rfl, HP.out, HRet.out, hbel⟩
/-- back has been filled as far as k. -/
def BackTo (m : List Int) (k : Nat) (bk : List Int) : Prop := SixVars bk ∧ ∀ i, i < k → bk.getD (m.getD i 0).toNat 0 = i
theorem backTo_zero (m : List Int) : BackTo m 0 [0, 0, 0, 0, 0, 0] := by
  refine ⟨⟨rfl, fun j hj => ?_⟩, fun i hi => by omega⟩
  have : j = 0 ∨ j = 1 ∨ j = 2 ∨ j = 3 ∨ j = 4 ∨ j = 5 := by omega
  rcases this with h | h | h | h | h | h <;> subst h <;> decide
theorem backTo_succ {m : List Int} (hm : IsPerm m) {k : Nat} (hk : k < 6) {bk : List Int} (h : BackTo m k bk) : BackTo m (k + 1) (bk.set (m.getD k 0).toNat k) := by
  obtain ⟨⟨h1, h2⟩, h3⟩ := h
  have hmk := hm.2.1 k hk
  refine ⟨⟨by simpa using h1, fun j hj => ?_⟩, fun i hi => ?_⟩
  · rw [getD_set _ _ _ _ (by omega)]
    split
    · omega
    · exact h2 j hj
  · rw [getD_set _ _ _ _ (by omega)]
    have hmi := hm.2.1 i (by omega)
    split
    · rename_i he
      have := hm.2.2 k i hk (by omega) (by omega)
      omega
    · rename_i he
      have hik : i ≠ k := by rintro rfl; exact he rfl
      exact h3 i (by omega)

set_option maxRecDepth 100000 in
set_option maxHeartbeats 4000000 in
theorem termRenamesBack_walk (A : Option Addr) (n c : Nat) (es : List Term) (Ar : Option Addr) (nr cr : Nat) (raw : List Int) (w : World) (h : TermsR w A n es) (_ : ∀ t ∈ es, GoodT t) (_ : n ≤ c) (_ : c ≤ maxLen)
    (hr : IntsR w Ar nr raw) (_ : ∀ x ∈ raw, InI64 x) (hrc : nr ≤ cr) (hrm : cr ≤ maxLen) :
    Calls Try.prog 9 #[.slice A n c, .slice Ar nr cr] w fun e w' => e = .returned (.bool true) ∧ Bel w w' := by
  obtain rfl := h.1
  have H := Lib.hid (fun w' (k : Bel w w') => h.keep k); clear h
  have HR := Lib.hid (fun w' (k : Bel w w') => hr.keep k); clear hr
  have hb0 := Bel.refl w
  by_cases h250 : es.length ≤ 250
  case neg =>
    have hd : decide (es.length ≤ 250) = false := by simpa using h250
    go_enter Try.func9, Try.ntmps9
    go_wp2_with (first
      | (go_at_call 10; refine (light_any _ _ _ _).mono ?_; rintro e w' ⟨rfl, rfl⟩)
      | (go_at_call 11; refine (awake_any _).mono ?_; rintro e w1 ⟨rfl, hb1⟩))
    go_ret
    exact ⟨rfl, hb1⟩
  have hd : decide (es.length ≤ 250) = true := by simpa using h250
  have hl : es.length ≤ 1000000 := by omega
  cases hv : validF es 6 with
  | false =>
    go_enter Try.func9, Try.ntmps9
    go_wp2_with (first
      | (go_at_call 10; refine (light_any _ _ _ _).mono ?_; rintro e w' ⟨rfl, rfl⟩)
      | (go_at_call 22; refine (Calls.rel (w0 := w) (by assumption) (refValid_any _ _ _ es _ _ (H.out _ (by assumption)) hl)).mono ?_; rintro e wn ⟨rfl, hbn⟩; rw [hv])
      | (go_at_call 11; refine (Calls.rel (w0 := w) (by assumption) (awake_any _)).mono ?_; rintro e wn ⟨rfl, hbn⟩))
    go_ret
    exact ⟨rfl, by assumption⟩
  | true =>
    obtain ⟨i0, hi0, hz0, hz1, hz2⟩ := info_parts int_info
    have HV := Lib.hid hv
    go_enter Try.func9, Try.ntmps9
    go_wp2_with (first
      | (go_at_call 10; refine (light_any _ _ _ _).mono ?_; rintro e w' ⟨rfl, rfl⟩)
      | (go_at_call 22; refine (Calls.rel (w0 := w) (by assumption) (refValid_any _ _ _ es _ _ (H.out _ (by assumption)) hl)).mono ?_; rintro e wn ⟨rfl, hbn⟩; rw [hv])
      | (go_at_call 31; refine (permutation_any _ _ _ raw _ (HR.out _ (by assumption)) hrc (by unfold maxLen at hrm; omega)).mono ?_; rintro e w1 ⟨Am, cm, m, rfl, hP, hM, hb1⟩; have HP := Lib.hid hP; clear hP; have hbw1 : Bel w w1 := hbn.trans hb1; have HM := Lib.hid (fun w' (k : Bel w1 w') => hM.keep k); clear hM)
      | (at_make; go_must (refine wpList_make_full _ rfl (.tmp 29) (.tmp 29) 37 rfl w1.heap.size 3 i0 _ 1 Try.underlying37 hi0 hz0 hz1 .i64 .i64 6 6 6 rfl rfl rfl rfl (by rw [hz2]; omega) (by unfold maxLen; omega) (Nat.le_refl _) ?_; intro w2 hown2 hgr2; have hb2 : Bel w1 w2 := (Bel.refl _).grown hgr2 (fun k hk => by cases hk); have HO2 := Lib.hid hown2; clear hown2 hgr2)))
    clear hv hbn hb0 hb1
    have hml := HP.out.1
    generalize hg : w1.heap.size = g at *
    have hgw : w1.heap.size ≤ g := by omega
    go_loopg [7] 6 (fun q iv wr => ∃ (k : Nat) (bk : List Int), k + q = 6 ∧ iv = .int .i64 k ∧ Hid (BackTo m k bk) ∧ Hid (wr.ownsRow w1.heap.size 3 1 (.slice (some ⟨g, 0, none⟩) 6 6) 6 (bk.map (Value.int .i64))) ∧ Bel w1 wr)
    case atStart => exact ⟨0, [0, 0, 0, 0, 0, 0], by omega, rfl, backTo_zero m, by
      have := HO2.out
      rw [show (madeCells (Value.int .i64 0).cells (6 * 1)).toList = [0, 0, 0, 0, 0, 0].map (Value.int .i64) from by rw [show (Value.int IntKind.i64 0).cells = #[Value.int .i64 0] from rfl, toList_madeCells_one]; rfl] at this
      rw [hg]; exact this, hb2⟩
    case round =>
      clear hg HO2 hb2
      obtain ⟨k, bk, hk, rfl, HB, HO, hbel⟩ := hrel
      by_cases hk6 : k < 6
      · obtain ⟨b, o, rfl, hb, hcell⟩ := (HM.out wr hbel).at_ k (by omega)
        have hmr := HP.out.2.1 k hk6
        rw [List.getD_eq_getElem?_getD, List.getElem?_eq_getElem (by omega), Option.getD_some] at hmr
        have HMK : Hid (m.getD k 0 = m[k]) := by show _ = _; rw [List.getD_eq_getElem?_getD, List.getElem?_eq_getElem (by omega), Option.getD_some]
        obtain ⟨j, hj⟩ := Int.eq_ofNat_of_zero_le hmr.1
        have hj6 : j < 6 := by omega
        have hbl := HB.out.1.1
        obtain ⟨g1, e1, _, hglt, hc1, hf1⟩ := own_at HO.out (j := j) (u := .int .i64 (bk.getD j 0)) (by simp [List.getD_eq_getElem?_getD, List.getElem?_eq_getElem (show j < bk.length by omega)])
        obtain rfl : g = g1 := by simpa using e1
        have HBS := Lib.hid (backTo_succ HP.out hk6 HB.out)
        rw [hj] at hcell
        have HJ := Lib.hid hj
        clear hmr hj e1 hbl
        go_wp2_with fail
        go_roundg (gk - 1)
        case rel => exact ⟨k + 1, bk.set j k, by omega, by go_num, by
          have := HBS.out
          rw [HMK.out, HJ.out, Int.toNat_natCast] at this
          exact this, by
          show World.ownsRow _ _ _ _ _ _ _
          have := (HO.out.stored j (.int .i64 k)).1
          rw [List.map_set]; exact this, hbel.setCell (by simpa using hgw) _⟩
        case measure => omega
      · obtain rfl : k = 6 := by omega
        have HBR := Lib.hid (fun w' (q : Bel wr w') => (show IntsR w' (some ⟨g, 0, none⟩) 6 bk from (own_ints HO.out).keep q))
        have hs : SixVars m := ⟨HP.out.1, HP.out.2.1⟩
        have HX1 := Lib.hid (rename_six hs HV.out)
        have HX2 := Lib.hid (rename_six HB.out.1 (valid_ren hs HV.out))
        have HX3 := Lib.hid (ren_back HB.out.2 HV.out)
        have hxl : (es.map (renTerm m)).length = es.length := by simp
        have HRD := Lib.hid (fun i hi => reads_ren HP.out HV.out i hi)
        clear hs
        generalize hX : es.map (renTerm m) = X at *
        have HXE := Lib.hid hX; clear hX
        have HXL := Lib.hid hxl; clear hxl
        obtain ⟨hr1, hr2⟩ := readsF_lt es
        obtain ⟨hr3, hr4⟩ := readsF_lt X
        generalize hra : (readsF es).1 = ra at *
        generalize hrb : (readsF es).2 = rb at *
        generalize hrc' : (readsF X).1 = rc at *
        generalize hrd : (readsF X).2 = rd at *
        have HW := Lib.hid (fun w' (q : Bel wr w') => H.out w' (hbw1.trans (hbel.trans q)))
        have HMW := Lib.hid (fun w' (q : Bel wr w') => HM.out w' (hbel.trans q))
        have hb0 := Bel.refl wr
        go_wp2_with (first
          | (go_at_call_of 26 A; refine (rename_any _ _ _ es _ _ _ m _ (HW.out _ (by assumption)) (HMW.out _ (by assumption)) hl (by omega)).mono ?_; rw [HX1.out]; rintro e w3 ⟨A3, c3, rfl, ht3, hb3⟩; have HT3 := Lib.hid (fun w' (k : Bel w3 w') => ht3.keep k); clear ht3; simp only [])
          | (go_at_call 26; refine (rename_any _ _ _ X _ _ _ bk _ (HT3.out _ (Bel.refl _)) (HBR.out _ (by assumption)) (by rw [HXL.out]; exact hl) (by omega)).mono ?_; rw [HX2.out, HX3.out]; rintro e w4 ⟨A4, c4, rfl, ht4, hb4⟩; have HT4 := Lib.hid (fun w' (k : Bel w4 w') => ht4.keep k); clear ht4; have HT34 := Lib.hid (fun w' (k : Bel w4 w') => HT3.out w' (hb4.trans k)); have HW4 := Lib.hid (fun w' (k : Bel w4 w') => HW.out w' ((hb3.trans hb4).trans k)); have HM4 := Lib.hid (fun w' (k : Bel w4 w') => HMW.out w' ((hb3.trans hb4).trans k)); have hb5 := Bel.refl w4; simp only [])
          | (go_at_call_of 28 A; refine (Calls.rel (w0 := w4) (by assumption) (reads_any _ _ _ es _ (HW4.out _ (by assumption)) hl)).mono ?_; rw [hra, hrb]; rintro e wn ⟨rfl, hbn⟩)
          | (go_at_call 28; refine (Calls.rel (w0 := w4) (by assumption) (reads_any _ _ _ X _ (HT34.out _ (by assumption)) (by rw [HXL.out]; exact hl))).mono ?_; rw [hrc', hrd]; rintro e wn ⟨rfl, hbn⟩))
        go_loopg [16] 6 (fun q iv wx => ∃ i : Nat, i + q = 6 ∧ iv = .int .i64 i ∧ wn = wx)
        case atStart => exact ⟨0, by omega, rfl, rfl⟩
        case round =>
          obtain ⟨i, hi, rfl, rfl⟩ := hrel
          by_cases hi6 : i < 6
          · obtain ⟨b, o, rfl, hb, hcell⟩ := (HM4.out wn hbn).at_ i (by omega)
            have hmr := HP.out.2.1 i hi6
            have HMK : Hid (m.getD i 0 = m[i]) := by show _ = _; rw [List.getD_eq_getElem?_getD, List.getElem?_eq_getElem (by omega), Option.getD_some]
            rw [HMK.out] at hmr
            obtain ⟨j, hj⟩ := Int.eq_ofNat_of_zero_le hmr.1
            have hj6 : j < 6 := by omega
            obtain ⟨t1, t2⟩ := HRD.out i hi6
            rw [HMK.out, hj, Int.toNat_natCast] at t1 t2
            rw [hj] at hcell
            have T1 := Lib.hid t1; have T2 := Lib.hid t2
            clear t1 t2 hmr hj
            have q1 : (bits .and .u32 ((ra : Int) / 2 ^ i) 1 != bits .and .u32 ((rc : Int) / 2 ^ j) 1) = false := by
              rw [u32_bit ra i (by omega), u32_bit rc j (by omega), T1.out]; simp
            have q2 : (bits .and .u32 ((rb : Int) / 2 ^ i) 1 != bits .and .u32 ((rd : Int) / 2 ^ j) 1) = false := by
              rw [u32_bit rb i (by omega), u32_bit rd j (by omega), T2.out]; simp
            go_wp2_with fail
            go_roundg (gk - 1)
            case rel => exact ⟨i + 1, by omega, by go_num, rfl⟩
            case measure => omega
          · go_wp2_with (first
              | (go_at_call 11; refine (Calls.rel (w0 := w4) (by assumption) (awake_any _)).mono ?_; rintro e wn ⟨rfl, hbn⟩)
              | (go_at_call 30; refine (Calls.rel (w0 := w4) (by assumption) (same_any _ _ _ es _ _ _ _ (HW4.out _ (by assumption)) (HT4.out _ (by assumption)) hl)).mono ?_; rintro e wn ⟨rfl, hbn⟩))
            go_ret
            exact ⟨by simp [HXL.out], (((hbw1.trans hbel).trans hb3).trans hb4).trans (by assumption)⟩
end Go.Proofs.Ytglhfdoahmmoeaa
