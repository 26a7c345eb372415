/- The walk of EvalFoldsInAnyOrder. -/
import Derived.Test.YtdojkmbgmomghaaW11e
namespace Go.Proofs.Ytdojkmbgmomghaa
open Go.RowKit

set_option maxRecDepth 100000 in
set_option maxHeartbeats 4000000 in
theorem evalAnyOrder_walk (op : Int) (A : Option Addr) (n c : Nat) (l : List Int) (i0 k0 : Int) (w : World) (h : IntsR w A n l) :
    Calls Try.prog 5 #[.int .i64 op, .slice A n c, .int .i64 i0, .int .i64 k0] w fun e w' => e = .returned (.bool true) ∧ Bel w w' := by
  obtain rfl := h.1
  have H := Lib.hid (fun w' (k : Bel w w') => h.keep k); clear h
  have hm1 : 0 ≤ modF op 10 := Int.emod_nonneg _ (by omega)
  have hm2 : modF op 10 < 10 := Int.emod_lt_of_pos _ (by omega)
  obtain ⟨O, hO⟩ : ∃ x, modF op 10 = x := ⟨_, rfl⟩
  rw [hO] at hm1 hm2
  have HB := Bel.refl w
  by_cases hgo : l.length = 0 ∨ 24 ≤ l.length ∨ 20 + O = 23 ∨ 20 + O = 29
  · by_cases c1 : l.length = 0
    · have hl0 : ((l.length : Int) == 0) = true := by simp; exact List.length_eq_zero_iff.1 c1
      clear hgo c1
      go_enter Try.func5, Try.ntmps5
      go_wp2_with (first
      | (go_at_call 15; refine (mod_any _ _ _ (by omega) (by omega)).mono ?_; rintro e w' ⟨rfl, rfl⟩; rw [hO])
      | (go_at_call 10; refine (awake11_any _).mono ?_; rintro e w' ⟨rfl, hb⟩))
      go_ret
      exact ⟨rfl, hb⟩
    have hl0 : ((l.length : Int) == 0) = false := by simp; intro hh; rw [hh] at c1; exact c1 rfl
    by_cases c2 : 24 ≤ l.length
    · have hd24 : decide (24 ≤ (l.length : Int)) = true := by simp; omega
      clear hgo c1
      go_enter Try.func5, Try.ntmps5
      go_wp2_with (first
      | (go_at_call 15; refine (mod_any _ _ _ (by omega) (by omega)).mono ?_; rintro e w' ⟨rfl, rfl⟩; rw [hO])
      | (go_at_call 10; refine (awake11_any _).mono ?_; rintro e w' ⟨rfl, hb⟩))
      go_ret
      exact ⟨rfl, hb⟩
    have hd24 : decide (24 ≤ (l.length : Int)) = false := by simp; omega
    by_cases c3 : O = 3
    · subst c3
      clear hgo c1 c2
      go_enter Try.func5, Try.ntmps5
      go_wp2_with (first
      | (go_at_call 15; refine (mod_any _ _ _ (by omega) (by omega)).mono ?_; rintro e w' ⟨rfl, rfl⟩; rw [hO])
      | (go_at_call 10; refine (awake11_any _).mono ?_; rintro e w' ⟨rfl, hb⟩))
      go_ret
      exact ⟨rfl, hb⟩
    · obtain rfl : O = 9 := by omega
      clear hgo c1 c2 c3
      go_enter Try.func5, Try.ntmps5
      go_wp2_with (first
      | (go_at_call 15; refine (mod_any _ _ _ (by omega) (by omega)).mono ?_; rintro e w' ⟨rfl, rfl⟩; rw [hO])
      | (go_at_call 10; refine (awake11_any _).mono ?_; rintro e w' ⟨rfl, hb⟩))
      go_ret
      exact ⟨rfl, hb⟩
  · have hl0 : ((l.length : Int) == 0) = false := by simp; intro hh; rw [hh] at hgo; exact hgo (.inl rfl)
    have hl24 : l.length < 24 := by omega
    have hlp : 0 < l.length := by omega
    have hd24 : decide (24 ≤ (l.length : Int)) = false := by simp; omega
    have ho23 : (20 + O == 23) = false := by simp; omega
    have ho29 : (20 + O == 29) = false := by simp; omega
    have hOO : O ≠ 3 ∧ O ≠ 9 := by omega
    have HOO := Lib.hid hOO; clear hOO hgo
    obtain ⟨j0, hj0, hj1, hj2, hj3⟩ := info_parts11 int_info11
    go_enter Try.func5, Try.ntmps5
    go_wp2_with (go_at_call 15; refine (mod_any _ _ _ (by omega) (by omega)).mono ?_; rintro e w' ⟨rfl, rfl⟩; rw [hO])
    go_loopg [9, 10, 11] l.length (fun g av bv iv wr => ∃ (k : Nat) (S T : Option Addr) (sc tc : Nat), k + g = l.length ∧ av = .slice S k sc ∧ bv = .slice T k tc ∧ iv = .int .i64 k ∧ Hid (TwoI w.heap.size wr (.slice S k sc) (.slice T k tc) ((l.take k).map satF) ((l.take k).map satF)) ∧ Bel w wr)
    case atStart => exact ⟨0, none, none, 0, 0, by omega, rfl, rfl, rfl, ⟨World.ownsRow_nil _ _ _ _, World.ownsRow_nil _ _ _ _, fun g hg => by simp [Value.ownBlock] at hg⟩, Bel.refl _⟩
    case round =>
      obtain ⟨k, S, T, sc, tc, hk, rfl, rfl, rfl, HT, hbel⟩ := hrel
      have hbs := hbel.size
      by_cases hlt : k < l.length
      · obtain ⟨b, o, rfl, hb, hc⟩ := (H.out w (Bel.refl w)).at_ k hlt
        have HC := Lib.hid (fun w' (k : Bel w w') => (k.cell hb).trans hc)
        clear hc
        have hc := HC.out wr hbel
        have hbr : b < wr.heap.size := by omega
        have hlen : ((l.take k).map satF).length = k := by simp; omega
        have HTa : Hid (wr.ownsRow w.heap.size 3 1 (.slice S k sc) k (((l.take k).map satF).map (Value.int .i64))) := by
          have := HT.out.oa; unfold OwnI at this; rw [hlen] at this; exact this
        have HTb : Hid (wr.ownsRow w.heap.size 3 1 (.slice T k tc) k (((l.take k).map satF).map (Value.int .i64))) := by
          have := HT.out.ob; unfold OwnI at this; rw [hlen] at this; exact this
        have HAP := Lib.hid HT.out.ap
        go_upto_region 8 with fail
        go_region_law (first
          | (refine step_push _ rfl (.tmp 42) (.tmp 48) 22 rfl w.heap.size 3 j0 (.int .i64 0) 1 8 Try.underlying22 hj0 hj1 hj2 hj3 rfl (by decide) S k sc (((l.take k).map satF).map (Value.int .i64)) (by simp [Act.eval]) (HTa.out.alloc _).drew wr.heap.size #[.int .i64 (satF l[k])] 3 (0, 0) (by simp [Act.eval]) (heap_new_drew _ _) rfl (one_int _ _) (by unfold maxLen; omega) (by omega) (by simp; omega) ?_; intro S' sc' w2 hown2 hgr2 hat2; have hb2 : Bel w w2 := (hbel.alloc _).drew.push (HTa.out.alloc _).drew hgr2; have hbs2 := hb2.size; have HO2 := Lib.hid ((HTb.out.alloc _).drew.kept hgr2 HAP.out.or); have HA2 := Lib.hid (HAP.out.push (HTb.out.alloc _).drew hat2); have hc2 := HC.out w2 hb2)
          | (refine step_push _ rfl (.tmp 50) (.tmp 56) 22 rfl w.heap.size 3 j0 (.int .i64 0) 1 8 Try.underlying22 hj0 hj1 hj2 hj3 rfl (by decide) T k tc (((l.take k).map satF).map (Value.int .i64)) (by simp [Act.eval]) (HO2.out.alloc _) w2.heap.size #[.int .i64 (satF l[k])] 3 (0, 0) (by simp [Act.eval]) (heap_new _ _) rfl (one_int _ _) (by unfold maxLen; omega) (by omega) (by simp; omega) ?_; intro T' tc' w3 hown3 hgr3 hat3; have HL3 := Lib.hid ((hown2.alloc _).kept hgr3 HA2.out.symm.or); have HA3 := Lib.hid (HA2.out.symm.push (hown2.alloc _) hat3).symm; have hb3 : Bel w w3 := (hb2.alloc _).push (HO2.out.alloc _) hgr3)
          | (go_simp; go_at_call 13; refine (refSaturate_any _ _).mono ?_; rintro e w' ⟨rfl, rfl⟩))
        all_goals
          have hgo : (((l.take k).map satF).map (Value.int .i64)) ++ [Value.int .i64 (satF l[k])] = ((l.take (k + 1)).map satF).map (Value.int .i64) := by
            rw [List.take_succ_eq_append_getElem hlt, List.map_append, List.map_append]; rfl
          go_wp2_with fail
          go_roundg (gk - 1)
          case rel =>
            refine ⟨k + 1, S', T', sc', tc', by omega, by go_num, by go_num, by go_num, ⟨?_, ?_, HA3.out⟩, hb3⟩
            · unfold OwnI; rw [← hgo]; simpa [Nat.min_eq_left (show k + 1 ≤ l.length by omega)] using HL3.out
            · unfold OwnI; rw [← hgo]; simpa [Nat.min_eq_left (show k + 1 ≤ l.length by omega)] using hown3
          case measure => omega
      · obtain rfl : k = l.length := by omega
        have HT2 : Hid (TwoI w.heap.size wr (.slice S l.length sc) (.slice T l.length tc) (l.map satF) (l.map satF)) := by
          have := HT.out; rwa [List.take_length] at this
        clear HT
        have hml : (l.map satF).length = l.length := by simp
        have HOa : Hid (wr.ownsRow w.heap.size 3 1 (.slice S l.length sc) l.length ((l.map satF).map (Value.int .i64))) := by
          have := HT2.out.oa; unfold OwnI at this; rw [hml] at this; exact this
        have HOb : Hid (wr.ownsRow w.heap.size 3 1 (.slice T l.length tc) l.length ((l.map satF).map (Value.int .i64))) := by
          have := HT2.out.ob; unfold OwnI at this; rw [hml] at this; exact this
        have HAP := Lib.hid HT2.out.ap
        clear HT2
        have HNum := Lib.hid (map_satF_num l)
        generalize l.map satF = m at *
        have hq1 : 0 ≤ modF i0 l.length := Int.emod_nonneg _ (by omega)
        have hq2 : modF i0 l.length < l.length := Int.emod_lt_of_pos _ (by omega)
        have hr1 : 0 ≤ modF k0 l.length := Int.emod_nonneg _ (by omega)
        have hr2 : modF k0 l.length < l.length := Int.emod_lt_of_pos _ (by omega)
        obtain ⟨i, hi⟩ := Int.eq_ofNat_of_zero_le hq1
        obtain ⟨j, hj⟩ := Int.eq_ofNat_of_zero_le hr1
        rw [hi] at hq1 hq2
        rw [hj] at hr1 hr2
        have hi6 : i < l.length := by omega
        have hj6 : j < l.length := by omega
        have HFa : Hid (foldR (20 + O) m = (foldF (20 + O) m, 0)) := foldR_ok (by omega) (by omega) (by omega) HNum.out
        have hP := swapI_perm m i j (by omega) (by omega)
        have HFb : Hid (foldR (20 + O) (swapI m i j) = (foldF (20 + O) m, 0)) := by
          show _ = _
          have ho := HOO.out
          rw [foldR_ok (by omega) (by omega) (by rw [hP.length_eq]; omega) (fun x hx => HNum.out x (hP.mem_iff.1 hx)), foldF_perm hP _ (by omega) (by omega)]
        clear hP
        obtain ⟨g, e0, _, hglt, hc1, hf1⟩ := own_at HOb.out (j := i) (u := .int .i64 (m.getD i 0)) (by simp [List.getD_eq_getElem?_getD, List.getElem?_eq_getElem (show i < m.length by omega)])
        obtain rfl := e0
        obtain ⟨g2, e2, _, _, hc2, hf2⟩ := own_at HOb.out (j := j) (u := .int .i64 (m.getD j 0)) (by simp [List.getD_eq_getElem?_getD, List.getElem?_eq_getElem (show j < m.length by omega)])
        obtain rfl : g = g2 := by simpa using e2
        clear e2
        have hgw : w.heap.size ≤ g := (HOb.out.lt g rfl).1
        have hne : Hid ((Value.slice S l.length sc).ownBlock ≠ some g) := by
          show _ ≠ _
          intro he
          exact HAP.out g he rfl
        have HWa : Hid (∀ x y u v, IntsR ((wr.setCell ⟨g, x, none⟩ u).setCell ⟨g, y, none⟩ v).drew S l.length m) := by
          intro x y u v
          have h1 := ownsRow_setCell_other HOa.out (a := ⟨g, x, none⟩) hne.out u
          have h2 := ownsRow_setCell_other h1 (a := ⟨g, y, none⟩) hne.out v
          exact own_ints h2.drew
        have HS1 : Hid (IntsR ((wr.setCell ⟨g, i, none⟩ (.int .i64 (m.getD j 0))).setCell ⟨g, j, none⟩ (.int .i64 (m.getD i 0))).drew (some ⟨g, 0, none⟩) l.length (swapI m i j)) := by
          have := own_swapI (i := i) (k := j) (m := m) (by rw [hml]; exact HOb.out)
          rw [hml] at this
          exact own_ints this.drew
        have HS2 : Hid (i ≠ j → IntsR ((wr.setCell ⟨g, j, none⟩ (.int .i64 (m.getD i 0))).setCell ⟨g, i, none⟩ (.int .i64 (m.getD j 0))).drew (some ⟨g, 0, none⟩) l.length (swapI m i j)) := by
          intro hij
          have := own_swapI' (i := i) (k := j) (m := m) hij (by rw [hml]; exact HOb.out)
          rw [hml] at this
          exact own_ints this.drew
        have hZ : ∃ z, foldF (20 + O) m = z := ⟨_, rfl⟩
        obtain ⟨z, hz⟩ := hZ
        rw [hz] at HFa HFb
        clear hz HNum
        generalize swapI m i j = mm at *
        clear HOa HOb
        go_upto_region 10 with (go_at_call 15; refine (mod_any _ _ _ (by omega) (by omega)).mono ?_; rintro e w' ⟨rfl, rfl⟩; first | rw [hi] | rw [hj])
        go_cut [10] (fun tv wc => tv = .slice (some ⟨g, 0, none⟩) l.length tc ∧ Hid (IntsR wc S l.length m) ∧ Hid (IntsR wc (some ⟨g, 0, none⟩) l.length mm) ∧ Bel w wc)
        case first =>
          by_cases hij : i = j
          · subst hij
            clear HS2
            generalize m.getD i 0 = v at *
            go_region
            all_goals
              go_wp2_with fail
              go_meet
              exact ⟨rfl, HWa.out _ _ _ _, HS1.out, ((hbel.setCell (by simpa using hgw) _).setCell (by simpa using hgw) _).drew⟩
          · have hji : j ≠ i := fun h => hij h.symm
            have HS2' := Lib.hid (HS2.out hij)
            clear HS2
            generalize m.getD i 0 = v at *
            generalize m.getD j 0 = u at *
            go_region
            all_goals
              go_wp2_with fail
              go_meet
              exact ⟨rfl, HWa.out _ _ _ _, by first | exact HS1.out | exact HS2'.out, ((hbel.setCell (by simpa using hgw) _).setCell (by simpa using hgw) _).drew⟩
        case rest =>
          obtain ⟨rfl, HIa, HIb, hbc⟩ := hcut
          go_wp2_with (first
            | (go_at_call_of 11 S; refine (evalFold_any _ _ _ m _ _ HIa.out (by omega)).mono ?_; rintro e w' ⟨rfl, rfl⟩; rw [HFa.out])
            | (go_at_call_of 11 g; refine (evalFold_any _ _ _ mm _ _ HIb.out (by omega)).mono ?_; rintro e w' ⟨rfl, rfl⟩; rw [HFb.out])
            | (go_at_call 10; refine (awake11_any _).mono ?_; rintro e w' ⟨rfl, hb⟩))
          go_ret
          exact ⟨by simp, hbc.trans hb⟩
end Go.Proofs.Ytdojkmbgmomghaa
