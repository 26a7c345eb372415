/- The walk of EvalFoldsAgree. -/
import Derived.Test.YtdojkmbgmomghaaW11e
import Derived.Test.YtdojkmbgmomghaaP11c
namespace Go.Proofs.Ytdojkmbgmomghaa
open Go.RowKit

theorem seen_step {m : List Int} {least most second : Int} {k : Nat} {n seen : Int} {low high : Bool} {below : Int} (h : Seen m least most second k n seen low high below) (hk : k < m.length) :
    ((m[k] != 0) = false ∧ Seen m least most second (k + 1) n seen (low || m[k] == least) (high || m[k] == most) (if second < m[k] then below + 1 else below)) ∨
    ((m[k] != 0) = true ∧ decide (seen < 0) = true ∧ Seen m least most second (k + 1) (n + 1) k (low || m[k] == least) (high || m[k] == most) (if second < m[k] then below + 1 else below)) ∨
    ((m[k] != 0) = true ∧ decide (seen < 0) = false ∧ Seen m least most second (k + 1) (n + 1) seen (low || m[k] == least) (high || m[k] == most) (if second < m[k] then below + 1 else below)) := by
  have hs := seen_succ h hk
  by_cases h0 : m[k] = 0
  · left
    rw [if_pos h0, if_neg (by simp [h0])] at hs
    exact ⟨by simpa using h0, hs⟩
  · rw [if_neg h0] at hs
    by_cases hf : seen < 0
    · right; left
      rw [if_pos ⟨h0, hf⟩] at hs
      exact ⟨by simpa using h0, by simpa using hf, hs⟩
    · right; right
      rw [if_neg (fun h => hf h.2)] at hs
      exact ⟨by simpa using h0, by simpa using hf, hs⟩

set_option maxRecDepth 100000 in
set_option maxHeartbeats 8000000 in
theorem evalFoldsAgree_walk (A : Option Addr) (n c : Nat) (l : List Int) (w : World) (h : IntsR w A n l) :
    Calls Try.prog 6 #[.slice A n c] w fun e w' => e = .returned (.bool true) ∧ Bel w w' := by
  obtain rfl := h.1
  have H := Lib.hid (fun w' (k : Bel w w') => h.keep k); clear h
  by_cases c1 : l.length = 0
  · have hl0 : ((l.length : Int) == 0) = true := by simp; exact List.length_eq_zero_iff.1 c1
    clear c1
    go_enter Try.func6, Try.ntmps6
    go_wp2_with (go_at_call 10; refine (awake11_any _).mono ?_; rintro e w' ⟨rfl, hb⟩)
    go_ret
    exact ⟨rfl, hb⟩
  have hl0 : ((l.length : Int) == 0) = false := by simp; intro hh; rw [hh] at c1; exact c1 rfl
  by_cases c2 : 24 ≤ l.length
  · have hd24 : decide (24 ≤ (l.length : Int)) = true := by simp; omega
    clear c1
    go_enter Try.func6, Try.ntmps6
    go_wp2_with (go_at_call 10; refine (awake11_any _).mono ?_; rintro e w' ⟨rfl, hb⟩)
    go_ret
    exact ⟨rfl, hb⟩
  have hd24 : decide (24 ≤ (l.length : Int)) = false := by simp; omega
  have hlp : 0 < l.length := by omega
  have hl24 : l.length < 24 := by omega
  clear c1 c2
  obtain ⟨j0, hj0, hj1, hj2, hj3⟩ := info_parts11 int_info11
  go_enter Try.func6, Try.ntmps6
  go_wp2_with fail
  go_loopg [3, 4, 5] l.length (fun g av bv iv wr => ∃ (k : Nat) (S T : Option Addr) (sc tc : Nat), k + g = l.length ∧ av = .slice S k sc ∧ bv = .slice T k tc ∧ iv = .int .i64 k ∧ Hid (TwoI w.heap.size wr (.slice S k sc) (.slice T k tc) ((l.take k).map satF) (((l.take k).map satF).map notI)) ∧ Bel w wr)
  case atStart => exact ⟨0, none, none, 0, 0, by omega, rfl, rfl, rfl, ⟨World.ownsRow_nil _ _ _ _, World.ownsRow_nil _ _ _ _, fun g hg => by simp [Value.ownBlock] at hg⟩, Bel.refl _⟩
  case round =>
    obtain ⟨k, S, T, sc, tc, hk, rfl, rfl, rfl, HT, hbel⟩ := hrel
    have hbs := hbel.size
    by_cases hlt : k < l.length
    · obtain ⟨b, o, rfl, hb, hc⟩ := (H.out wr hbel).at_ k hlt
      have hlen : ((l.take k).map satF).length = k := by simp; omega
      have hlen2 : (((l.take k).map satF).map notI).length = k := by simp; omega
      have HTa : Hid (wr.ownsRow w.heap.size 3 1 (.slice S k sc) k (((l.take k).map satF).map (Value.int .i64))) := by
        have := HT.out.oa; unfold OwnI at this; rw [hlen] at this; exact this
      have HTb : Hid (wr.ownsRow w.heap.size 3 1 (.slice T k tc) k ((((l.take k).map satF).map notI).map (Value.int .i64))) := by
        have := HT.out.ob; unfold OwnI at this; rw [hlen2] at this; exact this
      have HAP := Lib.hid HT.out.ap
      have HL1 : Hid ((((l.take k).map satF).map (Value.int .i64)) ++ [Value.int .i64 (satF l[k])] = ((l.take (k + 1)).map satF).map (Value.int .i64)) := by
        show _ = _
        rw [List.take_succ_eq_append_getElem hlt, List.map_append, List.map_append]; rfl
      have HL2 : Hid (((((l.take k).map satF).map notI).map (Value.int .i64)) ++ [Value.int .i64 (notI (satF l[k]))] = (((l.take (k + 1)).map satF).map notI).map (Value.int .i64)) := by
        show _ = _
        rw [List.take_succ_eq_append_getElem hlt, List.map_append, List.map_append, List.map_append]; rfl
      obtain ⟨v, hv⟩ : ∃ v, satF l[k] = v := ⟨_, rfl⟩
      rw [hv] at HL1 HL2
      clear hlen hlen2 HT
      generalize hX : ((l.take k).map satF).map (Value.int .i64) = X at *
      generalize hY : (((l.take k).map satF).map notI).map (Value.int .i64) = Y at *
      clear hX hY
      by_cases hv0 : v = 0
      · have hvb : (v == 0) = true := by simpa using hv0
        have hn1 : notI v = 1 := by unfold notI; rw [if_pos hv0]
        rw [hn1] at HL2
        clear hn1 hv0
        go_wp2_with (first
          | (go_at_call 13; refine (refSaturate_any _ _).mono ?_; rintro e w' ⟨rfl, rfl⟩; rw [hv])
          | (at_builtin; refine wpList_push _ rfl (.tmp 49) (.tmp 51) 22 rfl w.heap.size 3 j0 (.int .i64 0) 1 8 Try.underlying22 hj0 hj1 hj2 hj3 rfl (by decide) S k sc X (by simp [Act.eval]) (HTa.out.alloc _) wr.heap.size #[.int .i64 v] 3 (0, 0) (by simp [Act.eval]) (heap_new _ _) rfl (one_int _ _) (by unfold maxLen; omega) (by omega) (by simp; omega) ?_; intro S' sc' w2 hown2 hgr2 hat2; have hb2 : Bel w w2 := (hbel.alloc _).push (HTa.out.alloc _) hgr2; have hbs2 := hb2.size; have HO2 := Lib.hid ((HTb.out.alloc _).kept hgr2 HAP.out.or); have HA2 := Lib.hid (HAP.out.push (HTb.out.alloc _) hat2))
          | (at_builtin; refine wpList_push _ rfl (.tmp 55) (.tmp 56) 22 rfl w.heap.size 3 j0 (.int .i64 0) 1 8 Try.underlying22 hj0 hj1 hj2 hj3 rfl (by decide) T k tc Y (by simp [Act.eval]) (HO2.out.alloc _) w2.heap.size #[.int .i64 1] 3 (0, 0) (by simp [Act.eval]) (heap_new _ _) rfl (one_int _ _) (by unfold maxLen; omega) (by omega) (by simp; omega) ?_; intro T' tc' w3 hown3 hgr3 hat3; have HL3 := Lib.hid ((hown2.alloc _).kept hgr3 HA2.out.symm.or); have HA3 := Lib.hid (HA2.out.symm.push (hown2.alloc _) hat3).symm; have hb3 : Bel w w3 := (hb2.alloc _).push (HO2.out.alloc _) hgr3))
        go_roundg (gk - 1)
        case rel =>
          refine ⟨k + 1, S', T', sc', tc', by omega, by go_num, by go_num, by go_num, ⟨?_, ?_, HA3.out⟩, hb3⟩
          · unfold OwnI; rw [← HL1.out]; simpa [Nat.min_eq_left (show k + 1 ≤ l.length by omega)] using HL3.out
          · unfold OwnI; rw [← HL2.out]; simpa [Nat.min_eq_left (show k + 1 ≤ l.length by omega)] using hown3
        case measure => omega
      · have hvb : (v == 0) = false := by simpa using hv0
        have hn1 : notI v = 0 := by unfold notI; rw [if_neg hv0]
        rw [hn1] at HL2
        clear hn1 hv0
        go_wp2_with (first
          | (go_at_call 13; refine (refSaturate_any _ _).mono ?_; rintro e w' ⟨rfl, rfl⟩; rw [hv])
          | (at_builtin; refine wpList_push _ rfl (.tmp 49) (.tmp 51) 22 rfl w.heap.size 3 j0 (.int .i64 0) 1 8 Try.underlying22 hj0 hj1 hj2 hj3 rfl (by decide) S k sc X (by simp [Act.eval]) (HTa.out.alloc _) wr.heap.size #[.int .i64 v] 3 (0, 0) (by simp [Act.eval]) (heap_new _ _) rfl (one_int _ _) (by unfold maxLen; omega) (by omega) (by simp; omega) ?_; intro S' sc' w2 hown2 hgr2 hat2; have hb2 : Bel w w2 := (hbel.alloc _).push (HTa.out.alloc _) hgr2; have hbs2 := hb2.size; have HO2 := Lib.hid ((HTb.out.alloc _).kept hgr2 HAP.out.or); have HA2 := Lib.hid (HAP.out.push (HTb.out.alloc _) hat2))
          | (at_builtin; refine wpList_push _ rfl (.tmp 58) (.tmp 59) 22 rfl w.heap.size 3 j0 (.int .i64 0) 1 8 Try.underlying22 hj0 hj1 hj2 hj3 rfl (by decide) T k tc Y (by simp [Act.eval]) (HO2.out.alloc _) w2.heap.size #[.int .i64 0] 3 (0, 0) (by simp [Act.eval]) (heap_new _ _) rfl (one_int _ _) (by unfold maxLen; omega) (by omega) (by simp; omega) ?_; intro T' tc' w3 hown3 hgr3 hat3; have HL3 := Lib.hid ((hown2.alloc _).kept hgr3 HA2.out.symm.or); have HA3 := Lib.hid (HA2.out.symm.push (hown2.alloc _) hat3).symm; have hb3 : Bel w w3 := (hb2.alloc _).push (HO2.out.alloc _) hgr3))
        go_roundg (gk - 1)
        case rel =>
          refine ⟨k + 1, S', T', sc', tc', by omega, by go_num, by go_num, by go_num, ⟨?_, ?_, HA3.out⟩, hb3⟩
          · unfold OwnI; rw [← HL1.out]; simpa [Nat.min_eq_left (show k + 1 ≤ l.length by omega)] using HL3.out
          · unfold OwnI; rw [← HL2.out]; simpa [Nat.min_eq_left (show k + 1 ≤ l.length by omega)] using hown3
        case measure => omega
    · obtain rfl : k = l.length := by omega
      have HT2 : Hid (TwoI w.heap.size wr (.slice S l.length sc) (.slice T l.length tc) (l.map satF) ((l.map satF).map notI)) := by
        have := HT.out; rwa [List.take_length] at this
      clear HT
      generalize gk = g0 at *
      obtain ⟨w1, hw1⟩ : ∃ w1, w1 = wr := ⟨_, rfl⟩
      subst hw1
      have hml : (l.map satF).length = l.length := by simp
      have hnl : ((l.map satF).map notI).length = l.length := by simp
      have HIa : Hid (∀ w', Bel w1 w' → IntsR w' S l.length (l.map satF)) := by
        intro w' k
        have := HT2.out.oa; unfold OwnI at this; rw [hml] at this; exact (own_ints this).keep k
      have HIb : Hid (IntsR w1 T l.length ((l.map satF).map notI)) := by
        have := HT2.out.ob; unfold OwnI at this; rw [hnl] at this; exact own_ints this
      clear HT2
      have hNum := map_satF_num l
      generalize l.map satF = m at *
      have hNot := notI_num m
      have h20 := foldR_ok (op := 20) (l := m) (by omega) (by omega) (by omega) hNum
      have h21 := foldR_ok (op := 21) (l := m.map notI) (by omega) (by omega) (by omega) hNot
      have h22 : foldR 22 m = (countF m, 0) := foldR_ok (op := 22) (l := m) (by omega) (by omega) (by omega) hNum
      have h23 : foldR 23 m = (firstGo m 0, 0) := foldR_ok (op := 23) (l := m) (by omega) (by omega) (by omega) hNum
      have h24 : foldR 24 m = (minF m, 0) := foldR_ok (op := 24) (l := m) (by omega) (by omega) (by omega) hNum
      have h25 : foldR 25 m = ((twoF m).1, 0) := foldR_ok (op := 25) (l := m) (by omega) (by omega) (by omega) hNum
      have h27 : foldR 27 m = (mexF m, 0) := foldR_ok (op := 27) (l := m) (by omega) (by omega) (by omega) hNum
      have h28 : foldR 28 m = ((twoF m).2, 0) := foldR_ok (op := 28) (l := m) (by omega) (by omega) (by omega) hNum
      have hsum := all_some m
      have ht20 : 0 ≤ foldF 20 m ∧ foldF 20 m ≤ 1 := by have := truthI_01 (countF m == m.length); show 0 ≤ truthI _ ∧ truthI _ ≤ 1; omega
      have ht21 : 0 ≤ foldF 21 (m.map notI) ∧ foldF 21 (m.map notI) ≤ 1 := by omega
      have hmin := minF_facts m (by omega) hNum
      have htwo := twoF_facts m (by omega) hNum
      have hmex := mexF_eq m
      have HS0 := Lib.hid (seen_zero m (minF m) (twoF m).1 (twoF m).2 hmin.2 htwo.2.2.1)
      have HE := Lib.hid (fun n seen low high below => @seen_end m (minF m) (twoF m).1 (twoF m).2 n seen low high below l.length (by omega))
      generalize m.map notI = nm at *
      generalize foldF 20 m = z20 at *
      generalize foldF 21 nm = z21 at *
      generalize countF m = cnt at *
      generalize firstGo m 0 = fst at *
      generalize minF m = least at *
      generalize (twoF m).1 = most at *
      generalize (twoF m).2 = second at *
      generalize mexF m = mex at *
      obtain ⟨ht1, ht2⟩ := ht20
      obtain ⟨ht3, ht4⟩ := ht21
      obtain ⟨hx1, hx2, hx3, _⟩ := hmex
      obtain ⟨hw1, hw2, _, hw4⟩ := htwo
      have HM1 := Lib.hid hmin.1
      have HM2 := Lib.hid hw2
      have HM3 := Lib.hid hx3
      have hcs := cntGt_le m second
      have hxl : mex ≤ (l.length : Int) := by omega
      have b1 : decide (second ≤ most) = true := by simpa using hw1
      have b2 : decide (0 ≤ mex) = true := by simpa using hx1
      have b3 : decide (mex ≤ (l.length : Int)) = true := by simpa using hxl
      clear hmin hw2 hx3 hNum hNot
      go_wp2_with (first
        | (go_at_call_of 11 S; refine (evalFold_any _ _ _ m _ _ (HIa.out _ (Bel.refl _)) (by omega)).mono ?_; rintro e w' ⟨rfl, rfl⟩; first | rw [h20] | rw [h22] | rw [h23] | rw [h24] | rw [h25] | rw [h27] | rw [h28])
        | (go_at_call_of 11 T; refine (evalFold_any _ _ _ nm _ _ HIb.out (by omega)).mono ?_; rintro e w' ⟨rfl, rfl⟩; rw [h21]))
      clear h20 h21 h22 h23 h24 h25 h27 h28
      go_loopg [23, 24, 25, 26, 27, 28] l.length (fun g nv sv lv hv bv iv wx => ∃ (k : Nat) (n seen : Int) (low high : Bool) (below : Int), k + g = l.length ∧ 0 ≤ n ∧ n ≤ k ∧ 0 ≤ below ∧ below ≤ k ∧ nv = .int .i64 n ∧ sv = .int .i64 seen ∧ lv = .bool low ∧ hv = .bool high ∧ bv = .int .i64 below ∧ iv = .int .i64 k ∧ Hid (Seen m least most second k n seen low high below) ∧ Bel w1 wx)
      case atStart => exact ⟨0, 0, -1, false, false, 0, by omega, by omega, by omega, by omega, by omega, rfl, rfl, rfl, rfl, rfl, rfl, HS0.out, Bel.refl _⟩
      case round =>
        clear HS0
        obtain ⟨k, n, seen, low, high, below, hk, hn1, hn2, hbl1, hbl2, rfl, rfl, rfl, rfl, rfl, rfl, HS, hbx⟩ := hrel
        by_cases hlt : k < l.length
        · have hltm : k < m.length := by omega
          obtain ⟨b, o, rfl, hb, hc⟩ := (HIa.out wr hbx).at_ k hltm
          have D := seen_step HS.out hltm
          have q1 := HM1.out _ (List.getElem_mem hltm)
          have q2 := HM2.out _ (List.getElem_mem hltm)
          have q3 : m[k] ≠ mex := fun he => HM3.out (he ▸ List.getElem_mem hltm)
          generalize m[k] = x at *
          have d1 : decide (x < least) = false := by simp; omega
          have d2 : decide (most < x) = false := by simp; omega
          have d3 : (x == mex) = false := by simpa using q3
          clear q3 HS
          have DD : (decide (second < x) = true ∨ decide (second < x) = false) := by by_cases hh : second < x <;> simp [hh]
          rcases D with ⟨hz, HN⟩ | ⟨hz, hfd, HN⟩ | ⟨hz, hfd, HN⟩
          all_goals
            have HN' := Lib.hid HN
            clear HN
            cases low <;> cases high
          all_goals
            rcases DD with d4 | d4
          all_goals
            have HN2 := HN'.out
            first
              | rw [if_pos (of_decide_eq_true d4)] at HN2
              | rw [if_neg (of_decide_eq_false d4)] at HN2
            have HN3 := Lib.hid HN2
            clear HN2 HN'
            go_wp2_with fail
            go_quiet (fail)
            go_wp2_with fail
            go_roundg (gk - 1)
            case rel => exact ⟨k + 1, _, _, _, _, _, by omega, by omega, by omega, by omega, by omega, rfl, rfl, rfl, rfl, rfl, by go_num, HN3.out, hbx.drewN nq⟩
            case measure => omega
        · obtain rfl : k = l.length := by omega
          obtain ⟨e1, e2, e3, e4, e5⟩ := HE.out _ _ _ _ _ HS.out
          subst e1; subst e2; subst e3; subst e4; subst e5
          have b4 : decide (cntGt m second ≤ 1) = true := by simpa using hw4
          generalize cntGt m second = cg at *
          go_wp2_with (go_at_call 10; refine (awake11_any _).mono ?_; rintro e w' ⟨rfl, hb⟩)
          go_ret
          exact ⟨by first | rfl | simp, (hbel.trans hbx).trans hb⟩
end Go.Proofs.Ytdojkmbgmomghaa
