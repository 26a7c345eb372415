/- The walk of TermPartsAreValid. -/
import Derived.Test.YtglhfdoahmmoeaaW05h
import Derived.Test.YtglhfdoahmmoeaaP05d
import Derived.Test.YtglhfdoahmmoeaaOpenT
namespace Go.Proofs.Ytglhfdoahmmoeaa
open Go.RowKit

theorem term_info : (Try.prog.info? 31).map (fun i => (i.zero, i.size, i.bytes)) = some (some (.agg #[.int .i64 0, .int .i64 0]), 2, 16) := by kernel_rfl

set_option maxRecDepth 100000 in
set_option maxHeartbeats 1000000 in
theorem termPartsAreValid_walk (A : Option Addr) (n c : Nat) (es : List Term) (p : Int) (w : World) (h : TermsR w A n es) (_ : ∀ t ∈ es, GoodT t) (hnc : n ≤ c) (_ : c ≤ maxLen) (_ : InI64 p) :
    Calls Try.prog 5 #[.slice A n c, .int .i64 p] w fun e w' => e = .returned (.bool true) ∧ Bel w w' := by
  obtain rfl := h.1
  have H := Lib.hid (fun w' (k : Bel w w') => h.keep k); clear h
  have hb0 := Bel.refl w
  by_cases h250 : es.length ≤ 250
  · have hd : decide (es.length ≤ 250) = true := by simpa using h250
    have hl : es.length ≤ 1000000 := by omega
    cases hv : validF es 6 with
    | false =>
      go_enter Try.func5, Try.ntmps5
      go_wp2_with (first
        | (go_at_call 10; refine (light_any _ _ _ _).mono ?_; rintro e w' ⟨rfl, rfl⟩)
        | (go_at_call 22; refine (Calls.rel (w0 := w) (by assumption) (refValid_any _ _ _ es _ _ (H.out _ (by assumption)) hl)).mono ?_; rintro e wn ⟨rfl, hbn⟩; rw [hv])
        | (go_at_call 11; refine (Calls.rel (w0 := w) (by assumption) (awake_any _)).mono ?_; rintro e wn ⟨rfl, hbn⟩))
      go_ret
      exact ⟨rfl, by assumption⟩
    | true =>
      have HV := (validF_parts es 6).1 hv
      have hpos := HV.2.1.pos
      have hm1 : 0 ≤ modF p es.length := Int.emod_nonneg _ (by omega)
      have hm2 : modF p es.length < es.length := Int.emod_lt_of_pos _ (by omega)
      obtain ⟨q, hq⟩ := Int.eq_ofNat_of_zero_le hm1
      rw [hq] at hm1 hm2
      have hqe : q < es.length := by omega
      obtain ⟨he1, he2⟩ := end_nonneg HV.2.1 hqe
      have hpv := part_valid hv hqe
      have hpd : decide (depthF (partOf es q) ≤ depthF es) = true := decide_eq_true (part_le depthNum depthNum_ge HV.2.1 hqe)
      have hpn : decide (nestF (partOf es q) ≤ nestF es) = true := decide_eq_true (part_le nestNum nestNum_ge HV.2.1 hqe)
      have HLT : Hid (q ≠ 0 → depthF (partOf es q) < depthF es) := fun h0 => part_lt HV.2.1 hqe h0
      obtain ⟨r, hr⟩ := Int.eq_ofNat_of_zero_le (show 0 ≤ endF es q by omega)
      obtain ⟨i0, hi0, hz0, hz1, hz2⟩ := info_parts term_info
      rw [hr] at he1 he2
      have hqr : q ≤ r := by omega
      have hre : r ≤ es.length := by omega
      obtain ⟨A2, hsub, hA2⟩ := run_sub (P := Try.prog) Try.underlying22 hi0 hz1 A es.length c q r hqr hre hnc
      have HP2 := Lib.hid (fun w' (k : Bel w w') => show TermsR w' A2 (r - q) (partOf es q) from by
        have := hA2 TermAt w' es (H.out w' k)
        unfold partOf; rw [hr]; exact this)
      clear hA2
      have hlt1 : decide ((r : Int) ≤ q) = false := by simp; omega
      have hlt2 : decide (es.length < r) = false := by simp; omega
      generalize partOf es q = part at *
      have hrq : r - q ≤ 1000000 := by omega
      clear HV
      by_cases h0 : q = 0
      · have hq0 : ((q : Int) == 0) = true := by simp; omega
        clear h0
        go_enter Try.func5, Try.ntmps5
        go_wp2_with (first
          | (go_at_call 10; refine (light_any _ _ _ _).mono ?_; rintro e w' ⟨rfl, rfl⟩)
          | (go_at_call 22; refine (Calls.rel (w0 := w) (by assumption) (refValid_any _ _ _ es _ _ (H.out _ (by assumption)) hl)).mono ?_; rintro e wn ⟨rfl, hbn⟩; rw [hv])
          | (go_at_call 23; refine (mod_any _ _ _ (by omega) (by omega)).mono ?_; rintro e w' ⟨rfl, rfl⟩)
          | (go_at_call 14; refine (end_any _ _ _ es _ _ (H.out _ (by assumption)) hl).mono ?_; rintro e w' ⟨rfl, rfl⟩)
          | (at_builtin; go_must (refine wpList_extend _ rfl (.const (.slice none 0 0)) (.tmp 35) 22 rfl w.heap.size 31 i0 (.agg #[.int .i64 0, .int .i64 0]) 2 16 Try.underlying22 hi0 hz0 hz1 hz2 rfl (by decide) none 0 0 [] rfl (World.ownsRow_nil _ _ _ _) A2 (r - q) (c - q) (part.flatMap termCells) rfl (HP2.out _ (by assumption)).cells (termCells_one _) (by unfold maxLen; omega) (by omega) hbn.size ?_; intro A3 c3 w3 hown3 hgr3 _; have hb3 : Bel w w3 := hbn.push (World.ownsRow_nil _ _ 0 2) hgr3; simp only [Nat.zero_add, List.nil_append] at hown3; have H3 := Lib.hid (fun w' (k : Bel w3 w') => H.out w' (hb3.trans k)); have HT3 := Lib.hid (fun w' (k : Bel w3 w') => (own_terms hown3).keep k); clear hown3 hgr3; have hb4 := Bel.refl w3))
          | (go_at_call 11; refine (Calls.rel (w0 := w3) (by assumption) (awake_any _)).mono ?_; rintro e wm ⟨rfl, hbm⟩)
          | (go_at_call 24; refine (Calls.rel (w0 := w3) (by assumption) (valid_any _ _ _ part _ _ (HT3.out _ (by assumption)) hrq)).mono ?_; rintro e wm ⟨rfl, hbm⟩)
          | (go_at_call_of 18 A3; refine (Calls.rel (w0 := w3) (by assumption) (depth_any _ _ _ part _ (HT3.out _ (by assumption)) hrq)).mono ?_; rintro e wm ⟨rfl, hbm⟩)
          | (go_at_call 18; refine (Calls.rel (w0 := w3) (by assumption) (depth_any _ _ _ es _ (H3.out _ (by assumption)) hl)).mono ?_; rintro e wm ⟨rfl, hbm⟩)
          | (go_at_call_of 20 A3; refine (Calls.rel (w0 := w3) (by assumption) (nest_any _ _ _ part _ (HT3.out _ (by assumption)) hrq)).mono ?_; rintro e wm ⟨rfl, hbm⟩)
          | (go_at_call 20; refine (Calls.rel (w0 := w3) (by assumption) (nest_any _ _ _ es _ (H3.out _ (by assumption)) hl)).mono ?_; rintro e wm ⟨rfl, hbm⟩))
        all_goals
          go_ret
          exact ⟨rfl, hb3.trans (by assumption)⟩
      · have hq0 : ((q : Int) == 0) = false := by simp; omega
        have hlt0 : decide (depthF part < depthF es) = true := decide_eq_true (HLT.out h0)
        clear h0
        go_enter Try.func5, Try.ntmps5
        go_wp2_with (first
          | (go_at_call 10; refine (light_any _ _ _ _).mono ?_; rintro e w' ⟨rfl, rfl⟩)
          | (go_at_call 22; refine (Calls.rel (w0 := w) (by assumption) (refValid_any _ _ _ es _ _ (H.out _ (by assumption)) hl)).mono ?_; rintro e wn ⟨rfl, hbn⟩; rw [hv])
          | (go_at_call 23; refine (mod_any _ _ _ (by omega) (by omega)).mono ?_; rintro e w' ⟨rfl, rfl⟩)
          | (go_at_call 14; refine (end_any _ _ _ es _ _ (H.out _ (by assumption)) hl).mono ?_; rintro e w' ⟨rfl, rfl⟩)
          | (at_builtin; go_must (refine wpList_extend _ rfl (.const (.slice none 0 0)) (.tmp 35) 22 rfl w.heap.size 31 i0 (.agg #[.int .i64 0, .int .i64 0]) 2 16 Try.underlying22 hi0 hz0 hz1 hz2 rfl (by decide) none 0 0 [] rfl (World.ownsRow_nil _ _ _ _) A2 (r - q) (c - q) (part.flatMap termCells) rfl (HP2.out _ (by assumption)).cells (termCells_one _) (by unfold maxLen; omega) (by omega) hbn.size ?_; intro A3 c3 w3 hown3 hgr3 _; have hb3 : Bel w w3 := hbn.push (World.ownsRow_nil _ _ 0 2) hgr3; simp only [Nat.zero_add, List.nil_append] at hown3; have H3 := Lib.hid (fun w' (k : Bel w3 w') => H.out w' (hb3.trans k)); have HT3 := Lib.hid (fun w' (k : Bel w3 w') => (own_terms hown3).keep k); clear hown3 hgr3; have hb4 := Bel.refl w3))
          | (go_at_call 11; refine (Calls.rel (w0 := w3) (by assumption) (awake_any _)).mono ?_; rintro e wm ⟨rfl, hbm⟩)
          | (go_at_call 24; refine (Calls.rel (w0 := w3) (by assumption) (valid_any _ _ _ part _ _ (HT3.out _ (by assumption)) hrq)).mono ?_; rintro e wm ⟨rfl, hbm⟩)
          | (go_at_call_of 18 A3; refine (Calls.rel (w0 := w3) (by assumption) (depth_any _ _ _ part _ (HT3.out _ (by assumption)) hrq)).mono ?_; rintro e wm ⟨rfl, hbm⟩)
          | (go_at_call 18; refine (Calls.rel (w0 := w3) (by assumption) (depth_any _ _ _ es _ (H3.out _ (by assumption)) hl)).mono ?_; rintro e wm ⟨rfl, hbm⟩)
          | (go_at_call_of 20 A3; refine (Calls.rel (w0 := w3) (by assumption) (nest_any _ _ _ part _ (HT3.out _ (by assumption)) hrq)).mono ?_; rintro e wm ⟨rfl, hbm⟩)
          | (go_at_call 20; refine (Calls.rel (w0 := w3) (by assumption) (nest_any _ _ _ es _ (H3.out _ (by assumption)) hl)).mono ?_; rintro e wm ⟨rfl, hbm⟩))
        all_goals
          go_ret
          exact ⟨rfl, hb3.trans (by assumption)⟩
  · have hd : decide (es.length ≤ 250) = false := by simpa using h250
    go_enter Try.func5, Try.ntmps5
    go_wp2_with (first
      | (go_at_call 10; refine (light_any _ _ _ _).mono ?_; rintro e w' ⟨rfl, rfl⟩)
      | (go_at_call 11; refine (awake_any _).mono ?_; rintro e w1 ⟨rfl, hb1⟩))
    go_ret
    exact ⟨rfl, hb1⟩
end Go.Proofs.Ytglhfdoahmmoeaa
