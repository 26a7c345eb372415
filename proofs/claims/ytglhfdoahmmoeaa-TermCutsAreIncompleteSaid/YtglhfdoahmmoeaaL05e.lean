/- The walk of TermCutsAreIncomplete. -/
import Derived.Test.YtglhfdoahmmoeaaL05c
namespace Go.Proofs.Ytglhfdoahmmoeaa
open Go.RowKit

theorem grown_none_block {a b : World} {g : Nat} {o : Obj} (h : a.grownBy b none) (hg : a.heap[g]? = some o) : b.heap[g]? = some o := by
  have hlt : g < a.heap.size := by
    rcases Nat.lt_or_ge g a.heap.size with hlt | hge
    · exact hlt
    · rw [Array.getElem?_eq_none hge] at hg; cases hg
  exact (h.block g hlt (by simp)).trans hg

set_option maxRecDepth 100000 in
set_option maxHeartbeats 2000000 in
theorem termCutsAreIncomplete_walk (A : Option Addr) (n c : Nat) (es : List Term) (p : Int) (t : Term) (w : World) (h : TermsR w A n es) (_ : ∀ t ∈ es, GoodT t) (hnc : n ≤ c) (_ : c ≤ maxLen) (_ : InI64 p) (_ : GoodT t) :
    Calls Try.prog 7 #[.slice A n c, .int .i64 p, .agg #[.int .i64 t.op, .int .i64 t.arg]] w fun e w' => e = .returned (.bool true) ∧ Bel w w' := by
  obtain rfl := h.1
  have H := Lib.hid (fun w' (k : Bel w w') => h.keep k); clear h
  obtain ⟨i0, hi0, hz0, hz1, hz2⟩ := info_parts term_info
  have HW : ∃ w1, w.alloc (.cells #[.int .i64 t.op, .int .i64 t.arg] 31) = w1 := ⟨_, rfl⟩
  obtain ⟨w1, hw1⟩ := HW
  have hbw : Bel w w1 := by rw [← hw1]; exact (Bel.refl _).alloc _
  have hbx : w1.heap[w.heap.size]? = some (.cells #[.int .i64 t.op, .int .i64 t.arg] 31 (0, 0)) := by rw [← hw1]; exact heap_new _ _
  have hsz1 : w.heap.size < w1.heap.size := by rw [← hw1]; simp
  have HX := Lib.hid (fun w' (k : Bel w1 w') => (show w'.cell? ⟨w.heap.size, 0, none⟩ = some (.int .i64 t.op) ∧ w'.cell? ⟨w.heap.size, 1, none⟩ = some (.int .i64 t.arg) from
    ⟨(k.cell hsz1).trans (by simp [World.cell?, hbx]), (k.cell hsz1).trans (by simp [World.cell?, hbx])⟩))
  have H1 := Lib.hid (fun w' (k : Bel w1 w') => H.out w' (hbw.trans k)); clear H
  have hb0 := Bel.refl w1
  clear hbx
  by_cases h250 : es.length ≤ 250
  · have hd : decide (es.length ≤ 250) = true := by simpa using h250
    have hl : es.length ≤ 1000000 := by omega
    by_cases hdep : depthF es = 0
    · have hd2 : (depthF es == 0) = true := by simpa using hdep
      go_enter Try.func7, Try.ntmps7
      go_wp2_with (first
        | (go_at_call 10; refine (light_any _ _ _ _).mono ?_; rintro e w' ⟨rfl, rfl⟩)
        | (go_at_call 19; refine (Calls.rel (w0 := w1) (by assumption) (refDepth_any _ _ _ es _ (H1.out _ (by assumption)) hl)).mono ?_; rintro e wn ⟨rfl, hbn⟩)
        | (go_at_call 11; refine (Calls.rel (w0 := w1) (by assumption) (awake_any _)).mono ?_; rintro e wn ⟨rfl, hbn⟩))
      go_ret
      exact ⟨rfl, hbw.trans (by assumption)⟩
    · have hd2 : (depthF es == 0) = false := by simpa using hdep
      have hF := full_of_end (end_of_depth hdep)
      clear hdep
      have hpos := hF.pos
      have hm1 : 0 ≤ modF p es.length := Int.emod_nonneg _ (by omega)
      have hm2 : modF p es.length < es.length := Int.emod_lt_of_pos _ (by omega)
      obtain ⟨q, hq⟩ := Int.eq_ofNat_of_zero_le hm1
      rw [hq] at hm1 hm2
      have hqe : q < es.length := by omega
      have hf1 := cut_end hF q hqe
      have hne : endF (es.take q) 0 ≠ (es.take q).length := by rw [hf1]; omega
      obtain ⟨hf2, _, hf3⟩ := not_end hne
      have hg1 := long_end hF t
      have hne2 : endF (es ++ [t]) 0 ≠ (es ++ [t]).length := by rw [hg1]; simp; omega
      obtain ⟨hg2, _, hg3⟩ := not_end hne2
      have hf3' := hf3 6
      have hg3' := hg3 6
      have hlt : (es.take q).length = q := by rw [List.length_take]; omega
      have hll : (es ++ [t]).length = es.length + 1 := by simp
      have HFr := Lib.hid (show ∀ w', Bel w1 w' → TermsR w' A q (es.take q) from fun w' k => SliceR.take (H1.out w' k) q (by omega))
      have hup := run_upto (P := Try.prog) Try.underlying22 hi0 A es.length c q (by omega)
      generalize hfr : es.take q = front at *
      have HEL : Hid ((es ++ [t]).flatMap termCells = es.flatMap termCells ++ [.int .i64 t.op, .int .i64 t.arg]) := by
        show _ = _
        rw [List.flatMap_append]; simp [termCells]
      generalize hlo : es ++ [t] = long at *
      clear hfr hlo hf3 hg3 hne hne2 hF
      have HLt := Lib.hid hlt; clear hlt
      have HLl := Lib.hid hll; clear hll
      have hw1' := Lib.hid hw1
      go_enter Try.func7, Try.ntmps7
      go_upto_region 4 with (first
        | (go_at_call 10; refine (light_any _ _ _ _).mono ?_; rintro e w' ⟨rfl, rfl⟩)
        | (go_at_call 19; refine (Calls.rel (w0 := w1) (by assumption) (refDepth_any _ _ _ es _ (H1.out _ (by assumption)) hl)).mono ?_; rintro e wn ⟨rfl, hbn⟩)
        | (go_at_call 23; refine (mod_any _ _ _ (by omega) (by omega)).mono ?_; rintro e w' ⟨rfl, rfl⟩)
        | (at_builtin; go_must (refine wpList_extend _ rfl (.const (.slice none 0 0)) (.tmp 23) 22 rfl w.heap.size 31 i0 (.agg #[.int .i64 0, .int .i64 0]) 2 16 Try.underlying22 hi0 hz0 hz1 hz2 rfl (by decide) none 0 0 [] rfl (World.ownsRow_nil _ _ _ _) A q c (front.flatMap termCells) rfl (HFr.out _ (by assumption)).cells (termCells_one _) (by unfold maxLen; omega) (by omega) (hbw.trans hbn).size ?_; intro A3 c3 w3 hown3 hgr3 _; have hb3 : Bel w1 w3 := hbn.push (World.ownsRow_nil _ _ 0 2) hgr3; simp only [Nat.zero_add, List.nil_append] at hown3; have HT3 := Lib.hid (fun w' (k : Bel w3 w') => (own_terms hown3).keep k); clear hown3 hgr3 hbn)))
      have H3 := Lib.hid (fun w' (k : Bel w3 w') => H1.out w' (hb3.trans k))
      have HX3 := Lib.hid (fun w' (k : Bel w3 w') => HX.out w' (hb3.trans k))
      obtain ⟨hx1, hx2⟩ := HX3.out w3 (Bel.refl _)
      have hxs : w.heap.size < w3.heap.size := by have := hb3.size; omega
      go_cut [8] (fun lv wc => ∃ (A4 : Option Addr) (c4 : Nat), lv = .slice A4 (es.length + 1) c4 ∧ Hid (TermsR wc A4 (es.length + 1) long) ∧ Bel w3 wc)
      case first =>
        go_region_law (first
          | (refine step_extend _ rfl (.const (.slice none 0 0)) (.tmp 25) 22 rfl w3.heap.size 31 i0 (.agg #[.int .i64 0, .int .i64 0]) 2 16 Try.underlying22 hi0 hz0 hz1 hz2 rfl (by decide) none 0 0 [] (by first | (simp [Act.eval]; done) | (simp [Act.eval, Act.put]; done)) (World.ownsRow_nil _ _ _ _) A es.length c (es.flatMap termCells) (by first | (simp [Act.eval]; done) | (simp [Act.eval, Act.put]; done)) (H3.out _ (by first | exact (Bel.refl _).drew | exact ((Bel.refl _).alloc _).drew)).cells (termCells_one _) (by unfold maxLen; omega) (by omega) (by simp) ?_; intro A4 c4 w4 hown4 hgr4 _; have hb4 : Bel w3 w4 := Bel.push (by first | exact (Bel.refl _).drew | exact ((Bel.refl _).alloc _).drew) (World.ownsRow_nil _ _ 0 2) hgr4; simp only [Nat.zero_add, List.nil_append] at hown4; obtain ⟨hy1, hy2⟩ := HX3.out w4 hb4; have HO4 := Lib.hid hown4; clear hown4; have HG4 := Lib.hid hgr4; clear hgr4)
          | (refine step_push _ rfl (.tmp 26) (.tmp 28) 22 rfl w3.heap.size 31 i0 (.agg #[.int .i64 0, .int .i64 0]) 2 16 Try.underlying22 hi0 hz0 hz1 hz2 rfl (by decide) A4 es.length c4 (es.flatMap termCells) (by first | (simp [Act.eval]; done) | (simp [Act.eval, Act.put]; done)) (HO4.out.alloc _) w4.heap.size #[.int .i64 t.op, .int .i64 t.arg] 31 (0, 0) (by first | (simp [Act.eval]; done) | (simp [Act.eval, Act.put]; done)) (heap_new _ _) rfl (two_ints _ _ _ _) (by unfold maxLen; omega) (by omega) (by have := hb4.size; simp; omega) ?_; intro A5 c5 w5 hown5 hgr5 _; have hb5 : Bel w3 w5 := (hb4.alloc _).push (HO4.out.alloc _) hgr5)
          | (refine step_push _ rfl (.tmp 26) (.tmp 28) 22 rfl w3.heap.size 31 i0 (.agg #[.int .i64 0, .int .i64 0]) 2 16 Try.underlying22 hi0 hz0 hz1 hz2 rfl (by decide) A4 es.length c4 (es.flatMap termCells) (by first | (simp [Act.eval]; done) | (simp [Act.eval, Act.put]; done)) HO4.out w3.heap.size #[.int .i64 t.op, .int .i64 t.arg] 31 (0, 0) (by first | (simp [Act.eval]; done) | (simp [Act.eval, Act.put]; done)) (grown_none_block HG4.out (heap_new_drew _ _)) rfl (two_ints _ _ _ _) (by unfold maxLen; omega) (by omega) (by have := hb4.size; omega) ?_; intro A5 c5 w5 hown5 hgr5 _; have hb5 : Bel w3 w5 := hb4.push HO4.out hgr5))
        all_goals
          go_wp2_with fail
          go_meet
          exact ⟨A5, c5, rfl, own_terms (by rw [HEL.out]; exact hown5), hb5⟩
      case rest =>
        obtain ⟨A4, c4, rfl, HT4, hb4⟩ := hcut
        have HTF := Lib.hid (fun w' (k : Bel wc w') => HT3.out w' (hb4.trans k))
        have HTL := Lib.hid (fun w' (k : Bel wc w') => HT4.out.keep k)
        have hb5 := Bel.refl wc
        have hq6 : q ≤ 1000000 := by omega
        have hl6 : es.length + 1 ≤ 1000000 := by omega
        go_wp2_with (first
          | (go_at_call 11; refine (Calls.rel (w0 := wc) (by assumption) (awake_any _)).mono ?_; rintro e wm ⟨rfl, hbm⟩)
          | (go_at_call_of 14 A3; refine (end_any _ _ _ front _ _ (HTF.out _ (by assumption)) hq6).mono ?_; rintro e w' ⟨rfl, rfl⟩)
          | (go_at_call 14; refine (end_any _ _ _ long _ _ (HTL.out _ (by assumption)) hl6).mono ?_; rintro e w' ⟨rfl, rfl⟩)
          | (go_at_call_of 18 A3; refine (Calls.rel (w0 := wc) (by assumption) (depth_any _ _ _ front _ (HTF.out _ (by assumption)) hq6)).mono ?_; rintro e wm ⟨rfl, hbm⟩)
          | (go_at_call 18; refine (Calls.rel (w0 := wc) (by assumption) (depth_any _ _ _ long _ (HTL.out _ (by assumption)) hl6)).mono ?_; rintro e wm ⟨rfl, hbm⟩)
          | (go_at_call_of 24 A3; refine (Calls.rel (w0 := wc) (by assumption) (valid_any _ _ _ front _ _ (HTF.out _ (by assumption)) hq6)).mono ?_; rintro e wm ⟨rfl, hbm⟩)
          | (go_at_call 24; refine (Calls.rel (w0 := wc) (by assumption) (valid_any _ _ _ long _ _ (HTL.out _ (by assumption)) hl6)).mono ?_; rintro e wm ⟨rfl, hbm⟩))
        go_ret
        exact ⟨rfl, ((hbw.trans hb3).trans hb4).trans (by assumption)⟩
  · have hd : decide (es.length ≤ 250) = false := by simpa using h250
    go_enter Try.func7, Try.ntmps7
    go_wp2_with (first
      | (go_at_call 10; refine (light_any _ _ _ _).mono ?_; rintro e w' ⟨rfl, rfl⟩)
      | (go_at_call 11; refine (Calls.rel (w0 := w1) (by assumption) (awake_any _)).mono ?_; rintro e wn ⟨rfl, hbn⟩))
    go_ret
    exact ⟨rfl, hbw.trans (by assumption)⟩
end Go.Proofs.Ytglhfdoahmmoeaa
