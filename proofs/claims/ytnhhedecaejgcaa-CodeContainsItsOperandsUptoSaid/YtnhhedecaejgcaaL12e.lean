/- The walk of CodeContainsItsOperands. -/
import Derived.Test.YtnhhedecaejgcaaL12c
import Derived.Test.YtnhhedecaejgcaaP12q
import Derived.Deep.RegionHeld3
namespace Go.Proofs.Ytnhhedecaejgcaa
open Go.RowKit

theorem own_newT (w : World) (base : Nat) (hb : base ≤ w.heap.size) (t : Term) : (w.alloc (.cells #[.int .i64 t.op, .int .i64 t.arg] 37)).ownsRow base 37 2 (.slice (some ⟨w.heap.size, 0, none⟩) 1 1) 1 ([t].flatMap termCells) :=
  ⟨rfl, .inr ⟨w.heap.size, 1, #[.int .i64 t.op, .int .i64 t.arg], rfl, hb, heap_new w _, Nat.le_refl _, by unfold maxLen; omega, rfl, rfl⟩⟩

set_option maxRecDepth 100000 in
set_option maxHeartbeats 20000000 in
theorem codeOperands_walk (op : Int) (A : Option Addr) (n c : Nat) (xs : List Term) (A2 : Option Addr) (n2 c2 : Nat) (ys : List Term) (w : World) (ha : TermsR w A n xs) (hb : TermsR w A2 n2 ys) (hn : n ≤ 1100000) (hn2 : n2 ≤ 1100000) :
    Calls Try.prog 6 #[.int .i64 op, .slice A n c, .slice A2 n2 c2] w fun e w' => e = .returned (.bool true) ∧ Bel w w' := by
  obtain rfl := ha.1
  obtain rfl := hb.1
  have H1 := Lib.hid (fun w' (k : Bel w w') => ha.keep k); clear ha
  have H2 := Lib.hid (fun w' (k : Bel w w') => hb.keep k); clear hb
  have hm1 : 0 ≤ modF op 13 := Int.emod_nonneg _ (by omega)
  have hm2 : modF op 13 < 13 := Int.emod_lt_of_pos _ (by omega)
  generalize hv : modF op 13 = v at *
  have Hv := Lib.hid hv; clear hv
  obtain ⟨i0, hi0, hz0, hz1, hz2⟩ := info_parts term_info
  have HN := Lib.hid (own_newT w w.heap.size (Nat.le_refl _) ⟨30 + v, 0⟩)
  have HB0 := (Bel.refl w).alloc (.cells #[.int .i64 (30 + v), .int .i64 0] 37)
  have hbs0 := HB0.size
  have hes : ([(⟨30 + v, 0⟩ : Term)] ++ xs ++ ys).length = 1 + xs.length + ys.length := by simp; omega
  by_cases hall : 1 + xs.length + ys.length ≤ 250 ∧ validF xs 6 = true ∧ validF ys 6 = true ∧ validF ([(⟨30 + v, 0⟩ : Term)] ++ xs ++ ys) 6 = true
  · obtain ⟨h250, hva, hvb, hve⟩ := hall
    obtain ⟨x, hx1, hx2, hx3, hx4, _⟩ := valid_tree hva
    obtain ⟨y, hy1, hy2, hy3, hy4, _⟩ := valid_tree hvb
    have har : arity (30 + v) = 2 := by unfold arity; rw [if_neg (by omega), if_neg (by omega), if_neg (by omega), if_pos (by omega)]
    have HPx := Lib.hid (show codeF xs (x.code 0, 0) from .inr ⟨hva, x, hx1, hx2, rfl⟩)
    have HPy := Lib.hid (show codeF ys (y.code 0, 0) from .inr ⟨hvb, y, hy1, hy2, rfl⟩)
    have HPz := Lib.hid (show codeF ([(⟨30 + v, 0⟩ : Term)] ++ xs ++ ys) ((Ex.bin ⟨30 + v, 0⟩ x y).code 0, 0) from .inr ⟨hve, Ex.bin ⟨30 + v, 0⟩ x y, ⟨har, hx1, hy1⟩, by simp [Ex.terms, hx2, hy2], rfl⟩)
    have hxs : x.size ≤ 500 := by have := x.size_le; have : x.len = xs.length := by rw [← hx2]; rfl
                                  omega
    have hys : y.size ≤ 500 := by have := y.size_le; have : y.len = ys.length := by rw [← hy2]; rfl
                                  omega
    have HAR := Lib.hid (code_args hy1 0 (by omega) (by rw [hy2]; exact hy4))
    obtain ⟨bp1, bp2, bp3, bp4⟩ := bin_parts ⟨30 + v, 0⟩ x y
    have HMV := Lib.hid (code_moved y 0 x.size)
    have Hbp := Lib.hid (And.intro bp1 (And.intro bp2 (And.intro bp3 bp4)))
    generalize hzc : (Ex.bin ⟨30 + v, 0⟩ x y).code 0 = zc at *
    have hd1 : decide (1 + xs.length + ys.length ≤ 250) = true := by simpa using h250
    have Hva := Lib.hid hva; have Hvb := Lib.hid hvb; have Hve := Lib.hid hve
    clear hx1 hx2 hx3 hx4 hy1 hy2 hy3 hy4 bp1 bp2 bp3 bp4 har hzc hva hvb hve hes
    go_enter Try.func6, Try.ntmps6
    go_wp2_with (first
    | (go_at_call 13; refine (mod_any _ _ _ (by omega) (by omega)).mono ?_; rintro e w' ⟨rfl, rfl⟩; rw [Hv.out])
    | (at_builtin; refine wpList_extend _ rfl (.tmp 19) (.tmp 20) 22 rfl w.heap.size 37 i0 (.agg #[.int .i64 0, .int .i64 0]) 2 16 Try.underlying22 hi0 hz0 hz1 hz2 rfl (by decide) (some ⟨w.heap.size, 0, none⟩) 1 1 ([(⟨30 + v, 0⟩ : Term)].flatMap termCells) (by simp [Act.eval]) HN.out A xs.length c (xs.flatMap termCells) (by simp [Act.eval]) (H1.out _ HB0).cells (termCells_one _) (by unfold maxLen; omega) (by omega) (by omega) ?_; intro R1 rc1 w1 hown hgr hat; have HB1 := HB0.push HN.out hgr; have hbs1 := HB1.size; have HO1 := Lib.hid hown; clear hown hgr hat)
    | (at_builtin; refine wpList_extend _ rfl (.tmp 21) (.tmp 22) 22 rfl w.heap.size 37 i0 (.agg #[.int .i64 0, .int .i64 0]) 2 16 Try.underlying22 hi0 hz0 hz1 hz2 rfl (by decide) R1 (1 + xs.length) rc1 ([(⟨30 + v, 0⟩ : Term)].flatMap termCells ++ xs.flatMap termCells) (by simp [Act.eval]) HO1.out A2 ys.length c2 (ys.flatMap termCells) (by simp [Act.eval]) (H2.out _ HB1).cells (termCells_one _) (by unfold maxLen; omega) (by omega) (by omega) ?_; intro R rc w2 hown hgr hat; have HB := HB1.push HO1.out hgr; have hbs2 := HB.size; have HO := Lib.hid hown; clear hown hgr hat))
    have HE : Hid (∀ w', Bel w2 w' → TermsR w' R (1 + xs.length + ys.length) ([(⟨30 + v, 0⟩ : Term)] ++ xs ++ ys)) := fun w' k => by
      have h3 := HO.out
      rw [← List.flatMap_append, ← List.flatMap_append] at h3
      exact (own_terms h3).keep k
    have HW := Bel.refl w2
    refine (light_any _ _ _ _).mono ?_
    rintro e w' ⟨rfl, rfl⟩
    go_wp2_with fail
    refine (refValid_any _ _ _ xs _ _ (H1.out _ (HB.trans HW)) (by omega)).mono ?_
    rintro e w3 ⟨rfl, hb⟩
    replace HW := HW.trans hb; clear hb
    rw [Hva.out]
    go_wp2_with fail
    refine (refValid_any _ _ _ ys _ _ (H2.out _ (HB.trans HW)) (by omega)).mono ?_
    rintro e w4 ⟨rfl, hb⟩
    replace HW := HW.trans hb; clear hb
    rw [Hvb.out]
    go_wp2_with fail
    refine (refValid_any _ _ _ _ _ _ (HE.out _ HW) (by omega)).mono ?_
    rintro e w5 ⟨rfl, hb⟩
    replace HW := HW.trans hb; clear hb
    rw [Hve.out]
    go_wp2_with fail
    refine (compile_any _ _ _ xs _ (H1.out _ (HB.trans HW)) (by omega)).mono ?_
    rintro e w6 ⟨X, cx, ix, ex, hcx, rfl, hox, hb⟩
    obtain ⟨rfl, rfl⟩ : ix = x.code 0 ∧ ex = 0 := by have := codeF_one hcx HPx.out; simpa using this
    have HX := Lib.hid (own_terms hox)
    replace HW := HW.trans hb
    rw [Ex.code_length] at HX ⊢
    clear hcx hox hb
    go_wp2_with fail
    refine (compile_any _ _ _ ys _ (H2.out _ (HB.trans HW)) (by omega)).mono ?_
    rintro e w7 ⟨Y, cy, iy, ey, hcy, rfl, hoy, hb⟩
    obtain ⟨rfl, rfl⟩ : iy = y.code 0 ∧ ey = 0 := by have := codeF_one hcy HPy.out; simpa using this
    have HY := Lib.hid (own_terms hoy)
    replace HW := HW.trans hb
    replace HX := Lib.hid (HX.out.keep hb)
    rw [Ex.code_length] at HY ⊢
    clear hcy hoy hb
    go_wp2_with fail
    refine (compile_any _ _ _ _ _ (HE.out _ HW) (by omega)).mono ?_
    rintro e w8 ⟨Z, cz, iz, ez, hcz, rfl, hoz, hb⟩
    obtain ⟨rfl, rfl⟩ : iz = zc ∧ ez = 0 := by have := codeF_one hcz HPz.out; simpa using this
    have HZ := Lib.hid (own_terms hoz)
    have hzcap := (own_cap hoz).1
    replace HW := HW.trans hb
    replace HX := Lib.hid (HX.out.keep hb)
    replace HY := Lib.hid (HY.out.keep hb)
    have hzl : iz.length = x.size + y.size + 1 := Hbp.out.2.2.2
    rw [hzl] at HZ hzcap ⊢
    clear hcz hoz hb
    go_wp2_with fail
    obtain ⟨j0, hj0, hjz, hj1, hj2⟩ := info_parts instr_info
    have hu := run_upto (P := Try.prog) Try.underlying25 hj0 Z (x.size + y.size + 1) cz x.size (by omega)
    obtain ⟨Z2, hsub0, hZ2⟩ := run_sub (P := Try.prog) Try.underlying25 hj0 hj1 Z (x.size + y.size + 1) cz x.size (x.size + y.size) (by omega) (by omega) hzcap
    rw [show x.size + y.size - x.size = y.size by omega] at hsub0 hZ2
    have hsub : ∀ w : World, (Instr.slice 25 (.slice Z (x.size + y.size + 1) cz) (some (.int .i64 (x.size : Int))) (some (.int .i64 ((x.size : Int) + (y.size : Int)))) none).run Try.prog w = .ok (.slice Z2 y.size (cz - x.size)) w := fun w => hsub0 .i64 .i64 w
    have HZ2 : Hid (∀ w', Bel w8 w' → TermsR w' Z2 y.size (y.code x.size)) := fun w' k => by
      have := hZ2 TermAt w' iz (HZ.out.keep k)
      rw [Hbp.out.2.1] at this
      exact this
    have HZ1 : Hid (∀ w', Bel w8 w' → TermsR w' Z x.size (x.code 0)) := fun w' k => by
      have := SliceR.take (HZ.out.keep k) x.size (by omega)
      rw [Hbp.out.1] at this
      exact this
    obtain ⟨zb, zo, rfl, hzb, zc1, zc2⟩ := terms_get HZ.out Hbp.out.2.2.1
    have HZC : Hid (∀ w', Bel w8 w' → zb < w'.heap.size ∧ w'.cell? ⟨zb, zo + (x.size + y.size) * 2, none⟩ = some (.int .i64 6) ∧ w'.cell? ⟨zb, zo + (x.size + y.size) * 2 + 1, none⟩ = some (.int .i64 (30 + v))) := fun w' k =>
      ⟨Nat.lt_of_lt_of_le hzb k.size, (k.cell hzb).trans zc1, (k.cell hzb).trans zc2⟩
    have hw1 : IntKind.i64.wrap ((x.size : Int) + (y.size : Int)) = (x.size : Int) + (y.size : Int) := IntWalk.i64_in _ (by omega)
    have hw2 : IntKind.i64.wrap ((x.size : Int) + (y.size : Int) + 1 - 1) = (x.size : Int) + (y.size : Int) := by rw [IntWalk.i64_in _ (by omega)]; omega
    have hi0 : (0 : Int) ≤ (x.size : Int) + (y.size : Int) := by omega
    have hi1 : (x.size : Int) + (y.size : Int) < (x.size : Int) + (y.size : Int) + 1 := by omega
    have hi1' : (x.size : Int) + (y.size : Int) < ((x.size + y.size + 1 : Nat) : Int) := by omega
    have hi2 : ((x.size : Int) + (y.size : Int)).toNat = x.size + y.size := by omega
    have HW8 := (Bel.refl w8).drew
    have HXk := Lib.hid (fun w' (k : Bel w8 w') => HX.out.keep k)
    have HYk := Lib.hid (fun w' (k : Bel w8 w') => HY.out.keep k)
    clear hsub0 hZ2 hzb zc1 zc2 hzl hj0 hjz hj1 hj2 hzcap
    go_region_held3 (fun w' => zb < w'.heap.size ∧ w'.cell? ⟨zb, zo + (x.size + y.size) * 2, none⟩ = some (.int .i64 6) ∧ w'.cell? ⟨zb, zo + (x.size + y.size) * 2 + 1, none⟩ = some (.int .i64 (30 + v))) (exact HZC.out _ HW8) (first
      | (go_simp; go_at_call 9; refine (awake12_any _).mono ?_; rintro e w9 ⟨rfl, hb⟩; replace HW8 := HW8.trans hb; clear hb)
      | (go_simp; go_at_call 19; refine (moved_any _ _ _ (y.code 0) x.size _ (HYk.out _ HW8) (by omega) (by omega) HAR.out).mono ?_; rintro e w11 ⟨M, cm, rfl, hom, hb⟩; rw [HMV.out, Nat.zero_add, Ex.code_length] at hom; rw [HMV.out, Nat.zero_add, Ex.code_length]; have HM := Lib.hid (own_terms hom); replace HW8 := HW8.trans hb; clear hb hom)
      | (go_simp; go_at_call 12; (first
          | ((with_reducible refine (same_eq (some ⟨zb, zo, none⟩) X x.size cz cx (x.code 0) _ (HZ1.out _ HW8) (HXk.out _ HW8) (by omega)).mono ?_); rintro e w10 ⟨rfl, hb⟩; replace HW8 := HW8.trans hb; clear hb)
          | ((with_reducible refine (same_eq Z2 M y.size (cz - x.size) cm (y.code x.size) _ (HZ2.out _ HW8) HM.out (by omega)).mono ?_); rintro e w12 ⟨rfl, hb⟩; replace HW8 := HW8.trans hb; clear hb))))
    go_wp2_with fail
    go_ret
    exact ⟨ret_bool (by simp), (HB.trans HW).trans HW8⟩
  · have hcase : ∀ w2 R, TermsR w2 R (1 + xs.length + ys.length) ([(⟨30 + v, 0⟩ : Term)] ++ xs ++ ys) → True := fun _ _ _ => trivial
    clear hcase
    obtain ⟨b1, hb1⟩ : ∃ b, decide (1 + xs.length + ys.length ≤ 250) = b := ⟨_, rfl⟩
    obtain ⟨b2, hb2⟩ : ∃ b, validF xs 6 = b := ⟨_, rfl⟩
    obtain ⟨b3, hb3⟩ : ∃ b, validF ys 6 = b := ⟨_, rfl⟩
    obtain ⟨b4, hb4⟩ : ∃ b, validF ([(⟨30 + v, 0⟩ : Term)] ++ xs ++ ys) 6 = b := ⟨_, rfl⟩
    have hbad : (b1 && b2 && b3 && b4) = false := by
      rw [Bool.eq_false_iff]; intro h
      apply hall
      simp only [Bool.and_eq_true] at h
      obtain ⟨⟨⟨e1, e2⟩, e3⟩, e4⟩ := h
      exact ⟨by rw [e1] at hb1; simpa using hb1, by rw [hb2, e2], by rw [hb3, e3], by rw [hb4, e4]⟩
    have HBd := Lib.hid hbad; clear hbad hall hes
    have h1b := Lib.hid hb1; have h2b := Lib.hid hb2; have h3b := Lib.hid hb3; have h4b := Lib.hid hb4
    clear hb1 hb2 hb3 hb4
    go_enter Try.func6, Try.ntmps6
    go_wp2_with (first
    | (go_at_call 13; refine (mod_any _ _ _ (by omega) (by omega)).mono ?_; rintro e w' ⟨rfl, rfl⟩; rw [Hv.out])
    | (at_builtin; refine wpList_extend _ rfl (.tmp 19) (.tmp 20) 22 rfl w.heap.size 37 i0 (.agg #[.int .i64 0, .int .i64 0]) 2 16 Try.underlying22 hi0 hz0 hz1 hz2 rfl (by decide) (some ⟨w.heap.size, 0, none⟩) 1 1 ([(⟨30 + v, 0⟩ : Term)].flatMap termCells) (by simp [Act.eval]) HN.out A xs.length c (xs.flatMap termCells) (by simp [Act.eval]) (H1.out _ HB0).cells (termCells_one _) (by unfold maxLen; omega) (by omega) (by omega) ?_; intro R1 rc1 w1 hown hgr hat; have HB1 := HB0.push HN.out hgr; have hbs1 := HB1.size; have HO1 := Lib.hid hown; clear hown hgr hat)
    | (at_builtin; refine wpList_extend _ rfl (.tmp 21) (.tmp 22) 22 rfl w.heap.size 37 i0 (.agg #[.int .i64 0, .int .i64 0]) 2 16 Try.underlying22 hi0 hz0 hz1 hz2 rfl (by decide) R1 (1 + xs.length) rc1 ([(⟨30 + v, 0⟩ : Term)].flatMap termCells ++ xs.flatMap termCells) (by simp [Act.eval]) HO1.out A2 ys.length c2 (ys.flatMap termCells) (by simp [Act.eval]) (H2.out _ HB1).cells (termCells_one _) (by unfold maxLen; omega) (by omega) (by omega) ?_; intro R rc w2 hown hgr hat; have HB := HB1.push HO1.out hgr; have hbs2 := HB.size; have HO := Lib.hid hown; clear hown hgr hat))
    have HE : Hid (∀ w', Bel w2 w' → TermsR w' R (1 + xs.length + ys.length) ([(⟨30 + v, 0⟩ : Term)] ++ xs ++ ys)) := fun w' k => by
      have h3 := HO.out
      rw [← List.flatMap_append, ← List.flatMap_append] at h3
      exact (own_terms h3).keep k
    have HW := Bel.refl w2
    refine (light_any _ _ _ _).mono ?_
    rintro e w' ⟨rfl, rfl⟩
    rw [h1b.out]
    cases b1 with
    | false =>
      go_wp2_with (go_at_call 9; refine (awake12_any _).mono ?_; rintro e w4 ⟨rfl, hb⟩; replace HW := HW.trans hb; clear hb)
      go_ret
      exact ⟨rfl, HB.trans HW⟩
    | true =>
      have hle : 1 + xs.length + ys.length ≤ 250 := by have := h1b.out; simpa using this
      go_wp2_with fail
      refine (refValid_any _ _ _ xs _ _ (H1.out _ (HB.trans HW)) (by omega)).mono ?_
      rintro e w3 ⟨rfl, hb⟩
      replace HW := HW.trans hb; clear hb
      rw [h2b.out]
      cases b2 with
      | false =>
        go_wp2_with (go_at_call 9; refine (awake12_any _).mono ?_; rintro e w4 ⟨rfl, hb⟩; replace HW := HW.trans hb; clear hb)
        go_ret
        exact ⟨rfl, HB.trans HW⟩
      | true =>
        go_wp2_with fail
        refine (refValid_any _ _ _ ys _ _ (H2.out _ (HB.trans HW)) (by omega)).mono ?_
        rintro e w3 ⟨rfl, hb⟩
        replace HW := HW.trans hb; clear hb
        rw [h3b.out]
        cases b3 with
        | false =>
          go_wp2_with (go_at_call 9; refine (awake12_any _).mono ?_; rintro e w4 ⟨rfl, hb⟩; replace HW := HW.trans hb; clear hb)
          go_ret
          exact ⟨rfl, HB.trans HW⟩
        | true =>
          obtain rfl : b4 = false := by have := HBd.out; simpa using this
          go_wp2_with fail
          refine (refValid_any _ _ _ _ _ _ (HE.out _ HW) (by omega)).mono ?_
          rintro e w3 ⟨rfl, hb⟩
          replace HW := HW.trans hb; clear hb
          rw [h4b.out]
          go_wp2_with (go_at_call 9; refine (awake12_any _).mono ?_; rintro e w4 ⟨rfl, hb⟩; replace HW := HW.trans hb; clear hb)
          go_ret
          exact ⟨rfl, HB.trans HW⟩

end Go.Proofs.Ytnhhedecaejgcaa
