/- Merged of: L14f (see NOTES.md). -/
import Derived.Test.YtibfjhhadbkkgaaGreatYL14e
import Derived.Test.YtibfjhhadbkkgaaGreatZ25
set_option linter.unusedSimpArgs false
set_option linter.unnecessarySimpa false
set_option linter.unusedVariables false

/- The walk of StepClampsValues. -/
namespace Go.Proofs.YtibfjhhadbkkgaaGreat
open Go.RowKit

set_option maxRecDepth 100000 in
set_option maxHeartbeats 8000000 in
theorem stepClamps_walk (v1 : Value) (p : Prg) (v2 : Value) (g : Graph) (v3 : Value) (c : Config) (v which : Int) (w : World) (h : PrgV w v1 p) (h2 : GraphV w v2 g) (h3 : ConfV w v3 c) :
    Calls Tryz.prog 11 #[v1, v2, v3, .int .i64 v, .int .i64 which] w fun e w' => e = .returned (.bool true) ∧ Bel w w' := by
  have hRC : ∃ A k, v3 = .slice A c.length k ∧ RowsR w A c.length c := by
    obtain ⟨A, k, e, hR, _⟩ := h3
    exact ⟨A, k, e, hR⟩
  have hR : ∃ A1 k1 A2 k2, v1 = .agg #[.string p.name, .slice A1 p.vars.length k1, .slice A2 p.rules.length k2] ∧ RulesR w A2 p.rules.length p.rules := by
    obtain ⟨A1, k1, A2, k2, e, _, _, _, hR, _, _⟩ := h
    exact ⟨A1, k1, A2, k2, e, hR⟩
  obtain ⟨A5r, k5r, eC, hRC⟩ := hRC
  obtain ⟨A1r, k1r, A2r, k2r, eR, hR⟩ := hR
  have HPV := Lib.hid (fun w' (k : Bel w w') => h.keep k)
  have HGV := Lib.hid (fun w' (k : Bel w w') => h2.keep k)
  have HCV := Lib.hid (fun w' (k : Bel w w') => h3.keep k)
  obtain ⟨A1, k1, A2, k2, rfl, _, _, _, _, _, _⟩ := h
  obtain ⟨A3, k3, A4, k4, rfl, _, _, _, _, _, _⟩ := h2
  obtain ⟨A5, k5, rfl, _, _, _⟩ := h3
  have HW := Bel.refl ((w.alloc (.cells #[.string p.name, .slice A1 p.vars.length k1, .slice A2 p.rules.length k2] 25)).alloc (.cells #[.slice A3 g.ids.length k3, .slice A4 g.ports.length k4] 29))
  obtain ⟨rfl, rfl⟩ : A5 = A5r ∧ k5 = k5r := by simpa using eC
  obtain ⟨⟨rfl, rfl⟩, rfl, rfl⟩ : (A1 = A1r ∧ k1 = k1r) ∧ A2 = A2r ∧ k2 = k2r := by simpa using eR
  have HRC := Lib.hid (fun w' (k : Bel w w') => RowsR.keep hRC k)
  have HR := Lib.hid (fun w' (k : Bel w w') => RulesR.keep hR k)
  clear eC hRC eR hR
  cases hq : soundF p g c with
  | false =>
    go_enter Tryz.func11, Tryz.ntmps11
    go_wp2_with (first
      | (go_at_call 30; refine (sound_any _ p _ g _ c _ (HPV.out _ (box2_bel HW)) (HGV.out _ (box2_bel HW)) (HCV.out _ (box2_bel HW))).mono ?_; rintro e w' ⟨rfl, hb⟩; rw [hq]; replace HW := HW.trans hb; clear hb; (try clear p0 p1 p2 g0 g1 gsz); obtain ⟨p0, p1, p2, g0, g1, gsz⟩ := pgbox HW)
      | (go_at_call 26; refine (awake14_any _).mono ?_; rintro e w' ⟨rfl, hb⟩; replace HW := HW.trans hb; clear hb; (try clear p0 p1 p2 g0 g1 gsz); obtain ⟨p0, p1, p2, g0, g1, gsz⟩ := pgbox HW))
    go_ret
    exact ⟨rfl, box2_bel HW⟩
  | true =>
    have HQ := Lib.hid (sound_parts hq)
    have hm := (sound_parts hq).2.2.2
    have hle : c.length ≤ 24 := by rw [conf_len hm]; exact (fits_zero (mem_zero hm).1).2.1.le
    obtain ⟨q, hmq, hql⟩ := mod_node14 v (mem_pos14 hm)
    have HMQ := Lib.hid hmq
    have hcp := mem_pos14 hm
    have HRF := Lib.hid (ruleF_ok hm hql)
    have hrow := light_row (sound_parts hq).2.2.1 q
    rw [getD_eq hql] at hrow
    have HRL := Lib.hid (getD_eq (d := []) hql)
    have hdq : decide (q < c.length) = true := by simpa using hql
    rcases firstF_cases p.rules g c q with ⟨hf, _⟩ | ⟨k, hk, hf, _, _⟩
    · have HF := Lib.hid hf
      clear hf hm hmq
      go_enter Tryz.func11, Tryz.ntmps11
      go_wp2_with (first
        | (go_at_call 30; refine (sound_any _ p _ g _ c _ (HPV.out _ (box2_bel HW)) (HGV.out _ (box2_bel HW)) (HCV.out _ (box2_bel HW))).mono ?_; rintro e w' ⟨rfl, hb⟩; rw [hq]; replace HW := HW.trans hb; clear hb; (try clear p0 p1 p2 g0 g1 gsz); obtain ⟨p0, p1, p2, g0, g1, gsz⟩ := pgbox HW)
        | (go_at_call 18; refine (mod_any _ _ _ (by omega) (by omega)).mono ?_; rintro e w' ⟨rfl, rfl⟩; rw [HMQ.out])
        | (go_at_call 37; refine (moveNo_any _ p _ g _ c q _ (HPV.out _ (box2_bel HW)) (HGV.out _ (box2_bel HW)) (HCV.out _ (box2_bel HW)) HQ.out.1 HQ.out.2.1 HQ.out.2.2.1 HQ.out.2.2.2 hql (by rw [HF.out]; decide)).mono ?_; rintro e w' ⟨⟨R, rc, rfl⟩, hb⟩; replace HW := HW.trans hb; clear hb; (try clear p0 p1 p2 g0 g1 gsz); obtain ⟨p0, p1, p2, g0, g1, gsz⟩ := pgbox HW)
        | (go_at_call 34; refine (refRule_any _ p _ g _ c _ _ (HPV.out _ (box2_bel HW)) (HGV.out _ (box2_bel HW)) (HCV.out _ (box2_bel HW)) HQ.out.1 HQ.out.2.1 HQ.out.2.2.1).mono ?_; rintro e w' ⟨rfl, hb⟩; rw [HRF.out, HF.out]; replace HW := HW.trans hb; clear hb; (try clear p0 p1 p2 g0 g1 gsz); obtain ⟨p0, p1, p2, g0, g1, gsz⟩ := pgbox HW)
        | (go_at_call 26; refine (awake14_any _).mono ?_; rintro e w' ⟨rfl, hb⟩; replace HW := HW.trans hb; clear hb; (try clear p0 p1 p2 g0 g1 gsz); obtain ⟨p0, p1, p2, g0, g1, gsz⟩ := pgbox HW))
      go_ret
      exact ⟨rfl, box2_bel HW⟩
    · have HF := Lib.hid hf
      have HMF : Hid (moveF p g c q = movesF p g c q p.rules[k].sets) := by show _ = _; unfold moveF; rw [hf, ruleAt_eq hk]
      have hFOK := (check_numbers (fits_zero (mem_zero hm).1).1).2.2.2.2.2.1 _ (List.getElem_mem hk)
      have hsp := hFOK.pos
      obtain ⟨z, hmz, hzl⟩ := mod_node14 which hsp
      have HMZ := Lib.hid hmz
      have hls := lightR_len ((lightP_parts HQ.out.1).2.2.2.2 _ (List.getElem_mem hk))
      have hdk : decide (k < p.rules.length) = true := by simpa using hk
      have hdz : decide (z < p.rules[k].sets.length) = true := by simpa using hzl
      obtain ⟨_, _, _, _, hx0, hx1⟩ := set_tree (fits_zero (mem_zero hm).1).1 (List.getElem_mem hk) (List.getElem_mem hzl)
      obtain ⟨x, hx⟩ := Int.eq_ofNat_of_zero_le hx0
      have hxl : x < p.vars.length := by omega
      have hcl : c[q].length = p.vars.length := by have := row_len hm hql; rwa [getD_eq hql] at this
      have HCL := Lib.hid hcl
      have hxc : x < c[q].length := by rw [hcl]; exact hxl
      have hdx : decide (x < c[q].length) = true := by simpa using hxc
      have HVS := Lib.hid (valueF_set hm hql (List.getElem_mem hk) (List.getElem_mem hzl))
      have hsl : p.rules[k].sets[z].value.length ≤ 250 := lightR_sets ((lightP_parts HQ.out.1).2.2.2.2 _ (List.getElem_mem hk)) (List.getElem_mem hzl)
      have hx2 : x < (moveF p g c q).length := by rw [moveF_len, getD_eq hql]; exact hxc
      have HVAL : Hid ((moveF p g c q)[x] = bringF p.vars[x].kind (boundsF p.vars[x] g q) (evalF g c q (-1) (treeOf p.rules[k].sets[z].value))) := by
        show _ = _
        have h1 := movesF_sets (p := p) (g := g) (c := c) (v := q) hFOK.diff (fun s hs => by
          have := (hFOK.sets s hs).1
          have h2 := row_len hm hql
          rw [h2]; omega) (List.getElem_mem hzl)
        rw [← HMF.out, hx, Int.toNat_natCast, getD_eq hx2] at h1
        rw [h1]
        unfold setVal varAt
        rw [hx, Int.toNat_natCast, getD_eq hxl]
      have hgq : q < g.ports.length := by rw [← conf_len hm]; exact hql
      have HGQ := Lib.hid hgq
      obtain ⟨bR, oR, G, gc, SS, sc, eA, hbR, _, _, cs, _, _, _, hSets, _, _⟩ := (HR.out _ (Bel.refl w)).at_ k hk
      subst eA
      obtain ⟨bS, oS, V, vc, rfl, hbS, s0, s1, hVT, _, _⟩ := hSets.at_ z hzl
      rw [hx] at s0
      have HVT := Lib.hid (fun w' (k : Bel w w') => TermsR.keep hVT k)
      obtain ⟨bC, oC, RC, rC, eA, hbC, qC, iC, _, _⟩ := (HRC.out _ (Bel.refl w)).at_ q hql
      subst eA
      have hcell2 := Lib.hid (fun w' (kk : Bel ((w.alloc (.cells #[.string p.name, .slice A1 p.vars.length k1, .slice (some ⟨bR, oR, none⟩) p.rules.length k2] 25)).alloc (.cells #[.slice A3 g.ids.length k3, .slice A4 g.ports.length k4] 29)) w') => show w'.cell? ⟨w.heap.size, 0, none⟩ = some (.string p.name) ∧ w'.cell? ⟨w.heap.size, 1, none⟩ = some (.slice A1 p.vars.length k1) ∧ w'.cell? ⟨w.heap.size, 2, none⟩ = some (.slice (some ⟨bR, oR, none⟩) p.rules.length k2) ∧ w'.cell? ⟨w.heap.size + 1, 0, none⟩ = some (.slice A3 g.ids.length k3) ∧ w'.cell? ⟨w.heap.size + 1, 1, none⟩ = some (.slice A4 g.ports.length k4) ∧ w'.cell? ⟨bR, oR + k * 3 + 2, none⟩ = some (.slice (some ⟨bS, oS, none⟩) p.rules[k].sets.length sc) ∧ w'.cell? ⟨bS, oS + z * 2, none⟩ = some (.int .i64 (x : Int)) ∧ w'.cell? ⟨bS, oS + z * 2 + 1, none⟩ = some (.slice V p.rules[k].sets[z].value.length vc) ∧ w'.cell? ⟨bC, oC + q, none⟩ = some (.slice RC c[q].length rC) ∧ w.heap.size + 1 < w'.heap.size ∧ bR < w'.heap.size ∧ bS < w'.heap.size ∧ bC < w'.heap.size from by
        obtain ⟨q0, q1, q2, q3, q4, q5⟩ := pgbox kk
        have hb := box2_bel kk
        exact ⟨q0, q1, q2, q3, q4, (hb.cell hbR).trans cs, (hb.cell hbS).trans s0, (hb.cell hbS).trans s1, (hb.cell hbC).trans qC, q5, Nat.lt_of_lt_of_le hbR hb.size, Nat.lt_of_lt_of_le hbS hb.size, Nat.lt_of_lt_of_le hbC hb.size⟩)
      clear hf hm hmq hmz hx hx0 hx1 hcl hFOK hSets cs s0 s1 hVT qC iC
      go_enter Tryz.func11, Tryz.ntmps11
      go_wp2_with (first
        | (go_at_call 30; refine (sound_any _ p _ g _ c _ (HPV.out _ (box2_bel HW)) (HGV.out _ (box2_bel HW)) (HCV.out _ (box2_bel HW))).mono ?_; rintro e w' ⟨rfl, hb⟩; rw [hq]; replace HW := HW.trans hb; clear hb; (try clear p0 p1 p2 g0 g1 gsz); obtain ⟨p0, p1, p2, g0, g1, gsz⟩ := pgbox HW)
        | (go_at_call 18; refine (mod_any _ _ _ (by omega) (by omega)).mono ?_; rintro e w' ⟨rfl, rfl⟩; rw [HMQ.out])
        | (go_at_call 37; refine (moveOK_any _ p _ g _ c q c[q].length _ (HPV.out _ (box2_bel HW)) (HGV.out _ (box2_bel HW)) (HCV.out _ (box2_bel HW)) HQ.out.1 HQ.out.2.1 HQ.out.2.2.1 HQ.out.2.2.2 hql (by rw [HF.out]; omega) (by rw [HRL.out])).mono ?_; rintro e w5 ⟨R, rc, rfl, hM, hb⟩; obtain ⟨b1, o1, eM, hb1, m1⟩ := hM.at_ x hx2; subst eM; have HB5 := Bel.refl w5; clear hM; replace HW := HW.trans hb; clear hb; (try clear p0 p1 p2 g0 g1 gsz); obtain ⟨p0, p1, p2, g0, g1, gsz⟩ := pgbox HW)
        | (go_at_call 34; refine (refRule_any _ p _ g _ c _ _ (HPV.out _ (box2_bel HW)) (HGV.out _ (box2_bel HW)) (HCV.out _ (box2_bel HW)) HQ.out.1 HQ.out.2.1 HQ.out.2.2.1).mono ?_; rintro e w' ⟨rfl, hb⟩; rw [HRF.out, HF.out]; replace HB5 := HB5.trans hb; replace HW := HW.trans hb; clear hb; (try clear p0 p1 p2 g0 g1 gsz); obtain ⟨p0, p1, p2, g0, g1, gsz⟩ := pgbox HW))
      clear p0 p1 p2 g0 g1 gsz
      replace HW := HW.drew
      replace HB5 := HB5.drew
      go_region_held3 (fun w' => w'.cell? ⟨w.heap.size, 0, none⟩ = some (.string p.name) ∧ w'.cell? ⟨w.heap.size, 1, none⟩ = some (.slice A1 p.vars.length k1) ∧ w'.cell? ⟨w.heap.size, 2, none⟩ = some (.slice (some ⟨bR, oR, none⟩) p.rules.length k2) ∧ w'.cell? ⟨w.heap.size + 1, 0, none⟩ = some (.slice A3 g.ids.length k3) ∧ w'.cell? ⟨w.heap.size + 1, 1, none⟩ = some (.slice A4 g.ports.length k4) ∧ w'.cell? ⟨bR, oR + k * 3 + 2, none⟩ = some (.slice (some ⟨bS, oS, none⟩) p.rules[k].sets.length sc) ∧ w'.cell? ⟨bS, oS + z * 2, none⟩ = some (.int .i64 (x : Int)) ∧ w'.cell? ⟨bS, oS + z * 2 + 1, none⟩ = some (.slice V p.rules[k].sets[z].value.length vc) ∧ w'.cell? ⟨bC, oC + q, none⟩ = some (.slice RC c[q].length rC) ∧ w.heap.size + 1 < w'.heap.size ∧ bR < w'.heap.size ∧ bS < w'.heap.size ∧ bC < w'.heap.size)
        (first | exact hcell2.out _ HW | exact hcell2.out _ (HW.alloc _))
        (first | (go_simp; go_at_call 18; refine (mod_any _ _ _ (by omega) (by omega)).mono ?_; rintro e w' ⟨rfl, rfl⟩; rw [HMZ.out]))
      all_goals
        have hbx := Blk.new w' #[.int .i64 (x : Int), .slice V p.rules[k].sets[z].value.length vc] 66
        have hwz := hbx.lt
        replace HW := HW.alloc (.cells #[.int .i64 (x : Int), .slice V p.rules[k].sets[z].value.length vc] 66)
        replace HB5 := HB5.alloc (.cells #[.int .i64 (x : Int), .slice V p.rules[k].sets[z].value.length vc] 66)
        obtain ⟨p0, p1, p2, g0, g1, gsz⟩ := pgbox HW
        go_wp2_with (go_at_call 40; refine (refValue_any _ p _ g _ c _ _ _ p.rules[k].sets[z].value _ (HPV.out _ (box2_bel HW)) (HGV.out _ (box2_bel HW)) (HCV.out _ (box2_bel HW)) (HVT.out _ (box2_bel HW)) HQ.out.1 HQ.out.2.1 HQ.out.2.2.1 (by omega)).mono ?_; rintro e w6 ⟨rfl, hb⟩; rw [HVS.out]; replace HB5 := HB5.trans hb; have y0 := (hb.cell hwz).trans (hbx.cell 0 rfl); have hwz2 := Nat.lt_of_lt_of_le hwz hb.size; replace HW := HW.trans hb; clear hb; (try clear p0 p1 p2 g0 g1 gsz); obtain ⟨p0, p1, p2, g0, g1, gsz⟩ := pgbox HW)
        have HB6 := Bel.refl w6
        have m2 := (HB5.cell hb1).trans m1
        rw [HVAL.out] at m2
        have hb2 := Nat.lt_of_lt_of_le hb1 HB5.size
        have qC2 := (hcell2.out _ HW).2.2.2.2.2.2.2.2.1
        have hbC2 := (hcell2.out _ HW).2.2.2.2.2.2.2.2.2.2.2.2
        have HWR := HW
        have hcell3 := Lib.hid (fun w7 (kk : Bel w6 w7) => show w7.cell? ⟨w.heap.size, 0, none⟩ = some (.string p.name) ∧ w7.cell? ⟨w.heap.size, 1, none⟩ = some (.slice A1 p.vars.length k1) ∧ w7.cell? ⟨w.heap.size, 2, none⟩ = some (.slice (some ⟨bR, oR, none⟩) p.rules.length k2) ∧ w7.cell? ⟨w.heap.size + 1, 0, none⟩ = some (.slice A3 g.ids.length k3) ∧ w7.cell? ⟨w.heap.size + 1, 1, none⟩ = some (.slice A4 g.ports.length k4) ∧ w7.cell? ⟨bC, oC + q, none⟩ = some (.slice RC c[q].length rC) ∧ w7.cell? ⟨b1, o1 + x, none⟩ = some (.int .i64 (bringF p.vars[x].kind (boundsF p.vars[x] g q) (evalF g c q (-1) (treeOf p.rules[k].sets[z].value)))) ∧ w7.cell? ⟨w'.heap.size, 0, none⟩ = some (.int .i64 (x : Int)) ∧ w.heap.size + 1 < w7.heap.size ∧ bC < w7.heap.size ∧ b1 < w7.heap.size ∧ w'.heap.size < w7.heap.size from by
          obtain ⟨q0, q1, q2, q3, q4, q5⟩ := pgbox (HWR.trans kk)
          exact ⟨q0, q1, q2, q3, q4, (kk.cell hbC2).trans qC2, (kk.cell hb2).trans m2, (kk.cell hwz2).trans y0, q5, Nat.lt_of_lt_of_le hbC2 kk.size, Nat.lt_of_lt_of_le hb2 kk.size, Nat.lt_of_lt_of_le hwz2 kk.size⟩)
        clear p0 p1 p2 g0 g1 gsz hbx y0 m2 qC2
        replace HW := HW.drew
        replace HB6 := HB6.drew
        go_region_held3 (fun w7 => w7.cell? ⟨w.heap.size, 0, none⟩ = some (.string p.name) ∧ w7.cell? ⟨w.heap.size, 1, none⟩ = some (.slice A1 p.vars.length k1) ∧ w7.cell? ⟨w.heap.size, 2, none⟩ = some (.slice (some ⟨bR, oR, none⟩) p.rules.length k2) ∧ w7.cell? ⟨w.heap.size + 1, 0, none⟩ = some (.slice A3 g.ids.length k3) ∧ w7.cell? ⟨w.heap.size + 1, 1, none⟩ = some (.slice A4 g.ports.length k4) ∧ w7.cell? ⟨bC, oC + q, none⟩ = some (.slice RC c[q].length rC) ∧ w7.cell? ⟨b1, o1 + x, none⟩ = some (.int .i64 (bringF p.vars[x].kind (boundsF p.vars[x] g q) (evalF g c q (-1) (treeOf p.rules[k].sets[z].value)))) ∧ w7.cell? ⟨w'.heap.size, 0, none⟩ = some (.int .i64 (x : Int)) ∧ w.heap.size + 1 < w7.heap.size ∧ bC < w7.heap.size ∧ b1 < w7.heap.size ∧ w'.heap.size < w7.heap.size)
          (exact hcell3.out _ HB6)
          (first
            | (go_simp; go_at_call 26; refine (awake14_any _).mono ?_; rintro e w8 ⟨rfl, hb⟩; replace HW := HW.trans hb; replace HB6 := HB6.trans hb; clear hb)
            | (go_simp; go_at_call 41; refine (refClamp_any _ p _ g q x _ _ (HPV.out _ (box2_bel HW)) (HGV.out _ (box2_bel HW)) (mem_zero HQ.out.2.2.2).1 HGQ.out hxl HQ.out.1 HQ.out.2.1).mono ?_; rintro e w8 ⟨rfl, hb⟩; replace HW := HW.trans hb; replace HB6 := HB6.trans hb; clear hb))
        go_wp2_with fail
        go_ret
        exact ⟨by simp, box2_bel HW⟩

end Go.Proofs.YtibfjhhadbkkgaaGreat

