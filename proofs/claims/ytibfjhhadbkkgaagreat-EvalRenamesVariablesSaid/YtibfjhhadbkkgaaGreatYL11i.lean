/- Merged of: L11i (see NOTES.md). -/
import Derived.Test.YtibfjhhadbkkgaaGreatYL11h
import Derived.Test.YtibfjhhadbkkgaaGreatYWSp
import Derived.Test.YtibfjhhadbkkgaaGreatYPEc
import Derived.Test.YtibfjhhadbkkgaaGreatYW05i
set_option linter.unusedSimpArgs false
set_option linter.unnecessarySimpa false
set_option linter.unusedVariables false

/- The walk of EvalRenamesVariables. -/
namespace Go.Proofs.YtibfjhhadbkkgaaGreat
open Go.RowKit

theorem var_info : (Tryz.prog.info? 48).map (fun i => (i.zero, i.size, i.bytes)) = some (some (.agg #[.string ⟨#[]⟩, .int .i64 0, .int .i64 0, .int .i64 0, .int .i64 0, .int .i64 0]), 6, 56) := by kernel_rfl
theorem RetRen.got {es fs : List Term} {m : List Int} {w w' : World} {e : Ending} (h : RetRen (renameF es m) w e w') (he : renameF es m = (fs, 0)) : ∃ A c, e = .returned (.tuple #[.slice A fs.length c, .int .i64 0]) ∧ TermsR w' A fs.length fs ∧ Bel w w' := by rw [he] at h; exact h
theorem idM_succ (x : Nat) : idM (x + 1) = idM x ++ [(x : Int)] := by unfold idM; rw [List.range_succ, List.map_append]; rfl
theorem sg_same (i j : Nat) : sg i i j = j := by unfold sg; split; assumption; rfl
theorem idM_length (x : Nat) : (idM x).length = x := by simp [idM]
set_option maxRecDepth 100000 in
set_option maxHeartbeats 8000000 in
theorem evalRenames_walk (v1 : Value) (p : Prg) (v2 : Value) (g : Graph) (v3 : Value) (c : Config) (v : Int) (A : Option Addr) (ne ce : Nat) (es : List Term) (i k : Int) (w : World) (h : PrgV w v1 p) (h2 : GraphV w v2 g) (h3 : ConfV w v3 c) (hT : TermsR w A ne es) :
    Calls Tryz.prog 4 #[v1, v2, v3, .int .i64 v, .slice A ne ce, .int .i64 i, .int .i64 k] w fun e w' => e = .returned (.bool true) ∧ Bel w w' := by
  obtain rfl : ne = es.length := hT.1.symm
  have HT := Lib.hid (fun w' (k : Bel w w') => TermsR.keep hT k)
  clear hT
  have hV : ∃ A1 k1 A2 k2, v1 = .agg #[.string p.name, .slice A1 p.vars.length k1, .slice A2 p.rules.length k2] ∧ VarsR w A1 p.vars.length p.vars ∧ p.vars.length ≤ k1 ∧ k1 ≤ maxLen := by
    obtain ⟨A1, k1, A2, k2, e, h1, h2, h3, _⟩ := h
    exact ⟨A1, k1, A2, k2, e, h1, h2, h3⟩
  obtain ⟨A1r, k1r, A2r, k2r, eR, hV, hV1, hV2⟩ := hV
  have HPV := Lib.hid (fun w' (k : Bel w w') => h.keep k)
  have HGV := Lib.hid (fun w' (k : Bel w w') => h2.keep k)
  have HCV := Lib.hid (fun w' (k : Bel w w') => h3.keep k)
  obtain ⟨A1, k1, A2, k2, rfl, _, _, _, _, _, _⟩ := h
  obtain ⟨A3, k3, A4, k4, rfl, _, _, _, _, _, _⟩ := h2
  obtain ⟨A5, k5, rfl, _, _, _⟩ := h3
  have HW := Bel.refl ((w.alloc (.cells #[.string p.name, .slice A1 p.vars.length k1, .slice A2 p.rules.length k2] 25)).alloc (.cells #[.slice A3 g.ids.length k3, .slice A4 g.ports.length k4] 29))
  obtain ⟨⟨rfl, rfl⟩, rfl, rfl⟩ : (A1 = A1r ∧ k1 = k1r) ∧ A2 = A2r ∧ k2 = k2r := by simpa using eR
  clear eR
  cases hq : quick11F p g c es.length with
  | false =>
    go_enter Tryz.func4, Tryz.ntmps4
    go_wp2_with (first
      | (go_at_call 14; refine (quick11_any _ p _ g _ c _ _ _ _ (HPV.out _ (box2_bel HW)) (HGV.out _ (box2_bel HW)) (HCV.out _ (box2_bel HW))).mono ?_; rintro e w' ⟨rfl, hb⟩; rw [hq]; replace HW := HW.trans hb; clear hb; (try clear p0 p1 p2 g0 g1 gsz); obtain ⟨p0, p1, p2, g0, g1, gsz⟩ := pgbox HW)
      | (go_at_call 17; refine (awake11_any _).mono ?_; rintro e w' ⟨rfl, hb⟩; replace HW := HW.trans hb; clear hb; (try clear p0 p1 p2 g0 g1 gsz); obtain ⟨p0, p1, p2, g0, g1, gsz⟩ := pgbox HW))
    go_ret
    exact ⟨rfl, box2_bel HW⟩
  | true =>
  have HQ := Lib.hid (quick11_parts hq)
  cases hmc : decide (memF p g c = 0) with
  | false =>
    go_enter Tryz.func4, Tryz.ntmps4
    go_wp2_with (first
      | (go_at_call 14; refine (quick11_any _ p _ g _ c _ _ _ _ (HPV.out _ (box2_bel HW)) (HGV.out _ (box2_bel HW)) (HCV.out _ (box2_bel HW))).mono ?_; rintro e w' ⟨rfl, hb⟩; rw [hq]; replace HW := HW.trans hb; clear hb; (try clear p0 p1 p2 g0 g1 gsz); obtain ⟨p0, p1, p2, g0, g1, gsz⟩ := pgbox HW)
      | (go_at_call 16; refine (refMemValid_any _ p _ g _ c _ (HPV.out _ (box2_bel HW)) (HGV.out _ (box2_bel HW)) (HCV.out _ (box2_bel HW)) HQ.out.2.1 HQ.out.2.2.1 HQ.out.2.2.2.1).mono ?_; rintro e w' ⟨rfl, hb⟩; rw [hmc]; replace HW := HW.trans hb; clear hb; (try clear p0 p1 p2 g0 g1 gsz); obtain ⟨p0, p1, p2, g0, g1, gsz⟩ := pgbox HW)
      | (go_at_call 17; refine (awake11_any _).mono ?_; rintro e w' ⟨rfl, hb⟩; replace HW := HW.trans hb; clear hb; (try clear p0 p1 p2 g0 g1 gsz); obtain ⟨p0, p1, p2, g0, g1, gsz⟩ := pgbox HW))
    go_ret
    exact ⟨rfl, box2_bel HW⟩
  | true =>
  cases hve : validF es p.vars.length with
  | false =>
    have hl250 := HQ.out.2.2.2.2
    go_enter Tryz.func4, Tryz.ntmps4
    go_wp2_with (first
      | (go_at_call 14; refine (quick11_any _ p _ g _ c _ _ _ _ (HPV.out _ (box2_bel HW)) (HGV.out _ (box2_bel HW)) (HCV.out _ (box2_bel HW))).mono ?_; rintro e w' ⟨rfl, hb⟩; rw [hq]; replace HW := HW.trans hb; clear hb; (try clear p0 p1 p2 g0 g1 gsz); obtain ⟨p0, p1, p2, g0, g1, gsz⟩ := pgbox HW)
      | (go_at_call 16; refine (refMemValid_any _ p _ g _ c _ (HPV.out _ (box2_bel HW)) (HGV.out _ (box2_bel HW)) (HCV.out _ (box2_bel HW)) HQ.out.2.1 HQ.out.2.2.1 HQ.out.2.2.2.1).mono ?_; rintro e w' ⟨rfl, hb⟩; rw [hmc]; replace HW := HW.trans hb; clear hb; (try clear p0 p1 p2 g0 g1 gsz); obtain ⟨p0, p1, p2, g0, g1, gsz⟩ := pgbox HW)
      | (go_at_call 23; refine (refValid_any _ _ _ es _ _ (HT.out _ (box2_bel HW)) (by omega)).mono ?_; rintro e w' ⟨rfl, hb⟩; rw [hve]; replace HW := HW.trans hb; clear hb; (try clear p0 p1 p2 g0 g1 gsz); obtain ⟨p0, p1, p2, g0, g1, gsz⟩ := pgbox HW)
      | (go_at_call 17; refine (awake11_any _).mono ?_; rintro e w' ⟨rfl, hb⟩; replace HW := HW.trans hb; clear hb; (try clear p0 p1 p2 g0 g1 gsz); obtain ⟨p0, p1, p2, g0, g1, gsz⟩ := pgbox HW))
    go_ret
    exact ⟨rfl, box2_bel HW⟩
  | true =>
    have hm := of_decide_eq_true hmc
    have hl250 := HQ.out.2.2.2.2
    have hcn := check_numbers (fits_zero (mem_zero hm).1).1
    have hn1 := hcn.2.1
    have hn6 := hcn.2.2.1
    obtain ⟨i0, hmi, hil⟩ := mod_node14 i (show 0 < p.vars.length by omega)
    obtain ⟨k0, hmk, hkl⟩ := mod_node14 k (show 0 < p.vars.length by omega)
    have HMI := Lib.hid hmi
    have HMK := Lib.hid hmk
    obtain ⟨j0, hj0, hy0, hy1, hy2⟩ := info_parts int_infoC
    obtain ⟨u0, hu0, hu1, hu2, hu3⟩ := info_parts var_info
    obtain ⟨L, hL1, hL2, hL3⟩ := SliceR.laid VarAt.copies VarAt.whole (by decide) hV
    have HL1 := Lib.hid hL1
    have HL2 := Lib.hid hL2
    have HL3 := Lib.hid hL3
    have HLE : Hid (p.vars.length ≤ 6) := hn6
    have hcp0 := mem_pos14 hm
    have HCP := Lib.hid hcp0
    have HRLN : Hid (∀ x ∈ c, x.length = p.vars.length) := fun x hx => by
      obtain ⟨j, hj, rfl⟩ := List.getElem_of_mem hx
      have := row_len hm hj
      rwa [getD_eq hj] at this
    obtain ⟨q0, hmq, hql⟩ := mod_node14 v hcp0
    have HMQ := Lib.hid hmq
    have HQL := Lib.hid hql
    obtain ⟨fs, hfs⟩ : ∃ fs, fs = es.map (renTerm (renM p.vars.length i0 k0)) := ⟨_, rfl⟩
    have HRN : Hid (renameF es (renM p.vars.length i0 k0) = (fs, 0)) := by rw [hfs]; exact rename_ok hil hkl hn6 hve
    have HFL : Hid (fs.length = es.length) := by show _ = _; rw [hfs, List.length_map]
    have HVAL : Hid (valueF (renP p i0 k0) g (renC c i0 k0) (q0 : Int) fs = valueF p g c (q0 : Int) es) := by rw [hfs]; exact ren_value hm hil hkl hql hve
    have HLP := Lib.hid (ren_light HQ.out.2.1 hil hkl)
    have HLC := Lib.hid (renC_light HQ.out.2.2.2.1 i0 k0)
    clear hmq hql hfs hcp0
    have hcell := Lib.hid (fun w' (kk : Bel ((w.alloc (.cells #[.string p.name, .slice A1 p.vars.length k1, .slice A2 p.rules.length k2] 25)).alloc (.cells #[.slice A3 g.ids.length k3, .slice A4 g.ports.length k4] 29)) w') => pgbox kk)
    clear hcn hmi hmk hm hL1 hL2 hL3
    go_enter Tryz.func4, Tryz.ntmps4
    go_wp2_with (first
      | (go_at_call 14; refine (quick11_any _ p _ g _ c _ _ _ _ (HPV.out _ (box2_bel HW)) (HGV.out _ (box2_bel HW)) (HCV.out _ (box2_bel HW))).mono ?_; rintro e w' ⟨rfl, hb⟩; rw [hq]; replace HW := HW.trans hb; clear hb; (try clear p0 p1 p2 g0 g1 gsz); obtain ⟨p0, p1, p2, g0, g1, gsz⟩ := pgbox HW)
      | (go_at_call 16; refine (refMemValid_any _ p _ g _ c _ (HPV.out _ (box2_bel HW)) (HGV.out _ (box2_bel HW)) (HCV.out _ (box2_bel HW)) HQ.out.2.1 HQ.out.2.2.1 HQ.out.2.2.2.1).mono ?_; rintro e w' ⟨rfl, hb⟩; rw [hmc]; replace HW := HW.trans hb; clear hb; (try clear p0 p1 p2 g0 g1 gsz); obtain ⟨p0, p1, p2, g0, g1, gsz⟩ := pgbox HW)
      | (go_at_call 23; refine (refValid_any _ _ _ es _ _ (HT.out _ (box2_bel HW)) (by omega)).mono ?_; rintro e w' ⟨rfl, hb⟩; rw [hve]; replace HW := HW.trans hb; clear hb; (try clear p0 p1 p2 g0 g1 gsz); obtain ⟨p0, p1, p2, g0, g1, gsz⟩ := pgbox HW))
    clear p0 p1 p2 g0 g1 gsz
    replace HW := HW.drew
    go_region_held3 (fun w' => w'.cell? ⟨w.heap.size, 0, none⟩ = some (.string p.name) ∧ w'.cell? ⟨w.heap.size, 1, none⟩ = some (.slice A1 p.vars.length k1) ∧ w'.cell? ⟨w.heap.size, 2, none⟩ = some (.slice A2 p.rules.length k2) ∧ w'.cell? ⟨w.heap.size + 1, 0, none⟩ = some (.slice A3 g.ids.length k3) ∧ w'.cell? ⟨w.heap.size + 1, 1, none⟩ = some (.slice A4 g.ports.length k4) ∧ w.heap.size + 1 < w'.heap.size) (exact hcell.out _ HW) (first
      | (go_simp; go_at_call 18; refine (mod_any _ _ _ (by omega) (by omega)).mono ?_; rintro e w' ⟨rfl, rfl⟩; first | rw [HMI.out] | rw [HMK.out]))
    all_goals
      generalize w'.drew = wd at *
      obtain ⟨p0, p1, p2, g0, g1, gsz⟩ := pgbox HW
      go_wp2_with fail
      clear p0 p1 p2 g0 g1 gsz
      go_loopg [15, 16] p.vars.length (fun m s z wr => ∃ (x : Nat) (M : Option Addr) (mc : Nat), x ≤ p.vars.length ∧ m = p.vars.length - x ∧ s = .slice M x mc ∧ z = .int .i64 x ∧ Hid (wr.ownsRow (w.heap.size + 1 + 1) 3 1 (.slice M x mc) x ((idM x).map (Value.int .i64))) ∧ Bel ((w.alloc (.cells #[.string p.name, .slice A1 p.vars.length k1, .slice A2 p.rules.length k2] 25)).alloc (.cells #[.slice A3 g.ids.length k3, .slice A4 g.ports.length k4] 29)) wr)
      case atStart => exact ⟨0, none, 0, by omega, rfl, rfl, rfl, World.ownsRow_nil _ _ _ _, HW⟩
      case round =>
        clear HW
        obtain ⟨x, M, mc, hx, rfl, rfl, rfl, HM, HW⟩ := hrel
        obtain ⟨p0, p1, p2, g0, g1, gsz⟩ := pgbox HW
        by_cases hlt : x < p.vars.length
        · have hd0 : decide (x < p.vars.length) = true := by simpa using hlt
          go_wp2_with (at_builtin; go_must (refine wpList_push _ rfl (.tmp 65) (.tmp 67) 26 rfl (w.heap.size + 1 + 1) 3 j0 (.int .i64 0) 1 8 Tryz.underlying26 hj0 hy0 hy1 hy2 rfl (by decide) M x mc ((idM x).map (Value.int .i64)) rfl (HM.out.alloc _) wr.heap.size #[.int .i64 (x : Int)] 3 (0, 0) rfl (heap_new _ _) rfl (one_int _ _) (by unfold maxLen; omega) (by omega) (by simp; omega) ?_); intro M' mc' w2 hown2 hgr2 _; replace HW := (HW.alloc _).grown hgr2 (fun k hk => by have := (HM.out.alloc (.cells #[.int .i64 (x : Int)] 3)).lt k hk; simp; omega); have HM2 := Lib.hid hown2; clear hown2 hgr2)
          clear p0 p1 p2 g0 g1 gsz
          go_roundg (p.vars.length - (x + 1))
          case rel =>
            refine ⟨x + 1, M', mc', by omega, rfl, rfl, by go_num, ?_, HW⟩
            show World.ownsRow _ _ _ _ _ _ _
            rw [idM_succ, List.map_append]
            exact HM2.out
          case measure => omega
        · have hd0 : decide (x < p.vars.length) = false := by simpa using hlt
          obtain rfl : x = p.vars.length := by omega
          obtain ⟨gm, hgm⟩ : ∃ gm, M = some ⟨gm, 0, none⟩ := by
            obtain ⟨gm, cap, hv', _⟩ := HM.out.form (by omega)
            injection hv' with hA
            exact ⟨gm, hA⟩
          subst hgm
          have hdi : decide (i0 < p.vars.length) = true := by simpa using hil
          have hdk : decide (k0 < p.vars.length) = true := by simpa using hkl
          have hgmb := own_base HM.out
          have y1 := own_cell0 HM.out i0 (by simp [idM]; omega)
          have y2 := own_cell0 HM.out k0 (by simp [idM]; omega)
          have z1 := HM.out.frozenAt i0
          have z2 := HM.out.frozenAt k0
          simp only [List.getElem_map, idM, List.getElem_range] at y1 y2
          have HMS : Hid (((wr.setCell ⟨gm, i0, none⟩ (.int .i64 (k0 : Int))).setCell ⟨gm, k0, none⟩ (.int .i64 (i0 : Int))).ownsRow (w.heap.size + 1 + 1) 3 1 (.slice (some ⟨gm, 0, none⟩) p.vars.length mc) p.vars.length ((renM p.vars.length i0 k0).map (Value.int .i64))) := by
            show World.ownsRow _ _ _ _ _ _ _
            unfold renM
            rw [List.map_set, List.map_set]
            exact ((HM.out.stored i0 (.int .i64 (k0 : Int))).1.stored k0 (.int .i64 (i0 : Int))).1
          have HWM := (HW.setCell (p := ⟨gm, i0, none⟩) (by simp; omega) (.int .i64 (k0 : Int))).setCell (p := ⟨gm, k0, none⟩) (by simp; omega) (.int .i64 (i0 : Int))
          clear HM
          go_upto_region 9 with fail
          clear p0 p1 p2 g0 g1 gsz
          go_cut [] (fun wc => Hid (wc.ownsRow (w.heap.size + 1 + 1) 3 1 (.slice (some ⟨gm, 0, none⟩) p.vars.length mc) p.vars.length ((renM p.vars.length i0 k0).map (Value.int .i64))) ∧ Bel ((w.alloc (.cells #[.string p.name, .slice A1 p.vars.length k1, .slice A2 p.rules.length k2] 25)).alloc (.cells #[.slice A3 g.ids.length k3, .slice A4 g.ports.length k4] 29)) wc)
          case first =>
            by_cases hik : i0 = k0
            · subst hik
              go_wp2_with fail
              go_meet
              exact ⟨HMS, HWM⟩
            · go_wp2_with fail
              go_meet
              exact ⟨HMS, HWM⟩
          case rest =>
          clear HMS HWM HW y1 y2 z1 z2 hgmb
          obtain ⟨HMS, HW⟩ := hcut
          obtain ⟨p0, p1, p2, g0, g1, gsz⟩ := pgbox HW
          obtain ⟨wm, rfl⟩ : ∃ x : World, x = wc := ⟨_, rfl⟩
          go_upto_region 10 with fail
          go_cut [17] (fun qv wc => ∃ bq gq cq, qv = .pointer (some ⟨bq, 0, none⟩) ∧ Hid (Blk wc bq #[.string p.name, .slice (some ⟨gq, 0, none⟩) p.vars.length cq, .slice none 0 0] 25) ∧ Hid (wc.ownsRow wm.heap.size 48 6 (.slice (some ⟨gq, 0, none⟩) p.vars.length cq) p.vars.length L) ∧ wm.heap.size ≤ bq ∧ gq ≠ bq ∧ Bel wm wc)
          case first =>
            obtain ⟨a0, a1, a2, a3, a4, asz⟩ := pgbox (HW.alloc (.cells #[.string ⟨#[]⟩, .slice none 0 0, .slice none 0 0] 25))
            go_region_law (first
              | (refine step_extend _ rfl (.const (.slice none 0 0)) (.tmp 80) 22 rfl wm.heap.size 48 u0 (.agg #[.string ⟨#[]⟩, .int .i64 0, .int .i64 0, .int .i64 0, .int .i64 0, .int .i64 0]) 6 56 Tryz.underlying22 hu0 hu1 hu2 hu3 rfl (by decide) none 0 0 [] (by simp [Act.eval]) (World.ownsRow_nil _ _ _ _) A1 p.vars.length k1 L (by simp [Act.eval]) (HL1.out _ (by first | exact (box2_bel HW).drew | exact ((box2_bel HW).alloc _).drew)) HL2.out (by unfold maxLen; omega) (by omega) (by simp <;> omega) ?_; intro A7 c7 w3 hown3 hgr3 _; rw [List.nil_append, Nat.zero_add] at hown3; have hb3 := (Bel.refl _).grown hgr3 (fun k hk => by cases hk); (first | (have HW4 := HW.drew.trans hb3) | (have HW4 := (HW.alloc _).drew.trans hb3)); obtain ⟨b0, b1, b2, b3, b4, bsz⟩ := pgbox HW4; obtain ⟨c0, c1, c2, c3, c4, csz⟩ := pgbox (HW4.alloc (.cells #[.string ⟨#[]⟩, .slice none 0 0, .slice none 0 0] 25)); (try (have hbz := (Blk.new wm #[.string ⟨#[]⟩, .slice none 0 0, .slice none 0 0] 25).drew.keep hb3; have e0 := hbz.cell 0 (v := .string ⟨#[]⟩) rfl; have e1 := hbz.cell 1 (v := .slice none 0 0) rfl; have e2 := hbz.cell 2 (v := .slice none 0 0) rfl; have f0 := hbz.frozen 0; have f1 := hbz.frozen 1; have f2 := hbz.frozen 2; have el := hbz.lt))))
            all_goals
              obtain ⟨gq, hgq⟩ : ∃ gq, A7 = some ⟨gq, 0, none⟩ := by
                obtain ⟨gq, cap, hv', _⟩ := hown3.form (by omega)
                injection hv' with hA
                exact ⟨gq, hA⟩
              subst hgq
              have hg2 := own_base hown3
              have hbm := hb3.size
              simp at hbm
              clear a0 a1 a2 a3 a4 asz b0 b1 b2 b3 b4 bsz c0 c1 c2 c3 c4 csz
              go_wp2_with fail
              go_meet
              first
                | exact ⟨wm.heap.size, gq, c7, rfl, ((hbz.set 0 _).set 1 _).set 2 _, own_fr hown3 ((((Fr.refl wm.heap.size w3).set 0 _).set 1 _).set 2 _) (by have := hbz.apart hown3 (by decide); intro h; apply this; rw [h]; rfl), Nat.le_refl _, (by have := hbz.apart hown3 (by decide); intro h; apply this; rw [h]; rfl), (((((Bel.refl wm).alloc _).drew.trans hb3).setCell (by simp) _).setCell (by simp) _).setCell (by simp) _⟩
                | exact ⟨w3.heap.size, gq, c7, rfl, Blk.new _ _ _, hown3.alloc _, by omega, by omega, ((Bel.refl wm).drew.trans hb3).alloc _⟩
                | exact ⟨w3.heap.size, gq, c7, rfl, Blk.new _ _ _, (hown3.alloc _).drew, by omega, by omega, (((Bel.refl wm).drew.trans hb3).alloc _).drew⟩
                | (trace_state; sorry)
          case rest =>
          obtain ⟨bq, gq, cq, rfl, HBQ, HOV, hbq, hgq, hbc⟩ := hcut
          have HW2 := HW.trans hbc
          have hgq2 := own_base HOV.out
          have hcq := own_cap HOV.out
          have HVR : Hid (VarsR wc (some ⟨gq, 0, none⟩) p.vars.length p.vars) := by
            refine HL3.out wc _ (box2_bel HW2) fun j u hu => ?_
            obtain ⟨g', eg, _, hgl, hgc, _⟩ := own_at HOV.out hu
            exact ⟨g', 0, eg, hgl, by rw [Nat.zero_add]; exact hgc⟩
          obtain ⟨b1, o1, e1, _, r0, r1, r2, r3, r4, r5⟩ := HVR.out.at_ i0 hil
          obtain ⟨rfl, rfl⟩ : gq = b1 ∧ 0 = o1 := by simpa using e1
          obtain ⟨b1, o1, e1, _, s0, s1, s2, s3, s4, s5⟩ := HVR.out.at_ k0 hkl
          obtain ⟨rfl, rfl⟩ : gq = b1 ∧ 0 = o1 := by simpa using e1
          rw [Nat.zero_add] at r0 r1 r2 r3 r4 r5 s0 s1 s2 s3 s4 s5
          have f0 := HOV.out.frozenAt (i0 * 6); have f1 := HOV.out.frozenAt (i0 * 6 + 1); have f2 := HOV.out.frozenAt (i0 * 6 + 2); have f3 := HOV.out.frozenAt (i0 * 6 + 3); have f4 := HOV.out.frozenAt (i0 * 6 + 4); have f5 := HOV.out.frozenAt (i0 * 6 + 5)
          have t0 := HOV.out.frozenAt (k0 * 6); have t1 := HOV.out.frozenAt (k0 * 6 + 1); have t2 := HOV.out.frozenAt (k0 * 6 + 2); have t3 := HOV.out.frozenAt (k0 * 6 + 3); have t4 := HOV.out.frozenAt (k0 * 6 + 4); have t5 := HOV.out.frozenAt (k0 * 6 + 5)
          have q1 := HBQ.out.cell 1 (v := .slice (some ⟨gq, 0, none⟩) p.vars.length cq) rfl
          have q2 := HBQ.out.lt
          clear p0 p1 p2 g0 g1 gsz
          obtain ⟨wv, rfl⟩ : ∃ x : World, x = wc := ⟨_, rfl⟩
          go_upto_region 11 with fail
          go_cut [] (fun wc => Hid (VarsR wc (some ⟨gq, 0, none⟩) p.vars.length (swapG default p.vars i0 k0)) ∧ Hid (Blk wc bq #[.string p.name, .slice (some ⟨gq, 0, none⟩) p.vars.length cq, .slice none 0 0] 25) ∧ Bel wm wc)
          case first =>
            have hBw : Bel wm wv := hbc
            by_cases hik : i0 = k0
            · subst hik
              go_region
              all_goals
                go_wp2_with fail
                go_meet
                exact ⟨VarsR.keep (swap_vars HOV.out HVR.out hil hkl) (Bel.refl _).drew, ((HBQ.out.set6 (Ne.symm hgq) _).set6 (Ne.symm hgq) _).drew, ((hBw.set6 hgq2.1 _).set6 hgq2.1 _).drew⟩
            · go_region
              all_goals
                go_wp2_with fail
                go_meet
                exact ⟨VarsR.keep (swap_vars HOV.out HVR.out hil hkl) (Bel.refl _).drew, ((HBQ.out.set6 (Ne.symm hgq) _).set6 (Ne.symm hgq) _).drew, ((hBw.set6 hgq2.1 _).set6 hgq2.1 _).drew⟩
          case rest =>
          clear HBQ HOV HVR hgq hgq2 hbq q1 q2 r0 r1 r2 r3 r4 r5 s0 s1 s2 s3 s4 s5 f0 f1 f2 f3 f4 f5 t0 t1 t2 t3 t4 t5 e1 HW2 hbc
          obtain ⟨HVS, HBQ, hbx⟩ := hcut
          obtain ⟨wx, rfl⟩ : ∃ x : World, x = wc := ⟨_, rfl⟩
          have HQP : Hid (∀ w', Bel wx w' → PrgV w' (.agg #[.string p.name, .slice (some ⟨gq, 0, none⟩) p.vars.length cq, .slice none 0 0]) (renP p i0 k0)) := by
            intro w' kk
            have e : (renP p i0 k0).vars.length = p.vars.length := swapG_length _ _ _ _
            exact ⟨some ⟨gq, 0, none⟩, cq, none, 0, by rw [e]; rfl, by rw [e]; exact VarsR.keep HVS.out kk, by rw [e]; exact hcq.1, hcq.2, SliceR.nil, Nat.le_refl _, by unfold maxLen; omega⟩
          have HQB : Hid (∀ w', Bel wx w' → w'.cell? ⟨bq, 0, none⟩ = some (.string p.name) ∧ w'.cell? ⟨bq, 1, none⟩ = some (.slice (some ⟨gq, 0, none⟩) p.vars.length cq) ∧ w'.cell? ⟨bq, 2, none⟩ = some (.slice none 0 0) ∧ bq < w'.heap.size) := by
            intro w' kk
            have hB := HBQ.out.keep kk
            exact ⟨hB.cell 0 rfl, hB.cell 1 rfl, hB.cell 2 rfl, hB.lt⟩
          have HIM : Hid (∀ w', Bel wx w' → IntsR w' (some ⟨gm, 0, none⟩) p.vars.length (renM p.vars.length i0 k0)) := by
            intro w' kk
            exact own_ints ((hbx.trans kk).owns HMS.out)
          replace HW := HW.trans hbx
          have HBX := Bel.refl wx
          clear HVS HBQ hbx HMS
          obtain ⟨p0, p1, p2, g0, g1, gsz⟩ := pgbox HW
          have HW0 := Lib.hid HW
          go_wp2_with (go_at_call 20; ((with_reducible refine (refCopy2_any _ c p.vars.length _ (HCV.out _ (box2_bel HW)) HQ.out.2.2.2.1 HCP.out HRLN.out (by omega)).mono ?_); rintro e w' ⟨gd, capd, bsd, rfl, hO, hb⟩; have HO := Lib.hid hO; clear hO; replace HBX := HBX.trans hb; replace HW := HW.trans hb; clear hb; (try clear p0 p1 p2 g0 g1 gsz); obtain ⟨p0, p1, p2, g0, g1, gsz⟩ := pgbox HW))
          clear p0 p1 p2 g0 g1 gsz
          go_loopg [19] c.length (fun m z wr => ∃ (u : Nat), u ≤ c.length ∧ m = c.length - u ∧ z = .int .i64 u ∧ Hid (RowsC wr wx.heap.size (some ⟨gd, 0, none⟩) capd p.vars.length (swpC c i0 k0 u) bsd) ∧ Bel wx wr)
          case atStart => exact ⟨0, by omega, rfl, rfl, by show RowsC _ _ _ _ _ _ _; rw [swpC_zero]; exact HO.out, HBX⟩
          case round =>
            have HWX := Lib.hid (fun w' (kk : Bel wx w') => HW0.out.trans kk)
            clear HO HW HBX
            obtain ⟨u, hu, rfl, rfl, HO, HBX⟩ := hrel
            have hcl := (lightC_parts HQ.out.2.2.2.1).1
            have hcp := HCP.out
            by_cases hlt : u < c.length
            · have hd0 : decide (u < c.length) = true := by simpa using hlt
              have hx : (swpC c i0 k0 u)[u]? = some c[u] := by rw [swpC_at, if_neg (Nat.lt_irrefl _)]; exact List.getElem?_eq_getElem hlt
              obtain ⟨⟨gb, cb⟩, hbs, hrow⟩ := HO.out.rows u _ hx
              have hlen := HRLN.out _ (List.getElem_mem hlt)
              obtain ⟨g', e1, _, hgl, hgc, _⟩ := own_at HO.out.own (rowVals_get hbs)
              obtain rfl : gd = g' := by simpa using e1
              have hbb := own_base hrow
              have y1 : wr.cell? ⟨gb, i0, none⟩ = some (.int .i64 (c[u].getD i0 0)) := by
                have := own_cell0 hrow i0 (by simp; omega)
                rw [List.getElem_map] at this
                rw [this, getD_eq (by omega)]
              have y2 : wr.cell? ⟨gb, k0, none⟩ = some (.int .i64 (c[u].getD k0 0)) := by
                have := own_cell0 hrow k0 (by simp; omega)
                rw [List.getElem_map] at this
                rw [this, getD_eq (by omega)]
              have z1 := hrow.frozenAt i0
              have z2 := hrow.frozenAt k0
              have HSW : Hid (RowsC ((wr.setCell ⟨gb, i0, none⟩ (.int .i64 (c[u].getD k0 0))).setCell ⟨gb, k0, none⟩ (.int .i64 (c[u].getD i0 0))) wx.heap.size (some ⟨gd, 0, none⟩) capd p.vars.length (swpC c i0 k0 (u + 1)) bsd) := by
                show RowsC _ _ _ _ _ _ _
                rw [← swpC_succ c i0 k0 u hlt]
                exact HO.out.swap hbs hx i0 k0
              have HBS : Hid (Bel wx ((wr.setCell ⟨gb, i0, none⟩ (.int .i64 (c[u].getD k0 0))).setCell ⟨gb, k0, none⟩ (.int .i64 (c[u].getD i0 0)))) := (HBX.setCell (p := ⟨gb, i0, none⟩) hbb.1 _).setCell (p := ⟨gb, k0, none⟩) hbb.1 _
              by_cases hik : i0 = k0
              · subst hik
                generalize c[u].getD i0 0 = vi at *
                clear hx hbs hrow e1 HO hlen
                go_wp2_with fail
                go_region
                all_goals
                  go_wp2_with fail
                  go_roundg (c.length - (u + 1))
                  case rel => exact ⟨u + 1, by omega, rfl, by go_num, by show RowsC _ _ _ _ _ _ _; exact HSW.out.keep (Bel.refl _).drew, HBS.out.drew⟩
                  case measure => omega
              · generalize c[u].getD i0 0 = vi at *
                generalize c[u].getD k0 0 = vk at *
                clear hx hbs hrow e1 HO hlen
                go_wp2_with fail
                go_region
                all_goals
                  go_wp2_with fail
                  go_roundg (c.length - (u + 1))
                  case rel => exact ⟨u + 1, by omega, rfl, by go_num, by show RowsC _ _ _ _ _ _ _; exact HSW.out.keep (Bel.refl _).drew, HBS.out.drew⟩
                  case measure => omega
            · have hd0 : decide (u < c.length) = false := by simpa using hlt
              obtain rfl : u = c.length := by omega
              have hO := HO.out.conf
              rw [swpC_full, renC_length] at hO
              have HXV := Lib.hid (fun w2 (kk : Bel wr w2) => hO.keep kk)
              have HBR := Bel.refl wr
              have HW := HWX.out _ HBX
              clear hO HO
              obtain ⟨p0, p1, p2, g0, g1, gsz⟩ := pgbox HW
              obtain ⟨b0, b1, b2, bsz⟩ := HQB.out _ HBX
              go_wp2_with (first
                | (go_at_call 24; ((with_reducible refine (refRename_any A es.length ce es (some ⟨gm, 0, none⟩) p.vars.length mc (renM p.vars.length i0 k0) _ (HT.out _ (box2_bel HW)) (HIM.out _ HBX) (by omega) (by omega)).mono ?_); rintro e w' hr; obtain ⟨Ao, co, rfl, hTo, hb⟩ := hr.got HRN.out; have HTO := Lib.hid (fun w2 (kk : Bel w' w2) => TermsR.keep hTo kk); have HBO := Bel.refl w'; clear hTo hr; clear b0 b1 b2 bsz; replace HBX := HBX.trans hb; replace HBR := HBR.trans hb; replace HW := HW.trans hb; clear hb; (try clear p0 p1 p2 g0 g1 gsz); obtain ⟨p0, p1, p2, g0, g1, gsz⟩ := pgbox HW; obtain ⟨b0, b1, b2, bsz⟩ := HQB.out _ HBX))
                | (go_at_call 18; refine (mod_any _ _ _ (by omega) (by omega)).mono ?_; rintro e w' ⟨rfl, rfl⟩; rw [HMQ.out])
                | (go_at_call 22; ((with_reducible refine (evalValue_any _ p _ g (.slice A5 c.length k5) c _ _ _ es _ (HPV.out _ (box2_bel HW)) (HGV.out _ (box2_bel HW)) (HCV.out _ (box2_bel HW)) (HT.out _ (box2_bel HW)) HQ.out.2.1 HQ.out.2.2.1 HQ.out.2.2.2.1 (Nat.le_trans HQ.out.2.2.2.2 (by omega))).mono ?_); rintro e w5 ⟨rfl, hb⟩; clear b0 b1 b2 bsz; replace HBX := HBX.trans hb; replace HBR := HBR.trans hb; replace HBO := HBO.trans hb; replace HW := HW.trans hb; clear hb; (try clear p0 p1 p2 g0 g1 gsz); obtain ⟨p0, p1, p2, g0, g1, gsz⟩ := pgbox HW; obtain ⟨b0, b1, b2, bsz⟩ := HQB.out _ HBX))
                | (go_at_call 22; ((with_reducible refine (evalValue_any _ (renP p i0 k0) _ g (.slice (some ⟨gd, 0, none⟩) c.length capd) (renC c i0 k0) _ _ _ fs _ (HQP.out _ HBX) (HGV.out _ (box2_bel HW)) (HXV.out _ HBR) (HTO.out _ HBO) HLP.out HQ.out.2.2.1 HLC.out (by rw [HFL.out]; exact Nat.le_trans HQ.out.2.2.2.2 (by omega))).mono ?_); rintro e w6 ⟨rfl, hb⟩; rw [HVAL.out]; replace HW := HW.trans hb; clear hb; (try clear p0 p1 p2 g0 g1 gsz); obtain ⟨p0, p1, p2, g0, g1, gsz⟩ := pgbox HW))
                | (go_at_call 17; refine (awake11_any _).mono ?_; rintro e w' ⟨rfl, hb⟩; replace HW := HW.trans hb; clear hb; (try clear p0 p1 p2 g0 g1 gsz); obtain ⟨p0, p1, p2, g0, g1, gsz⟩ := pgbox HW))
              go_ret
              exact ⟨by simp, box2_bel HW⟩

end Go.Proofs.YtibfjhhadbkkgaaGreat

