/- Merged of: L14h (see NOTES.md). -/
import Derived.Test.YtibfjhhadbkkgaaGreatYL14e
import Derived.Test.YtibfjhhadbkkgaaGreatZ24
set_option linter.unusedSimpArgs false
set_option linter.unnecessarySimpa false
set_option linter.unusedVariables false

/- The walk of StepKeepsEarlierRules. -/
namespace Go.Proofs.YtibfjhhadbkkgaaGreat
open Go.RowKit

theorem rule_info : (Tryz.prog.info? 69).map (fun i => (i.zero, i.size, i.bytes)) = some (some (.agg #[.string ⟨#[]⟩, .slice none 0 0, .slice none 0 0]), 3, 64) := by kernel_rfl
set_option maxRecDepth 100000 in
set_option maxHeartbeats 8000000 in
theorem stepKeeps_walk (v1 : Value) (p : Prg) (v2 : Value) (g : Graph) (v3 : Value) (c : Config) (v keep : Int) (w : World) (h : PrgV w v1 p) (h2 : GraphV w v2 g) (h3 : ConfV w v3 c) :
    Calls Tryz.prog 8 #[v1, v2, v3, .int .i64 v, .int .i64 keep] w fun e w' => e = .returned (.bool true) ∧ Bel w w' := by
  have hR : ∃ A1 k1 A2 k2, v1 = .agg #[.string p.name, .slice A1 p.vars.length k1, .slice A2 p.rules.length k2] ∧ VarsR w A1 p.vars.length p.vars ∧ p.vars.length ≤ k1 ∧ k1 ≤ maxLen ∧ RulesR w A2 p.rules.length p.rules ∧ p.rules.length ≤ k2 ∧ k2 ≤ maxLen := h
  obtain ⟨A1r, k1r, A2r, k2r, eR, hV, hV1, hV2, hR, hR1, hR2⟩ := hR
  have HPV := Lib.hid (fun w' (k : Bel w w') => h.keep k)
  have HGV := Lib.hid (fun w' (k : Bel w w') => h2.keep k)
  have HCV := Lib.hid (fun w' (k : Bel w w') => h3.keep k)
  obtain ⟨A1, k1, A2, k2, rfl, _, _, _, _, _, _⟩ := h
  obtain ⟨A3, k3, A4, k4, rfl, _, _, _, _, _, _⟩ := h2
  obtain ⟨A5, k5, rfl, _, _, _⟩ := h3
  have HW := Bel.refl ((w.alloc (.cells #[.string p.name, .slice A1 p.vars.length k1, .slice A2 p.rules.length k2] 25)).alloc (.cells #[.slice A3 g.ids.length k3, .slice A4 g.ports.length k4] 29))
  obtain ⟨⟨rfl, rfl⟩, rfl, rfl⟩ : (A1 = A1r ∧ k1 = k1r) ∧ A2 = A2r ∧ k2 = k2r := by simpa using eR
  clear eR
  cases hq : soundF p g c with
  | false =>
    go_enter Tryz.func8, Tryz.ntmps8
    go_wp2_with (first
      | (go_at_call 30; refine (sound_any _ p _ g _ c _ (HPV.out _ (box2_bel HW)) (HGV.out _ (box2_bel HW)) (HCV.out _ (box2_bel HW))).mono ?_; rintro e w' ⟨rfl, hb⟩; rw [hq]; replace HW := HW.trans hb; clear hb; (try clear p0 p1 p2 g0 g1 gsz); obtain ⟨p0, p1, p2, g0, g1, gsz⟩ := pgbox HW)
      | (go_at_call 26; refine (awake14_any _).mono ?_; rintro e w' ⟨rfl, hb⟩; replace HW := HW.trans hb; clear hb; (try clear p0 p1 p2 g0 g1 gsz); obtain ⟨p0, p1, p2, g0, g1, gsz⟩ := pgbox HW))
    go_ret
    exact ⟨rfl, box2_bel HW⟩
  | true =>
    have HQ := Lib.hid (sound_parts hq)
    have hm := (sound_parts hq).2.2.2
    have hle : c.length ≤ 24 := by rw [conf_len hm]; exact (fits_zero (mem_zero hm).1).2.1.le
    have hr16 := (lightP_parts (sound_parts hq).1).2.2.1
    have hcp := mem_pos14 hm
    obtain ⟨q, hmq, hql⟩ := mod_node14 v hcp
    have HMQ := Lib.hid hmq
    obtain ⟨n, hmn, hnl⟩ := mod_node14 keep (show 0 < p.rules.length + 1 by omega)
    have HMN : Hid (modF keep ((p.rules.length : Int) + 1) = (n : Int)) := hmn
    have hn : n ≤ p.rules.length := by omega
    have HMK := Lib.hid (keep_mem hm n)
    have HLK := Lib.hid (keep_light (sound_parts hq).1 n)
    have HRP := Lib.hid (ruleF_ok hm hql)
    have HRK : Hid (ruleF (keepF p n) g c (q : Int) = if firstF p.rules g c q < n then firstF p.rules g c q else -1) := by
      show _ = _
      rw [ruleF_ok HMK.out hql, keep_first]
    obtain ⟨kf, hkf⟩ : ∃ kf, firstF p.rules g c q = kf := ⟨_, rfl⟩
    rw [hkf] at HRP HRK
    have hkr := firstF_range p.rules g c q
    rw [hkf] at hkr
    obtain ⟨J, hJ⟩ : ∃ J, (if kf < n then kf else -1) = J := ⟨_, rfl⟩
    rw [hJ] at HRK
    have HJ : Hid ((0 ≤ kf ∧ kf < n ∧ kf = J) ∨ (-1 = J ∧ (kf < 0 ∨ ((n : Int) ≤ kf ∧ 0 ≤ kf)))) := by
      show _ ∨ _
      split at hJ <;> omega
    have HEP := Lib.hid (enabledF_ok hm)
    have HKN : Hid (n = 0 → enabF (keepF p n) g c = 0) := fun h => by rw [h]; exact keep_none p g c
    have HEK := Lib.hid (enabledF_ok HMK.out)
    have hbn : bits .andNot .u32 (enabF (keepF p n) g c : Int) (enabF p g c : Int) = 0 := by
      rw [bits_andNot]
      have := diffF_zero (T := enabF p g c) (enabF_lt HMK.out)
      rw [keep_enab] at this
      simp at this
      rw [this]; rfl
    have HCK : Hid (decide (checkF (keepF p n) = 0) = true) := decide_eq_true (keep_check (fits_zero (mem_zero hm).1).1 n)
    obtain ⟨i0, hi0, hz0, hz1, hz2⟩ := info_parts rule_info
    have hslc := fun w => run_upto (P := Tryz.prog) Tryz.underlying23 hi0 A2 p.rules.length k2 n (by omega) .i64 w
    obtain ⟨L, hL1, hL2, hL3⟩ := SliceR.laid RuleAt.copies RuleAt.whole (by decide) (SliceR.take hR n hn)
    have HL1 := Lib.hid hL1
    have HL2 := Lib.hid hL2
    have HL3 := Lib.hid hL3
    have HVR := Lib.hid (fun w' (k : Bel w w') => VarsR.keep hV k)
    have hcell := Lib.hid (fun w' (kk : Bel ((w.alloc (.cells #[.string p.name, .slice A1 p.vars.length k1, .slice A2 p.rules.length k2] 25)).alloc (.cells #[.slice A3 g.ids.length k3, .slice A4 g.ports.length k4] 29)) w') => pgbox kk)
    have hw1 : IntKind.i64.wrap ((p.rules.length : Int) + 1) = (p.rules.length : Int) + 1 := IntWalk.i64_in _ (by omega)
    have hd0 : (0 : Int) ≤ (p.rules.length : Int) + 1 := by omega
    clear hmq hmn hm hkf hJ hkr hL1 hL2 hL3 hR hV hnl
    go_enter Tryz.func8, Tryz.ntmps8
    go_wp2_with (go_at_call 30; refine (sound_any _ p _ g _ c _ (HPV.out _ (box2_bel HW)) (HGV.out _ (box2_bel HW)) (HCV.out _ (box2_bel HW))).mono ?_; rintro e w' ⟨rfl, hb⟩; rw [hq]; replace HW := HW.trans hb; clear hb; (try clear p0 p1 p2 g0 g1 gsz); obtain ⟨p0, p1, p2, g0, g1, gsz⟩ := pgbox HW)
    clear p0 p1 p2 g0 g1 gsz
    replace HW := HW.drew
    go_region_held3 (fun w' => w'.cell? ⟨w.heap.size, 0, none⟩ = some (.string p.name) ∧ w'.cell? ⟨w.heap.size, 1, none⟩ = some (.slice A1 p.vars.length k1) ∧ w'.cell? ⟨w.heap.size, 2, none⟩ = some (.slice A2 p.rules.length k2) ∧ w'.cell? ⟨w.heap.size + 1, 0, none⟩ = some (.slice A3 g.ids.length k3) ∧ w'.cell? ⟨w.heap.size + 1, 1, none⟩ = some (.slice A4 g.ports.length k4) ∧ w.heap.size + 1 < w'.heap.size) (exact hcell.out _ HW) (first
      | (go_simp; go_at_call 18; refine (mod_any _ _ _ (by omega) (by omega)).mono ?_; rintro e w' ⟨rfl, rfl⟩; first | rw [HMQ.out] | rw [HMN.out]))
    clear hw1
    generalize w'.drew = wd at *
    obtain ⟨p0, p1, p2, g0, g1, gsz⟩ := pgbox HW
    have hbq := Blk.new wd #[.string p.name, .slice A1 p.vars.length k1, .slice A2 p.rules.length k2] 25
    have HWA := HW.alloc (.cells #[.string p.name, .slice A1 p.vars.length k1, .slice A2 p.rules.length k2] 25)
    obtain ⟨a0, a1, a2, a3, a4, asz⟩ := pgbox HWA
    go_wp2_with (at_builtin; go_must (refine wpList_extend _ rfl (.const (.slice none 0 0)) (.tmp 34) 23 rfl (wd.heap.size + 1) 69 i0 (.agg #[.string ⟨#[]⟩, .slice none 0 0, .slice none 0 0]) 3 64 Tryz.underlying23 hi0 hz0 hz1 hz2 rfl (by decide) none 0 0 [] rfl (World.ownsRow_nil _ _ _ _) A2 n k2 L rfl (HL1.out _ (box2_bel HWA)) HL2.out (by unfold maxLen; omega) (by omega) (by simp) ?_); intro A7 c7 w3 hown3 hgr3 _; rw [List.nil_append, Nat.zero_add] at hown3; have hb3 := (Bel.refl (wd.alloc (.cells #[.string p.name, .slice A1 p.vars.length k1, .slice A2 p.rules.length k2] 25))).grown hgr3 (fun k hk => by cases hk); have HO := Lib.hid hown3; have HW3 := HWA.trans hb3; replace hbq := hbq.keep hb3; have z0 := hbq.cell 0 (v := .string p.name) rfl; have z1 := hbq.cell 1 (v := .slice A1 p.vars.length k1) rfl; have z2 := hbq.cell 2 (v := .slice A2 p.rules.length k2) rfl; have zf := hbq.frozen 2; have zl := hbq.lt; clear hown3 hgr3 hb3)
    have hga : ∀ g0 o, A7 = some ⟨g0, o, none⟩ → g0 ≠ wd.heap.size := fun g0 o e => by
      have := HO.out
      subst e
      rcases this.2 with ⟨hv, _⟩ | ⟨g', _, _, hv, hb, _⟩
      · cases hv
      · injection hv with hA; injection hA with hA; injection hA with hA; omega
    obtain ⟨hcap1, hcap2⟩ := own_cap HO.out
    have HWX := HW3.setCell (p := ⟨wd.heap.size, 2, none⟩) (by simp; omega) (.slice A7 n c7)
    have hbx : Blk (w3.setCell ⟨wd.heap.size, 2, none⟩ (.slice A7 n c7)) wd.heap.size #[.string p.name, .slice A1 p.vars.length k1, .slice A7 n c7] 25 := hbq.set 2 _
    have HPK : Hid (∀ w', Bel (w3.setCell ⟨wd.heap.size, 2, none⟩ (.slice A7 n c7)) w' → PrgV w' (.agg #[.string p.name, .slice A1 p.vars.length k1, .slice A7 n c7]) (keepF p n)) := fun w' kk => by
      have e : (keepF p n).rules.length = n := by show (p.rules.take n).length = n; rw [List.length_take]; omega
      refine ⟨A1, k1, A7, c7, by rw [e]; rfl, HVR.out _ ((box2_bel HWX).trans kk), hV1, hV2, ?_, by rw [e]; exact hcap1, hcap2⟩
      rw [e]
      refine HL3.out w' A7 ((box2_bel HWX).trans kk) fun j u hu => ?_
      obtain ⟨g', eg, hbg, hgl, hgc, _⟩ := own_at HO.out hu
      refine ⟨g', 0, eg, Nat.lt_of_lt_of_le (by simpa using hgl) kk.size, ?_⟩
      rw [Nat.zero_add, kk.cell (by simpa using hgl), ((Fr.refl wd.heap.size w3).set 2 _).cell hgl (by omega)]
      exact hgc
    clear hbq z0 z1 z2 zf zl a0 a1 a2 a3 a4 asz p0 p1 p2 g0 g1 gsz HO HW3 HWA hga hslc HW
    generalize w3.setCell ⟨wd.heap.size, 2, none⟩ (.slice A7 n c7) = wx at *
    generalize wd.heap.size = bq at *
    have HBX := Bel.refl wx
    have hcell2 := Lib.hid (fun w' (kk : Bel wx w') => show (fun w' => w'.cell? ⟨w.heap.size, 0, none⟩ = some (.string p.name) ∧ w'.cell? ⟨w.heap.size, 1, none⟩ = some (.slice A1 p.vars.length k1) ∧ w'.cell? ⟨w.heap.size, 2, none⟩ = some (.slice A2 p.rules.length k2) ∧ w'.cell? ⟨w.heap.size + 1, 0, none⟩ = some (.slice A3 g.ids.length k3) ∧ w'.cell? ⟨w.heap.size + 1, 1, none⟩ = some (.slice A4 g.ports.length k4) ∧ w'.cell? ⟨bq, 0, none⟩ = some (.string p.name) ∧ w'.cell? ⟨bq, 1, none⟩ = some (.slice A1 p.vars.length k1) ∧ w'.cell? ⟨bq, 2, none⟩ = some (.slice A7 n c7) ∧ w.heap.size + 1 < w'.heap.size ∧ bq < w'.heap.size) w' from by
      obtain ⟨q0, q1, q2, q3, q4, q5⟩ := pgbox (HWX.trans kk)
      exact ⟨q0, q1, q2, q3, q4, (hbx.keep kk).cell 0 rfl, (hbx.keep kk).cell 1 rfl, (hbx.keep kk).cell 2 rfl, q5, (hbx.keep kk).lt⟩)
    have HWX2 := Lib.hid (fun w' (kk : Bel wx w') => HWX.trans kk)
    have HCV2 := Lib.hid (fun w' (kk : Bel wx w') => HCV.out _ (box2_bel (HWX.trans kk)))
    have HGV2 := Lib.hid (fun w' (kk : Bel wx w') => HGV.out _ (box2_bel (HWX.trans kk)))
    have HPV2 := Lib.hid (fun w' (kk : Bel wx w') => HPV.out _ (box2_bel (HWX.trans kk)))
    clear hbx HWX
    replace HBX := HBX.drew
    go_region_held3 (fun w' => w'.cell? ⟨w.heap.size, 0, none⟩ = some (.string p.name) ∧ w'.cell? ⟨w.heap.size, 1, none⟩ = some (.slice A1 p.vars.length k1) ∧ w'.cell? ⟨w.heap.size, 2, none⟩ = some (.slice A2 p.rules.length k2) ∧ w'.cell? ⟨w.heap.size + 1, 0, none⟩ = some (.slice A3 g.ids.length k3) ∧ w'.cell? ⟨w.heap.size + 1, 1, none⟩ = some (.slice A4 g.ports.length k4) ∧ w'.cell? ⟨bq, 0, none⟩ = some (.string p.name) ∧ w'.cell? ⟨bq, 1, none⟩ = some (.slice A1 p.vars.length k1) ∧ w'.cell? ⟨bq, 2, none⟩ = some (.slice A7 n c7) ∧ w.heap.size + 1 < w'.heap.size ∧ bq < w'.heap.size) (exact hcell2.out _ HBX) (first
      | (go_simp; go_at_call 33; ((with_reducible refine (stepRule_any (.agg #[.string p.name, .slice A1 p.vars.length k1, .slice A2 p.rules.length k2]) p _ g _ c _ _ (HPV2.out _ HBX) (HGV2.out _ HBX) (HCV2.out _ HBX) HQ.out.1 HQ.out.2.1 HQ.out.2.2.1).mono ?_); rintro e w8 ⟨rfl, hb⟩; rw [HRP.out]; replace HBX := HBX.trans hb; clear hb))
      | (go_simp; go_at_call 33; ((with_reducible refine (stepRule_any (.agg #[.string p.name, .slice A1 p.vars.length k1, .slice A7 n c7]) (keepF p n) _ g _ c _ _ (HPK.out _ HBX) (HGV2.out _ HBX) (HCV2.out _ HBX) HLK.out HQ.out.2.1 HQ.out.2.2.1).mono ?_); rintro e w8 ⟨rfl, hb⟩; rw [HRK.out]; replace HBX := HBX.trans hb; clear hb)))
    rcases HJ.out with ⟨h1, h2, rfl⟩ | ⟨rfl, h⟩
    · have e1 : decide (0 ≤ kf) = true := by simpa using h1
      have e2 : decide (kf < 0) = false := by simp; omega
      have e3 : ((n : Int) == 0) = false := by simp; omega
      have e4 : (n == 0) = false := by simp; omega
      clear h1 h2
      go_wp2_with fail
      replace HBX := HBX.drew
      go_region_held3 (fun w' => w'.cell? ⟨w.heap.size, 0, none⟩ = some (.string p.name) ∧ w'.cell? ⟨w.heap.size, 1, none⟩ = some (.slice A1 p.vars.length k1) ∧ w'.cell? ⟨w.heap.size, 2, none⟩ = some (.slice A2 p.rules.length k2) ∧ w'.cell? ⟨w.heap.size + 1, 0, none⟩ = some (.slice A3 g.ids.length k3) ∧ w'.cell? ⟨w.heap.size + 1, 1, none⟩ = some (.slice A4 g.ports.length k4) ∧ w'.cell? ⟨bq, 0, none⟩ = some (.string p.name) ∧ w'.cell? ⟨bq, 1, none⟩ = some (.slice A1 p.vars.length k1) ∧ w'.cell? ⟨bq, 2, none⟩ = some (.slice A7 n c7) ∧ w.heap.size + 1 < w'.heap.size ∧ bq < w'.heap.size) (exact hcell2.out _ HBX) (first
        | (go_simp; go_at_call 26; refine (awake14_any _).mono ?_; rintro e w8 ⟨rfl, hb⟩; replace HBX := HBX.trans hb; clear hb)
        | (go_simp; go_at_call 35; ((with_reducible refine (stepEnabled_any (.agg #[.string p.name, .slice A1 p.vars.length k1, .slice A2 p.rules.length k2]) p _ g _ c _ (HPV2.out _ HBX) (HGV2.out _ HBX) (HCV2.out _ HBX) HQ.out.1 HQ.out.2.1 HQ.out.2.2.1).mono ?_); rintro e w8 ⟨rfl, hb⟩; rw [HEP.out]; replace HBX := HBX.trans hb; clear hb))
        | (go_simp; go_at_call 35; ((with_reducible refine (stepEnabled_any (.agg #[.string p.name, .slice A1 p.vars.length k1, .slice A7 n c7]) (keepF p n) _ g _ c _ (HPK.out _ HBX) (HGV2.out _ HBX) (HCV2.out _ HBX) HLK.out HQ.out.2.1 HQ.out.2.2.1).mono ?_); rintro e w8 ⟨rfl, hb⟩; rw [HEK.out]; replace HBX := HBX.trans hb; clear hb))
        | (go_simp; go_at_call 36; refine (refPrgValid_any _ (keepF p n) _ (HPK.out _ HBX) HLK.out).mono ?_; rintro e w8 ⟨rfl, hb⟩; rw [HCK.out]; replace HBX := HBX.trans hb; clear hb))
      go_wp2_with fail
      go_ret
      exact ⟨by simp, box2_bel (HWX2.out _ HBX)⟩
    · have hk : (decide (0 ≤ kf) = true ∧ decide (kf < (n : Int)) = false) ∨ decide (0 ≤ kf) = false := by
        rcases h with h | h
        · right; simpa using h
        · left; simp; omega
      clear h
      by_cases hn0 : n = 0
      · have e3 : ((n : Int) == 0) = true := by simp; omega
        have e4 : (n == 0) = true := by simp; omega
        have HZ := Lib.hid (HKN.out hn0)
        clear hn0
        rcases hk with ⟨e1, e2⟩ | e1
        all_goals
          obtain ⟨q0, q1, q2, q3, q4, q5, q6, q7, q8, q9⟩ := hcell2.out _ HBX
          go_wp2_with (go_at_call 35; refine (stepEnabled_any (.agg #[.string p.name, .slice A1 p.vars.length k1, .slice A7 n c7]) (keepF p n) _ g _ c _ (HPK.out _ HBX) (HGV2.out _ HBX) (HCV2.out _ HBX) HLK.out HQ.out.2.1 HQ.out.2.2.1).mono ?_; rintro e w8 ⟨rfl, hb⟩; rw [HEK.out, HZ.out]; replace HBX := HBX.trans hb; clear hb q0 q1 q2 q3 q4 q5 q6 q7 q8 q9)
          replace HBX := HBX.drew
          go_region_held3 (fun w' => w'.cell? ⟨w.heap.size, 0, none⟩ = some (.string p.name) ∧ w'.cell? ⟨w.heap.size, 1, none⟩ = some (.slice A1 p.vars.length k1) ∧ w'.cell? ⟨w.heap.size, 2, none⟩ = some (.slice A2 p.rules.length k2) ∧ w'.cell? ⟨w.heap.size + 1, 0, none⟩ = some (.slice A3 g.ids.length k3) ∧ w'.cell? ⟨w.heap.size + 1, 1, none⟩ = some (.slice A4 g.ports.length k4) ∧ w'.cell? ⟨bq, 0, none⟩ = some (.string p.name) ∧ w'.cell? ⟨bq, 1, none⟩ = some (.slice A1 p.vars.length k1) ∧ w'.cell? ⟨bq, 2, none⟩ = some (.slice A7 n c7) ∧ w.heap.size + 1 < w'.heap.size ∧ bq < w'.heap.size) (exact hcell2.out _ HBX) (first
            | (go_simp; go_at_call 26; refine (awake14_any _).mono ?_; rintro e w8 ⟨rfl, hb⟩; replace HBX := HBX.trans hb; clear hb)
            | (go_simp; go_at_call 35; ((with_reducible refine (stepEnabled_any (.agg #[.string p.name, .slice A1 p.vars.length k1, .slice A2 p.rules.length k2]) p _ g _ c _ (HPV2.out _ HBX) (HGV2.out _ HBX) (HCV2.out _ HBX) HQ.out.1 HQ.out.2.1 HQ.out.2.2.1).mono ?_); rintro e w8 ⟨rfl, hb⟩; rw [HEP.out]; replace HBX := HBX.trans hb; clear hb))
            | (go_simp; go_at_call 35; ((with_reducible refine (stepEnabled_any (.agg #[.string p.name, .slice A1 p.vars.length k1, .slice A7 n c7]) (keepF p n) _ g _ c _ (HPK.out _ HBX) (HGV2.out _ HBX) (HCV2.out _ HBX) HLK.out HQ.out.2.1 HQ.out.2.2.1).mono ?_); rintro e w8 ⟨rfl, hb⟩; rw [HEK.out]; replace HBX := HBX.trans hb; clear hb))
            | (go_simp; go_at_call 36; refine (refPrgValid_any _ (keepF p n) _ (HPK.out _ HBX) HLK.out).mono ?_; rintro e w8 ⟨rfl, hb⟩; rw [HCK.out]; replace HBX := HBX.trans hb; clear hb))
          go_wp2_with fail
          go_ret
          exact ⟨by simp, box2_bel (HWX2.out _ HBX)⟩
      · have e3 : ((n : Int) == 0) = false := by simp; omega
        have e4 : (n == 0) = false := by simp; omega
        clear hn0
        rcases hk with ⟨e1, e2⟩ | e1
        all_goals
          go_wp2_with fail
          replace HBX := HBX.drew
          go_region_held3 (fun w' => w'.cell? ⟨w.heap.size, 0, none⟩ = some (.string p.name) ∧ w'.cell? ⟨w.heap.size, 1, none⟩ = some (.slice A1 p.vars.length k1) ∧ w'.cell? ⟨w.heap.size, 2, none⟩ = some (.slice A2 p.rules.length k2) ∧ w'.cell? ⟨w.heap.size + 1, 0, none⟩ = some (.slice A3 g.ids.length k3) ∧ w'.cell? ⟨w.heap.size + 1, 1, none⟩ = some (.slice A4 g.ports.length k4) ∧ w'.cell? ⟨bq, 0, none⟩ = some (.string p.name) ∧ w'.cell? ⟨bq, 1, none⟩ = some (.slice A1 p.vars.length k1) ∧ w'.cell? ⟨bq, 2, none⟩ = some (.slice A7 n c7) ∧ w.heap.size + 1 < w'.heap.size ∧ bq < w'.heap.size) (exact hcell2.out _ HBX) (first
            | (go_simp; go_at_call 26; refine (awake14_any _).mono ?_; rintro e w8 ⟨rfl, hb⟩; replace HBX := HBX.trans hb; clear hb)
            | (go_simp; go_at_call 35; ((with_reducible refine (stepEnabled_any (.agg #[.string p.name, .slice A1 p.vars.length k1, .slice A2 p.rules.length k2]) p _ g _ c _ (HPV2.out _ HBX) (HGV2.out _ HBX) (HCV2.out _ HBX) HQ.out.1 HQ.out.2.1 HQ.out.2.2.1).mono ?_); rintro e w8 ⟨rfl, hb⟩; rw [HEP.out]; replace HBX := HBX.trans hb; clear hb))
            | (go_simp; go_at_call 35; ((with_reducible refine (stepEnabled_any (.agg #[.string p.name, .slice A1 p.vars.length k1, .slice A7 n c7]) (keepF p n) _ g _ c _ (HPK.out _ HBX) (HGV2.out _ HBX) (HCV2.out _ HBX) HLK.out HQ.out.2.1 HQ.out.2.2.1).mono ?_); rintro e w8 ⟨rfl, hb⟩; rw [HEK.out]; replace HBX := HBX.trans hb; clear hb))
            | (go_simp; go_at_call 36; refine (refPrgValid_any _ (keepF p n) _ (HPK.out _ HBX) HLK.out).mono ?_; rintro e w8 ⟨rfl, hb⟩; rw [HCK.out]; replace HBX := HBX.trans hb; clear hb))
          go_wp2_with fail
          go_ret
          exact ⟨by simp, box2_bel (HWX2.out _ HBX)⟩

end Go.Proofs.YtibfjhhadbkkgaaGreat

