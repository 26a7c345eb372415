/- Merged of: L11g (see NOTES.md). -/
import Derived.Test.YtjlhdbgbkkjbdaaGreatZ18
import Derived.Test.YtjlhdbgbkkjbdaaGreatZ15
set_option linter.unusedSimpArgs false
set_option linter.unnecessarySimpa false
set_option linter.unusedVariables false

/- The walk of EvalHasTypes. -/
namespace Go.Proofs.YtjlhdbgbkkjbdaaGreat
open Go.RowKit

/-- What eval.Value returns at a node, where the arguments fit. -/
theorem valueF_node {p : Prg} {g : Graph} {c : Config} {q : Nat} {es : List Term} (hm : memF p g c = 0) (hq : q < c.length) : valueF p g c (q : Int) es = if (ofF es (kindsF p) false).2 ≠ 0 then (0, (ofF es (kindsF p) false).2) else (evalF g c q (-1) (treeOf es), 0) := by
  unfold valueF
  rw [if_neg (by simpa using hm), if_neg (by omega), Int.toNat_natCast]
theorem value_typed {p : Prg} {g : Graph} {c : Config} {q : Nat} {es : List Term} (hm : memF p g c = 0) (hq : q < c.length) (ho : (ofF es (kindsF p) false).2 = 0) : Num (evalF g c q (-1) (treeOf es)) ∧ TypedV (ofF es (kindsF p) false).1 (evalF g c q (-1) (treeOf es)) := by
  obtain ⟨o1, o2, o3⟩ := ofF_ok ho
  obtain ⟨t1, t2, _, t4, _, _⟩ := valid_treeOf o1
  rw [kindsF_length] at t4
  have hs := mem_sok hm hq
  have ha : ∀ t ∈ (treeOf es).terms, argF t p.vars.length = true := by rw [t2]; exact t4
  rw [o3]
  exact ⟨eval_num hs t1 ha (kind_bound o2) portOK_false, eval_typed hs t1 ha (kind_bound o2) portOK_false⟩
theorem mod_node (k : Int) {n : Nat} (h : 0 < n) : ∃ q : Nat, modF k (n : Int) = (q : Int) ∧ q < n := by
  have h1 := Int.emod_nonneg k (show (n : Int) ≠ 0 by omega)
  have h2 := Int.emod_lt_of_pos k (show (0 : Int) < n by omega)
  obtain ⟨q, hq⟩ := Int.eq_ofNat_of_zero_le h1
  exact ⟨q, hq, by omega⟩
theorem mem_pos {p : Prg} {g : Graph} {c : Config} (hm : memF p g c = 0) : 0 < c.length := by
  obtain ⟨f1, f2⟩ := mem_zero hm
  rw [(confB_iff.1 f2).1, tableF_length, (fits_zero f1).2.1.ids]
  exact (fits_zero f1).2.1.pos
set_option maxRecDepth 100000 in
set_option maxHeartbeats 4000000 in
theorem evalHasTypes_walk (v1 : Value) (p : Prg) (v2 : Value) (g : Graph) (v3 : Value) (c : Config) (v : Int) (A : Option Addr) (n ce : Nat) (es : List Term) (w : World) (h : PrgV w v1 p) (h2 : GraphV w v2 g) (h3 : ConfV w v3 c) (hT : TermsR w A n es) :
    Calls Tryz.prog 6 #[v1, v2, v3, .int .i64 v, .slice A n ce] w fun e w' => e = .returned (.bool true) ∧ Bel w w' := by
  obtain rfl : n = es.length := hT.1.symm
  have HPV := Lib.hid (fun w' (k : Bel w w') => h.keep k)
  have HGV := Lib.hid (fun w' (k : Bel w w') => h2.keep k)
  have HCV := Lib.hid (fun w' (k : Bel w w') => h3.keep k)
  have HT := Lib.hid (fun w' (k : Bel w w') => TermsR.keep hT k)
  obtain ⟨A1, k1, A2, k2, rfl, _, _, _, _, _, _⟩ := h
  obtain ⟨A3, k3, A4, k4, rfl, _, _, _, _, _, _⟩ := h2
  obtain ⟨A5, k5, rfl, _, _, _⟩ := h3
  clear hT
  have HW := Bel.refl ((w.alloc (.cells #[.string p.name, .slice A1 p.vars.length k1, .slice A2 p.rules.length k2] 25)).alloc (.cells #[.slice A3 g.ids.length k3, .slice A4 g.ports.length k4] 29))
  cases hq : quick11F p g c es.length with
  | false =>
    go_enter Tryz.func6, Tryz.ntmps6
    go_wp2_with (first
      | (go_at_call 8; refine (quick11_any _ p _ g _ c _ _ _ _ (HPV.out _ (box2_bel HW)) (HGV.out _ (box2_bel HW)) (HCV.out _ (box2_bel HW))).mono ?_; rintro e w' ⟨rfl, hb⟩; rw [hq]; replace HW := HW.trans hb; clear hb)
      | (go_at_call 9; refine (awake11_any _).mono ?_; rintro e w' ⟨rfl, hb⟩; replace HW := HW.trans hb; clear hb))
    go_ret
    exact ⟨rfl, box2_bel HW⟩
  | true =>
    have HQ := Lib.hid (quick11_parts hq)
    cases hm : decide (memF p g c = 0) with
    | false =>
      go_enter Tryz.func6, Tryz.ntmps6
      go_wp2_with (first
        | (go_at_call 8; refine (quick11_any _ p _ g _ c _ _ _ _ (HPV.out _ (box2_bel HW)) (HGV.out _ (box2_bel HW)) (HCV.out _ (box2_bel HW))).mono ?_; rintro e w' ⟨rfl, hb⟩; rw [hq]; replace HW := HW.trans hb; clear hb; obtain ⟨p0, p1, p2, g0, g1, gsz⟩ := pgbox HW)
        | (go_at_call 15; refine (refMemValid_any _ p _ g _ c _ (HPV.out _ (box2_bel HW)) (HGV.out _ (box2_bel HW)) (HCV.out _ (box2_bel HW)) HQ.out.2.1 HQ.out.2.2.1 HQ.out.2.2.2.1).mono ?_; rintro e w' ⟨rfl, hb⟩; rw [hm]; replace HW := HW.trans hb; clear hb p0 p1 p2 g0 g1 gsz)
        | (go_at_call 9; refine (awake11_any _).mono ?_; rintro e w' ⟨rfl, hb⟩; replace HW := HW.trans hb; clear hb))
      go_ret
      exact ⟨rfl, box2_bel HW⟩
    | true =>
      have HM := Lib.hid (of_decide_eq_true hm)
      obtain ⟨q, hmq, hql⟩ := mod_node v (mem_pos HM.out)
      have HMQ := Lib.hid hmq
      have HV := Lib.hid (valueF_node (es := es) HM.out hql)
      have hc30 := (lightC_parts HQ.out.2.2.2.1).1
      have hv10 := (lightP_parts HQ.out.2.1).2.1
      have hcp := mem_pos HM.out
      have HTY := Lib.hid (fun ho => value_typed (es := es) HM.out hql ho)
      have hcell := Lib.hid (fun w' (kk : Bel ((w.alloc (.cells #[.string p.name, .slice A1 p.vars.length k1, .slice A2 p.rules.length k2] 25)).alloc (.cells #[.slice A3 g.ids.length k3, .slice A4 g.ports.length k4] 29)) w') => pgbox kk)
      have HN : Hid (numB (evalF g c q (-1) (treeOf es)) = true ∨ (ofF es (kindsF p) false).2 ≠ 0) := by
        by_cases ho : (ofF es (kindsF p) false).2 = 0
        · exact .inl (numB_true (HTY.out ho).1)
        · exact .inr ho
      generalize hx : evalF g c q (-1) (treeOf es) = x at HV HN HTY
      obtain ⟨k, f, hkf⟩ : ∃ k f, ofF es (kindsF p) false = (k, f) := ⟨_, _, rfl⟩
      have HO := Lib.hid hkf
      rw [hkf] at HV HN HTY
      clear hmq hx hkf hql
      dsimp only at HV HN HTY
      by_cases hf : f = 0
      · subst hf
        rw [if_neg (by simp)] at HV
        obtain ⟨ty1, ty2⟩ := HTY.out rfl
        have hnb : numB x = true := by rcases HN.out with h | h; exact h; exact absurd rfl h
        clear HTY HN ty1
        by_cases hk2 : k = 2
        · subst hk2
          rcases ty2.1 rfl with hx0 | hx1
          · subst hx0
            clear ty2
            go_enter Tryz.func6, Tryz.ntmps6
            go_wp2_with (first
              | (go_at_call 8; refine (quick11_any _ p _ g _ c _ _ _ _ (HPV.out _ (box2_bel HW)) (HGV.out _ (box2_bel HW)) (HCV.out _ (box2_bel HW))).mono ?_; rintro e w' ⟨rfl, hb⟩; rw [hq]; replace HW := HW.trans hb; clear hb; obtain ⟨p0, p1, p2, g0, g1, gsz⟩ := pgbox HW)
              | (go_at_call 15; refine (refMemValid_any _ p _ g _ c _ (HPV.out _ (box2_bel HW)) (HGV.out _ (box2_bel HW)) (HCV.out _ (box2_bel HW)) HQ.out.2.1 HQ.out.2.2.1 HQ.out.2.2.2.1).mono ?_; rintro e w' ⟨rfl, hb⟩; rw [hm]; replace HW := HW.trans hb; clear hb p0 p1 p2 g0 g1 gsz; obtain ⟨p0, p1, p2, g0, g1, gsz⟩ := pgbox HW)
              | (go_at_call 21; refine (refKinds_any _ p _ (HPV.out _ (box2_bel HW)) (by omega)).mono ?_; rintro e w' ⟨KA, kc, rfl, hK, _, _, hb⟩; have HK := Lib.hid hK; replace HW := HW.trans hb; clear hb hK p0 p1 p2 g0 g1 gsz)
              | (go_at_call 20; refine (refOf_any _ _ es _ _ (kindsF p) _ _ (HT.out _ (box2_bel HW)) HK.out (Nat.le_trans HQ.out.2.2.2.2 (by omega))).mono ?_; rintro e w' ⟨rfl, hb⟩; rw [HO.out]; replace HW := HW.trans hb; clear hb HK))
            replace HW := HW.drew
            go_region_held3 (fun w' => w'.cell? ⟨w.heap.size, 0, none⟩ = some (.string p.name) ∧ w'.cell? ⟨w.heap.size, 1, none⟩ = some (.slice A1 p.vars.length k1) ∧ w'.cell? ⟨w.heap.size, 2, none⟩ = some (.slice A2 p.rules.length k2) ∧ w'.cell? ⟨w.heap.size + 1, 0, none⟩ = some (.slice A3 g.ids.length k3) ∧ w'.cell? ⟨w.heap.size + 1, 1, none⟩ = some (.slice A4 g.ports.length k4) ∧ w.heap.size + 1 < w'.heap.size) (exact hcell.out _ HW) (first
              | (go_simp; go_at_call 16; refine (mod_any _ _ _ (by omega) (by omega)).mono ?_; rintro e w' ⟨rfl, rfl⟩; rw [HMQ.out])
              | (go_simp; go_at_call 12; refine (evalValue_any _ p _ g _ c _ _ _ es _ (HPV.out _ (box2_bel HW)) (HGV.out _ (box2_bel HW)) (HCV.out _ (box2_bel HW)) (HT.out _ (box2_bel HW)) HQ.out.2.1 HQ.out.2.2.1 HQ.out.2.2.2.1 (Nat.le_trans HQ.out.2.2.2.2 (by omega))).mono ?_; rintro e w' ⟨rfl, hb⟩; rw [HV.out]; replace HW := HW.trans hb; clear hb))
            go_wp2_with (first
              | (go_at_call 9; refine (awake11_any _).mono ?_; rintro e w' ⟨rfl, hb⟩; replace HW := HW.trans hb; clear hb)
              | (go_at_call 22; refine (refNumber_any _ _).mono ?_; rintro e w' ⟨rfl, rfl⟩))
            go_ret
            exact ⟨by simp, box2_bel HW⟩
          · subst hx1
            clear ty2
            go_enter Tryz.func6, Tryz.ntmps6
            go_wp2_with (first
              | (go_at_call 8; refine (quick11_any _ p _ g _ c _ _ _ _ (HPV.out _ (box2_bel HW)) (HGV.out _ (box2_bel HW)) (HCV.out _ (box2_bel HW))).mono ?_; rintro e w' ⟨rfl, hb⟩; rw [hq]; replace HW := HW.trans hb; clear hb; obtain ⟨p0, p1, p2, g0, g1, gsz⟩ := pgbox HW)
              | (go_at_call 15; refine (refMemValid_any _ p _ g _ c _ (HPV.out _ (box2_bel HW)) (HGV.out _ (box2_bel HW)) (HCV.out _ (box2_bel HW)) HQ.out.2.1 HQ.out.2.2.1 HQ.out.2.2.2.1).mono ?_; rintro e w' ⟨rfl, hb⟩; rw [hm]; replace HW := HW.trans hb; clear hb p0 p1 p2 g0 g1 gsz; obtain ⟨p0, p1, p2, g0, g1, gsz⟩ := pgbox HW)
              | (go_at_call 21; refine (refKinds_any _ p _ (HPV.out _ (box2_bel HW)) (by omega)).mono ?_; rintro e w' ⟨KA, kc, rfl, hK, _, _, hb⟩; have HK := Lib.hid hK; replace HW := HW.trans hb; clear hb hK p0 p1 p2 g0 g1 gsz)
              | (go_at_call 20; refine (refOf_any _ _ es _ _ (kindsF p) _ _ (HT.out _ (box2_bel HW)) HK.out (Nat.le_trans HQ.out.2.2.2.2 (by omega))).mono ?_; rintro e w' ⟨rfl, hb⟩; rw [HO.out]; replace HW := HW.trans hb; clear hb HK))
            replace HW := HW.drew
            go_region_held3 (fun w' => w'.cell? ⟨w.heap.size, 0, none⟩ = some (.string p.name) ∧ w'.cell? ⟨w.heap.size, 1, none⟩ = some (.slice A1 p.vars.length k1) ∧ w'.cell? ⟨w.heap.size, 2, none⟩ = some (.slice A2 p.rules.length k2) ∧ w'.cell? ⟨w.heap.size + 1, 0, none⟩ = some (.slice A3 g.ids.length k3) ∧ w'.cell? ⟨w.heap.size + 1, 1, none⟩ = some (.slice A4 g.ports.length k4) ∧ w.heap.size + 1 < w'.heap.size) (exact hcell.out _ HW) (first
              | (go_simp; go_at_call 16; refine (mod_any _ _ _ (by omega) (by omega)).mono ?_; rintro e w' ⟨rfl, rfl⟩; rw [HMQ.out])
              | (go_simp; go_at_call 12; refine (evalValue_any _ p _ g _ c _ _ _ es _ (HPV.out _ (box2_bel HW)) (HGV.out _ (box2_bel HW)) (HCV.out _ (box2_bel HW)) (HT.out _ (box2_bel HW)) HQ.out.2.1 HQ.out.2.2.1 HQ.out.2.2.2.1 (Nat.le_trans HQ.out.2.2.2.2 (by omega))).mono ?_; rintro e w' ⟨rfl, hb⟩; rw [HV.out]; replace HW := HW.trans hb; clear hb))
            go_wp2_with (first
              | (go_at_call 9; refine (awake11_any _).mono ?_; rintro e w' ⟨rfl, hb⟩; replace HW := HW.trans hb; clear hb)
              | (go_at_call 22; refine (refNumber_any _ _).mono ?_; rintro e w' ⟨rfl, rfl⟩))
            go_ret
            exact ⟨by simp, box2_bel HW⟩
        · have hk2b : (k != 2) = true := by simpa using hk2
          by_cases hk3 : k = 3
          · subst hk3
            obtain ⟨x1, x2⟩ := ty2.2 rfl
            have hd1 : decide (-1 ≤ x) = true := by simpa using x1
            have hd2 : decide (x < 24) = true := by simpa using x2
            clear ty2 hk2 x1 x2
            go_enter Tryz.func6, Tryz.ntmps6
            go_wp2_with (first
              | (go_at_call 8; refine (quick11_any _ p _ g _ c _ _ _ _ (HPV.out _ (box2_bel HW)) (HGV.out _ (box2_bel HW)) (HCV.out _ (box2_bel HW))).mono ?_; rintro e w' ⟨rfl, hb⟩; rw [hq]; replace HW := HW.trans hb; clear hb; obtain ⟨p0, p1, p2, g0, g1, gsz⟩ := pgbox HW)
              | (go_at_call 15; refine (refMemValid_any _ p _ g _ c _ (HPV.out _ (box2_bel HW)) (HGV.out _ (box2_bel HW)) (HCV.out _ (box2_bel HW)) HQ.out.2.1 HQ.out.2.2.1 HQ.out.2.2.2.1).mono ?_; rintro e w' ⟨rfl, hb⟩; rw [hm]; replace HW := HW.trans hb; clear hb p0 p1 p2 g0 g1 gsz; obtain ⟨p0, p1, p2, g0, g1, gsz⟩ := pgbox HW)
              | (go_at_call 21; refine (refKinds_any _ p _ (HPV.out _ (box2_bel HW)) (by omega)).mono ?_; rintro e w' ⟨KA, kc, rfl, hK, _, _, hb⟩; have HK := Lib.hid hK; replace HW := HW.trans hb; clear hb hK p0 p1 p2 g0 g1 gsz)
              | (go_at_call 20; refine (refOf_any _ _ es _ _ (kindsF p) _ _ (HT.out _ (box2_bel HW)) HK.out (Nat.le_trans HQ.out.2.2.2.2 (by omega))).mono ?_; rintro e w' ⟨rfl, hb⟩; rw [HO.out]; replace HW := HW.trans hb; clear hb HK))
            replace HW := HW.drew
            go_region_held3 (fun w' => w'.cell? ⟨w.heap.size, 0, none⟩ = some (.string p.name) ∧ w'.cell? ⟨w.heap.size, 1, none⟩ = some (.slice A1 p.vars.length k1) ∧ w'.cell? ⟨w.heap.size, 2, none⟩ = some (.slice A2 p.rules.length k2) ∧ w'.cell? ⟨w.heap.size + 1, 0, none⟩ = some (.slice A3 g.ids.length k3) ∧ w'.cell? ⟨w.heap.size + 1, 1, none⟩ = some (.slice A4 g.ports.length k4) ∧ w.heap.size + 1 < w'.heap.size) (exact hcell.out _ HW) (first
              | (go_simp; go_at_call 16; refine (mod_any _ _ _ (by omega) (by omega)).mono ?_; rintro e w' ⟨rfl, rfl⟩; rw [HMQ.out])
              | (go_simp; go_at_call 12; refine (evalValue_any _ p _ g _ c _ _ _ es _ (HPV.out _ (box2_bel HW)) (HGV.out _ (box2_bel HW)) (HCV.out _ (box2_bel HW)) (HT.out _ (box2_bel HW)) HQ.out.2.1 HQ.out.2.2.1 HQ.out.2.2.2.1 (Nat.le_trans HQ.out.2.2.2.2 (by omega))).mono ?_; rintro e w' ⟨rfl, hb⟩; rw [HV.out]; replace HW := HW.trans hb; clear hb))
            go_wp2_with (first
              | (go_at_call 9; refine (awake11_any _).mono ?_; rintro e w' ⟨rfl, hb⟩; replace HW := HW.trans hb; clear hb)
              | (go_at_call 22; refine (refNumber_any _ _).mono ?_; rintro e w' ⟨rfl, rfl⟩))
            go_ret
            exact ⟨by simp, box2_bel HW⟩
          · have hk3b : (k != 3) = true := by simpa using hk3
            clear ty2 hk2 hk3
            go_enter Tryz.func6, Tryz.ntmps6
            go_wp2_with (first
              | (go_at_call 8; refine (quick11_any _ p _ g _ c _ _ _ _ (HPV.out _ (box2_bel HW)) (HGV.out _ (box2_bel HW)) (HCV.out _ (box2_bel HW))).mono ?_; rintro e w' ⟨rfl, hb⟩; rw [hq]; replace HW := HW.trans hb; clear hb; obtain ⟨p0, p1, p2, g0, g1, gsz⟩ := pgbox HW)
              | (go_at_call 15; refine (refMemValid_any _ p _ g _ c _ (HPV.out _ (box2_bel HW)) (HGV.out _ (box2_bel HW)) (HCV.out _ (box2_bel HW)) HQ.out.2.1 HQ.out.2.2.1 HQ.out.2.2.2.1).mono ?_; rintro e w' ⟨rfl, hb⟩; rw [hm]; replace HW := HW.trans hb; clear hb p0 p1 p2 g0 g1 gsz; obtain ⟨p0, p1, p2, g0, g1, gsz⟩ := pgbox HW)
              | (go_at_call 21; refine (refKinds_any _ p _ (HPV.out _ (box2_bel HW)) (by omega)).mono ?_; rintro e w' ⟨KA, kc, rfl, hK, _, _, hb⟩; have HK := Lib.hid hK; replace HW := HW.trans hb; clear hb hK p0 p1 p2 g0 g1 gsz)
              | (go_at_call 20; refine (refOf_any _ _ es _ _ (kindsF p) _ _ (HT.out _ (box2_bel HW)) HK.out (Nat.le_trans HQ.out.2.2.2.2 (by omega))).mono ?_; rintro e w' ⟨rfl, hb⟩; rw [HO.out]; replace HW := HW.trans hb; clear hb HK))
            replace HW := HW.drew
            go_region_held3 (fun w' => w'.cell? ⟨w.heap.size, 0, none⟩ = some (.string p.name) ∧ w'.cell? ⟨w.heap.size, 1, none⟩ = some (.slice A1 p.vars.length k1) ∧ w'.cell? ⟨w.heap.size, 2, none⟩ = some (.slice A2 p.rules.length k2) ∧ w'.cell? ⟨w.heap.size + 1, 0, none⟩ = some (.slice A3 g.ids.length k3) ∧ w'.cell? ⟨w.heap.size + 1, 1, none⟩ = some (.slice A4 g.ports.length k4) ∧ w.heap.size + 1 < w'.heap.size) (exact hcell.out _ HW) (first
              | (go_simp; go_at_call 16; refine (mod_any _ _ _ (by omega) (by omega)).mono ?_; rintro e w' ⟨rfl, rfl⟩; rw [HMQ.out])
              | (go_simp; go_at_call 12; refine (evalValue_any _ p _ g _ c _ _ _ es _ (HPV.out _ (box2_bel HW)) (HGV.out _ (box2_bel HW)) (HCV.out _ (box2_bel HW)) (HT.out _ (box2_bel HW)) HQ.out.2.1 HQ.out.2.2.1 HQ.out.2.2.2.1 (Nat.le_trans HQ.out.2.2.2.2 (by omega))).mono ?_; rintro e w' ⟨rfl, hb⟩; rw [HV.out]; replace HW := HW.trans hb; clear hb))
            go_wp2_with (first
              | (go_at_call 9; refine (awake11_any _).mono ?_; rintro e w' ⟨rfl, hb⟩; replace HW := HW.trans hb; clear hb)
              | (go_at_call 22; refine (refNumber_any _ _).mono ?_; rintro e w' ⟨rfl, rfl⟩))
            go_ret
            exact ⟨by simp, box2_bel HW⟩
      · rw [if_pos hf] at HV
        have hfb : (f != 0) = true := by simpa using hf
        clear HTY HN hf
        go_enter Tryz.func6, Tryz.ntmps6
        go_wp2_with (first
          | (go_at_call 8; refine (quick11_any _ p _ g _ c _ _ _ _ (HPV.out _ (box2_bel HW)) (HGV.out _ (box2_bel HW)) (HCV.out _ (box2_bel HW))).mono ?_; rintro e w' ⟨rfl, hb⟩; rw [hq]; replace HW := HW.trans hb; clear hb; obtain ⟨p0, p1, p2, g0, g1, gsz⟩ := pgbox HW)
          | (go_at_call 15; refine (refMemValid_any _ p _ g _ c _ (HPV.out _ (box2_bel HW)) (HGV.out _ (box2_bel HW)) (HCV.out _ (box2_bel HW)) HQ.out.2.1 HQ.out.2.2.1 HQ.out.2.2.2.1).mono ?_; rintro e w' ⟨rfl, hb⟩; rw [hm]; replace HW := HW.trans hb; clear hb p0 p1 p2 g0 g1 gsz; obtain ⟨p0, p1, p2, g0, g1, gsz⟩ := pgbox HW)
          | (go_at_call 21; refine (refKinds_any _ p _ (HPV.out _ (box2_bel HW)) (by omega)).mono ?_; rintro e w' ⟨KA, kc, rfl, hK, _, _, hb⟩; have HK := Lib.hid hK; replace HW := HW.trans hb; clear hb hK p0 p1 p2 g0 g1 gsz)
          | (go_at_call 20; refine (refOf_any _ _ es _ _ (kindsF p) _ _ (HT.out _ (box2_bel HW)) HK.out (Nat.le_trans HQ.out.2.2.2.2 (by omega))).mono ?_; rintro e w' ⟨rfl, hb⟩; rw [HO.out]; replace HW := HW.trans hb; clear hb HK))
        replace HW := HW.drew
        go_region_held3 (fun w' => w'.cell? ⟨w.heap.size, 0, none⟩ = some (.string p.name) ∧ w'.cell? ⟨w.heap.size, 1, none⟩ = some (.slice A1 p.vars.length k1) ∧ w'.cell? ⟨w.heap.size, 2, none⟩ = some (.slice A2 p.rules.length k2) ∧ w'.cell? ⟨w.heap.size + 1, 0, none⟩ = some (.slice A3 g.ids.length k3) ∧ w'.cell? ⟨w.heap.size + 1, 1, none⟩ = some (.slice A4 g.ports.length k4) ∧ w.heap.size + 1 < w'.heap.size) (exact hcell.out _ HW) (first
          | (go_simp; go_at_call 16; refine (mod_any _ _ _ (by omega) (by omega)).mono ?_; rintro e w' ⟨rfl, rfl⟩; rw [HMQ.out])
          | (go_simp; go_at_call 12; refine (evalValue_any _ p _ g _ c _ _ _ es _ (HPV.out _ (box2_bel HW)) (HGV.out _ (box2_bel HW)) (HCV.out _ (box2_bel HW)) (HT.out _ (box2_bel HW)) HQ.out.2.1 HQ.out.2.2.1 HQ.out.2.2.2.1 (Nat.le_trans HQ.out.2.2.2.2 (by omega))).mono ?_; rintro e w' ⟨rfl, hb⟩; rw [HV.out]; replace HW := HW.trans hb; clear hb))
        go_wp2_with (first
          | (go_at_call 9; refine (awake11_any _).mono ?_; rintro e w' ⟨rfl, hb⟩; replace HW := HW.trans hb; clear hb)
          | (go_at_call 22; refine (refNumber_any _ _).mono ?_; rintro e w' ⟨rfl, rfl⟩))
        go_ret
        exact ⟨by simp, box2_bel HW⟩

end Go.Proofs.YtjlhdbgbkkjbdaaGreat

