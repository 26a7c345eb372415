/- Merged of: L13b (see NOTES.md). -/
import Derived.Test.YtaifafljakojnaaGreatZ27
set_option linter.unusedSimpArgs false
set_option linter.unnecessarySimpa false
set_option linter.unusedVariables false

/- The walk of MachineRefusesUnverified. -/
namespace Go.Proofs.YtaifafljakojnaaGreat
open Go.RowKit

/-- A list that Verify refuses, and one that it accepts, at a node. -/
theorem runF_bad {p : Prg} {g : Graph} {c : Config} {q : Nat} {l : List Term} (hm : memF p g c = 0) (hq : q < c.length) (hl : (verifyF l p.vars.length).2.2 ≠ 0) : runF p g c (q : Int) l = (0, 0, 7) := by
  rw [runF_node hm hq, if_pos hl]
theorem mod_node13 {v : Int} {n : Nat} (hn : 0 < n) : ∃ q : Nat, modF v n = (q : Int) ∧ q < n := by
  have h1 : 0 ≤ modF v n := Int.emod_nonneg _ (by omega)
  have h2 : modF v n < n := Int.emod_lt_of_pos _ (by omega)
  obtain ⟨q, hq⟩ := Int.eq_ofNat_of_zero_le h1
  exact ⟨q, hq, by omega⟩
theorem mem_pos13 {p : Prg} {g : Graph} {c : Config} (hm : memF p g c = 0) : 0 < c.length := by
  have h1 := (confB_iff.1 (mem_zero hm).2).1
  rw [tableF_length] at h1
  have h2 := (fits_zero (mem_zero hm).1).2.1
  have h3 := h2.ids
  have h4 := h2.pos
  omega
set_option maxRecDepth 100000 in
set_option maxHeartbeats 4000000 in
theorem machineRefuses_walk (L : Option Addr) (n c0 : Nat) (l : List Term) (v1 : Value) (p : Prg) (v2 : Value) (g : Graph) (v3 : Value) (c : Config) (v : Int) (w : World) (hT : TermsR w L n l) (hcap : n ≤ c0) (hmx : c0 ≤ maxLen) (h : PrgV w v1 p) (h2 : GraphV w v2 g) (h3 : ConfV w v3 c) :
    Calls Tryz.prog 6 #[.slice L n c0, v1, v2, v3, .int .i64 v] w fun e w' => e = .returned (.bool true) ∧ Bel w w' := by
  obtain rfl := hT.1
  have HTV := Lib.hid (fun w' (k : Bel w w') => hT.keep k)
  have hnm : l.length ≤ maxLen := by omega
  clear hT
  have HPV := Lib.hid (fun w' (k : Bel w w') => h.keep k)
  have HGV := Lib.hid (fun w' (k : Bel w w') => h2.keep k)
  have HCV := Lib.hid (fun w' (k : Bel w w') => h3.keep k)
  obtain ⟨A1, k1, A2, k2, rfl, _, _, _, _, _, _⟩ := h
  obtain ⟨A3, k3, A4, k4, rfl, _, _, _, _, _, _⟩ := h2
  obtain ⟨A5, k5, rfl, _, _, _⟩ := h3
  have HW := Bel.refl ((w.alloc (.cells #[.string p.name, .slice A1 p.vars.length k1, .slice A2 p.rules.length k2] 26)).alloc (.cells #[.slice A3 g.ids.length k3, .slice A4 g.ports.length k4] 30))
  have HNM := Lib.hid hnm
  have HCAP := Lib.hid hcap
  clear hnm hcap hmx
  cases hq : quick13F l p g c with
  | false =>
    go_enter Tryz.func6, Tryz.ntmps6
    go_wp2_with (first
      | (go_at_call 8; refine (quick13_any L l.length c0 l _ p _ g _ c _ rfl HNM.out (HPV.out _ (box2_bel HW)) (HGV.out _ (box2_bel HW)) (HCV.out _ (box2_bel HW))).mono ?_; rintro e w' ⟨rfl, hb⟩; rw [hq]; replace HW := HW.trans hb; clear hb; (try clear p0 p1 p2 g0 g1 gsz); obtain ⟨p0, p1, p2, g0, g1, gsz⟩ := pgbox HW)
      | (go_at_call 9; refine (awake13_any _).mono ?_; rintro e w' ⟨rfl, hb⟩; replace HW := HW.trans hb; clear hb; (try clear p0 p1 p2 g0 g1 gsz); obtain ⟨p0, p1, p2, g0, g1, gsz⟩ := pgbox HW))
    go_ret
    exact ⟨rfl, box2_bel HW⟩
  | true =>
    have HQ := Lib.hid (quick13_parts hq)
    cases hm : decide (memF p g c = 0) with
    | false =>
      go_enter Tryz.func6, Tryz.ntmps6
      go_wp2_with (first
        | (go_at_call 8; refine (quick13_any L l.length c0 l _ p _ g _ c _ rfl HNM.out (HPV.out _ (box2_bel HW)) (HGV.out _ (box2_bel HW)) (HCV.out _ (box2_bel HW))).mono ?_; rintro e w' ⟨rfl, hb⟩; rw [hq]; replace HW := HW.trans hb; clear hb; (try clear p0 p1 p2 g0 g1 gsz); obtain ⟨p0, p1, p2, g0, g1, gsz⟩ := pgbox HW)
        | (go_at_call 12; refine (refMemValid_any _ p _ g _ c _ (HPV.out _ (box2_bel HW)) (HGV.out _ (box2_bel HW)) (HCV.out _ (box2_bel HW)) HQ.out.1 HQ.out.2.1 HQ.out.2.2.1).mono ?_; rintro e w' ⟨rfl, hb⟩; rw [hm]; replace HW := HW.trans hb; clear hb; (try clear p0 p1 p2 g0 g1 gsz); obtain ⟨p0, p1, p2, g0, g1, gsz⟩ := pgbox HW)
        | (go_at_call 9; refine (awake13_any _).mono ?_; rintro e w' ⟨rfl, hb⟩; replace HW := HW.trans hb; clear hb; (try clear p0 p1 p2 g0 g1 gsz); obtain ⟨p0, p1, p2, g0, g1, gsz⟩ := pgbox HW))
      go_ret
      exact ⟨rfl, box2_bel HW⟩
    | true =>
      have HM := Lib.hid (of_decide_eq_true hm)
      obtain ⟨q, hmod, hqc⟩ := mod_node13 (v := v) (mem_pos13 HM.out)
      have HMOD := Lib.hid hmod
      have hc30 := (lightC_parts HQ.out.2.2.1).1
      have hcp := mem_pos13 HM.out
      have hvl := (lightP_parts HQ.out.1).2.1
      have hcell := Lib.hid (fun w' (kk : Bel ((w.alloc (.cells #[.string p.name, .slice A1 p.vars.length k1, .slice A2 p.rules.length k2] 26)).alloc (.cells #[.slice A3 g.ids.length k3, .slice A4 g.ports.length k4] 30)) w') => pgbox kk)
      clear hmod
      by_cases hv : (verifyF l p.vars.length).2.2 = 0
      · obtain ⟨x, i, hr, _, hi, _, _⟩ := runF_ok HM.out hqc hv
        have hv1 : ((verifyF l p.vars.length).2.2 != 0) = false := by simpa using hv
        have HR := Lib.hid hr
        have hi1 : decide ((1 : Int) ≤ (i : Int)) = true := by simp; omega
        clear hr hv hqc hi
        go_enter Tryz.func6, Tryz.ntmps6
        go_wp2_with (first
          | (go_at_call 8; refine (quick13_any L l.length c0 l _ p _ g _ c _ rfl HNM.out (HPV.out _ (box2_bel HW)) (HGV.out _ (box2_bel HW)) (HCV.out _ (box2_bel HW))).mono ?_; rintro e w' ⟨rfl, hb⟩; rw [hq]; replace HW := HW.trans hb; clear hb; (try clear p0 p1 p2 g0 g1 gsz); obtain ⟨p0, p1, p2, g0, g1, gsz⟩ := pgbox HW)
          | (go_at_call 12; refine (refMemValid_any _ p _ g _ c _ (HPV.out _ (box2_bel HW)) (HGV.out _ (box2_bel HW)) (HCV.out _ (box2_bel HW)) HQ.out.1 HQ.out.2.1 HQ.out.2.2.1).mono ?_; rintro e w' ⟨rfl, hb⟩; rw [hm]; replace HW := HW.trans hb; clear hb; (try clear p0 p1 p2 g0 g1 gsz); obtain ⟨p0, p1, p2, g0, g1, gsz⟩ := pgbox HW)
          | (go_at_call 17; refine (verify_any L l.length c0 l _ _ (HTV.out _ (box2_bel HW)) (Nat.le_trans HQ.out.2.2.2 (by decide)) HCAP.out (by omega) (by omega)).mono ?_; rintro e w' ⟨rfl, hb⟩; replace HW := HW.trans hb; clear hb; (try clear p0 p1 p2 g0 g1 gsz); obtain ⟨p0, p1, p2, g0, g1, gsz⟩ := pgbox HW))
        replace HW := HW.drew
        clear p0 p1 p2 g0 g1 gsz
        go_region_held3 (fun w' => w'.cell? ⟨w.heap.size, 0, none⟩ = some (.string p.name) ∧ w'.cell? ⟨w.heap.size, 1, none⟩ = some (.slice A1 p.vars.length k1) ∧ w'.cell? ⟨w.heap.size, 2, none⟩ = some (.slice A2 p.rules.length k2) ∧ w'.cell? ⟨w.heap.size + 1, 0, none⟩ = some (.slice A3 g.ids.length k3) ∧ w'.cell? ⟨w.heap.size + 1, 1, none⟩ = some (.slice A4 g.ports.length k4) ∧ w.heap.size + 1 < w'.heap.size) (exact hcell.out _ HW) (first
          | (go_simp; go_at_call 14; refine (mod_any _ _ _ (by omega) (by omega)).mono ?_; rintro e w' ⟨rfl, rfl⟩; rw [HMOD.out])
          | (go_simp; go_at_call 10; refine (machRun_any L l.length c0 l _ p _ g _ c _ _ (HTV.out _ (box2_bel HW)) HCAP.out (Nat.le_trans HQ.out.2.2.2 (by decide)) (HPV.out _ (box2_bel HW)) (HGV.out _ (box2_bel HW)) (HCV.out _ (box2_bel HW)) HQ.out.1 HQ.out.2.1 HQ.out.2.2.1).mono ?_; rintro e w' ⟨rfl, hb⟩; rw [HR.out]; replace HW := HW.trans hb; clear hb))
        go_wp2_with (go_at_call 9; refine (awake13_any _).mono ?_; rintro e w' ⟨rfl, hb⟩; replace HW := HW.trans hb; clear hb)
        go_ret
        exact ⟨by simp, box2_bel HW⟩
      · have hr := runF_bad HM.out hqc hv
        have hv1 : ((verifyF l p.vars.length).2.2 != 0) = true := by simpa using hv
        have HR := Lib.hid hr
        clear hr hv hqc
        go_enter Tryz.func6, Tryz.ntmps6
        go_wp2_with (first
          | (go_at_call 8; refine (quick13_any L l.length c0 l _ p _ g _ c _ rfl HNM.out (HPV.out _ (box2_bel HW)) (HGV.out _ (box2_bel HW)) (HCV.out _ (box2_bel HW))).mono ?_; rintro e w' ⟨rfl, hb⟩; rw [hq]; replace HW := HW.trans hb; clear hb; (try clear p0 p1 p2 g0 g1 gsz); obtain ⟨p0, p1, p2, g0, g1, gsz⟩ := pgbox HW)
          | (go_at_call 12; refine (refMemValid_any _ p _ g _ c _ (HPV.out _ (box2_bel HW)) (HGV.out _ (box2_bel HW)) (HCV.out _ (box2_bel HW)) HQ.out.1 HQ.out.2.1 HQ.out.2.2.1).mono ?_; rintro e w' ⟨rfl, hb⟩; rw [hm]; replace HW := HW.trans hb; clear hb; (try clear p0 p1 p2 g0 g1 gsz); obtain ⟨p0, p1, p2, g0, g1, gsz⟩ := pgbox HW)
          | (go_at_call 17; refine (verify_any L l.length c0 l _ _ (HTV.out _ (box2_bel HW)) (Nat.le_trans HQ.out.2.2.2 (by decide)) HCAP.out (by omega) (by omega)).mono ?_; rintro e w' ⟨rfl, hb⟩; replace HW := HW.trans hb; clear hb; (try clear p0 p1 p2 g0 g1 gsz); obtain ⟨p0, p1, p2, g0, g1, gsz⟩ := pgbox HW))
        replace HW := HW.drew
        clear p0 p1 p2 g0 g1 gsz
        go_region_held3 (fun w' => w'.cell? ⟨w.heap.size, 0, none⟩ = some (.string p.name) ∧ w'.cell? ⟨w.heap.size, 1, none⟩ = some (.slice A1 p.vars.length k1) ∧ w'.cell? ⟨w.heap.size, 2, none⟩ = some (.slice A2 p.rules.length k2) ∧ w'.cell? ⟨w.heap.size + 1, 0, none⟩ = some (.slice A3 g.ids.length k3) ∧ w'.cell? ⟨w.heap.size + 1, 1, none⟩ = some (.slice A4 g.ports.length k4) ∧ w.heap.size + 1 < w'.heap.size) (exact hcell.out _ HW) (first
          | (go_simp; go_at_call 14; refine (mod_any _ _ _ (by omega) (by omega)).mono ?_; rintro e w' ⟨rfl, rfl⟩; rw [HMOD.out])
          | (go_simp; go_at_call 10; refine (machRun_any L l.length c0 l _ p _ g _ c _ _ (HTV.out _ (box2_bel HW)) HCAP.out (Nat.le_trans HQ.out.2.2.2 (by decide)) (HPV.out _ (box2_bel HW)) (HGV.out _ (box2_bel HW)) (HCV.out _ (box2_bel HW)) HQ.out.1 HQ.out.2.1 HQ.out.2.2.1).mono ?_; rintro e w' ⟨rfl, hb⟩; rw [HR.out]; replace HW := HW.trans hb; clear hb))
        go_wp2_with (go_at_call 9; refine (awake13_any _).mono ?_; rintro e w' ⟨rfl, hb⟩; replace HW := HW.trans hb; clear hb)
        go_ret
        exact ⟨by simp, box2_bel HW⟩

end Go.Proofs.YtaifafljakojnaaGreat

