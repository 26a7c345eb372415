/- Merged of: L13d (see NOTES.md). -/
import Derived.Test.YtaifafljakojnaaGreatYL13g
import Derived.Test.YtaifafljakojnaaGreatYW12p
import Derived.Test.YtaifafljakojnaaGreatYP13k
import Derived.Test.YtaifafljakojnaaGreatYP13j
set_option linter.unusedSimpArgs false
set_option linter.unnecessarySimpa false
set_option linter.unusedVariables false

/- The walk of MachineJoins. -/
namespace Go.Proofs.YtaifafljakojnaaGreat
open Go.RowKit

theorem instr_infoJ : (Tryz.prog.info? 43).map (fun i => (i.zero, i.size, i.bytes)) = some (some (.agg #[.int .i64 0, .int .i64 0]), 2, 16) := by kernel_rfl
theorem joinB_snoc {a b : List Term} {j : Nat} (h : j < b.length) : a ++ (b.take (j + 1)).map (movT a.length) = (a ++ (b.take j).map (movT a.length)) ++ [movT a.length b[j]] := by
  rw [List.take_succ_eq_append_getElem h, List.map_append, ← List.append_assoc]; rfl
set_option maxRecDepth 100000 in
set_option maxHeartbeats 4000000 in
theorem machineJoins_walk (LA : Option Addr) (na cA : Nat) (a : List Term) (LB : Option Addr) (nb cB : Nat) (b : List Term) (op : Int) (v1 : Value) (p : Prg) (v2 : Value) (g : Graph) (v3 : Value) (c : Config) (v : Int) (w : World) (hTA : TermsR w LA na a) (hcA : na ≤ cA) (hmA : cA ≤ maxLen) (hTB : TermsR w LB nb b) (hcB : nb ≤ cB) (hmB : cB ≤ maxLen) (h : PrgV w v1 p) (h2 : GraphV w v2 g) (h3 : ConfV w v3 c) :
    Calls Tryz.prog 5 #[.slice LA na cA, .slice LB nb cB, .int .i64 op, v1, v2, v3, .int .i64 v] w fun e w' => e = .returned (.bool true) ∧ Bel w w' := by
  obtain rfl := hTA.1
  obtain rfl := hTB.1
  have HTA := Lib.hid (fun w' (k : Bel w w') => hTA.keep k)
  have HTB := Lib.hid (fun w' (k : Bel w w') => hTB.keep k)
  have hna : a.length ≤ maxLen := by omega
  have hnb : b.length ≤ maxLen := by omega
  clear hTA hTB
  have HPV := Lib.hid (fun w' (k : Bel w w') => h.keep k)
  have HGV := Lib.hid (fun w' (k : Bel w w') => h2.keep k)
  have HCV := Lib.hid (fun w' (k : Bel w w') => h3.keep k)
  obtain ⟨A1, k1, A2, k2, rfl, _, _, _, _, _, _⟩ := h
  obtain ⟨A3, k3, A4, k4, rfl, _, _, _, _, _, _⟩ := h2
  obtain ⟨A5, k5, rfl, _, _, _⟩ := h3
  have HW := Bel.refl ((w.alloc (.cells #[.string p.name, .slice A1 p.vars.length k1, .slice A2 p.rules.length k2] 26)).alloc (.cells #[.slice A3 g.ids.length k3, .slice A4 g.ports.length k4] 30))
  have HNA := Lib.hid hna
  have HNB := Lib.hid hnb
  have HCA := Lib.hid hcA
  have HCB := Lib.hid hcB
  clear hna hnb hcA hcB hmA hmB
  cases hqA : quick13F a p g c with
  | false =>
    go_enter Tryz.func5, Tryz.ntmps5
    go_wp2_with fail
    refine (quick13_any LA a.length cA a _ p _ g _ c _ rfl HNA.out (HPV.out _ (box2_bel HW)) (HGV.out _ (box2_bel HW)) (HCV.out _ (box2_bel HW))).mono ?_
    rintro e w' ⟨rfl, hb⟩
    rw [hqA]
    replace HW := HW.trans hb; clear hb; (try clear p0 p1 p2 g0 g1 gsz); obtain ⟨p0, p1, p2, g0, g1, gsz⟩ := pgbox HW
    go_wp2_with fail
    refine (awake13_any _).mono ?_
    rintro e w' ⟨rfl, hb⟩
    replace HW := HW.trans hb; clear hb; (try clear p0 p1 p2 g0 g1 gsz); obtain ⟨p0, p1, p2, g0, g1, gsz⟩ := pgbox HW
    go_wp2_with fail
    go_ret
    exact ⟨rfl, box2_bel HW⟩
  | true =>
  have HQ := Lib.hid (quick13_parts hqA)
  have hla := HQ.out.2.2.2
  cases hqB : quick13F b p g c with
  | false =>
    go_enter Tryz.func5, Tryz.ntmps5
    go_wp2_with fail
    refine (quick13_any LA a.length cA a _ p _ g _ c _ rfl HNA.out (HPV.out _ (box2_bel HW)) (HGV.out _ (box2_bel HW)) (HCV.out _ (box2_bel HW))).mono ?_
    rintro e w' ⟨rfl, hb⟩
    rw [hqA]
    replace HW := HW.trans hb; clear hb; (try clear p0 p1 p2 g0 g1 gsz); obtain ⟨p0, p1, p2, g0, g1, gsz⟩ := pgbox HW
    go_wp2_with fail
    refine (quick13_any LB b.length cB b _ p _ g _ c _ rfl HNB.out (HPV.out _ (box2_bel HW)) (HGV.out _ (box2_bel HW)) (HCV.out _ (box2_bel HW))).mono ?_
    rintro e w' ⟨rfl, hb⟩
    rw [hqB]
    replace HW := HW.trans hb; clear hb; (try clear p0 p1 p2 g0 g1 gsz); obtain ⟨p0, p1, p2, g0, g1, gsz⟩ := pgbox HW
    go_wp2_with fail
    refine (awake13_any _).mono ?_
    rintro e w' ⟨rfl, hb⟩
    replace HW := HW.trans hb; clear hb; (try clear p0 p1 p2 g0 g1 gsz); obtain ⟨p0, p1, p2, g0, g1, gsz⟩ := pgbox HW
    go_wp2_with fail
    go_ret
    exact ⟨rfl, box2_bel HW⟩
  | true =>
  have hlb := (quick13_parts hqB).2.2.2
  by_cases h300 : 300 < a.length + b.length
  · have hd3 : decide ((300 : Int) < (a.length : Int) + (b.length : Int)) = true := by simp; omega
    go_enter Tryz.func5, Tryz.ntmps5
    go_wp2_with fail
    refine (quick13_any LA a.length cA a _ p _ g _ c _ rfl HNA.out (HPV.out _ (box2_bel HW)) (HGV.out _ (box2_bel HW)) (HCV.out _ (box2_bel HW))).mono ?_
    rintro e w' ⟨rfl, hb⟩
    rw [hqA]
    replace HW := HW.trans hb; clear hb; (try clear p0 p1 p2 g0 g1 gsz); obtain ⟨p0, p1, p2, g0, g1, gsz⟩ := pgbox HW
    go_wp2_with fail
    refine (quick13_any LB b.length cB b _ p _ g _ c _ rfl HNB.out (HPV.out _ (box2_bel HW)) (HGV.out _ (box2_bel HW)) (HCV.out _ (box2_bel HW))).mono ?_
    rintro e w' ⟨rfl, hb⟩
    rw [hqB]
    replace HW := HW.trans hb; clear hb; (try clear p0 p1 p2 g0 g1 gsz); obtain ⟨p0, p1, p2, g0, g1, gsz⟩ := pgbox HW
    go_wp2_with fail
    refine (awake13_any _).mono ?_
    rintro e w' ⟨rfl, hb⟩
    replace HW := HW.trans hb; clear hb; (try clear p0 p1 p2 g0 g1 gsz); obtain ⟨p0, p1, p2, g0, g1, gsz⟩ := pgbox HW
    go_wp2_with fail
    go_ret
    exact ⟨rfl, box2_bel HW⟩
  have hd3 : decide ((300 : Int) < (a.length : Int) + (b.length : Int)) = false := by simp; omega
  cases hm : decide (memF p g c = 0) with
  | false =>
    go_enter Tryz.func5, Tryz.ntmps5
    go_wp2_with fail
    refine (quick13_any LA a.length cA a _ p _ g _ c _ rfl HNA.out (HPV.out _ (box2_bel HW)) (HGV.out _ (box2_bel HW)) (HCV.out _ (box2_bel HW))).mono ?_
    rintro e w' ⟨rfl, hb⟩
    rw [hqA]
    replace HW := HW.trans hb; clear hb; (try clear p0 p1 p2 g0 g1 gsz); obtain ⟨p0, p1, p2, g0, g1, gsz⟩ := pgbox HW
    go_wp2_with fail
    refine (quick13_any LB b.length cB b _ p _ g _ c _ rfl HNB.out (HPV.out _ (box2_bel HW)) (HGV.out _ (box2_bel HW)) (HCV.out _ (box2_bel HW))).mono ?_
    rintro e w' ⟨rfl, hb⟩
    rw [hqB]
    replace HW := HW.trans hb; clear hb; (try clear p0 p1 p2 g0 g1 gsz); obtain ⟨p0, p1, p2, g0, g1, gsz⟩ := pgbox HW
    go_wp2_with fail
    refine (refMemValid_any _ p _ g _ c _ (HPV.out _ (box2_bel HW)) (HGV.out _ (box2_bel HW)) (HCV.out _ (box2_bel HW)) HQ.out.1 HQ.out.2.1 HQ.out.2.2.1).mono ?_
    rintro e w' ⟨rfl, hb⟩
    rw [hm]
    replace HW := HW.trans hb; clear hb; (try clear p0 p1 p2 g0 g1 gsz); obtain ⟨p0, p1, p2, g0, g1, gsz⟩ := pgbox HW
    go_wp2_with fail
    refine (awake13_any _).mono ?_
    rintro e w' ⟨rfl, hb⟩
    replace HW := HW.trans hb; clear hb; (try clear p0 p1 p2 g0 g1 gsz); obtain ⟨p0, p1, p2, g0, g1, gsz⟩ := pgbox HW
    go_wp2_with fail
    go_ret
    exact ⟨rfl, box2_bel HW⟩
  | true =>
  have HM := Lib.hid (of_decide_eq_true hm)
  have hvl := (lightP_parts HQ.out.1).2.1
  obtain ⟨hlo, hhi⟩ := verify_le a p.vars.length
  obtain ⟨klo, khi⟩ := verify_le b p.vars.length
  by_cases hva : (verifyF a p.vars.length).2.2 = 0
  case neg =>
    have hva1 : ((verifyF a p.vars.length).2.2 != 0) = true := by simpa using hva
    clear hva
    go_enter Tryz.func5, Tryz.ntmps5
    go_wp2_with fail
    refine (quick13_any LA a.length cA a _ p _ g _ c _ rfl HNA.out (HPV.out _ (box2_bel HW)) (HGV.out _ (box2_bel HW)) (HCV.out _ (box2_bel HW))).mono ?_
    rintro e w' ⟨rfl, hb⟩
    rw [hqA]
    replace HW := HW.trans hb; clear hb; (try clear p0 p1 p2 g0 g1 gsz); obtain ⟨p0, p1, p2, g0, g1, gsz⟩ := pgbox HW
    go_wp2_with fail
    refine (quick13_any LB b.length cB b _ p _ g _ c _ rfl HNB.out (HPV.out _ (box2_bel HW)) (HGV.out _ (box2_bel HW)) (HCV.out _ (box2_bel HW))).mono ?_
    rintro e w' ⟨rfl, hb⟩
    rw [hqB]
    replace HW := HW.trans hb; clear hb; (try clear p0 p1 p2 g0 g1 gsz); obtain ⟨p0, p1, p2, g0, g1, gsz⟩ := pgbox HW
    go_wp2_with fail
    refine (refMemValid_any _ p _ g _ c _ (HPV.out _ (box2_bel HW)) (HGV.out _ (box2_bel HW)) (HCV.out _ (box2_bel HW)) HQ.out.1 HQ.out.2.1 HQ.out.2.2.1).mono ?_
    rintro e w' ⟨rfl, hb⟩
    rw [hm]
    replace HW := HW.trans hb; clear hb; (try clear p0 p1 p2 g0 g1 gsz); obtain ⟨p0, p1, p2, g0, g1, gsz⟩ := pgbox HW
    go_wp2_with fail
    refine (refVerify3_any LA a.length cA a _ _ (HTA.out _ (box2_bel HW)) (by omega) (by omega)).mono ?_
    rintro e w' ⟨rfl, hb⟩
    replace HW := HW.trans hb; clear hb; (try clear p0 p1 p2 g0 g1 gsz); obtain ⟨p0, p1, p2, g0, g1, gsz⟩ := pgbox HW
    go_wp2_with fail
    refine (refVerify3_any LB b.length cB b _ _ (HTB.out _ (box2_bel HW)) (by omega) (by omega)).mono ?_
    rintro e w' ⟨rfl, hb⟩
    replace HW := HW.trans hb; clear hb; (try clear p0 p1 p2 g0 g1 gsz); obtain ⟨p0, p1, p2, g0, g1, gsz⟩ := pgbox HW
    go_wp2_with fail
    refine (awake13_any _).mono ?_
    rintro e w' ⟨rfl, hb⟩
    replace HW := HW.trans hb; clear hb; (try clear p0 p1 p2 g0 g1 gsz); obtain ⟨p0, p1, p2, g0, g1, gsz⟩ := pgbox HW
    go_wp2_with fail
    go_ret
    exact ⟨rfl, box2_bel HW⟩
  case pos =>
  have HVA := Lib.hid hva
  have hva1 : ((verifyF a p.vars.length).2.2 != 0) = false := by simpa using hva
  clear hva
  by_cases hvb : (verifyF b p.vars.length).2.2 = 0
  case neg =>
    have hvb1 : ((verifyF b p.vars.length).2.2 != 0) = true := by simpa using hvb
    clear hvb
    go_enter Tryz.func5, Tryz.ntmps5
    go_wp2_with fail
    refine (quick13_any LA a.length cA a _ p _ g _ c _ rfl HNA.out (HPV.out _ (box2_bel HW)) (HGV.out _ (box2_bel HW)) (HCV.out _ (box2_bel HW))).mono ?_
    rintro e w' ⟨rfl, hb⟩
    rw [hqA]
    replace HW := HW.trans hb; clear hb; (try clear p0 p1 p2 g0 g1 gsz); obtain ⟨p0, p1, p2, g0, g1, gsz⟩ := pgbox HW
    go_wp2_with fail
    refine (quick13_any LB b.length cB b _ p _ g _ c _ rfl HNB.out (HPV.out _ (box2_bel HW)) (HGV.out _ (box2_bel HW)) (HCV.out _ (box2_bel HW))).mono ?_
    rintro e w' ⟨rfl, hb⟩
    rw [hqB]
    replace HW := HW.trans hb; clear hb; (try clear p0 p1 p2 g0 g1 gsz); obtain ⟨p0, p1, p2, g0, g1, gsz⟩ := pgbox HW
    go_wp2_with fail
    refine (refMemValid_any _ p _ g _ c _ (HPV.out _ (box2_bel HW)) (HGV.out _ (box2_bel HW)) (HCV.out _ (box2_bel HW)) HQ.out.1 HQ.out.2.1 HQ.out.2.2.1).mono ?_
    rintro e w' ⟨rfl, hb⟩
    rw [hm]
    replace HW := HW.trans hb; clear hb; (try clear p0 p1 p2 g0 g1 gsz); obtain ⟨p0, p1, p2, g0, g1, gsz⟩ := pgbox HW
    go_wp2_with fail
    refine (refVerify3_any LA a.length cA a _ _ (HTA.out _ (box2_bel HW)) (by omega) (by omega)).mono ?_
    rintro e w' ⟨rfl, hb⟩
    replace HW := HW.trans hb; clear hb; (try clear p0 p1 p2 g0 g1 gsz); obtain ⟨p0, p1, p2, g0, g1, gsz⟩ := pgbox HW
    go_wp2_with fail
    refine (refVerify3_any LB b.length cB b _ _ (HTB.out _ (box2_bel HW)) (by omega) (by omega)).mono ?_
    rintro e w' ⟨rfl, hb⟩
    replace HW := HW.trans hb; clear hb; (try clear p0 p1 p2 g0 g1 gsz); obtain ⟨p0, p1, p2, g0, g1, gsz⟩ := pgbox HW
    go_wp2_with fail
    refine (awake13_any _).mono ?_
    rintro e w' ⟨rfl, hb⟩
    replace HW := HW.trans hb; clear hb; (try clear p0 p1 p2 g0 g1 gsz); obtain ⟨p0, p1, p2, g0, g1, gsz⟩ := pgbox HW
    go_wp2_with fail
    go_ret
    exact ⟨rfl, box2_bel HW⟩
  case pos =>
  have HVB := Lib.hid hvb
  have hvb1 : ((verifyF b p.vars.length).2.2 != 0) = false := by simpa using hvb
  clear hvb
  have hh64 : decide (64 < (verifyF a p.vars.length).1) = false := by simp; omega
  by_cases hk : 64 < (verifyF b p.vars.length).1 + 1
  · have hk64 : decide (64 < (verifyF b p.vars.length).1 + 1) = true := by simpa using hk
    go_enter Tryz.func5, Tryz.ntmps5
    go_wp2_with fail
    refine (quick13_any LA a.length cA a _ p _ g _ c _ rfl HNA.out (HPV.out _ (box2_bel HW)) (HGV.out _ (box2_bel HW)) (HCV.out _ (box2_bel HW))).mono ?_
    rintro e w' ⟨rfl, hb⟩
    rw [hqA]
    replace HW := HW.trans hb; clear hb; (try clear p0 p1 p2 g0 g1 gsz); obtain ⟨p0, p1, p2, g0, g1, gsz⟩ := pgbox HW
    go_wp2_with fail
    refine (quick13_any LB b.length cB b _ p _ g _ c _ rfl HNB.out (HPV.out _ (box2_bel HW)) (HGV.out _ (box2_bel HW)) (HCV.out _ (box2_bel HW))).mono ?_
    rintro e w' ⟨rfl, hb⟩
    rw [hqB]
    replace HW := HW.trans hb; clear hb; (try clear p0 p1 p2 g0 g1 gsz); obtain ⟨p0, p1, p2, g0, g1, gsz⟩ := pgbox HW
    go_wp2_with fail
    refine (refMemValid_any _ p _ g _ c _ (HPV.out _ (box2_bel HW)) (HGV.out _ (box2_bel HW)) (HCV.out _ (box2_bel HW)) HQ.out.1 HQ.out.2.1 HQ.out.2.2.1).mono ?_
    rintro e w' ⟨rfl, hb⟩
    rw [hm]
    replace HW := HW.trans hb; clear hb; (try clear p0 p1 p2 g0 g1 gsz); obtain ⟨p0, p1, p2, g0, g1, gsz⟩ := pgbox HW
    go_wp2_with fail
    refine (refVerify3_any LA a.length cA a _ _ (HTA.out _ (box2_bel HW)) (by omega) (by omega)).mono ?_
    rintro e w' ⟨rfl, hb⟩
    replace HW := HW.trans hb; clear hb; (try clear p0 p1 p2 g0 g1 gsz); obtain ⟨p0, p1, p2, g0, g1, gsz⟩ := pgbox HW
    go_wp2_with fail
    refine (refVerify3_any LB b.length cB b _ _ (HTB.out _ (box2_bel HW)) (by omega) (by omega)).mono ?_
    rintro e w' ⟨rfl, hb⟩
    replace HW := HW.trans hb; clear hb; (try clear p0 p1 p2 g0 g1 gsz); obtain ⟨p0, p1, p2, g0, g1, gsz⟩ := pgbox HW
    go_wp2_with fail
    refine (awake13_any _).mono ?_
    rintro e w' ⟨rfl, hb⟩
    replace HW := HW.trans hb; clear hb; (try clear p0 p1 p2 g0 g1 gsz); obtain ⟨p0, p1, p2, g0, g1, gsz⟩ := pgbox HW
    go_wp2_with fail
    go_ret
    exact ⟨rfl, box2_bel HW⟩
  have hk64 : decide (64 < (verifyF b p.vars.length).1 + 1) = false := by simp; omega
  obtain ⟨q, hmod, hqc⟩ := mod_node13 (v := v) (mem_pos13 HM.out)
  obtain ⟨mo, hmo, hmo13⟩ := mod_node13 (v := op) (n := 13) (by decide)
  have hmo' : modF op 13 = (mo : Int) := hmo
  have HMOD := Lib.hid hmod
  have HMOP := Lib.hid hmo'
  have hc30 := (lightC_parts HQ.out.2.2.1).1
  have hcp := mem_pos13 HM.out
  obtain ⟨xa, ia, hra, hxa, _, hia, _⟩ := runF_ok HM.out hqc HVA.out
  obtain ⟨xb, ib, hrb, hxb, _, hib, _⟩ := runF_ok HM.out hqc HVB.out
  have hfa := fuel_le (mem_sok (p := p) (g := g) (c := c) HM.out hqc) (l := a) (by omega)
  have hfb := fuel_le (mem_sok (p := p) (g := g) (c := c) HM.out hqc) (l := b) (by omega)
  obtain ⟨x2, y2, n2, m2, e1, e2, e3, _, _⟩ := runF_join (op := 30 + (mo : Int)) HM.out hqc HVA.out HVB.out (by omega) (by omega) (by omega)
  rw [hra] at e1
  rw [hrb] at e2
  simp only [Prod.mk.injEq, and_true] at e1 e2
  obtain ⟨rfl, e1⟩ := e1
  obtain ⟨rfl, e2⟩ := e2
  have e1 := Int.ofNat_inj.1 e1
  have e2 := Int.ofNat_inj.1 e2
  subst e1; subst e2
  have HRA := Lib.hid hra
  have HRB := Lib.hid hrb
  have HRJ := Lib.hid e3
  have HE := Lib.hid (binaryR_okM (op := 30 + (mo : Int)) (by omega) (by omega) hxa hxb)
  have hia6 : ia ≤ 600000 := by omega
  have hib6 : ib ≤ 600000 := by omega
  have HMB := Lib.hid (fun (i : Nat) (hi : i < b.length) => moved_bound HVB.out hi)
  obtain ⟨i0, hi0, hz0, hz1, hz2⟩ := info_parts instr_infoJ
  clear hmod hmo hmo' hra hrb e3 hxa hxb hia hib hfa hfb hqc
  go_enter Tryz.func5, Tryz.ntmps5
  go_wp2_with fail
  refine (quick13_any LA a.length cA a _ p _ g _ c _ rfl HNA.out (HPV.out _ (box2_bel HW)) (HGV.out _ (box2_bel HW)) (HCV.out _ (box2_bel HW))).mono ?_
  rintro e w' ⟨rfl, hb⟩
  rw [hqA]
  replace HW := HW.trans hb; clear hb; (try clear p0 p1 p2 g0 g1 gsz); obtain ⟨p0, p1, p2, g0, g1, gsz⟩ := pgbox HW
  go_wp2_with fail
  refine (quick13_any LB b.length cB b _ p _ g _ c _ rfl HNB.out (HPV.out _ (box2_bel HW)) (HGV.out _ (box2_bel HW)) (HCV.out _ (box2_bel HW))).mono ?_
  rintro e w' ⟨rfl, hb⟩
  rw [hqB]
  replace HW := HW.trans hb; clear hb; (try clear p0 p1 p2 g0 g1 gsz); obtain ⟨p0, p1, p2, g0, g1, gsz⟩ := pgbox HW
  go_wp2_with fail
  refine (refMemValid_any _ p _ g _ c _ (HPV.out _ (box2_bel HW)) (HGV.out _ (box2_bel HW)) (HCV.out _ (box2_bel HW)) HQ.out.1 HQ.out.2.1 HQ.out.2.2.1).mono ?_
  rintro e w' ⟨rfl, hb⟩
  rw [hm]
  replace HW := HW.trans hb; clear hb; (try clear p0 p1 p2 g0 g1 gsz); obtain ⟨p0, p1, p2, g0, g1, gsz⟩ := pgbox HW
  go_wp2_with fail
  refine (refVerify3_any LA a.length cA a _ _ (HTA.out _ (box2_bel HW)) (by omega) (by omega)).mono ?_
  rintro e w' ⟨rfl, hb⟩
  replace HW := HW.trans hb; clear hb; (try clear p0 p1 p2 g0 g1 gsz); obtain ⟨p0, p1, p2, g0, g1, gsz⟩ := pgbox HW
  go_wp2_with fail
  refine (refVerify3_any LB b.length cB b _ _ (HTB.out _ (box2_bel HW)) (by omega) (by omega)).mono ?_
  rintro e w' ⟨rfl, hb⟩
  replace HW := HW.trans hb; clear hb; (try clear p0 p1 p2 g0 g1 gsz); obtain ⟨p0, p1, p2, g0, g1, gsz⟩ := pgbox HW
  go_wp2_with fail
  refine (mod_any _ _ _ (by omega) (by omega)).mono ?_
  rintro e w' ⟨rfl, rfl⟩
  rw [HMOP.out]
  go_wp2_with fail
  refine (mod_any _ _ _ (by omega) (by omega)).mono ?_
  rintro e w' ⟨rfl, rfl⟩
  rw [HMOD.out]
  clear hh64 hk64 hva1 hvb1 hd3 hlo hhi klo khi hqA hqB hm
  have hbs0 := HW.size
  simp only [World.size_alloc] at hbs0
  go_wp2_with (at_builtin; refine wpList_extend _ rfl _ (.tmp 106) 22 rfl (w.heap.size + 1 + 1) 43 i0 (.agg #[.int .i64 0, .int .i64 0]) 2 16 Tryz.underlying22 hi0 hz0 hz1 hz2 rfl (by decide) none 0 0 [] (by simp [Act.eval]) (World.ownsRow_nil _ _ _ _) LA a.length cA (a.flatMap termCells) (by simp [Act.eval]) (HTA.out _ (box2_bel HW)).cells (termCells_one _) (by unfold maxLen; omega) (by omega) (by omega) ?_; intro R rc w2 hown hgr hat; have HO := Lib.hid hown; replace HW := HW.grown hgr (fun k hk => by simp [Value.ownBlock] at hk); clear hown hgr hat)
  simp only [Nat.zero_add, List.nil_append] at HO ⊢
  have hraw : a ++ (b.take 0).map (movT a.length) = a := by simp
  have HO0 : Hid (w2.ownsRow (w.heap.size + 1 + 1) 43 2 (.slice R (a.length + 0) rc) (a.length + 0) ((a ++ (b.take 0).map (movT a.length)).flatMap termCells)) := by
    show w2.ownsRow _ _ _ _ _ _
    rw [hraw]; exact HO.out
  clear HO hraw p0 p1 p2 g0 g1 gsz
  go_loopg [21, 22] b.length (fun m lv iv wr => ∃ (j : Nat) (R : Option Addr) (rc : Nat), j ≤ b.length ∧ m = b.length - j ∧ iv = .int .i64 j ∧ lv = .slice R (a.length + j) rc ∧ Hid (wr.ownsRow (w.heap.size + 1 + 1) 43 2 (.slice R (a.length + j) rc) (a.length + j) ((a ++ (b.take j).map (movT a.length)).flatMap termCells)) ∧ Bel ((w.alloc (.cells #[.string p.name, .slice A1 p.vars.length k1, .slice A2 p.rules.length k2] 26)).alloc (.cells #[.slice A3 g.ids.length k3, .slice A4 g.ports.length k4] 30)) wr)
  case atStart => exact ⟨0, R, rc, by omega, rfl, rfl, rfl, HO0, HW⟩
  case round =>
    clear HO0 HW
    obtain ⟨j, R, rc, hj, rfl, rfl, rfl, HO, HW⟩ := hrel
    have hbsr := HW.size
    simp only [World.size_alloc] at hbsr
    by_cases hlt : j < b.length
    · have hdj : decide (j < b.length) = true := by simpa using hlt
      obtain ⟨b5, o5, e5, hb5, t0, t1⟩ := (HTB.out _ (box2_bel HW)).at_ j hlt
      have HS := Lib.hid (joinB_snoc (a := a) hlt)
      have HMJ := Lib.hid (HMB.out j hlt)
      have HMT : Hid (movT a.length b[j] = if b[j].op = 7 ∨ b[j].op = 8 ∨ b[j].op = 9 then ⟨b[j].op, b[j].arg + a.length⟩ else b[j]) := rfl
      subst e5
      obtain ⟨tx, htx⟩ : ∃ tx, tx = b[j] := ⟨_, rfl⟩
      rw [← htx] at t0 t1 HS HMJ HMT
      clear htx
      obtain ⟨ox, ax⟩ := tx
      dsimp only at t0 t1 HMJ HMT
      have hbase : (((w.alloc (.cells #[.string p.name, .slice A1 p.vars.length k1, .slice A2 p.rules.length k2] 26)).alloc (.cells #[.slice A3 g.ids.length k3, .slice A4 g.ports.length k4] 30))).heap.size ≤ w.heap.size + 1 + 1 := by simp
      by_cases hmv : ox = 7 ∨ ox = 8 ∨ ox = 9
      · rw [if_pos hmv] at HMT
        rw [HMT.out] at HS
        obtain ⟨ma1, ma2⟩ := HMJ.out hmv
        have HBX : Bel wr ((wr.alloc (.cells #[.int .i64 ox, .int .i64 (ax + a.length)] 43)).alloc (.cells #[.int .i64 ox, .int .i64 (ax + a.length)] 43)) := ((Bel.refl wr).alloc _).alloc _
        have hnew : ((wr.alloc (.cells #[.int .i64 ox, .int .i64 (ax + a.length)] 43)).alloc (.cells #[.int .i64 ox, .int .i64 (ax + a.length)] 43)).heap[wr.heap.size + 1]? = some (.cells #[.int .i64 ox, .int .i64 (ax + a.length)] 43 (0, 0)) := by
          have := heap_new (wr.alloc (.cells #[.int .i64 ox, .int .i64 (ax + a.length)] 43)) (.cells #[.int .i64 ox, .int .i64 (ax + a.length)] 43)
          simpa using this
        have hc : (((ox == 7) = true) ∨ ((ox == 7) = false ∧ (ox == 8) = true)) ∨ ((ox == 7) = false ∧ (ox == 8) = false ∧ (ox == 9) = true) := by
          simp only [beq_iff_eq, beq_eq_false_iff_ne]
          omega
        clear hmv
        rcases hc with (h7 | ⟨h7, h8⟩) | ⟨h7, h8, h9⟩
        all_goals
          go_wp2_with (at_builtin; refine wpList_push _ rfl (.tmp 137) (.tmp 139) 22 rfl (w.heap.size + 1 + 1) 43 i0 (.agg #[.int .i64 0, .int .i64 0]) 2 16 Tryz.underlying22 hi0 hz0 hz1 hz2 rfl (by decide) R (a.length + j) rc ((a ++ (b.take j).map (movT a.length)).flatMap termCells) (by simp [Act.eval]) (HBX.owns HO.out) (wr.heap.size + 1) #[.int .i64 ox, .int .i64 (ax + a.length)] 43 (0, 0) (by simp [Act.eval]) hnew rfl (two_ints _ _ _ _) (by unfold maxLen; omega) (by omega) (by simp; omega) ?_; intro R' rc' w3 hown hgr hat; have HO3 := Lib.hid hown; have HW3 := (HW.trans HBX).grown hgr (fun k hk => Nat.le_trans hbase ((HBX.owns HO.out).lt k hk).1); clear hown hgr hat)
          go_roundg (b.length - (j + 1))
          case rel =>
            refine ⟨j + 1, R', rc', by omega, rfl, by go_num, by go_num, ?_, HW3⟩
            show World.ownsRow _ _ _ _ _ _ _
            rw [HS.out, List.flatMap_append]
            have := HO3.out
            simpa [termCells, Nat.add_assoc] using this
          case measure => omega
      · rw [if_neg hmv] at HMT
        rw [HMT.out] at HS
        have h7 : (ox == 7) = false := by simp; omega
        have h8 : (ox == 8) = false := by simp; omega
        have h9 : (ox == 9) = false := by simp; omega
        clear hmv
        have HBX : Bel wr ((wr.alloc (.cells #[.int .i64 ox, .int .i64 ax] 43)).alloc (.cells #[.int .i64 ox, .int .i64 ax] 43)) := ((Bel.refl wr).alloc _).alloc _
        have hnew : ((wr.alloc (.cells #[.int .i64 ox, .int .i64 ax] 43)).alloc (.cells #[.int .i64 ox, .int .i64 ax] 43)).heap[wr.heap.size + 1]? = some (.cells #[.int .i64 ox, .int .i64 ax] 43 (0, 0)) := by
          have := heap_new (wr.alloc (.cells #[.int .i64 ox, .int .i64 ax] 43)) (.cells #[.int .i64 ox, .int .i64 ax] 43)
          simpa using this
        go_wp2_with (at_builtin; refine wpList_push _ rfl (.tmp 137) (.tmp 139) 22 rfl (w.heap.size + 1 + 1) 43 i0 (.agg #[.int .i64 0, .int .i64 0]) 2 16 Tryz.underlying22 hi0 hz0 hz1 hz2 rfl (by decide) R (a.length + j) rc ((a ++ (b.take j).map (movT a.length)).flatMap termCells) (by simp [Act.eval]) (HBX.owns HO.out) (wr.heap.size + 1) #[.int .i64 ox, .int .i64 ax] 43 (0, 0) (by simp [Act.eval]) hnew rfl (two_ints _ _ _ _) (by unfold maxLen; omega) (by omega) (by simp; omega) ?_; intro R' rc' w3 hown hgr hat; have HO3 := Lib.hid hown; have HW3 := (HW.trans HBX).grown hgr (fun k hk => Nat.le_trans hbase ((HBX.owns HO.out).lt k hk).1); clear hown hgr hat)
        go_roundg (b.length - (j + 1))
        case rel =>
          refine ⟨j + 1, R', rc', by omega, rfl, by go_num, by go_num, ?_, HW3⟩
          show World.ownsRow _ _ _ _ _ _ _
          rw [HS.out, List.flatMap_append]
          have := HO3.out
          simpa [termCells, Nat.add_assoc] using this
        case measure => omega
    · have hdj : decide (j < b.length) = false := by simpa using hlt
      obtain rfl : j = b.length := by omega
      have hraw : a ++ (b.take b.length).map (movT a.length) = a ++ b.map (movT a.length) := by rw [List.take_length]
      rw [hraw] at HO
      clear hraw hlt hj
      go_wp2_with (at_builtin; refine wpList_push _ rfl (.tmp 141) (.tmp 144) 22 rfl (w.heap.size + 1 + 1) 43 i0 (.agg #[.int .i64 0, .int .i64 0]) 2 16 Tryz.underlying22 hi0 hz0 hz1 hz2 rfl (by decide) R (a.length + b.length) rc ((a ++ b.map (movT a.length)).flatMap termCells) (by simp [Act.eval]) (HO.out.alloc _) wr.heap.size #[.int .i64 6, .int .i64 (30 + (mo : Int))] 43 (0, 0) (by simp [Act.eval]) (heap_new _ _) rfl (two_ints _ _ _ _) (by unfold maxLen; omega) (by omega) (by simp; omega) ?_; intro R' rc' w3 hown hgr hat; have HO3 := Lib.hid hown; have hbase : (((w.alloc (.cells #[.string p.name, .slice A1 p.vars.length k1, .slice A2 p.rules.length k2] 26)).alloc (.cells #[.slice A3 g.ids.length k3, .slice A4 g.ports.length k4] 30))).heap.size ≤ w.heap.size + 1 + 1 := (by simp); replace HW := (HW.alloc _).grown hgr (fun k hk => Nat.le_trans hbase ((HO.out.alloc (.cells #[.int .i64 6, .int .i64 (30 + (mo : Int))] 43)).lt k hk).1); obtain ⟨p0, p1, p2, g0, g1, gsz⟩ := pgbox HW; clear hown hgr hat hbase)
      have HJ : Hid (w3.ownsRow (w.heap.size + 1 + 1) 43 2 (.slice R' (a.length + b.length + 1) rc') (a.length + b.length + 1) ((joinL a b (30 + (mo : Int))).flatMap termCells)) := by
        show w3.ownsRow _ _ _ _ _ _
        have := HO3.out
        simpa [joinL, termCells] using this
      have HJT := Lib.hid (fun w' (k : Bel w3 w') => (own_terms HJ.out).keep k)
      have hjc := (own_cap HJ.out).1
      have HB3 := Bel.refl w3
      clear HO HO3
      refine (machRun_any LA a.length cA a _ p _ g _ c _ _ (HTA.out _ (box2_bel HW)) HCA.out (by omega) (HPV.out _ (box2_bel HW)) (HGV.out _ (box2_bel HW)) (HCV.out _ (box2_bel HW)) HQ.out.1 HQ.out.2.1 HQ.out.2.2.1).mono ?_
      rintro e w' ⟨rfl, hb⟩
      rw [HRA.out]
      replace HB3 := HB3.trans hb
      replace HW := HW.trans hb; clear hb; (try clear p0 p1 p2 g0 g1 gsz); obtain ⟨p0, p1, p2, g0, g1, gsz⟩ := pgbox HW
      go_wp2_with fail
      refine (machRun_any LB b.length cB b _ p _ g _ c _ _ (HTB.out _ (box2_bel HW)) HCB.out (by omega) (HPV.out _ (box2_bel HW)) (HGV.out _ (box2_bel HW)) (HCV.out _ (box2_bel HW)) HQ.out.1 HQ.out.2.1 HQ.out.2.2.1).mono ?_
      rintro e w' ⟨rfl, hb⟩
      rw [HRB.out]
      replace HB3 := HB3.trans hb
      replace HW := HW.trans hb; clear hb; (try clear p0 p1 p2 g0 g1 gsz); obtain ⟨p0, p1, p2, g0, g1, gsz⟩ := pgbox HW
      go_wp2_with fail
      refine (machRun_any R' (a.length + b.length + 1) rc' (joinL a b (30 + (mo : Int))) _ p _ g _ c _ _ (HJT.out _ HB3) hjc (by omega) (HPV.out _ (box2_bel HW)) (HGV.out _ (box2_bel HW)) (HCV.out _ (box2_bel HW)) HQ.out.1 HQ.out.2.1 HQ.out.2.2.1).mono ?_
      rintro e w' ⟨rfl, hb⟩
      rw [HRJ.out]
      replace HW := HW.trans hb; clear hb; (try clear p0 p1 p2 g0 g1 gsz); obtain ⟨p0, p1, p2, g0, g1, gsz⟩ := pgbox HW
      go_wp2_with (first
        | (go_at_call 16; refine (refBinary_any _ _ _ _).mono ?_; rintro e w' ⟨rfl, rfl⟩; rw [HE.out])
        | (go_at_call 9; refine (awake13_any _).mono ?_; rintro e w' ⟨rfl, hb⟩; replace HW := HW.trans hb; clear hb; (try clear p0 p1 p2 g0 g1 gsz); obtain ⟨p0, p1, p2, g0, g1, gsz⟩ := pgbox HW))
      go_ret
      exact ⟨by simp, box2_bel HW⟩

end Go.Proofs.YtaifafljakojnaaGreat

