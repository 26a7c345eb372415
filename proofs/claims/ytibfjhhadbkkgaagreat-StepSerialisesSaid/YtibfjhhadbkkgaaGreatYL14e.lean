/- Merged of: L14e (see NOTES.md). -/
import Derived.Test.YtibfjhhadbkkgaaGreatZ23
import Derived.Test.YtibfjhhadbkkgaaGreatZ18
set_option linter.unusedSimpArgs false
set_option linter.unnecessarySimpa false
set_option linter.unusedVariables false

/- The walk of StepTakesTheFirstRule. -/
namespace Go.Proofs.YtibfjhhadbkkgaaGreat
open Go.RowKit

theorem mod_node14 (k : Int) {n : Nat} (h : 0 < n) : ∃ q : Nat, modF k (n : Int) = (q : Int) ∧ q < n := by
  have h1 := Int.emod_nonneg k (show (n : Int) ≠ 0 by omega)
  have h2 := Int.emod_lt_of_pos k (show (0 : Int) < n by omega)
  obtain ⟨q, hq⟩ := Int.eq_ofNat_of_zero_le h1
  exact ⟨q, hq, by omega⟩
def setsVar (l : List SetT) (x : Int) : Bool := l.any fun s => s.var == x
theorem setsVar_succ {l : List SetT} {i : Nat} (h : i < l.length) (x : Int) : setsVar (l.take (i + 1)) x = (setsVar (l.take i) x || l[i].var == x) := by
  unfold setsVar
  rw [List.take_succ_eq_append_getElem h, List.any_append]; simp

set_option maxRecDepth 100000 in
set_option maxHeartbeats 8000000 in
theorem stepFirst_walk (v1 : Value) (p : Prg) (v2 : Value) (g : Graph) (v3 : Value) (c : Config) (v : Int) (w : World) (h : PrgV w v1 p) (h2 : GraphV w v2 g) (h3 : ConfV w v3 c) :
    Calls Tryz.prog 12 #[v1, v2, v3, .int .i64 v] w fun e w' => e = .returned (.bool true) ∧ Bel w w' := by
  have hRC : ∃ A k, v3 = .slice A c.length k ∧ RowsR w A c.length c := by
    obtain ⟨A, k, e, hR, _⟩ := h3
    exact ⟨A, k, e, hR⟩
  have hR : ∃ A1 k1 A2 k2, v1 = .agg #[.string p.name, .slice A1 p.vars.length k1, .slice A2 p.rules.length k2] ∧ RulesR w A2 p.rules.length p.rules := by
    obtain ⟨A1, k1, A2, k2, e, _, _, _, hR, _, _⟩ := h
    exact ⟨A1, k1, A2, k2, e, hR⟩
  obtain ⟨A5r, k5r, eC, hRC⟩ := hRC
  obtain ⟨A1r, k1r, A2r, k2r, eR, hR⟩ := hR
  have HPV := Lib.hid (fun w' (k : Bel w w') => h.keep k)
  have HGV := Lib.hid (fun w' (k : Bel w w') => h2.keep k)
  have HCV := Lib.hid (fun w' (k : Bel w w') => h3.keep k)
  obtain ⟨A1, k1, A2, k2, rfl, _, _, _, _, _, _⟩ := h
  obtain ⟨A3, k3, A4, k4, rfl, _, _, _, _, _, _⟩ := h2
  obtain ⟨A5, k5, rfl, _, _, _⟩ := h3
  have HW := Bel.refl ((w.alloc (.cells #[.string p.name, .slice A1 p.vars.length k1, .slice A2 p.rules.length k2] 25)).alloc (.cells #[.slice A3 g.ids.length k3, .slice A4 g.ports.length k4] 29))
  obtain ⟨rfl, rfl⟩ : A5 = A5r ∧ k5 = k5r := by simpa using eC
  obtain ⟨⟨rfl, rfl⟩, rfl, rfl⟩ : (A1 = A1r ∧ k1 = k1r) ∧ A2 = A2r ∧ k2 = k2r := by simpa using eR
  have HRC := Lib.hid (fun w' (k : Bel w w') => RowsR.keep hRC k)
  have HR := Lib.hid (fun w' (k : Bel w w') => RulesR.keep hR k)
  clear eC hRC eR hR
  cases hq : soundF p g c with
  | false =>
    go_enter Tryz.func12, Tryz.ntmps12
    go_wp2_with (first
      | (go_at_call 30; refine (sound_any _ p _ g _ c _ (HPV.out _ (box2_bel HW)) (HGV.out _ (box2_bel HW)) (HCV.out _ (box2_bel HW))).mono ?_; rintro e w' ⟨rfl, hb⟩; rw [hq]; replace HW := HW.trans hb; clear hb; (try clear p0 p1 p2 g0 g1 gsz); obtain ⟨p0, p1, p2, g0, g1, gsz⟩ := pgbox HW)
      | (go_at_call 26; refine (awake14_any _).mono ?_; rintro e w' ⟨rfl, hb⟩; replace HW := HW.trans hb; clear hb; (try clear p0 p1 p2 g0 g1 gsz); obtain ⟨p0, p1, p2, g0, g1, gsz⟩ := pgbox HW))
    go_ret
    exact ⟨rfl, box2_bel HW⟩
  | true =>
    have HQ := Lib.hid (sound_parts hq)
    have hm := (sound_parts hq).2.2.2
    have hle : c.length ≤ 24 := by rw [conf_len hm]; exact (fits_zero (mem_zero hm).1).2.1.le
    have hr16 := (lightP_parts (sound_parts hq).1).2.2.1
    obtain ⟨q, hmq, hql⟩ := mod_node14 v (mem_pos14 hm)
    have HMQ := Lib.hid hmq
    have hcp := mem_pos14 hm
    have HRF := Lib.hid (ruleF_ok hm hql)
    have HEN := Lib.hid (enabledF_ok hm)
    have HEL := Lib.hid (enabF_lt hm)
    have HHE : Hid (hasB (enabF p g c) (q : Int) = decide (0 ≤ firstF p.rules g c q)) := by
      show _ = _
      rw [has_node (by omega), enabF_bit, decide_eq_true hql, Bool.true_and]
    have HGI := Lib.hid (fun (i : Nat) (hi : i < p.rules.length) => guardF_node hm hql hi)
    have hrow := light_row (sound_parts hq).2.2.1 q
    rw [getD_eq hql] at hrow
    have HRL := Lib.hid (getD_eq (d := []) hql)
    have HRW := Lib.hid (row_len hm hql)
    have hdq : decide (q < c.length) = true := by simpa using hql
    rcases firstF_cases p.rules g c q with ⟨hf, hall⟩ | ⟨k, hk, hf, hyes, hno⟩
    · have HF := Lib.hid hf
      have HALL := Lib.hid hall
      have hd1 : decide ((p.rules.length : Int) ≤ -1) = false := by simp; omega
      rw [hf] at HHE
      rw [show decide (0 ≤ (-1 : Int)) = false by decide] at HHE
      clear hf hall hm hmq
      go_enter Tryz.func12, Tryz.ntmps12
      go_wp2_with (first
        | (go_at_call 30; refine (sound_any _ p _ g _ c _ (HPV.out _ (box2_bel HW)) (HGV.out _ (box2_bel HW)) (HCV.out _ (box2_bel HW))).mono ?_; rintro e w' ⟨rfl, hb⟩; rw [hq]; replace HW := HW.trans hb; clear hb; (try clear p0 p1 p2 g0 g1 gsz); obtain ⟨p0, p1, p2, g0, g1, gsz⟩ := pgbox HW)
        | (go_at_call 18; refine (mod_any _ _ _ (by omega) (by omega)).mono ?_; rintro e w' ⟨rfl, rfl⟩; rw [HMQ.out])
        | (go_at_call 33; refine (stepRule_any _ p _ g _ c _ _ (HPV.out _ (box2_bel HW)) (HGV.out _ (box2_bel HW)) (HCV.out _ (box2_bel HW)) HQ.out.1 HQ.out.2.1 HQ.out.2.2.1).mono ?_; rintro e w' ⟨rfl, hb⟩; rw [HRF.out, HF.out]; replace HW := HW.trans hb; clear hb; (try clear p0 p1 p2 g0 g1 gsz); obtain ⟨p0, p1, p2, g0, g1, gsz⟩ := pgbox HW)
        | (go_at_call 35; refine (stepEnabled_any _ p _ g _ c _ (HPV.out _ (box2_bel HW)) (HGV.out _ (box2_bel HW)) (HCV.out _ (box2_bel HW)) HQ.out.1 HQ.out.2.1 HQ.out.2.2.1).mono ?_; rintro e w' ⟨rfl, hb⟩; rw [HEN.out]; replace HW := HW.trans hb; clear hb; (try clear p0 p1 p2 g0 g1 gsz); obtain ⟨p0, p1, p2, g0, g1, gsz⟩ := pgbox HW)
        | (go_at_call 21; refine (has_any (enabF p g c) _ _ HEL.out).mono ?_; rintro e w' ⟨rfl, rfl⟩; rw [HHE.out]))
      clear p0 p1 p2 g0 g1 gsz
      go_loopg [10] p.rules.length (fun m x wr => ∃ i : Nat, i ≤ p.rules.length ∧ m = p.rules.length - i ∧ x = .int .i64 i ∧ Bel ((w.alloc (.cells #[.string p.name, .slice A1 p.vars.length k1, .slice A2 p.rules.length k2] 25)).alloc (.cells #[.slice A3 g.ids.length k3, .slice A4 g.ports.length k4] 29)) wr)
      case atStart => exact ⟨0, by omega, rfl, rfl, HW⟩
      case round =>
        clear HW
        obtain ⟨i, hi, rfl, rfl, HW⟩ := hrel
        obtain ⟨p0, p1, p2, g0, g1, gsz⟩ := pgbox HW
        by_cases hlt : i < p.rules.length
        · have hd0 : decide (i < p.rules.length) = true := by simpa using hlt
          have HG0 : Hid (guardF p g c (q : Int) (i : Int) = false) := by show _ = _; rw [HGI.out i hlt]; exact HALL.out _ (List.getElem_mem hlt)
          have e1 : decide ((i : Int) < -1) = false := by simp <;> omega
          have e2 : ((i : Int) == -1) = false := by simp <;> omega
          go_wp2_with (go_at_call 42; refine (refGuard_any _ p _ g _ c _ _ _ (HPV.out _ (box2_bel HW)) (HGV.out _ (box2_bel HW)) (HCV.out _ (box2_bel HW)) HQ.out.1 HQ.out.2.1 HQ.out.2.2.1).mono ?_; rintro e w' ⟨rfl, hb⟩; rw [HG0.out]; replace HW := HW.trans hb; clear hb; (try clear p0 p1 p2 g0 g1 gsz); obtain ⟨p0, p1, p2, g0, g1, gsz⟩ := pgbox HW)
          clear p0 p1 p2 g0 g1 gsz
          go_roundg (p.rules.length - (i + 1))
          case rel => exact ⟨i + 1, by omega, rfl, by go_num, HW⟩
          case measure => omega
        · have hd0 : decide (i < p.rules.length) = false := by simpa using hlt
          go_wp2_with (first
            | (go_at_call 37; refine (moveNo_any _ p _ g _ c q _ (HPV.out _ (box2_bel HW)) (HGV.out _ (box2_bel HW)) (HCV.out _ (box2_bel HW)) HQ.out.1 HQ.out.2.1 HQ.out.2.2.1 HQ.out.2.2.2 hql (by rw [HF.out]; decide)).mono ?_; rintro e w' ⟨⟨R, rc, rfl⟩, hb⟩; replace HW := HW.trans hb; clear hb; (try clear p0 p1 p2 g0 g1 gsz); obtain ⟨p0, p1, p2, g0, g1, gsz⟩ := pgbox HW)
            | (go_at_call 26; refine (awake14_any _).mono ?_; rintro e w' ⟨rfl, hb⟩; replace HW := HW.trans hb; clear hb; (try clear p0 p1 p2 g0 g1 gsz); obtain ⟨p0, p1, p2, g0, g1, gsz⟩ := pgbox HW))
          go_ret
          exact ⟨rfl, box2_bel HW⟩
    · have HF := Lib.hid hf
      have HYES := Lib.hid hyes
      have HNO := Lib.hid hno
      have hd1 : decide (p.rules.length ≤ k) = false := by simp; omega
      have hd2 : decide ((k : Int) < -1) = false := by simp <;> omega
      rw [hf, decide_eq_true (show 0 ≤ (k : Int) by omega)] at HHE
      have HMF : Hid (moveF p g c q = movesF p g c q p.rules[k].sets) := by show _ = _; unfold moveF; rw [hf, ruleAt_eq hk]
      clear hf hyes hno hm hmq
      go_enter Tryz.func12, Tryz.ntmps12
      go_wp2_with (first
        | (go_at_call 30; refine (sound_any _ p _ g _ c _ (HPV.out _ (box2_bel HW)) (HGV.out _ (box2_bel HW)) (HCV.out _ (box2_bel HW))).mono ?_; rintro e w' ⟨rfl, hb⟩; rw [hq]; replace HW := HW.trans hb; clear hb; (try clear p0 p1 p2 g0 g1 gsz); obtain ⟨p0, p1, p2, g0, g1, gsz⟩ := pgbox HW)
        | (go_at_call 18; refine (mod_any _ _ _ (by omega) (by omega)).mono ?_; rintro e w' ⟨rfl, rfl⟩; rw [HMQ.out])
        | (go_at_call 33; refine (stepRule_any _ p _ g _ c _ _ (HPV.out _ (box2_bel HW)) (HGV.out _ (box2_bel HW)) (HCV.out _ (box2_bel HW)) HQ.out.1 HQ.out.2.1 HQ.out.2.2.1).mono ?_; rintro e w' ⟨rfl, hb⟩; rw [HRF.out, HF.out]; replace HW := HW.trans hb; clear hb; (try clear p0 p1 p2 g0 g1 gsz); obtain ⟨p0, p1, p2, g0, g1, gsz⟩ := pgbox HW)
        | (go_at_call 35; refine (stepEnabled_any _ p _ g _ c _ (HPV.out _ (box2_bel HW)) (HGV.out _ (box2_bel HW)) (HCV.out _ (box2_bel HW)) HQ.out.1 HQ.out.2.1 HQ.out.2.2.1).mono ?_; rintro e w' ⟨rfl, hb⟩; rw [HEN.out]; replace HW := HW.trans hb; clear hb; (try clear p0 p1 p2 g0 g1 gsz); obtain ⟨p0, p1, p2, g0, g1, gsz⟩ := pgbox HW)
        | (go_at_call 21; refine (has_any (enabF p g c) _ _ HEL.out).mono ?_; rintro e w' ⟨rfl, rfl⟩; rw [HHE.out]))
      clear p0 p1 p2 g0 g1 gsz hd1 hd2
      go_loopg [10] p.rules.length (fun m x wr => ∃ i : Nat, i ≤ p.rules.length ∧ m = p.rules.length - i ∧ x = .int .i64 i ∧ Bel ((w.alloc (.cells #[.string p.name, .slice A1 p.vars.length k1, .slice A2 p.rules.length k2] 25)).alloc (.cells #[.slice A3 g.ids.length k3, .slice A4 g.ports.length k4] 29)) wr)
      case atStart => exact ⟨0, by omega, rfl, rfl, HW⟩
      case round =>
        clear HW
        obtain ⟨i, hi, rfl, rfl, HW⟩ := hrel
        obtain ⟨p0, p1, p2, g0, g1, gsz⟩ := pgbox HW
        by_cases hlt : i < p.rules.length
        · have hd0 : decide (i < p.rules.length) = true := by simpa using hlt
          rcases Nat.lt_trichotomy i k with hik | hik | hik
          · have HG0 : Hid (guardF p g c (q : Int) (i : Int) = false) := by show _ = _; rw [HGI.out i hlt]; exact HNO.out i hik
            have e1 : decide (i < k) = true := by simpa using hik
            have e2 : ((i : Int) == (k : Int)) = false := by simp; omega
            have e3 : (i == k) = false := by simp; omega
            clear hik
            go_wp2_with (go_at_call 42; refine (refGuard_any _ p _ g _ c _ _ _ (HPV.out _ (box2_bel HW)) (HGV.out _ (box2_bel HW)) (HCV.out _ (box2_bel HW)) HQ.out.1 HQ.out.2.1 HQ.out.2.2.1).mono ?_; rintro e w' ⟨rfl, hb⟩; rw [HG0.out]; replace HW := HW.trans hb; clear hb; (try clear p0 p1 p2 g0 g1 gsz); obtain ⟨p0, p1, p2, g0, g1, gsz⟩ := pgbox HW)
            clear p0 p1 p2 g0 g1 gsz
            go_roundg (p.rules.length - (i + 1))
            case rel => exact ⟨i + 1, by omega, rfl, by go_num, HW⟩
            case measure => omega
          · subst hik
            have HG0 : Hid (guardF p g c (q : Int) (i : Int) = true) := by show _ = _; rw [HGI.out i hlt]; exact HYES.out
            have e1 : decide (i < i) = false := by simp
            go_wp2_with (go_at_call 42; refine (refGuard_any _ p _ g _ c _ _ _ (HPV.out _ (box2_bel HW)) (HGV.out _ (box2_bel HW)) (HCV.out _ (box2_bel HW)) HQ.out.1 HQ.out.2.1 HQ.out.2.2.1).mono ?_; rintro e w' ⟨rfl, hb⟩; rw [HG0.out]; replace HW := HW.trans hb; clear hb; (try clear p0 p1 p2 g0 g1 gsz); obtain ⟨p0, p1, p2, g0, g1, gsz⟩ := pgbox HW)
            clear p0 p1 p2 g0 g1 gsz
            go_roundg (p.rules.length - (i + 1))
            case rel => exact ⟨i + 1, by omega, rfl, by go_num, HW⟩
            case measure => omega
          · have e1 : decide (i < k) = false := by simp; omega
            have e2 : ((i : Int) == (k : Int)) = false := by simp; omega
            have e3 : (i == k) = false := by simp; omega
            clear hik
            go_wp2_with fail
            clear p0 p1 p2 g0 g1 gsz
            go_roundg (p.rules.length - (i + 1))
            case rel => exact ⟨i + 1, by omega, rfl, by go_num, HW⟩
            case measure => omega
        · have hd0 : decide (i < p.rules.length) = false := by simpa using hlt
          have hcc : (c[q].length != c[q].length) = false := by simp
          obtain ⟨bC, oC, RC, rC, eA, hbC, qC, iC, _, _⟩ := (HRC.out _ (Bel.refl w)).at_ q hql
          subst eA
          have IC := Lib.hid (fun w2 (k : Bel w w2) => iC.keep k)
          clear iC
          go_wp2_with (first
            | (go_at_call 37; refine (moveOK_any _ p _ g _ c q c[q].length _ (HPV.out _ (box2_bel HW)) (HGV.out _ (box2_bel HW)) (HCV.out _ (box2_bel HW)) HQ.out.1 HQ.out.2.1 HQ.out.2.2.1 HQ.out.2.2.2 hql (by rw [HF.out]; omega) (by rw [HRL.out])).mono ?_; rintro e w5 ⟨R, rc, rfl, hM, hb⟩; have HM := Lib.hid (fun w6 (k : Bel w5 w6) => hM.keep k); clear hM; replace HW := HW.trans hb; clear hb; (try clear p0 p1 p2 g0 g1 gsz); obtain ⟨p0, p1, p2, g0, g1, gsz⟩ := pgbox HW; have hHW5 := HW; have qC2 := ((box2_bel HW).cell hbC).trans qC; have hbC2 := Nat.lt_of_lt_of_le hbC (box2_bel HW).size))
          have HB5 := Bel.refl w5
          obtain ⟨bR, oR, G, gc, SS, sc, eA, hbR, _, _, cs, _, _, _, hSets, _, _⟩ := (HR.out _ (Bel.refl w)).at_ k hk
          subst eA
          have HSets := Lib.hid hSets
          have hls := lightR_len ((lightP_parts HQ.out.1).2.2.2.2 _ (List.getElem_mem hk))
          have hdk : decide (k < p.rules.length) = true := by simpa using hk
          have HML : Hid ((moveF p g c q).length = c[q].length) := by show _ = _; rw [moveF_len, getD_eq hql]
          have HST := Lib.hid (rule_sets (fits_zero (mem_zero HQ.out.2.2.2).1).1 hk)
          clear hSets qC2 hbC2 p0 p1 p2 g0 g1 gsz hcc HW hlt hd0 hi
          go_loopg [13, 14, 15] c[q].length (fun m y _b _z wr => ∃ x : Nat, x ≤ c[q].length ∧ m = c[q].length - x ∧ y = .int .i64 x ∧ Bel w5 wr)
          case atStart => exact ⟨0, by omega, rfl, rfl, HB5⟩
          case round =>
            clear HB5
            obtain ⟨wo, rfl⟩ : ∃ wo : World, wo = wr := ⟨_, rfl⟩
            obtain ⟨x, hx, rfl, rfl, HB5⟩ := hrel
            have HW := hHW5.trans HB5
            obtain ⟨p0, p1, p2, g0, g1, gsz⟩ := pgbox HW
            have cs2 := ((box2_bel HW).cell hbR).trans cs
            have hbR2 := Nat.lt_of_lt_of_le hbR (box2_bel HW).size
            by_cases hlt : x < c[q].length
            · have hd0 : decide (x < c[q].length) = true := by simpa using hlt
              go_wp2_with fail
              go_loopg [14, 15] p.rules[k].sets.length (fun m b z ws => ∃ j : Nat, j ≤ p.rules[k].sets.length ∧ m = p.rules[k].sets.length - j ∧ b = .bool (setsVar (p.rules[k].sets.take j) x) ∧ z = .int .i64 j ∧ wo = ws)
              case atStart => exact ⟨0, by omega, rfl, rfl, rfl, rfl⟩
              case round =>
                obtain ⟨j, hj, rfl, rfl, rfl, rfl⟩ := hrel
                by_cases hlt2 : j < p.rules[k].sets.length
                · have hd2 : decide (j < p.rules[k].sets.length) = true := by simpa using hlt2
                  obtain ⟨bS, oS, V, vc, rfl, hbS, s0, _, _, _, _⟩ := HSets.out.at_ j hlt2
                  have s02 := ((box2_bel HW).cell hbS).trans s0
                  have hbS2 := Nat.lt_of_lt_of_le hbS (box2_bel HW).size
                  have HSU := Lib.hid (setsVar_succ hlt2 (x : Int))
                  clear s0
                  cases hb : setsVar (p.rules[k].sets.take j) x with
                  | true =>
                    rw [hb] at HSU
                    go_wp2_with fail
                    go_roundg (p.rules[k].sets.length - (j + 1))
                    case rel => exact ⟨j + 1, by omega, rfl, by rw [HSU.out]; rfl, by go_num, rfl⟩
                    case measure => omega
                  | false =>
                    rw [hb] at HSU
                    go_wp2_with fail
                    go_roundg (p.rules[k].sets.length - (j + 1))
                    case rel => exact ⟨j + 1, by omega, rfl, by rw [HSU.out]; rfl, by go_num, rfl⟩
                    case measure => omega
                · have hd2 : decide (j < p.rules[k].sets.length) = false := by simpa using hlt2
                  obtain rfl : j = p.rules[k].sets.length := by omega
                  have hx2 : x < (moveF p g c q).length := by rw [HML.out]; exact hlt
                  obtain ⟨b1, o1, rfl, hb1, m1⟩ := (HM.out _ HB5).at_ x hx2
                  obtain ⟨b2, o2, rfl, hb2, m2⟩ := (IC.out _ (box2_bel HW)).at_ x hlt
                  have qC2 := ((box2_bel HW).cell hbC).trans qC
                  have hbC2 := Nat.lt_of_lt_of_le hbC (box2_bel HW).size
                  rw [List.take_of_length_le (Nat.le_refl _)]
                  cases hb : setsVar p.rules[k].sets x with
                  | true =>
                    go_wp2_with fail
                    go_quiet (fail)
                    go_wp2_with fail
                    go_roundg (c[q].length - (x + 1))
                    case rel => exact ⟨x + 1, by omega, rfl, by go_num, HB5.drewN _⟩
                    case measure => omega
                  | false =>
                    have hval : (moveF p g c q)[x] = c[q][x] := by
                      have h1 := movesF_keeps p g c q p.rules[k].sets x (fun s hs he => by
                        have h0 := HST.out s hs
                        have h3 := List.any_eq_false.1 hb s hs
                        simp at h3
                        omega)
                      rw [← HMF.out, getD_eq hx2, HRL.out, getD_eq hlt] at h1
                      exact h1
                    rw [hval] at m1
                    clear hval
                    go_wp2_with fail
                    go_quiet (fail)
                    go_wp2_with fail
                    go_roundg (c[q].length - (x + 1))
                    case rel => exact ⟨x + 1, by omega, rfl, by go_num, HB5.drewN _⟩
                    case measure => omega
            · have hd0 : decide (x < c[q].length) = false := by simpa using hlt
              go_wp2_with (go_at_call 26; refine (awake14_any _).mono ?_; rintro e w' ⟨rfl, hb⟩; replace HW := HW.trans hb; clear hb; (try clear p0 p1 p2 g0 g1 gsz); obtain ⟨p0, p1, p2, g0, g1, gsz⟩ := pgbox HW)
              go_ret
              exact ⟨rfl, box2_bel HW⟩

end Go.Proofs.YtibfjhhadbkkgaaGreat

