/- Merged of: L13c (see NOTES.md). -/
import Derived.Test.YtaifafljakojnaaGreatYL13b
set_option linter.unusedSimpArgs false
set_option linter.unnecessarySimpa false
set_option linter.unusedVariables false

/- The walk of MachineStepsAreBounded. -/
namespace Go.Proofs.YtaifafljakojnaaGreat
open Go.RowKit

def strB (l : List Term) : Bool := l.all fun x => (x.op != 9 && x.op != 7) && x.op != 8
theorem strB_succ {l : List Term} {j : Nat} (h : j < l.length) : strB (l.take (j + 1)) = (strB (l.take j) && ((l[j].op != 9 && l[j].op != 7) && l[j].op != 8)) := by
  unfold strB
  rw [List.take_succ_eq_append_getElem h, List.all_append]; simp
theorem strB_ops {l : List Term} (h : strB l = true) : ∀ i : Nat, i < l.length → (insAt l i).op ≠ 9 ∧ (insAt l i).op ≠ 7 ∧ (insAt l i).op ≠ 8 := fun i hi => by
  rw [insAt_get hi]
  have := (List.all_eq_true.1 h) l[i] (List.getElem_mem hi)
  simp at this
  exact ⟨this.1.1, this.1.2, this.2⟩
set_option maxRecDepth 100000 in
set_option maxHeartbeats 4000000 in
theorem machineSteps_walk (L : Option Addr) (n c0 : Nat) (l : List Term) (v1 : Value) (p : Prg) (v2 : Value) (g : Graph) (v3 : Value) (c : Config) (v : Int) (w : World) (hT : TermsR w L n l) (hcap : n ≤ c0) (hmx : c0 ≤ maxLen) (h : PrgV w v1 p) (h2 : GraphV w v2 g) (h3 : ConfV w v3 c) :
    Calls Tryz.prog 4 #[.slice L n c0, v1, v2, v3, .int .i64 v] w fun e w' => e = .returned (.bool true) ∧ Bel w w' := by
  obtain rfl := hT.1
  have HTV := Lib.hid (fun w' (k : Bel w w') => hT.keep k)
  have hnm : l.length ≤ maxLen := by omega
  clear hT
  have HPV := Lib.hid (fun w' (k : Bel w w') => h.keep k)
  have HGV := Lib.hid (fun w' (k : Bel w w') => h2.keep k)
  have HCV := Lib.hid (fun w' (k : Bel w w') => h3.keep k)
  obtain ⟨A1, k1, A2, k2, rfl, _, _, _, _, _, _⟩ := h
  obtain ⟨A3, k3, A4, k4, rfl, _, _, _, _, _, _⟩ := h2
  obtain ⟨A5, k5, rfl, _, _, _⟩ := h3
  have HW := Bel.refl ((w.alloc (.cells #[.string p.name, .slice A1 p.vars.length k1, .slice A2 p.rules.length k2] 26)).alloc (.cells #[.slice A3 g.ids.length k3, .slice A4 g.ports.length k4] 30))
  have HNM := Lib.hid hnm
  have HCAP := Lib.hid hcap
  clear hnm hcap hmx
  cases hq : quick13F l p g c with
  | false =>
    go_enter Tryz.func4, Tryz.ntmps4
    go_wp2_with (first
      | (go_at_call 8; refine (quick13_any L l.length c0 l _ p _ g _ c _ rfl HNM.out (HPV.out _ (box2_bel HW)) (HGV.out _ (box2_bel HW)) (HCV.out _ (box2_bel HW))).mono ?_; rintro e w' ⟨rfl, hb⟩; rw [hq]; replace HW := HW.trans hb; clear hb; (try clear p0 p1 p2 g0 g1 gsz); obtain ⟨p0, p1, p2, g0, g1, gsz⟩ := pgbox HW)
      | (go_at_call 9; refine (awake13_any _).mono ?_; rintro e w' ⟨rfl, hb⟩; replace HW := HW.trans hb; clear hb; (try clear p0 p1 p2 g0 g1 gsz); obtain ⟨p0, p1, p2, g0, g1, gsz⟩ := pgbox HW))
    go_ret
    exact ⟨rfl, box2_bel HW⟩
  | true =>
    have HQ := Lib.hid (quick13_parts hq)
    cases hm : decide (memF p g c = 0) with
    | false =>
      go_enter Tryz.func4, Tryz.ntmps4
      go_wp2_with (first
        | (go_at_call 8; refine (quick13_any L l.length c0 l _ p _ g _ c _ rfl HNM.out (HPV.out _ (box2_bel HW)) (HGV.out _ (box2_bel HW)) (HCV.out _ (box2_bel HW))).mono ?_; rintro e w' ⟨rfl, hb⟩; rw [hq]; replace HW := HW.trans hb; clear hb; (try clear p0 p1 p2 g0 g1 gsz); obtain ⟨p0, p1, p2, g0, g1, gsz⟩ := pgbox HW)
        | (go_at_call 12; refine (refMemValid_any _ p _ g _ c _ (HPV.out _ (box2_bel HW)) (HGV.out _ (box2_bel HW)) (HCV.out _ (box2_bel HW)) HQ.out.1 HQ.out.2.1 HQ.out.2.2.1).mono ?_; rintro e w' ⟨rfl, hb⟩; rw [hm]; replace HW := HW.trans hb; clear hb; (try clear p0 p1 p2 g0 g1 gsz); obtain ⟨p0, p1, p2, g0, g1, gsz⟩ := pgbox HW)
        | (go_at_call 9; refine (awake13_any _).mono ?_; rintro e w' ⟨rfl, hb⟩; replace HW := HW.trans hb; clear hb; (try clear p0 p1 p2 g0 g1 gsz); obtain ⟨p0, p1, p2, g0, g1, gsz⟩ := pgbox HW))
      go_ret
      exact ⟨rfl, box2_bel HW⟩
    | true =>
      have HM := Lib.hid (of_decide_eq_true hm)
      obtain ⟨q, hmod, hqc⟩ := mod_node13 (v := v) (mem_pos13 HM.out)
      have HMOD := Lib.hid hmod
      have hc30 := (lightC_parts HQ.out.2.2.1).1
      have hcp := mem_pos13 HM.out
      have hvl := (lightP_parts HQ.out.1).2.1
      clear hmod
      by_cases hv : (verifyF l p.vars.length).2.2 = 0
      · obtain ⟨x, i, hr, hnx, hi, hib, _⟩ := runF_ok HM.out hqc hv
        have hv1 : ((verifyF l p.vars.length).2.2 != 0) = false := by simpa using hv
        have HR := Lib.hid hr
        have HST := Lib.hid (fun (hs : strB l = true) => show i = l.length from by
          have := runF_straight HM.out hqc hv (strB_ops hs)
          rw [hr] at this
          exact Int.ofNat_inj.1 this)
        have hi1 : decide ((1 : Int) ≤ (i : Int)) = true := by simp; omega
        have HNX := Lib.hid (numB_true hnx)
        have hqp : q < g.ports.length := by
          have := (mem_sok (p := p) (g := g) (c := c) HM.out hqc).len
          omega
        obtain ⟨A', k', A2', k2', eG, _, _, _, hP, _, _⟩ := HGV.out w (Bel.refl w)
        obtain ⟨⟨rfl, rfl⟩, rfl, rfl⟩ : (A3 = A' ∧ k3 = k') ∧ A4 = A2' ∧ k4 = k2' := by simpa using eG
        obtain ⟨b4, o4, K, ck, rfl, hb4, hrow4, _, _, _⟩ := RowsAt.at_ hP q hqp
        have hcell := Lib.hid (fun w' (kk : Bel ((w.alloc (.cells #[.string p.name, .slice A1 p.vars.length k1, .slice A2 p.rules.length k2] 26)).alloc (.cells #[.slice A3 g.ids.length k3, .slice (some ⟨b4, o4, none⟩) g.ports.length k4] 30)) w') => And.intro (((box2_bel kk).cell hb4).trans hrow4) (Nat.lt_of_lt_of_le hb4 (box2_bel kk).size))
        have hdq : decide (q < g.ports.length) = true := by simpa using hqp
        have hdeg : g.ports[q].length ≤ 30 := (lightG_parts HQ.out.2.1).2.2 _ (List.getElem_mem hqp)
        obtain ⟨D, hDm, hD1, hD30, hib2⟩ : ∃ D : Nat, (if (g.ports[q].length : Int) < 1 then 1 else (g.ports[q].length : Int)) = (D : Int) ∧ 1 ≤ D ∧ D ≤ 30 ∧ i ≤ l.length * D * D := by
          refine ⟨max g.ports[q].length 1, by split <;> omega, by omega, by omega, ?_⟩
          have : fuelF g c q l = l.length * (max g.ports[q].length 1 * max g.ports[q].length 1) := by
            show l.length * (max (g.ports.getD q []).length 1 * max (g.ports.getD q []).length 1) = _
            rw [getD_eq hqp]
          rw [Nat.mul_assoc]
          omega
        have w1 := wrap_mul HQ.out.2.2.2 hD30 (by decide)
        have HB3 : Hid (wrap64 ((l.length * D * D : Nat) : Int) = ((l.length * D * D : Nat) : Int)) := by
          have h6 : l.length * D * D ≤ 400 * 30 * 30 := Nat.mul_le_mul (Nat.mul_le_mul HQ.out.2.2.2 hD30) hD30
          exact IntWalk.wrap64_in _ ⟨by omega, by omega⟩
        have HIB := Lib.hid hib2
        clear hib2 hD1 hD30
        have hl4 := HQ.out.2.2.2
        clear hr hv hi hib hnx eG hP hrow4
        go_enter Tryz.func4, Tryz.ntmps4
        go_wp2_with (first
          | (go_at_call 8; refine (quick13_any L l.length c0 l _ p _ g _ c _ rfl HNM.out (HPV.out _ (box2_bel HW)) (HGV.out _ (box2_bel HW)) (HCV.out _ (box2_bel HW))).mono ?_; rintro e w' ⟨rfl, hb⟩; rw [hq]; replace HW := HW.trans hb; clear hb; (try clear p0 p1 p2 g0 g1 gsz); obtain ⟨p0, p1, p2, g0, g1, gsz⟩ := pgbox HW)
          | (go_at_call 12; refine (refMemValid_any _ p _ g _ c _ (HPV.out _ (box2_bel HW)) (HGV.out _ (box2_bel HW)) (HCV.out _ (box2_bel HW)) HQ.out.1 HQ.out.2.1 HQ.out.2.2.1).mono ?_; rintro e w' ⟨rfl, hb⟩; rw [hm]; replace HW := HW.trans hb; clear hb; (try clear p0 p1 p2 g0 g1 gsz); obtain ⟨p0, p1, p2, g0, g1, gsz⟩ := pgbox HW)
          | (go_at_call 13; refine (refVerify_any L l.length c0 l _ _ (HTV.out _ (box2_bel HW)) (Nat.le_trans HQ.out.2.2.2 (by decide)) (by omega)).mono ?_; rintro e w1 ⟨a9, b9, rfl, hb⟩; replace HW := HW.trans hb; clear hb; (try clear p0 p1 p2 g0 g1 gsz); obtain ⟨p0, p1, p2, g0, g1, gsz⟩ := pgbox HW)
          | (go_at_call 14; refine (mod_any _ _ _ (by omega) (by omega)).mono ?_; rintro e w' ⟨rfl, rfl⟩; rw [HMOD.out])
          | (go_at_call 10; refine (machRun_any L l.length c0 l _ p _ g _ c _ _ (HTV.out _ (box2_bel HW)) HCAP.out (Nat.le_trans HQ.out.2.2.2 (by decide)) (HPV.out _ (box2_bel HW)) (HGV.out _ (box2_bel HW)) (HCV.out _ (box2_bel HW)) HQ.out.1 HQ.out.2.1 HQ.out.2.2.1).mono ?_; rintro e w' ⟨rfl, hb⟩; rw [HR.out]; replace HW := HW.trans hb; clear hb; (try clear p0 p1 p2 g0 g1 gsz); obtain ⟨p0, p1, p2, g0, g1, gsz⟩ := pgbox HW; obtain ⟨qr, qb⟩ := hcell.out _ HW))
        clear p0 p1 p2 g0 g1 gsz qr qb
        go_loopg [18, 19] l.length (fun m s z wr => ∃ j : Nat, j ≤ l.length ∧ m = l.length - j ∧ z = .int .i64 j ∧ s = .bool (strB (l.take j)) ∧ Bel ((w.alloc (.cells #[.string p.name, .slice A1 p.vars.length k1, .slice A2 p.rules.length k2] 26)).alloc (.cells #[.slice A3 g.ids.length k3, .slice (some ⟨b4, o4, none⟩) g.ports.length k4] 30)) wr)
        case atStart => exact ⟨0, by omega, rfl, rfl, rfl, HW⟩
        case round =>
          clear HW
          obtain ⟨j, hj, rfl, rfl, rfl, HW⟩ := hrel
          by_cases hlt : j < l.length
          · have hdj : decide (j < l.length) = true := by simpa using hlt
            obtain ⟨b5, o5, e5, hb5, t0, _⟩ := (HTV.out _ (box2_bel HW)).at_ j hlt
            have HS := Lib.hid (strB_succ hlt)
            subst e5
            obtain ⟨ox, hox⟩ : ∃ ox, ox = l[j].op := ⟨_, rfl⟩
            rw [← hox] at t0 HS
            clear hox
            obtain ⟨b9, h9⟩ : ∃ b, (ox != 9) = b := ⟨_, rfl⟩
            obtain ⟨b7, h7⟩ : ∃ b, (ox != 7) = b := ⟨_, rfl⟩
            obtain ⟨b8, h8⟩ : ∃ b, (ox != 8) = b := ⟨_, rfl⟩
            rw [h9, h7, h8] at HS
            cases hs : strB (l.take j) with
            | false =>
              rw [hs] at HS
              go_wp2_with fail
              go_roundg (l.length - (j + 1))
              case rel => exact ⟨j + 1, by omega, rfl, by go_num, by rw [HS.out]; rfl, HW⟩
              case measure => omega
            | true =>
              rw [hs] at HS
              cases b9 with
              | false =>
                go_wp2_with fail
                go_roundg (l.length - (j + 1))
                case rel => exact ⟨j + 1, by omega, rfl, by go_num, by rw [HS.out]; rfl, HW⟩
                case measure => omega
              | true =>
                cases b7 with
                | false =>
                  go_wp2_with fail
                  go_roundg (l.length - (j + 1))
                  case rel => exact ⟨j + 1, by omega, rfl, by go_num, by rw [HS.out]; rfl, HW⟩
                  case measure => omega
                | true =>
                  go_wp2_with fail
                  go_roundg (l.length - (j + 1))
                  case rel => exact ⟨j + 1, by omega, rfl, by go_num, by rw [HS.out]; simp, HW⟩
                  case measure => omega
          · have hdj : decide (j < l.length) = false := by simpa using hlt
            obtain rfl : j = l.length := by omega
            rw [List.take_length]
            obtain ⟨X, hX, hXi⟩ : ∃ X : Int, wrap64 ((l.length : Int) * (D : Int) * (D : Int)) = X ∧ (i : Int) ≤ X := by
              refine ⟨_, rfl, ?_⟩
              have h7 := HB3.out
              have h8 := Int.ofNat_le.2 HIB.out
              rw [Int.natCast_mul, Int.natCast_mul] at h7 h8
              rw [h7]; exact h8
            have hXd : decide ((i : Int) ≤ X) = true := by simpa using hXi
            clear hXi w1 hDm
            cases hs : strB l with
            | false =>
              go_wp2_with (first
                | (go_at_call 9; refine (awake13_any _).mono ?_; rintro e w' ⟨rfl, hb⟩; replace HW := HW.trans hb; clear hb)
                | (go_at_call 15; refine (refNumber_any _ _).mono ?_; rintro e w' ⟨rfl, rfl⟩; rw [HNX.out]))
              all_goals
                go_ret
                refine ⟨ret_bool ?_, box2_bel HW⟩
                rfl
            | true =>
              have hil := HST.out hs
              subst hil
              go_wp2_with (first
                | (go_at_call 9; refine (awake13_any _).mono ?_; rintro e w' ⟨rfl, hb⟩; replace HW := HW.trans hb; clear hb)
                | (go_at_call 15; refine (refNumber_any _ _).mono ?_; rintro e w' ⟨rfl, rfl⟩; rw [HNX.out]))
              all_goals
                go_ret
                refine ⟨ret_bool ?_, box2_bel HW⟩
                rfl
      · have hv1 : ((verifyF l p.vars.length).2.2 != 0) = true := by simpa using hv
        clear hv hqc
        go_enter Tryz.func4, Tryz.ntmps4
        go_wp2_with (first
          | (go_at_call 8; refine (quick13_any L l.length c0 l _ p _ g _ c _ rfl HNM.out (HPV.out _ (box2_bel HW)) (HGV.out _ (box2_bel HW)) (HCV.out _ (box2_bel HW))).mono ?_; rintro e w' ⟨rfl, hb⟩; rw [hq]; replace HW := HW.trans hb; clear hb; (try clear p0 p1 p2 g0 g1 gsz); obtain ⟨p0, p1, p2, g0, g1, gsz⟩ := pgbox HW)
          | (go_at_call 12; refine (refMemValid_any _ p _ g _ c _ (HPV.out _ (box2_bel HW)) (HGV.out _ (box2_bel HW)) (HCV.out _ (box2_bel HW)) HQ.out.1 HQ.out.2.1 HQ.out.2.2.1).mono ?_; rintro e w' ⟨rfl, hb⟩; rw [hm]; replace HW := HW.trans hb; clear hb; (try clear p0 p1 p2 g0 g1 gsz); obtain ⟨p0, p1, p2, g0, g1, gsz⟩ := pgbox HW)
          | (go_at_call 13; refine (refVerify_any L l.length c0 l _ _ (HTV.out _ (box2_bel HW)) (Nat.le_trans HQ.out.2.2.2 (by decide)) (by omega)).mono ?_; rintro e w1 ⟨a9, b9, rfl, hb⟩; replace HW := HW.trans hb; clear hb; (try clear p0 p1 p2 g0 g1 gsz); obtain ⟨p0, p1, p2, g0, g1, gsz⟩ := pgbox HW)
          | (go_at_call 9; refine (awake13_any _).mono ?_; rintro e w' ⟨rfl, hb⟩; replace HW := HW.trans hb; clear hb; (try clear p0 p1 p2 g0 g1 gsz); obtain ⟨p0, p1, p2, g0, g1, gsz⟩ := pgbox HW))
        go_ret
        exact ⟨rfl, box2_bel HW⟩

end Go.Proofs.YtaifafljakojnaaGreat

