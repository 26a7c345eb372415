/- Merged of: L11h (see NOTES.md). -/
import Derived.Test.YtibfjhhadbkkgaaGreatZ18
import Derived.Test.YtibfjhhadbkkgaaGreatZ24
set_option linter.unusedSimpArgs false
set_option linter.unnecessarySimpa false
set_option linter.unusedVariables false

/- The walk of EvalIsLocal. -/
namespace Go.Proofs.YtibfjhhadbkkgaaGreat
open Go.RowKit

theorem value_agree {p : Prg} {g : Graph} {c d : Config} {es : List Term} (hc : memF p g c = 0) (hd : memF p g d = 0) {q : Nat} (hq : q < c.length) (h : Agree g c d q) : valueF p g d (q : Int) es = valueF p g c (q : Int) es := by
  have hg := (fits_zero (mem_zero hc).1).2.1
  have h1 := conf_len hc
  have h2 := conf_len hd
  unfold valueF
  rw [if_neg (show ¬ memF p g d ≠ 0 by simpa using hd), if_neg (show ¬ memF p g c ≠ 0 by simpa using hc), if_neg (show ¬ ¬ (0 ≤ (q : Int) ∧ (q : Int) ≤ (d.length : Int) - 1) by omega), if_neg (show ¬ ¬ (0 ≤ (q : Int) ∧ (q : Int) ≤ (c.length : Int) - 1) by omega), Int.toNat_natCast]
  split
  · rfl
  · rename_i ho
    obtain ⟨o1, o2, _⟩ := ofF_ok (by simpa using ho)
    rw [eval_local hg (by omega) h.1 h.2 (kind_bound o2) portOK_false]
theorem two_pow_mod {q : Nat} (hq : q < 32) : (2 : Int) ^ q % 4294967296 = ((2 ^ q : Nat) : Int) := by
  have e2 : (2 : Int) ^ q = ((2 ^ q : Nat) : Int) := by rw [Int.natCast_pow]; rfl
  rw [e2]; exact Int.emod_eq_of_lt (b := 4294967296) (Int.natCast_nonneg _) (Int.ofNat_lt.2 (two_lt hq))
theorem mod_node14 (k : Int) {n : Nat} (h : 0 < n) : ∃ q : Nat, modF k (n : Int) = (q : Int) ∧ q < n := by
  have h1 := Int.emod_nonneg k (show (n : Int) ≠ 0 by omega)
  have h2 := Int.emod_lt_of_pos k (show (0 : Int) < n by omega)
  obtain ⟨q, hq⟩ := Int.eq_ofNat_of_zero_le h1
  exact ⟨q, hq, by omega⟩

set_option maxRecDepth 100000 in
set_option maxHeartbeats 8000000 in
theorem evalIsLocal_walk (v1 : Value) (p : Prg) (v2 : Value) (g : Graph) (v3 : Value) (c : Config) (v4 : Value) (d : Config) (v : Int) (A : Option Addr) (ne ce : Nat) (es : List Term) (w : World) (h : PrgV w v1 p) (h2 : GraphV w v2 g) (h3 : ConfV w v3 c) (h4 : ConfV w v4 d) (hT : TermsR w A ne es) :
    Calls Tryz.prog 3 #[v1, v2, v3, v4, .int .i64 v, .slice A ne ce] w fun e w' => e = .returned (.bool true) ∧ Bel w w' := by
  obtain rfl : ne = es.length := hT.1.symm
  have HT := Lib.hid (fun w' (k : Bel w w') => TermsR.keep hT k)
  clear hT
  have hRC : ∃ A k, v3 = .slice A c.length k ∧ RowsR w A c.length c := by
    obtain ⟨A, k, e, hR, _⟩ := h3
    exact ⟨A, k, e, hR⟩
  obtain ⟨A5r, k5r, eC, hRC⟩ := hRC
  have HPV := Lib.hid (fun w' (k : Bel w w') => h.keep k)
  have HGV := Lib.hid (fun w' (k : Bel w w') => h2.keep k)
  have HCV := Lib.hid (fun w' (k : Bel w w') => h3.keep k)
  obtain ⟨A1, k1, A2, k2, rfl, _, _, _, _, _, _⟩ := h
  obtain ⟨A3, k3, A4, k4, rfl, _, _, _, _, _, _⟩ := h2
  obtain ⟨A5, k5, rfl, _, _, _⟩ := h3
  have HW := Bel.refl ((w.alloc (.cells #[.string p.name, .slice A1 p.vars.length k1, .slice A2 p.rules.length k2] 25)).alloc (.cells #[.slice A3 g.ids.length k3, .slice A4 g.ports.length k4] 29))
  obtain ⟨rfl, rfl⟩ : A5 = A5r ∧ k5 = k5r := by simpa using eC
  have HRC := Lib.hid (fun w' (k : Bel w w') => RowsR.keep hRC k)
  have HDV := Lib.hid (fun w' (k : Bel w w') => h4.keep k)
  obtain ⟨A6, k6, rfl, _, _, _⟩ := h4
  clear eC hRC
  cases hq : quick11F p g c es.length with
  | false =>
    go_enter Tryz.func3, Tryz.ntmps3
    go_wp2_with (first
      | (go_at_call 14; refine (quick11_any _ p _ g _ c _ _ _ _ (HPV.out _ (box2_bel HW)) (HGV.out _ (box2_bel HW)) (HCV.out _ (box2_bel HW))).mono ?_; rintro e w' ⟨rfl, hb⟩; rw [hq]; replace HW := HW.trans hb; clear hb; (try clear p0 p1 p2 g0 g1 gsz); obtain ⟨p0, p1, p2, g0, g1, gsz⟩ := pgbox HW)
      | (go_at_call 17; refine (awake11_any _).mono ?_; rintro e w' ⟨rfl, hb⟩; replace HW := HW.trans hb; clear hb; (try clear p0 p1 p2 g0 g1 gsz); obtain ⟨p0, p1, p2, g0, g1, gsz⟩ := pgbox HW))
    go_ret
    exact ⟨rfl, box2_bel HW⟩
  | true =>
  have HQ := Lib.hid (quick11_parts hq)
  cases hl : lightC d with
  | false =>
    go_enter Tryz.func3, Tryz.ntmps3
    go_wp2_with (first
      | (go_at_call 14; refine (quick11_any _ p _ g _ c _ _ _ _ (HPV.out _ (box2_bel HW)) (HGV.out _ (box2_bel HW)) (HCV.out _ (box2_bel HW))).mono ?_; rintro e w' ⟨rfl, hb⟩; rw [hq]; replace HW := HW.trans hb; clear hb; (try clear p0 p1 p2 g0 g1 gsz); obtain ⟨p0, p1, p2, g0, g1, gsz⟩ := pgbox HW)
      | (go_at_call 15; refine (lightConfig_any _ d _ (HDV.out _ (box2_bel HW))).mono ?_; rintro e w' ⟨rfl, rfl⟩; rw [hl])
      | (go_at_call 17; refine (awake11_any _).mono ?_; rintro e w' ⟨rfl, hb⟩; replace HW := HW.trans hb; clear hb; (try clear p0 p1 p2 g0 g1 gsz); obtain ⟨p0, p1, p2, g0, g1, gsz⟩ := pgbox HW))
    go_ret
    exact ⟨rfl, box2_bel HW⟩
  | true =>
  have HLD := Lib.hid hl
  cases hmc : decide (memF p g c = 0) with
  | false =>
    go_enter Tryz.func3, Tryz.ntmps3
    go_wp2_with (first
      | (go_at_call 14; refine (quick11_any _ p _ g _ c _ _ _ _ (HPV.out _ (box2_bel HW)) (HGV.out _ (box2_bel HW)) (HCV.out _ (box2_bel HW))).mono ?_; rintro e w' ⟨rfl, hb⟩; rw [hq]; replace HW := HW.trans hb; clear hb; (try clear p0 p1 p2 g0 g1 gsz); obtain ⟨p0, p1, p2, g0, g1, gsz⟩ := pgbox HW)
      | (go_at_call 15; refine (lightConfig_any _ d _ (HDV.out _ (box2_bel HW))).mono ?_; rintro e w' ⟨rfl, rfl⟩; rw [hl])
      | (go_at_call 16; ((with_reducible refine (refMemValid_any _ p _ g (.slice A5 c.length k5) c _ (HPV.out _ (box2_bel HW)) (HGV.out _ (box2_bel HW)) (HCV.out _ (box2_bel HW)) HQ.out.2.1 HQ.out.2.2.1 HQ.out.2.2.2.1).mono ?_); rintro e w3 ⟨rfl, hb⟩; rw [hmc]; replace HW := HW.trans hb; clear hb; (try clear p0 p1 p2 g0 g1 gsz); obtain ⟨p0, p1, p2, g0, g1, gsz⟩ := pgbox HW))
      | (go_at_call 17; refine (awake11_any _).mono ?_; rintro e w' ⟨rfl, hb⟩; replace HW := HW.trans hb; clear hb; (try clear p0 p1 p2 g0 g1 gsz); obtain ⟨p0, p1, p2, g0, g1, gsz⟩ := pgbox HW))
    go_ret
    exact ⟨rfl, box2_bel HW⟩
  | true =>
  cases hmd : decide (memF p g d = 0) with
  | false =>
    go_enter Tryz.func3, Tryz.ntmps3
    go_wp2_with (first
      | (go_at_call 14; refine (quick11_any _ p _ g _ c _ _ _ _ (HPV.out _ (box2_bel HW)) (HGV.out _ (box2_bel HW)) (HCV.out _ (box2_bel HW))).mono ?_; rintro e w' ⟨rfl, hb⟩; rw [hq]; replace HW := HW.trans hb; clear hb; (try clear p0 p1 p2 g0 g1 gsz); obtain ⟨p0, p1, p2, g0, g1, gsz⟩ := pgbox HW)
      | (go_at_call 15; refine (lightConfig_any _ d _ (HDV.out _ (box2_bel HW))).mono ?_; rintro e w' ⟨rfl, rfl⟩; rw [hl])
      | (go_at_call 16; ((with_reducible refine (refMemValid_any _ p _ g (.slice A5 c.length k5) c _ (HPV.out _ (box2_bel HW)) (HGV.out _ (box2_bel HW)) (HCV.out _ (box2_bel HW)) HQ.out.2.1 HQ.out.2.2.1 HQ.out.2.2.2.1).mono ?_); rintro e w3 ⟨rfl, hb⟩; rw [hmc]; replace HW := HW.trans hb; clear hb; (try clear p0 p1 p2 g0 g1 gsz); obtain ⟨p0, p1, p2, g0, g1, gsz⟩ := pgbox HW))
      | (go_at_call 16; ((with_reducible refine (refMemValid_any _ p _ g (.slice A6 d.length k6) d _ (HPV.out _ (box2_bel HW)) (HGV.out _ (box2_bel HW)) (HDV.out _ (box2_bel HW)) HQ.out.2.1 HQ.out.2.2.1 HLD.out).mono ?_); rintro e w3 ⟨rfl, hb⟩; rw [hmd]; replace HW := HW.trans hb; clear hb; (try clear p0 p1 p2 g0 g1 gsz); obtain ⟨p0, p1, p2, g0, g1, gsz⟩ := pgbox HW))
      | (go_at_call 17; refine (awake11_any _).mono ?_; rintro e w' ⟨rfl, hb⟩; replace HW := HW.trans hb; clear hb; (try clear p0 p1 p2 g0 g1 gsz); obtain ⟨p0, p1, p2, g0, g1, gsz⟩ := pgbox HW))
    go_ret
    exact ⟨rfl, box2_bel HW⟩
  | true =>
    have HMD := Lib.hid (of_decide_eq_true hmd)
    have hm := of_decide_eq_true hmc
    have hlc := (quick11_parts hq).2.2.2.1
    have hg := (fits_zero (mem_zero hm).1).2.1
    have HG := Lib.hid hg
    have hle : c.length ≤ 24 := by rw [conf_len hm]; exact hg.le
    have hcd : d.length = c.length := by rw [conf_len hm, conf_len HMD.out]
    have HCD := Lib.hid hcd
    have hcp := mem_pos14 hm
    obtain ⟨q, hmq, hql⟩ := mod_node14 v hcp
    have HMQ := Lib.hid hmq
    obtain ⟨B, hBd⟩ : ∃ B : Nat, B = 2 ^ q := ⟨_, rfl⟩
    have hB : (2 : Int) ^ q % 4294967296 = (B : Int) := by rw [hBd]; exact two_pow_mod (by omega)
    have HBL : Hid (B < 4294967296) := by rw [hBd]; exact two_lt (by omega)
    have HNL : Hid (nbrF g B < 4294967296) := setF_lt32 _ (by have := hg.le; omega)
    obtain ⟨M, hM⟩ : ∃ M, M = nbrF g B ||| B := ⟨_, rfl⟩
    have hor : bits .or .u32 (nbrF g B : Int) (B : Int) = (M : Int) := by rw [hM]; exact bits_or HNL.out HBL.out
    have HML : Hid (M < 4294967296) := by rw [hM]; exact Nat.or_lt_two_pow (n := 32) HNL.out HBL.out
    have HAG : Hid (Agree g c (mixF c d M) q) := by rw [hM, hBd]; exact mix_agree hm HMD.out hql
    have HMX := Lib.hid (mix_mem hm HMD.out M)
    have HLX := Lib.hid (mix_light hlc hl M)
    have HMV := Lib.hid (value_agree (es := es) hm HMX.out hql HAG.out)
    have HROW := Lib.hid (fun (v : Nat) => light_row hlc v)
    obtain ⟨j0, hj0, hy0, hy1, hy2⟩ := info_parts int_infoC
    clear hBd hM hcd hmq hm hg hlc
    go_enter Tryz.func3, Tryz.ntmps3
    go_wp2_with (first
      | (go_at_call 14; refine (quick11_any _ p _ g _ c _ _ _ _ (HPV.out _ (box2_bel HW)) (HGV.out _ (box2_bel HW)) (HCV.out _ (box2_bel HW))).mono ?_; rintro e w' ⟨rfl, hb⟩; rw [hq]; replace HW := HW.trans hb; clear hb; (try clear p0 p1 p2 g0 g1 gsz); obtain ⟨p0, p1, p2, g0, g1, gsz⟩ := pgbox HW)
      | (go_at_call 15; refine (lightConfig_any _ d _ (HDV.out _ (box2_bel HW))).mono ?_; rintro e w' ⟨rfl, rfl⟩; rw [hl])
      | (go_at_call 16; ((with_reducible refine (refMemValid_any _ p _ g (.slice A5 c.length k5) c _ (HPV.out _ (box2_bel HW)) (HGV.out _ (box2_bel HW)) (HCV.out _ (box2_bel HW)) HQ.out.2.1 HQ.out.2.2.1 HQ.out.2.2.2.1).mono ?_); rintro e w3 ⟨rfl, hb⟩; rw [hmc]; replace HW := HW.trans hb; clear hb; (try clear p0 p1 p2 g0 g1 gsz); obtain ⟨p0, p1, p2, g0, g1, gsz⟩ := pgbox HW))
      | (go_at_call 16; ((with_reducible refine (refMemValid_any _ p _ g (.slice A6 d.length k6) d _ (HPV.out _ (box2_bel HW)) (HGV.out _ (box2_bel HW)) (HDV.out _ (box2_bel HW)) HQ.out.2.1 HQ.out.2.2.1 HLD.out).mono ?_); rintro e w3 ⟨rfl, hb⟩; rw [hmd]; replace HW := HW.trans hb; clear hb; (try clear p0 p1 p2 g0 g1 gsz); obtain ⟨p0, p1, p2, g0, g1, gsz⟩ := pgbox HW))
      | (go_at_call 18; refine (mod_any _ _ _ (by omega) (by omega)).mono ?_; rintro e w' ⟨rfl, rfl⟩; rw [HMQ.out])
      | (go_at_call 19; refine (refNeigh_any _ g B _ (HGV.out _ (box2_bel HW)) HG.out HQ.out.2.2.1 HBL.out).mono ?_; rintro e w' ⟨rfl, hb⟩; replace HW := HW.trans hb; clear hb; (try clear p0 p1 p2 g0 g1 gsz); obtain ⟨p0, p1, p2, g0, g1, gsz⟩ := pgbox HW)
      | (go_at_call 20; refine (refCopy_any _ d _ (HDV.out _ (box2_bel HW)) HLD.out (by rw [HCD.out]; omega)).mono ?_; rintro e w' ⟨gb, cap, hs, rfl, hO, hb⟩; have HO := Lib.hid hO; have HGB := Lib.hid (own_base hO.own).1; have hsz := HW.size; clear hO; replace HW := HW.trans hb; clear hb; (try clear p0 p1 p2 g0 g1 gsz); obtain ⟨p0, p1, p2, g0, g1, gsz⟩ := pgbox HW))
    have hgb := HGB.out
    simp only [World.size_alloc] at hsz
    have hgb2 : w.heap.size + 1 < gb := by omega
    have HO2 : Hid (OwnC w' (w.heap.size + 1 + 1) gb cap d hs) := ⟨own_lower HO.out.own (by omega), HO.out.rows⟩
    clear hB hor hgb hsz p0 p1 p2 g0 g1 gsz HO
    go_loopg [15] c.length (fun m z wr => ∃ (u : Nat) (hs : List Value), u ≤ c.length ∧ m = c.length - u ∧ z = .int .i64 u ∧ Hid (OwnC wr (w.heap.size + 1 + 1) gb cap (partM c d M u) hs) ∧ Bel ((w.alloc (.cells #[.string p.name, .slice A1 p.vars.length k1, .slice A2 p.rules.length k2] 25)).alloc (.cells #[.slice A3 g.ids.length k3, .slice A4 g.ports.length k4] 29)) wr)
    case atStart => exact ⟨0, hs, by omega, rfl, rfl, by show OwnC _ _ _ _ _ _; rw [partM_zero]; exact HO2.out, HW⟩
    case round =>
      clear HO2 HW
      obtain ⟨u, hs, hu, rfl, rfl, HO, HW⟩ := hrel
      obtain ⟨p0, p1, p2, g0, g1, gsz⟩ := pgbox HW
      by_cases hlt : u < c.length
      · have hd0 : decide (u < c.length) = true := by simpa using hlt
        have HHAS := Lib.hid (has_node (S := M) (show u < 32 by omega))
        obtain ⟨bC, oC, R, rc, eA, hbC, qC, iC, _, _⟩ := (HRC.out _ (Bel.refl w)).at_ u hlt
        subst eA
        have qC2 := ((box2_bel HW).cell hbC).trans qC
        have hbC2 := Nat.lt_of_lt_of_le hbC (box2_bel HW).size
        have HI := Lib.hid (iC.keep (box2_bel HW))
        have hle10 := HROW.out u
        rw [getD_eq hlt] at hle10
        have HRL := Lib.hid (getD_eq (d := []) hlt)
        have HSL : Hid (hs.length = d.length) := by have := HO.out.own.1; rw [partM_length] at this; show _ = _; omega
        have hdl : u < d.length := by rw [HCD.out]; exact hlt
        have hddl : decide (u < d.length) = true := by simpa using hdl
        clear iC qC
        cases hb : M.testBit u with
        | true =>
          have HPY := Lib.hid (partM_yes (c := c) (d := d) hb)
          rw [hb] at HHAS
          clear hb
          go_wp2_with (first
            | (go_at_call 21; refine (has_any M _ _ HML.out).mono ?_; rintro e w2 ⟨rfl, rfl⟩; rw [HHAS.out])
            | (at_builtin; refine wpList_extend _ rfl (.const (.slice none 0 0)) (.tmp 75) 26 rfl wr.heap.size 3 j0 (.int .i64 0) 1 8 Tryz.underlying26 hj0 hy0 hy1 hy2 rfl (by decide) none 0 0 [] rfl (World.ownsRow_nil _ _ _ _) R c[u].length rc (c[u].map (Value.int .i64)) rfl HI.out.cells (int_cells_one _) (by unfold maxLen; omega) (by omega) (Nat.le_refl _) ?_; intro A3 c3 w3 hown3 hgr3 _; rw [List.nil_append, Nat.zero_add] at hown3; have hb3 := (Bel.refl wr).grown hgr3 (fun k hk => by cases hk); obtain ⟨_, hN⟩ := own_newI hown3; have HN := Lib.hid hN; have hgbr := (own_base HO.out.own).2; have HO3 := Lib.hid (HO.out.keep hb3); have y1 := own_cell0 HO3.out.own u (by rw [HSL.out]; omega); have y2 := HO3.out.own.frozenAt u; have ygb := (own_base HO3.out.own).2; replace HW := HW.trans hb3; clear hown3 hgr3 hb3 hN))
          clear p0 p1 p2 g0 g1 gsz
          go_roundg (c.length - (u + 1))
          case rel =>
            refine ⟨u + 1, hs.set u (.slice A3 c[u].length c3), by omega, rfl, by go_num, ?_, HW.setCell (by simp; omega) _⟩
            have h3 := HN.out
            show OwnC _ _ _ _ _ _
            rw [← HPY.out, HRL.out]
            simpa using HO3.out.set (v := u) (l := c[u]) (A := A3) (c' := c3) (by rw [partM_length]; exact hdl) h3.1 h3.2.1 h3.2.2.1 (h3.off (by omega))
          case measure => omega
        | false =>
          have HPN := Lib.hid (partM_no (c := c) (d := d) hb)
          rw [hb] at HHAS
          clear hb
          go_wp2_with (go_at_call 21; refine (has_any M _ _ HML.out).mono ?_; rintro e w2 ⟨rfl, rfl⟩; rw [HHAS.out])
          clear p0 p1 p2 g0 g1 gsz
          go_roundg (c.length - (u + 1))
          case rel => exact ⟨u + 1, hs, by omega, rfl, by go_num, by show OwnC _ _ _ _ _ _; rw [← HPN.out]; exact HO.out, HW⟩
          case measure => omega
      · have hd0 : decide (u < c.length) = false := by simpa using hlt
        obtain rfl : u = c.length := by omega
        have hO := HO.out.conf
        rw [partM_full HCD.out, mixF_length] at hO
        have HXV := Lib.hid (fun w2 (k : Bel wr w2) => hO.keep k)
        have HBR := Bel.refl wr
        clear hO
        go_wp2_with (first
          | (go_at_call 22; ((with_reducible refine (evalValue_any _ p _ g (.slice A5 c.length k5) c _ _ _ es _ (HPV.out _ (box2_bel HW)) (HGV.out _ (box2_bel HW)) (HCV.out _ (box2_bel HW)) (HT.out _ (box2_bel HW)) HQ.out.2.1 HQ.out.2.2.1 HQ.out.2.2.2.1 (Nat.le_trans HQ.out.2.2.2.2 (by omega))).mono ?_); rintro e w5 ⟨rfl, hb⟩; replace HBR := HBR.trans hb; replace HW := HW.trans hb; clear hb; (try clear p0 p1 p2 g0 g1 gsz); obtain ⟨p0, p1, p2, g0, g1, gsz⟩ := pgbox HW))
          | (go_at_call 22; ((with_reducible refine (evalValue_any _ p _ g (.slice (some ⟨gb, 0, none⟩) d.length cap) (mixF c d M) _ _ _ es _ (HPV.out _ (box2_bel HW)) (HGV.out _ (box2_bel HW)) (HXV.out _ HBR) (HT.out _ (box2_bel HW)) HQ.out.2.1 HQ.out.2.2.1 HLX.out (Nat.le_trans HQ.out.2.2.2.2 (by omega))).mono ?_); rintro e w6 ⟨rfl, hb⟩; rw [HMV.out]; replace HBR := HBR.trans hb; replace HW := HW.trans hb; clear hb; (try clear p0 p1 p2 g0 g1 gsz); obtain ⟨p0, p1, p2, g0, g1, gsz⟩ := pgbox HW))
          | (go_at_call 17; refine (awake11_any _).mono ?_; rintro e w' ⟨rfl, hb⟩; replace HW := HW.trans hb; clear hb; (try clear p0 p1 p2 g0 g1 gsz); obtain ⟨p0, p1, p2, g0, g1, gsz⟩ := pgbox HW))
        go_ret
        exact ⟨by simp, box2_bel HW⟩

end Go.Proofs.YtibfjhhadbkkgaaGreat

