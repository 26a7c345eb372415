/- Merged of: WEk (see NOTES.md). -/
import Derived.Test.YtaifafljakojnaaGreatYWEj
set_option linter.unusedSimpArgs false
set_option linter.unnecessarySimpa false
set_option linter.unusedVariables false

/- Contracts: the program's eval.Value. -/
namespace Go.Proofs.YtaifafljakojnaaGreat
open Go.RowKit

theorem numbers_known {x : Var} (h : numbersF x = true) : knownK x.kind = true := by
  unfold numbersF at h
  have := of_decide_eq_true h
  unfold knownK
  simp
  omega
theorem ofF_codes {e : List Term} {p : Prg} (hp : checkF p = 0) (hv : validF e p.vars.length = true) (ho : (ofF e (kindsF p) false).2 ≠ 0) : (ofF e (kindsF p) false).2 = 6 := by
  obtain ⟨h1, _, h3, _⟩ := check_numbers hp
  have hk : (kindsF p).all knownK = true := by
    rw [List.all_eq_true]
    intro k hk
    obtain ⟨x, hx, rfl⟩ := List.mem_map.1 hk
    have := List.all_eq_true.1 h1 x hx
    exact numbers_known this
  unfold ofF at *
  rw [kindsF_length] at *
  rw [if_neg (by omega), hk, if_neg (by decide), hv, if_neg (by decide)] at ho ⊢
  split
  · rfl
  · rename_i h; rw [if_neg h] at ho; exact absurd rfl ho
theorem ofF_form {e : List Term} {p : Prg} (hv : validF e p.vars.length = false) : (ofF e (kindsF p) false).2 = 7 := by
  unfold ofF
  rw [kindsF_length]
  split
  · rfl
  split
  · rfl
  first | rfl | rw [if_pos hv]
set_option maxRecDepth 100000 in
set_option maxHeartbeats 8000000 in
theorem evalValue_any (v1 : Value) (p : Prg) (v2 : Value) (g : Graph) (v3 : Value) (c : Config) (v : Int) (A : Option Addr) (ce : Nat) (es : List Term) (w : World) (h : PrgV w v1 p) (h2 : GraphV w v2 g) (h3 : ConfV w v3 c) (hT : TermsR w A es.length es) (hL : lightP p = true) (hG : lightG g = true) (hC : lightC c = true) (hlen : es.length ≤ 1000) :
    Calls Tryz.prog 23 #[v1, v2, v3, .int .i64 v, .slice A es.length ce] w fun e w' => e = .returned (.tuple #[.int .i64 (valueF p g c v es).1, .int .i64 (valueF p g c v es).2]) ∧ Bel w w' := by
  have HPV := Lib.hid (fun w' (k : Bel w w') => h.keep k)
  have HGV := Lib.hid (fun w' (k : Bel w w') => h2.keep k)
  have HCV := Lib.hid (fun w' (k : Bel w w') => h3.keep k)
  have HT := Lib.hid (fun w' (k : Bel w w') => TermsR.keep hT k)
  obtain ⟨A1, k1, A2, k2, rfl, _, _, _, _, _, _⟩ := h
  obtain ⟨A3, k3, A4, k4, rfl, _, _, _, _, _, _⟩ := h2
  obtain ⟨A5, k5, rfl, _, _, _⟩ := h3
  have HL := Lib.hid hL
  have HGL := Lib.hid hG
  have HCL := Lib.hid hC
  have hp10 := (lightP_parts hL).2.1
  have hg30 := (lightG_parts hG).1
  clear hL hG hC hT
  have HF : Hid (valueF p g c v es = if memF p g c ≠ 0 then (0, memF p g c) else if ¬ (0 ≤ v ∧ v ≤ (c.length : Int) - 1) then (0, 2) else if (ofF es (kindsF p) false).2 ≠ 0 then (0, (ofF es (kindsF p) false).2) else (evalF g c v.toNat (-1) (treeOf es), 0)) := rfl
  have HW := Bel.refl ((w.alloc (.cells #[.string p.name, .slice A1 p.vars.length k1, .slice A2 p.rules.length k2] 26)).alloc (.cells #[.slice A3 g.ids.length k3, .slice A4 g.ports.length k4] 30))
  by_cases hm : memF p g c = 0
  · rw [if_neg (by simpa using hm)] at HF
    have HM := Lib.hid hm
    have hcl : c.length = g.ids.length := by
      obtain ⟨f1, f2⟩ := mem_zero hm
      rw [(confB_iff.1 f2).1, tableF_length]
    have HP := Lib.hid (fits_zero (mem_zero hm).1).1
    have HG := Lib.hid (fits_zero (mem_zero hm).1).2.1
    rw [hcl] at HF
    have HCN := Lib.hid hcl
    clear hcl
    clear hm
    by_cases hv : 0 ≤ v ∧ v ≤ (g.ids.length : Int) - 1
    · rw [if_neg (by simpa using hv)] at HF
      obtain ⟨q, rfl⟩ := Int.eq_ofNat_of_zero_le hv.1
      rw [Int.toNat_natCast] at HF
      have hq : q < g.ids.length := by omega
      have hd1 : decide ((q : Int) < 0) = false := by simp
      have hd2 : decide ((g.ids.length : Int) ≤ (q : Int)) = false := by simp; omega
      cases hvf : validF es p.vars.length with
      | false =>
        have HO := Lib.hid (ofF_form hvf)
        rw [HO.out, if_pos (by decide)] at HF
        clear hv
        go_enter Tryz.func23, Tryz.ntmps23
        go_wp2_with (first
          | (go_at_call 26; refine (memCheck_any _ p _ g _ c _ (HPV.out _ (box2_bel HW)) (HGV.out _ (box2_bel HW)) (HCV.out _ (box2_bel HW)) HL.out HGL.out HCL.out).mono ?_; rintro e w' ⟨rfl, hb⟩; rw [HM.out]; replace HW := HW.trans hb; clear hb; obtain ⟨p0, p1, p2, g0, g1, gsz⟩ := pgbox HW)
          | (go_at_call 42; refine (valid_any _ _ _ es _ _ (HT.out _ (box2_bel HW)) (by omega)).mono ?_; rintro e w' ⟨rfl, hb⟩; rw [hvf]; replace HW := HW.trans hb; clear hb p0 p1 p2 g0 g1 gsz; obtain ⟨p0, p1, p2, g0, g1, gsz⟩ := pgbox HW))
        go_ret2
        rw [HF.out]
        exact ⟨rfl, box2_bel HW⟩
      | true =>
        by_cases ho : (ofF es (kindsF p) false).2 = 0
        · rw [if_neg (by simpa using ho)] at HF
          have hob : ((ofF es (kindsF p) false).2 != 0) = false := by simpa using ho
          obtain ⟨o1, o2, _⟩ := ofF_ok ho
          obtain ⟨t1, t2, _, t4, _, _⟩ := valid_treeOf o1
          have HS := Lib.hid (mem_sok HM.out (show q < c.length by rw [HCN.out]; omega))
          rw [kindsF_length] at t4
          have HE : Hid (EOK p es) := ⟨t1, t2, t4, kind_bound o2, hlen⟩
          clear ho o1 o2 t1 t2 t4 hv
          go_enter Tryz.func23, Tryz.ntmps23
          go_wp2_with (first
            | (go_at_call 26; refine (memCheck_any _ p _ g _ c _ (HPV.out _ (box2_bel HW)) (HGV.out _ (box2_bel HW)) (HCV.out _ (box2_bel HW)) HL.out HGL.out HCL.out).mono ?_; rintro e w' ⟨rfl, hb⟩; rw [HM.out]; replace HW := HW.trans hb; clear hb; obtain ⟨p0, p1, p2, g0, g1, gsz⟩ := pgbox HW)
            | (go_at_call 42; refine (valid_any _ _ _ es _ _ (HT.out _ (box2_bel HW)) (by omega)).mono ?_; rintro e w' ⟨rfl, hb⟩; rw [hvf]; replace HW := HW.trans hb; clear hb p0 p1 p2 g0 g1 gsz; obtain ⟨p0, p1, p2, g0, g1, gsz⟩ := pgbox HW)
            | (go_at_call 45; refine (kinds_any _ p _ (HPV.out _ (box2_bel HW)) (by omega)).mono ?_; rintro e w' ⟨KA, kc, rfl, hK, _, _, hb⟩; have HK := Lib.hid hK; replace HW := HW.trans hb; clear hb hK p0 p1 p2 g0 g1 gsz; obtain ⟨p0, p1, p2, g0, g1, gsz⟩ := pgbox HW)
            | (go_at_call 44; refine (of_any _ _ es _ _ (kindsF p) _ _ (HT.out _ (box2_bel HW)) HK.out hlen).mono ?_; rintro e w' ⟨rfl, hb⟩; replace HW := HW.trans hb; clear hb p0 p1 p2 g0 g1 gsz; obtain ⟨p0, p1, p2, g0, g1, gsz⟩ := pgbox HW)
            | (go_at_call 27; refine (newScene_any _ p _ g _ (HPV.out _ (box2_bel HW)) (HGV.out _ (box2_bel HW)) HG.out).mono ?_; rintro e w' ⟨SB, rfl, hSC, _, hb⟩; have HSC := Lib.hid hSC; replace HW := HW.trans hb; clear hb hSC p0 p1 p2 g0 g1 gsz)
            | (go_at_call 46; refine (sceneValue_any SB p g _ c q _ _ es _ HSC.out (HCV.out _ (box2_bel HW)) (HT.out _ (box2_bel HW)) HS.out HE.out).mono ?_; rintro e w' ⟨rfl, hb⟩; replace HW := HW.trans hb; clear hb))
          go_ret2
          rw [HF.out]
          exact ⟨rfl, box2_bel HW⟩
        · rw [if_pos ho] at HF
          have hob : ((ofF es (kindsF p) false).2 != 0) = true := by simpa using ho
          have HO := Lib.hid (ofF_codes HP.out hvf ho)
          rw [HO.out] at HF
          clear ho hv
          go_enter Tryz.func23, Tryz.ntmps23
          go_wp2_with (first
            | (go_at_call 26; refine (memCheck_any _ p _ g _ c _ (HPV.out _ (box2_bel HW)) (HGV.out _ (box2_bel HW)) (HCV.out _ (box2_bel HW)) HL.out HGL.out HCL.out).mono ?_; rintro e w' ⟨rfl, hb⟩; rw [HM.out]; replace HW := HW.trans hb; clear hb; obtain ⟨p0, p1, p2, g0, g1, gsz⟩ := pgbox HW)
            | (go_at_call 42; refine (valid_any _ _ _ es _ _ (HT.out _ (box2_bel HW)) (by omega)).mono ?_; rintro e w' ⟨rfl, hb⟩; rw [hvf]; replace HW := HW.trans hb; clear hb p0 p1 p2 g0 g1 gsz; obtain ⟨p0, p1, p2, g0, g1, gsz⟩ := pgbox HW)
            | (go_at_call 45; refine (kinds_any _ p _ (HPV.out _ (box2_bel HW)) (by omega)).mono ?_; rintro e w' ⟨KA, kc, rfl, hK, _, _, hb⟩; have HK := Lib.hid hK; replace HW := HW.trans hb; clear hb hK p0 p1 p2 g0 g1 gsz; obtain ⟨p0, p1, p2, g0, g1, gsz⟩ := pgbox HW)
            | (go_at_call 44; refine (of_any _ _ es _ _ (kindsF p) _ _ (HT.out _ (box2_bel HW)) HK.out hlen).mono ?_; rintro e w' ⟨rfl, hb⟩; replace HW := HW.trans hb; clear hb p0 p1 p2 g0 g1 gsz))
          go_ret2
          rw [HF.out]
          exact ⟨rfl, box2_bel HW⟩
    · rw [if_pos hv] at HF
      have hvb : (decide (v < 0) || decide ((g.ids.length : Int) ≤ v)) = true := by simp; omega
      rcases Int.lt_or_le v 0 with hn | hn
      · have hd1 : decide (v < 0) = true := by simpa using hn
        clear hv hvb hn
        go_enter Tryz.func23, Tryz.ntmps23
        go_wp2_with (go_at_call 26; refine (memCheck_any _ p _ g _ c _ (HPV.out _ (box2_bel HW)) (HGV.out _ (box2_bel HW)) (HCV.out _ (box2_bel HW)) HL.out HGL.out HCL.out).mono ?_; rintro e w' ⟨rfl, hb⟩; rw [HM.out]; replace HW := HW.trans hb; clear hb; obtain ⟨p0, p1, p2, g0, g1, gsz⟩ := pgbox HW)
        go_ret2
        rw [HF.out]
        exact ⟨rfl, box2_bel HW⟩
      · have hd1 : decide (v < 0) = false := by simpa using hn
        have hd2 : decide ((g.ids.length : Int) ≤ v) = true := by simp; omega
        clear hv hvb hn
        go_enter Tryz.func23, Tryz.ntmps23
        go_wp2_with (go_at_call 26; refine (memCheck_any _ p _ g _ c _ (HPV.out _ (box2_bel HW)) (HGV.out _ (box2_bel HW)) (HCV.out _ (box2_bel HW)) HL.out HGL.out HCL.out).mono ?_; rintro e w' ⟨rfl, hb⟩; rw [HM.out]; replace HW := HW.trans hb; clear hb; obtain ⟨p0, p1, p2, g0, g1, gsz⟩ := pgbox HW)
        go_ret2
        rw [HF.out]
        exact ⟨rfl, box2_bel HW⟩
  · rw [if_pos hm] at HF
    have hmb : (memF p g c != 0) = true := by simpa using hm
    clear hm
    go_enter Tryz.func23, Tryz.ntmps23
    go_wp2_with (go_at_call 26; refine (memCheck_any _ p _ g _ c _ (HPV.out _ (box2_bel HW)) (HGV.out _ (box2_bel HW)) (HCV.out _ (box2_bel HW)) HL.out HGL.out HCL.out).mono ?_; rintro e w' ⟨rfl, hb⟩; replace HW := HW.trans hb; clear hb)
    go_ret2
    rw [HF.out]
    exact ⟨rfl, box2_bel HW⟩

end Go.Proofs.YtaifafljakojnaaGreat

