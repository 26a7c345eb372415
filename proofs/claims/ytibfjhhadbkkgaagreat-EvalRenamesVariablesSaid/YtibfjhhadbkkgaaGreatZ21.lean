/- Merged of: WBa WSf WSa WSb (see NOTES.md). -/
import Derived.Test.YtibfjhhadbkkgaaGreatZ20
import Derived.Test.YtibfjhhadbkkgaaGreatZ18
import Derived.Test.YtibfjhhadbkkgaaGreatZ16
set_option linter.unusedSimpArgs false
set_option linter.unnecessarySimpa false
set_option linter.unusedVariables false

/- Contracts: sets of nodes as bits: nodes, Has. -/
namespace Go.Proofs.YtibfjhhadbkkgaaGreat
open Go.RowKit

set_option maxHeartbeats 1000000 in
theorem nodes_any (f : FuncId) (caps : Array Value) (hp : Nat → Bool) (n : Nat) (w : World)
    (hf : ∀ v w', v < n → Bel w w' → Calls Tryz.prog f (#[.int .i64 (v : Int)] ++ caps) w' fun e w2 => e = .returned (.bool (hp v)) ∧ Bel w' w2)
    (hcall : ∀ a w', (callFunc f (#[a] ++ caps)).run Tryz.prog w' = .ok (.enter f (#[a] ++ caps)) w') (hn : n ≤ 24) :
    Calls Tryz.prog 102 #[.int .i64 (n : Int), .func (.func f) #[] caps] w fun e w' => e = .returned (.int .u32 (setF n hp : Nat)) ∧ Bel w w' := by
  have HF := Lib.hid hf; clear hf
  go_enter Tryz.func102, Tryz.ntmps102
  go_wp2_with fail
  have HB := Bel.refl w
  go_loopg [5, 6, 8] n (fun m s _x z wr => ∃ v : Nat, v ≤ n ∧ m = n - v ∧ z = .int .i64 v ∧ s = .int .u32 (setF v hp : Nat) ∧ Bel w wr)
  case atStart => exact ⟨0, by omega, rfl, rfl, rfl, HB⟩
  case round =>
    clear HB
    obtain ⟨v, hv, rfl, rfl, rfl, HB⟩ := hrel
    by_cases hlt : v < n
    · have hd0 : decide (v < n) = true := by simpa using hlt
      have hsl := setF_lt32 hp (show v ≤ 32 by omega)
      cases hb : hp v with
      | true =>
        go_wp2_with (((with_reducible refine (HF.out _ _ hlt HB).mono ?_); rintro e w' ⟨rfl, hbb⟩; rw [hb]; replace HB := HB.trans hbb; clear hbb))
        go_roundg (n - (v + 1))
        case rel => exact ⟨v + 1, by omega, rfl, by go_num, by rw [setF_succ, hb, if_pos rfl, bits_set hsl (by omega)], HB⟩
        case measure => omega
      | false =>
        go_wp2_with (((with_reducible refine (HF.out _ _ hlt HB).mono ?_); rintro e w' ⟨rfl, hbb⟩; rw [hb]; replace HB := HB.trans hbb; clear hbb))
        go_roundg (n - (v + 1))
        case rel => exact ⟨v + 1, by omega, rfl, by go_num, by rw [setF_succ, hb]; rfl, HB⟩
        case measure => omega
    · have hd0 : decide (v < n) = false := by simpa using hlt
      obtain rfl : v = n := by omega
      go_wp2_with fail
      go_ret
      exact ⟨rfl, HB⟩

set_option maxHeartbeats 1000000 in
theorem has_any (S : Nat) (x : Int) (w : World) (hS : S < 4294967296) :
    Calls Tryz.prog 21 #[.int .u32 (S : Int), .int .i64 x] w fun e w' => e = .returned (.bool (hasB S x)) ∧ w = w' := by
  have HF : Hid (hasB S x = (decide (0 ≤ x) && decide (x < 32) && S.testBit x.toNat)) := rfl
  by_cases h0 : 0 ≤ x
  · have d0 : decide (0 ≤ x) = true := by simpa using h0
    rw [d0] at HF
    obtain ⟨v, rfl⟩ := Int.eq_ofNat_of_zero_le h0
    by_cases h1 : v < 32
    · have d1 : decide ((v : Int) < 32) = true := by simp; omega
      have d2 : decide (v < 32) = true := by simpa using h1
      rw [d1, Int.toNat_natCast] at HF
      clear h0
      have hq := bit_ask (v := v) hS
      go_enter Tryz.func21, Tryz.ntmps21
      go_wp2_with fail
      go_ret
      exact ⟨ret_bool (by rw [HF.out]; simp [toNat_beq]), rfl⟩
    · have d1 : decide ((v : Int) < 32) = false := by simp; omega
      have d2 : decide (v < 32) = false := by simpa using h1
      rw [d1] at HF
      clear h0
      go_enter Tryz.func21, Tryz.ntmps21
      go_wp2_with fail
      go_ret
      exact ⟨ret_bool (by rw [HF.out]; simp), rfl⟩
  · have d0 : decide (0 ≤ x) = false := by simpa using h0
    rw [d0] at HF
    go_enter Tryz.func21, Tryz.ntmps21
    go_wp2_with fail
    go_ret
    exact ⟨ret_bool (by rw [HF.out]; simp), rfl⟩

end Go.Proofs.YtibfjhhadbkkgaaGreat

/- Contracts: the reference's Bring, first, enabled, Rule, Enabled. -/
namespace Go.Proofs.YtibfjhhadbkkgaaGreat
open Go.RowKit

theorem mem_pos14 {p : Prg} {g : Graph} {c : Config} (hm : memF p g c = 0) : 0 < c.length := by
  obtain ⟨f1, f2⟩ := mem_zero hm
  rw [(confB_iff.1 f2).1, tableF_length, (fits_zero f1).2.1.ids]
  exact (fits_zero f1).2.1.pos
set_option maxRecDepth 100000 in
set_option maxHeartbeats 4000000 in
theorem refBring_any (v1 : Value) (p : Prg) (v2 : Value) (g : Graph) (i q : Nat) (x : Int) (w : World) (h : PrgV w v1 p) (h2 : GraphV w v2 g) (hf : fitsF p g = 0) (hi : i < g.ports.length) (hq : q < p.vars.length) (hG : lightG g = true) :
    Calls Tryz.prog 77 #[v1, v2, .int .i64 i, .int .i64 q, .int .i64 x] w fun e w' => e = .returned (.int .i64 (bringF p.vars[q].kind (boundsF p.vars[q] g i) x)) ∧ Bel w w' := by
  have HPV := Lib.hid (fun w' (k : Bel w w') => h.keep k)
  have HGV := Lib.hid (fun w' (k : Bel w w') => h2.keep k)
  obtain ⟨A1, k1, A2, k2, rfl, hV, _, _, _, _, _⟩ := h
  obtain ⟨A3, k3, A4, k4, rfl, _, _, _, _, _, _⟩ := h2
  have HV := Lib.hid (fun w' (k : Bel w w') => VarsR.keep hV k)
  have HW := Bel.refl ((w.alloc (.cells #[.string p.name, .slice A1 p.vars.length k1, .slice A2 p.rules.length k2] 25)).alloc (.cells #[.slice A3 g.ids.length k3, .slice A4 g.ports.length k4] 29))
  obtain ⟨f1, f2⟩ := fits_bounds hf (List.getElem_mem hq) i
  have HN := Lib.hid (List.all_eq_true.1 (check_numbers (fits_zero hf).1).1 _ (List.getElem_mem hq))
  have HGO := Lib.hid (fits_zero hf).2.1
  have HGL := Lib.hid hG
  have HF := Lib.hid (bringF_ref (kind := p.vars[q].kind) f1 x)
  have hdq : decide (q < p.vars.length) = true := by simpa using hq
  obtain ⟨bV, oV, rfl, hbV, _, cV, _⟩ := hV.at_ q hq
  have hbV' : bV < ((w.alloc (.cells #[.string p.name, .slice (some ⟨bV, oV, none⟩) p.vars.length k1, .slice A2 p.rules.length k2] 25)).alloc (.cells #[.slice A3 g.ids.length k3, .slice A4 g.ports.length k4] 29)).heap.size := by simp; omega
  obtain ⟨lo, hlo⟩ : ∃ lo, (boundsF p.vars[q] g i).1 = lo := ⟨_, rfl⟩
  obtain ⟨hi', hhi⟩ : ∃ hi', (boundsF p.vars[q] g i).2 = hi' := ⟨_, rfl⟩
  have HLO := Lib.hid hlo
  have HHI := Lib.hid hhi
  rw [hlo, hhi] at HF
  clear hV hf hG f1 f2 hlo hhi
  by_cases hk : p.vars[q].kind = 3
  · have hkb : (p.vars[q].kind == 3) = true := by simpa using hk
    by_cases hr : lo ≤ x ∧ x ≤ hi'
    · rw [if_neg (by intro h; exact h.2 hr)] at HF
      have hdr : inB x lo hi' = true := inB_iff.2 hr
      obtain ⟨m, hm, hm'⟩ := ite_max x lo
      obtain ⟨m2, hm2, hm2'⟩ := ite_min m hi'
      have HFV : Hid (bringF p.vars[q].kind (boundsF p.vars[q] g i) x = m2) := by show _ = _; rw [HF.out]; omega
      clear hm' hm2' hk hr
      go_enter Tryz.func77, Tryz.ntmps77
      go_wp2_with (first
        | (go_at_call 82; refine (ends_any _ p _ g i q _ (HPV.out _ (box2_bel HW)) (HGV.out _ (box2_bel HW)) hq HN.out HGO.out hi HGL.out).mono ?_; rintro e w' ⟨rfl, hb⟩; rw [HLO.out, HHI.out]; replace HW := HW.trans hb; have cV' := ((box2_bel HW).cell hbV).trans cV; clear hb; obtain ⟨p0, p1, p2, g0, g1, gsz⟩ := pgbox HW)
        | (go_at_call 69; refine (in01_any _ _ _ _).mono ?_; rintro e w' ⟨rfl, rfl⟩))
      go_ret
      exact ⟨ret_int HFV.out.symm, box2_bel HW⟩
    · rw [if_pos ⟨hk, hr⟩] at HF
      have hdr : inB x lo hi' = false := inB_false (by omega)
      clear hk hr
      go_enter Tryz.func77, Tryz.ntmps77
      go_wp2_with (first
        | (go_at_call 82; refine (ends_any _ p _ g i q _ (HPV.out _ (box2_bel HW)) (HGV.out _ (box2_bel HW)) hq HN.out HGO.out hi HGL.out).mono ?_; rintro e w' ⟨rfl, hb⟩; rw [HLO.out, HHI.out]; replace HW := HW.trans hb; have cV' := ((box2_bel HW).cell hbV).trans cV; clear hb; obtain ⟨p0, p1, p2, g0, g1, gsz⟩ := pgbox HW)
        | (go_at_call 69; refine (in01_any _ _ _ _).mono ?_; rintro e w' ⟨rfl, rfl⟩))
      go_ret
      exact ⟨ret_int HF.out.symm, box2_bel HW⟩
  · have hkb : (p.vars[q].kind == 3) = false := by simpa using hk
    rw [if_neg (fun h => hk h.1)] at HF
    obtain ⟨m, hm, hm'⟩ := ite_max x lo
    obtain ⟨m2, hm2, hm2'⟩ := ite_min m hi'
    have HFV : Hid (bringF p.vars[q].kind (boundsF p.vars[q] g i) x = m2) := by show _ = _; rw [HF.out]; omega
    clear hm' hm2' hk
    go_enter Tryz.func77, Tryz.ntmps77
    go_wp2_with (first
      | (go_at_call 82; refine (ends_any _ p _ g i q _ (HPV.out _ (box2_bel HW)) (HGV.out _ (box2_bel HW)) hq HN.out HGO.out hi HGL.out).mono ?_; rintro e w' ⟨rfl, hb⟩; rw [HLO.out, HHI.out]; replace HW := HW.trans hb; have cV' := ((box2_bel HW).cell hbV).trans cV; clear hb; obtain ⟨p0, p1, p2, g0, g1, gsz⟩ := pgbox HW)
      | (go_at_call 69; refine (in01_any _ _ _ _).mono ?_; rintro e w' ⟨rfl, rfl⟩))
    go_ret
    exact ⟨ret_int HFV.out.symm, box2_bel HW⟩

set_option maxRecDepth 100000 in
set_option maxHeartbeats 4000000 in
theorem refFirst_any (v1 : Value) (p : Prg) (v2 : Value) (g : Graph) (v3 : Value) (c : Config) (v : Nat) (w : World) (h : PrgV w v1 p) (h2 : GraphV w v2 g) (h3 : ConfV w v3 c) (hs : SOK p g c v) (hL : lightP p = true) :
    Calls Tryz.prog 70 #[v1, v2, v3, .int .i64 v] w fun e w' => e = .returned (.int .i64 (firstF p.rules g c v)) ∧ Bel w w' := by
  have hR : ∃ A1 k1 A2 k2, v1 = .agg #[.string p.name, .slice A1 p.vars.length k1, .slice A2 p.rules.length k2] ∧ RulesR w A2 p.rules.length p.rules := by
    obtain ⟨A1, k1, A2, k2, e, _, _, _, hR, _, _⟩ := h
    exact ⟨A1, k1, A2, k2, e, hR⟩
  obtain ⟨A1r, k1r, A2r, k2r, eR, hR⟩ := hR
  have HPV := Lib.hid (fun w' (k : Bel w w') => h.keep k)
  have HGV := Lib.hid (fun w' (k : Bel w w') => h2.keep k)
  have HCV := Lib.hid (fun w' (k : Bel w w') => h3.keep k)
  obtain ⟨A1, k1, A2, k2, rfl, _, _, _, _, _, _⟩ := h
  obtain ⟨A3, k3, A4, k4, rfl, _, _, _, _, _, _⟩ := h2
  obtain ⟨A5, k5, rfl, _, _, _⟩ := h3
  have HW := Bel.refl ((w.alloc (.cells #[.string p.name, .slice A1 p.vars.length k1, .slice A2 p.rules.length k2] 25)).alloc (.cells #[.slice A3 g.ids.length k3, .slice A4 g.ports.length k4] 29))
  obtain ⟨⟨rfl, rfl⟩, rfl, rfl⟩ : (A1 = A1r ∧ k1 = k1r) ∧ A2 = A2r ∧ k2 = k2r := by simpa using eR
  have HR := Lib.hid (fun w' (k : Bel w w') => RulesR.keep hR k)
  have HK := Lib.hid hs
  have HE := Lib.hid (fun (i : Nat) (hi : i < p.rules.length) => guard_eok (fits_zero hs.fits).1 hL hi)
  have hr16 := (lightP_parts hL).2.2.1
  have hcell := Lib.hid (fun w' (kk : Bel ((w.alloc (.cells #[.string p.name, .slice A1 p.vars.length k1, .slice A2 p.rules.length k2] 25)).alloc (.cells #[.slice A3 g.ids.length k3, .slice A4 g.ports.length k4] 29)) w') => pgbox kk)
  clear hs hL hR eR
  go_enter Tryz.func70, Tryz.ntmps70
  go_wp2
  go_loopg [9] p.rules.length (fun m z wr => ∃ i : Nat, i ≤ p.rules.length ∧ m = p.rules.length - i ∧ z = .int .i64 i ∧ Hid ((p.rules.take i).all (fun r => !(trueAt g c v r.guard)) = true) ∧ Bel ((w.alloc (.cells #[.string p.name, .slice A1 p.vars.length k1, .slice A2 p.rules.length k2] 25)).alloc (.cells #[.slice A3 g.ids.length k3, .slice A4 g.ports.length k4] 29)) wr)
  case atStart => exact ⟨0, by omega, rfl, rfl, rfl, HW⟩
  case round =>
    clear HW
    obtain ⟨i, hi, rfl, rfl, HI, HW⟩ := hrel
    obtain ⟨p0, p1, p2, g0, g1, gsz⟩ := pgbox HW
    by_cases hlt : i < p.rules.length
    · have hd0 : decide (i < p.rules.length) = true := by simpa using hlt
      obtain ⟨bR, oR, G, gc, SS, sc, rfl, hbR, _, cg, _, hTG, _, _, _, _, _⟩ := (HR.out _ (Bel.refl w)).at_ i hlt
      have HTG := Lib.hid (fun w' (k : Bel w w') => TermsR.keep hTG k)
      have hcell2 := Lib.hid (fun w' (kk : Bel ((w.alloc (.cells #[.string p.name, .slice A1 p.vars.length k1, .slice (some ⟨bR, oR, none⟩) p.rules.length k2] 25)).alloc (.cells #[.slice A3 g.ids.length k3, .slice A4 g.ports.length k4] 29)) w') => show w'.cell? ⟨w.heap.size, 2, none⟩ = some (.slice (some ⟨bR, oR, none⟩) p.rules.length k2) ∧ w'.cell? ⟨w.heap.size + 1, 0, none⟩ = some (.slice A3 g.ids.length k3) ∧ w'.cell? ⟨w.heap.size + 1, 1, none⟩ = some (.slice A4 g.ports.length k4) ∧ w'.cell? ⟨bR, oR + i * 3 + 1, none⟩ = some (.slice G p.rules[i].guard.length gc) ∧ w.heap.size + 1 < w'.heap.size ∧ bR < w'.heap.size from by
        obtain ⟨_, _, q2, q3, q4, q5⟩ := pgbox kk
        have hb := box2_bel kk
        exact ⟨q2, q3, q4, (hb.cell hbR).trans cg, q5, Nat.lt_of_lt_of_le hbR hb.size⟩)
      clear hTG cg
      have hE := HE.out i hlt
      cases hq : trueAt g c v p.rules[i].guard with
      | true =>
        have HF := Lib.hid (firstF_found hlt HI.out hq)
        have HQ : Hid ((evalF g c v (-1) (treeOf p.rules[i].guard) != 0) = true) := hq
        have HEI := Lib.hid hE
        clear hq hE
        go_wp2_with fail
        replace HW := HW.drew
        go_region_held3 (fun w' => w'.cell? ⟨w.heap.size, 2, none⟩ = some (.slice (some ⟨bR, oR, none⟩) p.rules.length k2) ∧ w'.cell? ⟨w.heap.size + 1, 0, none⟩ = some (.slice A3 g.ids.length k3) ∧ w'.cell? ⟨w.heap.size + 1, 1, none⟩ = some (.slice A4 g.ports.length k4) ∧ w'.cell? ⟨bR, oR + i * 3 + 1, none⟩ = some (.slice G p.rules[i].guard.length gc) ∧ w.heap.size + 1 < w'.heap.size ∧ bR < w'.heap.size) (exact hcell2.out _ HW) (first
          | (go_simp; go_at_call 75; refine (at_any p g c v HK.out (treeOf p.rules[i].guard) false (-1) _ _ _ _ p.rules[i].guard 0 _ (HGV.out _ (box2_bel HW)) (HCV.out _ (box2_bel HW)) (HTG.out _ (box2_bel HW)) (At.whole HEI.out.ok HEI.out.terms) HEI.out.arg HEI.out.len HEI.out.bound portOK_false).mono ?_; rintro e w' ⟨rfl, hb⟩; replace HW := HW.trans hb; clear hb))
        rw [HQ.out]
        go_wp2_with fail
        go_ret
        exact ⟨ret_int HF.out.symm, box2_bel HW⟩
      | false =>
        have HI2 := Lib.hid (all_take_succ hlt HI.out (by rw [hq]; rfl))
        have HQ : Hid ((evalF g c v (-1) (treeOf p.rules[i].guard) != 0) = false) := hq
        have HEI := Lib.hid hE
        clear hq hE
        go_wp2_with fail
        replace HW := HW.drew
        go_region_held3 (fun w' => w'.cell? ⟨w.heap.size, 2, none⟩ = some (.slice (some ⟨bR, oR, none⟩) p.rules.length k2) ∧ w'.cell? ⟨w.heap.size + 1, 0, none⟩ = some (.slice A3 g.ids.length k3) ∧ w'.cell? ⟨w.heap.size + 1, 1, none⟩ = some (.slice A4 g.ports.length k4) ∧ w'.cell? ⟨bR, oR + i * 3 + 1, none⟩ = some (.slice G p.rules[i].guard.length gc) ∧ w.heap.size + 1 < w'.heap.size ∧ bR < w'.heap.size) (exact hcell2.out _ HW) (first
          | (go_simp; go_at_call 75; refine (at_any p g c v HK.out (treeOf p.rules[i].guard) false (-1) _ _ _ _ p.rules[i].guard 0 _ (HGV.out _ (box2_bel HW)) (HCV.out _ (box2_bel HW)) (HTG.out _ (box2_bel HW)) (At.whole HEI.out.ok HEI.out.terms) HEI.out.arg HEI.out.len HEI.out.bound portOK_false).mono ?_; rintro e w' ⟨rfl, hb⟩; replace HW := HW.trans hb; clear hb))
        rw [HQ.out]
        go_wp2_with fail
        go_roundg (p.rules.length - (i + 1))
        case rel => exact ⟨i + 1, by omega, rfl, by go_num, HI2, HW⟩
        case measure => omega
    · have hd0 : decide (i < p.rules.length) = false := by simpa using hlt
      have HF : Hid (firstF p.rules g c v = -1) := by
        refine firstF_none ?_
        have := HI.out
        rwa [List.take_of_length_le (by omega)] at this
      go_wp2_with fail
      go_ret
      exact ⟨ret_int HF.out.symm, box2_bel HW⟩

set_option maxRecDepth 100000 in
set_option maxHeartbeats 4000000 in
theorem refEnab_any (v1 : Value) (p : Prg) (v2 : Value) (g : Graph) (v3 : Value) (c : Config) (w : World) (h : PrgV w v1 p) (h2 : GraphV w v2 g) (h3 : ConfV w v3 c) (hm : memF p g c = 0) (hL : lightP p = true) :
    Calls Tryz.prog 64 #[v1, v2, v3] w fun e w' => e = .returned (.int .u32 (enabF p g c : Nat)) ∧ Bel w w' := by
  have HPV := Lib.hid (fun w' (k : Bel w w') => h.keep k)
  have HGV := Lib.hid (fun w' (k : Bel w w') => h2.keep k)
  have HCV := Lib.hid (fun w' (k : Bel w w') => h3.keep k)
  obtain ⟨A1, k1, A2, k2, rfl, _, _, _, _, _, _⟩ := h
  obtain ⟨A3, k3, A4, k4, rfl, _, _, _, _, _, _⟩ := h2
  obtain ⟨A5, k5, rfl, _, _, _⟩ := h3
  have HW := Bel.refl ((w.alloc (.cells #[.string p.name, .slice A1 p.vars.length k1, .slice A2 p.rules.length k2] 25)).alloc (.cells #[.slice A3 g.ids.length k3, .slice A4 g.ports.length k4] 29))
  have hle : c.length ≤ 24 := by rw [conf_len hm]; exact (fits_zero (mem_zero hm).1).2.1.le
  have HK := Lib.hid (fun v (hv : v < c.length) => mem_sok hm hv)
  have HL := Lib.hid hL
  have HE : Hid (enabF p g c = setF c.length fun v => decide (0 ≤ firstF p.rules g c v)) := rfl
  clear hm hL
  go_enter Tryz.func64, Tryz.ntmps64
  go_wp2
  go_loopg [7, 8] c.length (fun m s z wr => ∃ v : Nat, v ≤ c.length ∧ m = c.length - v ∧ z = .int .i64 v ∧ s = .int .u32 (setF v fun v => decide (0 ≤ firstF p.rules g c v) : Nat) ∧ Bel ((w.alloc (.cells #[.string p.name, .slice A1 p.vars.length k1, .slice A2 p.rules.length k2] 25)).alloc (.cells #[.slice A3 g.ids.length k3, .slice A4 g.ports.length k4] 29)) wr)
  case atStart => exact ⟨0, by omega, rfl, rfl, rfl, HW⟩
  case round =>
    clear HW
    obtain ⟨v, hv, rfl, rfl, rfl, HW⟩ := hrel
    obtain ⟨p0, p1, p2, g0, g1, gsz⟩ := pgbox HW
    have hsl := setF_lt32 (fun v => decide (0 ≤ firstF p.rules g c v)) (show v ≤ 32 by omega)
    by_cases hlt : v < c.length
    · have hd0 : decide (v < c.length) = true := by simpa using hlt
      cases hb : decide (0 ≤ firstF p.rules g c v) with
      | true =>
        go_wp2_with (go_at_call 70; refine (refFirst_any _ p _ g _ c v _ (HPV.out _ (box2_bel HW)) (HGV.out _ (box2_bel HW)) (HCV.out _ (box2_bel HW)) (HK.out v hlt) HL.out).mono ?_; rintro e w' ⟨rfl, hbb⟩; replace HW := HW.trans hbb; clear hbb)
        go_roundg (c.length - (v + 1))
        case rel => exact ⟨v + 1, by omega, rfl, by go_num, by rw [setF_succ, hb, if_pos rfl, bits_set hsl (by omega)], HW⟩
        case measure => omega
      | false =>
        go_wp2_with (go_at_call 70; refine (refFirst_any _ p _ g _ c v _ (HPV.out _ (box2_bel HW)) (HGV.out _ (box2_bel HW)) (HCV.out _ (box2_bel HW)) (HK.out v hlt) HL.out).mono ?_; rintro e w' ⟨rfl, hbb⟩; replace HW := HW.trans hbb; clear hbb)
        go_roundg (c.length - (v + 1))
        case rel => exact ⟨v + 1, by omega, rfl, by go_num, by rw [setF_succ, hb]; rfl, HW⟩
        case measure => omega
    · have hd0 : decide (v < c.length) = false := by simpa using hlt
      obtain rfl : v = c.length := by omega
      go_wp2_with fail
      go_ret
      exact ⟨ret_int (by rw [HE.out]), box2_bel HW⟩

set_option maxRecDepth 100000 in
set_option maxHeartbeats 4000000 in
theorem refEnabled_any (v1 : Value) (p : Prg) (v2 : Value) (g : Graph) (v3 : Value) (c : Config) (w : World) (h : PrgV w v1 p) (h2 : GraphV w v2 g) (h3 : ConfV w v3 c) (hL : lightP p = true) (hG : lightG g = true) (hC : lightC c = true) :
    Calls Tryz.prog 31 #[v1, v2, v3] w fun e w' => e = .returned (.int .u32 (enabledF p g c : Nat)) ∧ Bel w w' := by
  have HPV := Lib.hid (fun w' (k : Bel w w') => h.keep k)
  have HGV := Lib.hid (fun w' (k : Bel w w') => h2.keep k)
  have HCV := Lib.hid (fun w' (k : Bel w w') => h3.keep k)
  obtain ⟨A1, k1, A2, k2, rfl, _, _, _, _, _, _⟩ := h
  obtain ⟨A3, k3, A4, k4, rfl, _, _, _, _, _, _⟩ := h2
  obtain ⟨A5, k5, rfl, _, _, _⟩ := h3
  have HW := Bel.refl ((w.alloc (.cells #[.string p.name, .slice A1 p.vars.length k1, .slice A2 p.rules.length k2] 25)).alloc (.cells #[.slice A3 g.ids.length k3, .slice A4 g.ports.length k4] 29))
  have HL := Lib.hid hL
  have HGL := Lib.hid hG
  have HCL := Lib.hid hC
  clear hL hG hC
  have HF : Hid (enabledF p g c = if memF p g c ≠ 0 then 0 else enabF p g c) := rfl
  cases hm : decide (memF p g c = 0) with
  | false =>
    rw [if_pos (of_decide_eq_false hm)] at HF
    go_enter Tryz.func31, Tryz.ntmps31
    go_wp2_with (go_at_call 16; refine (refMemValid_any _ p _ g _ c _ (HPV.out _ (box2_bel HW)) (HGV.out _ (box2_bel HW)) (HCV.out _ (box2_bel HW)) HL.out HGL.out HCL.out).mono ?_; rintro e w' ⟨rfl, hb⟩; rw [hm]; replace HW := HW.trans hb; clear hb; (try clear p0 p1 p2 g0 g1 gsz); obtain ⟨p0, p1, p2, g0, g1, gsz⟩ := pgbox HW)
    go_ret
    exact ⟨ret_int (by rw [HF.out]; rfl), box2_bel HW⟩
  | true =>
    have hm0 := of_decide_eq_true hm
    rw [if_neg (by simpa using hm0)] at HF
    have HM := Lib.hid hm0
    clear hm0
    go_enter Tryz.func31, Tryz.ntmps31
    go_wp2_with (first
      | (go_at_call 16; refine (refMemValid_any _ p _ g _ c _ (HPV.out _ (box2_bel HW)) (HGV.out _ (box2_bel HW)) (HCV.out _ (box2_bel HW)) HL.out HGL.out HCL.out).mono ?_; rintro e w' ⟨rfl, hb⟩; rw [hm]; replace HW := HW.trans hb; clear hb; (try clear p0 p1 p2 g0 g1 gsz); obtain ⟨p0, p1, p2, g0, g1, gsz⟩ := pgbox HW)
      | (go_at_call 64; refine (refEnab_any _ p _ g _ c _ (HPV.out _ (box2_bel HW)) (HGV.out _ (box2_bel HW)) (HCV.out _ (box2_bel HW)) HM.out HL.out).mono ?_; rintro e w' ⟨rfl, hb⟩; replace HW := HW.trans hb; clear hb; (try clear p0 p1 p2 g0 g1 gsz); obtain ⟨p0, p1, p2, g0, g1, gsz⟩ := pgbox HW))
    go_ret
    exact ⟨ret_int (by rw [HF.out]), box2_bel HW⟩

set_option maxRecDepth 100000 in
set_option maxHeartbeats 4000000 in
theorem refRule_any (v1 : Value) (p : Prg) (v2 : Value) (g : Graph) (v3 : Value) (c : Config) (v : Int) (w : World) (h : PrgV w v1 p) (h2 : GraphV w v2 g) (h3 : ConfV w v3 c) (hL : lightP p = true) (hG : lightG g = true) (hC : lightC c = true) :
    Calls Tryz.prog 34 #[v1, v2, v3, .int .i64 v] w fun e w' => e = .returned (.int .i64 (ruleF p g c v)) ∧ Bel w w' := by
  have HPV := Lib.hid (fun w' (k : Bel w w') => h.keep k)
  have HGV := Lib.hid (fun w' (k : Bel w w') => h2.keep k)
  have HCV := Lib.hid (fun w' (k : Bel w w') => h3.keep k)
  obtain ⟨A1, k1, A2, k2, rfl, _, _, _, _, _, _⟩ := h
  obtain ⟨A3, k3, A4, k4, rfl, _, _, _, _, _, _⟩ := h2
  obtain ⟨A5, k5, rfl, _, _, _⟩ := h3
  have HW := Bel.refl ((w.alloc (.cells #[.string p.name, .slice A1 p.vars.length k1, .slice A2 p.rules.length k2] 25)).alloc (.cells #[.slice A3 g.ids.length k3, .slice A4 g.ports.length k4] 29))
  have HL := Lib.hid hL
  have HGL := Lib.hid hG
  have HCL := Lib.hid hC
  clear hL hG hC
  have HF : Hid (ruleF p g c v = if memF p g c ≠ 0 then -1 else if ¬ (0 ≤ v ∧ v ≤ (c.length : Int) - 1) then -1 else firstF p.rules g c v.toNat) := rfl
  have hc30 := (lightC_parts HCL.out).1
  cases hm : decide (memF p g c = 0) with
  | false =>
    rw [if_pos (of_decide_eq_false hm)] at HF
    go_enter Tryz.func34, Tryz.ntmps34
    go_wp2_with (go_at_call 16; refine (refMemValid_any _ p _ g _ c _ (HPV.out _ (box2_bel HW)) (HGV.out _ (box2_bel HW)) (HCV.out _ (box2_bel HW)) HL.out HGL.out HCL.out).mono ?_; rintro e w' ⟨rfl, hb⟩; rw [hm]; replace HW := HW.trans hb; clear hb; (try clear p0 p1 p2 g0 g1 gsz); obtain ⟨p0, p1, p2, g0, g1, gsz⟩ := pgbox HW)
    go_ret
    exact ⟨ret_int HF.out.symm, box2_bel HW⟩
  | true =>
    have hm0 := of_decide_eq_true hm
    rw [if_neg (by simpa using hm0)] at HF
    have HM := Lib.hid hm0
    have hpos := mem_pos14 hm0
    clear hm0
    by_cases hv : 0 ≤ v ∧ v ≤ (c.length : Int) - 1
    · have hd : inB v 0 ((c.length : Int) - 1) = true := inB_iff.2 hv
      rw [if_neg (by simpa using hv)] at HF
      obtain ⟨q, rfl⟩ := Int.eq_ofNat_of_zero_le hv.1
      rw [Int.toNat_natCast] at HF
      have HK := Lib.hid (mem_sok HM.out (show q < c.length by omega))
      clear hv
      go_enter Tryz.func34, Tryz.ntmps34
      go_wp2_with (first
        | (go_at_call 16; refine (refMemValid_any _ p _ g _ c _ (HPV.out _ (box2_bel HW)) (HGV.out _ (box2_bel HW)) (HCV.out _ (box2_bel HW)) HL.out HGL.out HCL.out).mono ?_; rintro e w' ⟨rfl, hb⟩; rw [hm]; replace HW := HW.trans hb; clear hb; (try clear p0 p1 p2 g0 g1 gsz); obtain ⟨p0, p1, p2, g0, g1, gsz⟩ := pgbox HW)
        | (go_at_call 69; refine (in01_any _ _ _ _).mono ?_; rintro e w' ⟨rfl, rfl⟩; rw [hd])
        | (go_at_call 70; refine (refFirst_any _ p _ g _ c q _ (HPV.out _ (box2_bel HW)) (HGV.out _ (box2_bel HW)) (HCV.out _ (box2_bel HW)) HK.out HL.out).mono ?_; rintro e w' ⟨rfl, hb⟩; replace HW := HW.trans hb; clear hb; (try clear p0 p1 p2 g0 g1 gsz); obtain ⟨p0, p1, p2, g0, g1, gsz⟩ := pgbox HW))
      go_ret
      exact ⟨ret_int HF.out.symm, box2_bel HW⟩
    · have hd : inB v 0 ((c.length : Int) - 1) = false := inB_false (by omega)
      rw [if_pos hv] at HF
      clear hv
      go_enter Tryz.func34, Tryz.ntmps34
      go_wp2_with (first
        | (go_at_call 16; refine (refMemValid_any _ p _ g _ c _ (HPV.out _ (box2_bel HW)) (HGV.out _ (box2_bel HW)) (HCV.out _ (box2_bel HW)) HL.out HGL.out HCL.out).mono ?_; rintro e w' ⟨rfl, hb⟩; rw [hm]; replace HW := HW.trans hb; clear hb; (try clear p0 p1 p2 g0 g1 gsz); obtain ⟨p0, p1, p2, g0, g1, gsz⟩ := pgbox HW)
        | (go_at_call 69; refine (in01_any _ _ _ _).mono ?_; rintro e w' ⟨rfl, rfl⟩; rw [hd]))
      go_ret
      exact ⟨ret_int HF.out.symm, box2_bel HW⟩

end Go.Proofs.YtibfjhhadbkkgaaGreat

/- Contracts: the program's mover: NewMover, Rule; Bring. -/
namespace Go.Proofs.YtibfjhhadbkkgaaGreat
open Go.RowKit

set_option maxRecDepth 100000 in
set_option maxHeartbeats 1000000 in
theorem bring_any (kind : Int) (b : Int × Int) (x : Int) (w : World) :
    Calls Tryz.prog 111 #[.int .i64 kind, .agg #[.int .i64 b.1, .int .i64 b.2], .int .i64 x] w fun e w' => e = .returned (.int .i64 (bringF kind b x)) ∧ Bel w w' := by
  obtain ⟨lo, hi⟩ := b
  have HF : Hid (bringF kind (lo, hi) x = if lo ≤ x ∧ x ≤ hi then x else if kind = 3 then -1 else if x < lo then lo else hi) := rfl
  have HB := (Bel.refl w).alloc (.cells #[.int .i64 lo, .int .i64 hi] 136)
  dsimp only
  by_cases h1 : lo ≤ x ∧ x ≤ hi
  · rw [if_pos h1] at HF
    have d1 : decide (lo ≤ x) = true := by simp; omega
    have d2 : decide (x ≤ hi) = true := by simp; omega
    clear h1
    go_enter Tryz.func111, Tryz.ntmps111
    go_wp2
    go_ret
    exact ⟨ret_int HF.out.symm, HB⟩
  · rw [if_neg h1] at HF
    have d1 : (decide (lo ≤ x) = true ∧ decide (x ≤ hi) = false) ∨ decide (lo ≤ x) = false := by
      simp; omega
    clear h1
    by_cases h2 : kind = 3
    · rw [if_pos h2] at HF
      subst h2
      rcases d1 with ⟨d1, d2⟩ | d1
      all_goals
        go_enter Tryz.func111, Tryz.ntmps111
        go_wp2
        go_ret
        exact ⟨ret_int HF.out.symm, HB⟩
    · rw [if_neg h2] at HF
      have hk : (kind == 3) = false := by simpa using h2
      clear h2
      by_cases h3 : x < lo
      · rw [if_pos h3] at HF
        have d3 : decide (x < lo) = true := by simpa using h3
        have d1 : decide (lo ≤ x) = false := by simpa using h3
        clear h3
        go_enter Tryz.func111, Tryz.ntmps111
        go_wp2
        go_ret
        exact ⟨ret_int HF.out.symm, HB⟩
      · rw [if_neg h3] at HF
        have d3 : decide (x < lo) = false := by simpa using h3
        have d4 : decide (lo ≤ x) = true := by simp; omega
        have d2 : decide (x ≤ hi) = false := by
          rcases d1 with ⟨_, d2⟩ | d1
          · exact d2
          · rw [d4] at d1; cases d1
        clear h3 d1
        go_enter Tryz.func111, Tryz.ntmps111
        go_wp2
        go_ret
        exact ⟨ret_int HF.out.symm, HB⟩

def moverCells (p : Prg) (g : Graph) (A1 : Option Addr) (k1 : Nat) (A2 : Option Addr) (k2 S : Nat) (AT : Option Addr) (kt : Nat) : Array Value :=
  #[.string p.name, .slice A1 p.vars.length k1, .slice A2 p.rules.length k2, .pointer (some ⟨S, 0, none⟩), .slice AT (tableF p g).length kt]
def MoverR (w : World) (B : Nat) (p : Prg) (g : Graph) : Prop :=
  ∃ A1 k1 A2 k2 S AT kt, Blk w B (moverCells p g A1 k1 A2 k2 S AT kt) 129 ∧
    PrgV w (.agg #[.string p.name, .slice A1 p.vars.length k1, .slice A2 p.rules.length k2]) p ∧ SceneR w S p g ∧ TableV w (.slice AT (tableF p g).length kt) (tableF p g)
theorem MoverR.keep {w w' : World} {B : Nat} {p : Prg} {g : Graph} (h : MoverR w B p g) (k : Bel w w') : MoverR w' B p g := by
  obtain ⟨A1, k1, A2, k2, S, AT, kt, h1, h2, h3, h4⟩ := h
  exact ⟨A1, k1, A2, k2, S, AT, kt, h1.keep k, h2.keep k, h3.keep k, h4.keep k⟩
def RetMover (p : Prg) (g : Graph) (w : World) (e : Ending) (w' : World) : Prop := ∃ B, e = .returned (.pointer (some ⟨B, 0, none⟩)) ∧ MoverR w' B p g ∧ Bel w w'

set_option maxRecDepth 100000 in
set_option maxHeartbeats 4000000 in
theorem newMover_any (v1 : Value) (p : Prg) (v2 : Value) (g : Graph) (w : World) (h : PrgV w v1 p) (h2 : GraphV w v2 g) (hc : checkF p = 0) (hg : GOK g) (hG : lightG g = true) :
    Calls Tryz.prog 61 #[v1, v2] w (RetMover p g w) := by
  have HPV := Lib.hid (fun w' (k : Bel w w') => h.keep k)
  have HGV := Lib.hid (fun w' (k : Bel w w') => h2.keep k)
  obtain ⟨A1, k1, A2, k2, rfl, _, _, _, _, _, _⟩ := h
  obtain ⟨A3, k3, A4, k4, rfl, _, _, _, _, _, _⟩ := h2
  have HW := Bel.refl ((w.alloc (.cells #[.string p.name, .slice A1 p.vars.length k1, .slice A2 p.rules.length k2] 25)).alloc (.cells #[.slice A3 g.ids.length k3, .slice A4 g.ports.length k4] 29))
  have hcell := Lib.hid (fun w' (kk : Bel ((w.alloc (.cells #[.string p.name, .slice A1 p.vars.length k1, .slice A2 p.rules.length k2] 25)).alloc (.cells #[.slice A3 g.ids.length k3, .slice A4 g.ports.length k4] 29)) w') => pgbox kk)
  have HC := Lib.hid hc
  have HG := Lib.hid hg
  have HGL := Lib.hid hG
  have HSC : Hid True := trivial
  have HT : Hid True := trivial
  clear hc hg hG
  go_enter Tryz.func61, Tryz.ntmps61
  go_wp2_with fail
  replace HW := HW.drew
  go_region_held3 (fun w' => w'.cell? ⟨w.heap.size, 0, none⟩ = some (.string p.name) ∧ w'.cell? ⟨w.heap.size, 1, none⟩ = some (.slice A1 p.vars.length k1) ∧ w'.cell? ⟨w.heap.size, 2, none⟩ = some (.slice A2 p.rules.length k2) ∧ w'.cell? ⟨w.heap.size + 1, 0, none⟩ = some (.slice A3 g.ids.length k3) ∧ w'.cell? ⟨w.heap.size + 1, 1, none⟩ = some (.slice A4 g.ports.length k4) ∧ w.heap.size + 1 < w'.heap.size) (first | exact hcell.out _ HW | exact hcell.out _ (HW.alloc _)) (first
    | (go_simp; go_at_call 54; refine (newScene_any _ p _ g _ (HPV.out _ (box2_bel HW)) (HGV.out _ (box2_bel HW)) HG.out).mono ?_; rintro e w' ⟨SB, rfl, hSC, _, hb⟩; replace HSC := Lib.hid hSC; (try replace HT := Lib.hid (TableV.keep HT.out hb)); replace HW := HW.trans hb; clear hb hSC)
    | (go_simp; go_at_call 91; refine (table_any _ p _ g _ (HPV.out _ (box2_bel HW)) (HGV.out _ (box2_bel HW)) HC.out HG.out HGL.out).mono ?_; rintro e w' ⟨tv, rfl, htv, hb⟩; obtain ⟨AT, kt, rfl, _⟩ := (id htv : TableV _ _ _); replace HT := Lib.hid htv; (try replace HSC := Lib.hid (SceneR.keep HSC.out hb)); replace HW := HW.trans hb; clear hb htv))
  go_wp2_with fail
  go_ret
  have hb := (Bel.refl w').alloc (.cells (moverCells p g A1 k1 A2 k2 SB AT kt) 129)
  exact ⟨_, rfl, ⟨A1, k1, A2, k2, SB, AT, kt, Blk.new w' _ _, HPV.out _ (box2_bel (HW.trans hb)), HSC.out.keep hb, TableV.keep HT.out hb⟩, box2_bel (HW.trans hb)⟩

set_option maxRecDepth 100000 in
set_option maxHeartbeats 2000000 in
theorem moverRule_any (B : Nat) (p : Prg) (g : Graph) (vc : Value) (c : Config) (v : Nat) (w : World) (hM : MoverR w B p g) (hC : ConfV w vc c) (hs : SOK p g c v) (hL : lightP p = true) :
    Calls Tryz.prog 68 #[.pointer (some ⟨B, 0, none⟩), vc, .int .i64 v] w fun e w' => e = .returned (.int .i64 (firstF p.rules g c v)) ∧ Bel w w' := by
  have HC := Lib.hid (fun w' (k : Bel w w') => hC.keep k)
  obtain ⟨AC, kc, rfl, _, _, _⟩ := hC
  obtain ⟨A1, k1, A2, k2, S, AT, kt, hB, hP, hS, _⟩ := hM
  have z2 := hB.cell 2 (v := .slice A2 p.rules.length k2) rfl
  have z3 := hB.cell 3 (v := .pointer (some ⟨S, 0, none⟩)) rfl
  have zl := hB.lt
  have HB := Lib.hid (fun w' (k : Bel w w') => hB.keep k)
  have HS := Lib.hid (fun w' (k : Bel w w') => hS.keep k)
  have HK := Lib.hid hs
  have HE := Lib.hid (fun (i : Nat) (hi : i < p.rules.length) => guard_eok (fits_zero hs.fits).1 hL hi)
  have hr16 := (lightP_parts hL).2.2.1
  clear hB hS hs hL hP
  have HW := Bel.refl w
  go_enter Tryz.func68, Tryz.ntmps68
  go_wp2
  clear z2 z3 zl
  go_loopg [7, 14] p.rules.length (fun m _x z wr => ∃ i : Nat, i ≤ p.rules.length ∧ m = p.rules.length - i ∧ z = .int .i64 i ∧ Hid ((p.rules.take i).all (fun r => !(trueAt g c v r.guard)) = true) ∧ Bel w wr)
  case atStart => exact ⟨0, by omega, rfl, rfl, rfl, HW⟩
  case round =>
    clear HW
    obtain ⟨i, hi, rfl, rfl, HI, HW⟩ := hrel
    by_cases hlt : i < p.rules.length
    · have hd0 : decide (i < p.rules.length) = true := by simpa using hlt
      have z3 := (HB.out _ HW).cell 3 (v := .pointer (some ⟨S, 0, none⟩)) rfl
      have zl := (HB.out _ HW).lt
      cases hq : trueAt g c v p.rules[i].guard with
      | true =>
        have HF := Lib.hid (firstF_found hlt HI.out hq)
        have HQ : Hid ((evalF g c v (-1) (treeOf p.rules[i].guard) != 0) = true) := hq
        clear hq
        go_wp2_with (go_at_call 105; refine (sceneGuard_any S p g _ c v i _ (HS.out _ HW) (HC.out _ HW) HK.out hlt (HE.out i hlt)).mono ?_; rintro e w' ⟨rfl, hb⟩; rw [HQ.out]; replace HW := HW.trans hb; clear hb)
        go_ret
        exact ⟨ret_int HF.out.symm, HW⟩
      | false =>
        have HQ : Hid ((evalF g c v (-1) (treeOf p.rules[i].guard) != 0) = false) := hq
        have HI2 := Lib.hid (all_take_succ hlt HI.out (by rw [hq]; rfl))
        clear hq
        go_wp2_with (go_at_call 105; refine (sceneGuard_any S p g _ c v i _ (HS.out _ HW) (HC.out _ HW) HK.out hlt (HE.out i hlt)).mono ?_; rintro e w' ⟨rfl, hb⟩; rw [HQ.out]; replace HW := HW.trans hb; clear hb z3 zl)
        go_roundg (p.rules.length - (i + 1))
        case rel => exact ⟨i + 1, by omega, rfl, by go_num, HI2, HW⟩
        case measure => omega
    · have hd0 : decide (i < p.rules.length) = false := by simpa using hlt
      have HF : Hid (firstF p.rules g c v = -1) := by
        refine firstF_none ?_
        have := HI.out
        rwa [List.take_of_length_le (by omega)] at this
      go_wp2_with fail
      go_ret
      exact ⟨ret_int HF.out.symm, HW⟩

end Go.Proofs.YtibfjhhadbkkgaaGreat

/- Configurations in memory of the call's own; contracts of Copy, of the program and of the reference. -/
namespace Go.Proofs.YtibfjhhadbkkgaaGreat
open Go.RowKit

theorem IntsR.cells {w : World} {A : Option Addr} {l : List Int} (h : IntsR w A l.length l) : CellsR w 1 A l.length (l.map (Value.int .i64)) := by
  refine ⟨by simp, fun j u hu => ?_⟩
  rw [List.getElem?_map] at hu
  cases hx : l[j]? with
  | none => rw [hx] at hu; cases hu
  | some x =>
    rw [hx] at hu
    obtain rfl : Value.int .i64 x = u := by simpa using hu
    obtain ⟨b, o, e, _, hc⟩ := h.2 j x hx
    exact ⟨b, o, e, by simpa [IntAt] using hc⟩
theorem int_cells_one (l : List Int) : ∀ u ∈ l.map (Value.int .i64), u.oneCell' = true := by
  intro u hu
  obtain ⟨x, _, rfl⟩ := List.mem_map.1 hu
  rfl
/-- The block of a slice is not this one. -/
def Off (g : Nat) (A : Option Addr) : Prop := ∀ b o, A = some ⟨b, o, none⟩ → b ≠ g
theorem IntsR.other {w : World} {A : Option Addr} {l : List Int} {g v : Nat} {x : Value} (h : IntsR w A l.length l) (ho : Off g A) : IntsR (w.setCell ⟨g, v, none⟩ x) A l.length l := by
  refine ⟨rfl, fun i y hy => ?_⟩
  obtain ⟨b, o, rfl, hb, hc⟩ := h.2 i y hy
  exact ⟨b, o, rfl, by simpa using hb, by
    unfold IntAt at *
    rw [((Fr.refl g w).set v x).cell hb (ho b o rfl)]; exact hc⟩

/-- A configuration in a row of the call's own; the rows of its nodes lie elsewhere. -/
structure OwnC (w : World) (base g cap : Nat) (d : Config) (hs : List Value) : Prop where
  own : w.ownsRow base 26 1 (.slice (some ⟨g, 0, none⟩) d.length cap) d.length hs
  rows : ∀ u (hu : u < d.length), ∃ R c', hs[u]? = some (.slice R d[u].length c') ∧ IntsR w R d[u].length d[u] ∧ d[u].length ≤ c' ∧ c' ≤ maxLen ∧ Off g R
theorem OwnC.keep {w w' : World} {base g cap : Nat} {d : Config} {hs : List Value} (h : OwnC w base g cap d hs) (k : Bel w w') : OwnC w' base g cap d hs :=
  ⟨k.owns h.own, fun u hu => by
    obtain ⟨R, c', h1, h2, h3⟩ := h.rows u hu
    exact ⟨R, c', h1, h2.keep k, h3⟩⟩
theorem OwnC.conf {w : World} {base g cap : Nat} {d : Config} {hs : List Value} (h : OwnC w base g cap d hs) : ConfV w (.slice (some ⟨g, 0, none⟩) d.length cap) d := by
  obtain ⟨h1, h2⟩ := own_cap h.own
  refine ⟨_, _, rfl, ⟨rfl, fun u x hx => ?_⟩, h1, h2⟩
  have hu : u < d.length := (List.getElem?_eq_some_iff.1 hx).1
  have hxe : d[u] = x := (List.getElem?_eq_some_iff.1 hx).2
  obtain ⟨R, c', k1, k2, k3, k4, _⟩ := h.rows u hu
  obtain ⟨g', e1, _, hlt, hc, _⟩ := own_at h.own k1
  obtain rfl : g = g' := by simpa using e1
  subst hxe
  exact ⟨g, 0, rfl, hlt, R, c', by rw [Nat.zero_add, Nat.mul_one]; exact hc, k2, k3, k4⟩
theorem OwnC.set {w : World} {base g cap : Nat} {d : Config} {hs : List Value} (h : OwnC w base g cap d hs) {v : Nat} {l : List Int} {A : Option Addr} {c' : Nat} (hv : v < d.length) (hl : IntsR w A l.length l) (h1 : l.length ≤ c') (h2 : c' ≤ maxLen) (ho : Off g A) :
    OwnC (w.setCell ⟨g, v, none⟩ (.slice A l.length c')) base g cap (d.set v l) (hs.set v (.slice A l.length c')) := by
  have hlen : hs.length = d.length := by have := h.own.1; omega
  refine ⟨by rw [List.length_set]; exact (h.own.stored v _).1, fun u hu => ?_⟩
  rw [List.length_set] at hu
  by_cases he : v = u
  · subst he
    rw [List.getElem_set_self]
    exact ⟨A, c', List.getElem?_set_self (by omega), hl.other ho, h1, h2, ho⟩
  · rw [List.getElem_set_ne he]
    obtain ⟨R, c2, k1, k2, k3, k4, k5⟩ := h.rows u hu
    exact ⟨R, c2, by rw [List.getElem?_set_ne he]; exact k1, k2.other k5, k3, k4, k5⟩
/-- A slice of ints that lies in memory from a block on. -/
def NewI (w : World) (B : Nat) (A : Option Addr) (c : Nat) (l : List Int) : Prop := IntsR w A l.length l ∧ l.length ≤ c ∧ c ≤ maxLen ∧ ∀ b o, A = some ⟨b, o, none⟩ → B ≤ b ∧ b < w.heap.size
theorem NewI.off {w : World} {B : Nat} {A : Option Addr} {c : Nat} {l : List Int} (h : NewI w B A c l) {g : Nat} (hg : g < B) : Off g A := fun b o e => by have := h.2.2.2 b o e; omega
theorem NewI.keep {w w' : World} {B : Nat} {A : Option Addr} {c : Nat} {l : List Int} (h : NewI w B A c l) (k : Bel w w') : NewI w' B A c l := ⟨h.1.keep k, h.2.1, h.2.2.1, fun b o e => ⟨(h.2.2.2 b o e).1, Nat.lt_of_lt_of_le (h.2.2.2 b o e).2 k.size⟩⟩
theorem NewI.lower {w : World} {B B' : Nat} {A : Option Addr} {c : Nat} {l : List Int} (h : NewI w B A c l) (hB : B' ≤ B) : NewI w B' A c l := ⟨h.1, h.2.1, h.2.2.1, fun b o e => ⟨Nat.le_trans hB (h.2.2.2 b o e).1, (h.2.2.2 b o e).2⟩⟩
theorem NewI.gr {w w' : World} {B : Nat} {A : Option Addr} {c : Nat} {l : List Int} {row : Option Nat} (h : NewI w B A c l) (hg : Gr row w w') (ho : ∀ b o, A = some ⟨b, o, none⟩ → some b ≠ row) : NewI w' B A c l :=
  ⟨⟨rfl, fun i x hx => by
    obtain ⟨b, o, e, hb, hc⟩ := h.1.2 i x hx
    exact ⟨b, o, e, Nat.lt_of_lt_of_le hb hg.1, (hg.cell hb (ho b o e)).trans hc⟩⟩, h.2.1, h.2.2.1, fun b o e => ⟨(h.2.2.2 b o e).1, Nat.lt_of_lt_of_le (h.2.2.2 b o e).2 hg.1⟩⟩
theorem own_newI {w : World} {base : Nat} {e : TypeId} {A : Option Addr} {n c : Nat} {l : List Int} (h : w.ownsRow base e 1 (.slice A n c) n (l.map (Value.int .i64))) : n = l.length ∧ NewI w base A c l := by
  have hn : n = l.length := by have := h.1; simp at this; omega
  subst hn
  obtain ⟨h1, h2⟩ := own_cap h
  refine ⟨rfl, own_ints h, h1, h2, fun b o e => ?_⟩
  subst e
  rcases h.2 with ⟨hv, _⟩ | ⟨g', cap, cur, hv, hb, hg, _⟩
  · cases hv
  · injection hv with hA; injection hA with hA; injection hA with hA; subst hA; exact ⟨hb, lt_of_block hg⟩
theorem own_len {w : World} {base : Nat} {e : TypeId} {size n m cap : Nat} {B : Option Addr} {hs : List Value} (h : w.ownsRow base e size (.slice B n cap) n hs) (hn : n = m) : w.ownsRow base e size (.slice B m cap) m hs := by subst hn; exact h
theorem own_lt {w : World} {base : Nat} {e : TypeId} {size n cap g o : Nat} {hs : List Value} (h : w.ownsRow base e size (.slice (some ⟨g, o, none⟩) n cap) n hs) : g < w.heap.size := by
  rcases h.2 with ⟨hv, _⟩ | ⟨g', _, _, hv, _, hg, _⟩
  · cases hv
  · injection hv with hA; injection hA with hA; injection hA with hA; subst hA; exact lt_of_block hg
theorem one_slice (A : Option Addr) (n c : Nat) : ∀ u ∈ (#[Value.slice A n c] : Array Value).toList, u.oneCell' = true := by simp [Value.oneCell']
/-- A configuration that the call appends to. -/
structure AppC (w : World) (base : Nat) (B : Option Addr) (cap : Nat) (d : Config) (hs : List Value) : Prop where
  own : w.ownsRow base 26 1 (.slice B d.length cap) d.length hs
  rows : ∀ u (hu : u < d.length), ∃ R c', hs[u]? = some (.slice R d[u].length c') ∧ NewI w base R c' d[u] ∧ ∀ g o, B = some ⟨g, o, none⟩ → Off g R
theorem AppC.nil (w : World) (base : Nat) : AppC w base none 0 [] [] := ⟨World.ownsRow_nil _ _ _ _, fun u hu => absurd hu (by simp)⟩
theorem AppC.keep {w w' : World} {base cap : Nat} {B : Option Addr} {d : Config} {hs : List Value} (h : AppC w base B cap d hs) (k : Bel w w') : AppC w' base B cap d hs :=
  ⟨k.owns h.own, fun u hu => by
    obtain ⟨R, c', h1, h2, h3⟩ := h.rows u hu
    exact ⟨R, c', h1, h2.keep k, h3⟩⟩
theorem AppC.push {w w' : World} {base cap n : Nat} {B : Option Addr} {d : Config} {hs : List Value} (h : AppC w base B cap d hs) (hn : d.length = n) {l : List Int} {A : Option Addr} {c : Nat} (hN : NewI w base A c l) (hoff : ∀ g o, B = some ⟨g, o, none⟩ → Off g A) {o : Obj}
    {B' : Option Addr} {cap' : Nat} (hown : w'.ownsRow base 26 1 (.slice B' (n + 1) cap') (n + 1) (hs ++ [.slice A l.length c])) (hgr : (w.alloc o).grownBy w' (Value.slice B n cap).ownBlock)
    (hat : (Value.slice B' (n + 1) cap').ownBlock = (Value.slice B n cap).ownBlock ∨ (Value.slice B' (n + 1) cap').ownBlock = some (w.alloc o).heap.size) : AppC w' base B' cap' (d ++ [l]) (hs ++ [.slice A l.length c]) := by
  have hlen : hs.length = d.length := by have := h.own.1; omega
  have hg : Gr (Value.slice B n cap).ownBlock w w' := (Gr.of_bel ((Bel.refl w).alloc o)).trans (Gr.grown hgr)
  have hb0 : ∀ R : Option Addr, (∀ g o, B = some ⟨g, o, none⟩ → Off g R) → ∀ b o, R = some ⟨b, o, none⟩ → some b ≠ (Value.slice B n cap).ownBlock := by
    intro R hR b o e hb
    rcases h.own.2 with ⟨hv, _⟩ | ⟨g', _, _, hv, _, _, _⟩
    · injection hv with hA; subst hA; cases hb
    · injection hv with hA; subst hA
      obtain rfl : b = g' := by simpa [Value.ownBlock] using hb
      exact hR b 0 rfl b o e rfl
  have hnew : ∀ R : Option Addr, ∀ c (l : List Int), NewI w base R c l → (∀ g o, B = some ⟨g, o, none⟩ → Off g R) → ∀ g o, B' = some ⟨g, o, none⟩ → Off g R := by
    intro R c l hR hRo g o' e b o2 eR hbg
    subst e; subst hbg
    rcases hat with hat | hat
    · exact hb0 R hRo b o2 eR (by rw [← hat]; simp [Value.ownBlock])
    · have := (hR.2.2.2 b o2 eR).2
      simp [Value.ownBlock] at hat
      omega
  refine ⟨by rw [List.length_append, hn]; exact hown, fun u hu => ?_⟩
  by_cases hu' : u < d.length
  · obtain ⟨R, c', k1, k2, k3⟩ := h.rows u hu'
    rw [List.getElem_append_left hu']
    exact ⟨R, c', by rw [List.getElem?_append_left (by omega)]; exact k1, k2.gr hg (hb0 R k3), hnew R _ _ k2 k3⟩
  · have : u = d.length := by simp at hu; omega
    subst this
    rw [List.getElem_append_right (Nat.le_refl _)]
    simp only [Nat.sub_self, List.getElem_singleton]
    exact ⟨A, c, by rw [List.getElem?_append_right (by omega), hlen]; simp, hN.gr hg (hb0 A hoff), hnew A _ _ hN hoff⟩
theorem AppC.ownC {w : World} {base cap g : Nat} {d : Config} {hs : List Value} (h : AppC w base (some ⟨g, 0, none⟩) cap d hs) : OwnC w base g cap d hs :=
  ⟨h.own, fun u hu => by
    obtain ⟨R, c', h1, h2, h3⟩ := h.rows u hu
    exact ⟨R, c', h1, h2.1, h2.2.1, h2.2.2.1, h3 g 0 rfl⟩⟩
theorem AppC.form {w : World} {base cap : Nat} {B : Option Addr} {d : Config} {hs : List Value} (h : AppC w base B cap d hs) (hd : 0 < d.length) : ∃ g, B = some ⟨g, 0, none⟩ := by
  obtain ⟨g, cap', hv, _⟩ := h.own.form hd
  injection hv with hA
  exact ⟨g, hA⟩
/-- A new slice of ints. -/
def RetNewI (l : List Int) (w : World) (e : Ending) (w' : World) : Prop := ∃ A c, e = .returned (.slice A l.length c) ∧ NewI w' w.heap.size A c l ∧ Bel w w'
def RetOwnC (d : Config) (w : World) (e : Ending) (w' : World) : Prop := ∃ g cap hs, e = .returned (.slice (some ⟨g, 0, none⟩) d.length cap) ∧ OwnC w' w.heap.size g cap d hs ∧ Bel w w'
theorem OwnC.zero {w : World} {base g cap n : Nat} {hs : List Value} (h : w.ownsRow base 26 1 (.slice (some ⟨g, 0, none⟩) n cap) n hs) (hs0 : hs = List.replicate n (.slice none 0 0)) : OwnC w base g cap (List.replicate n []) hs := by
  refine ⟨by rw [List.length_replicate]; exact h, fun u hu => ?_⟩
  rw [List.length_replicate] at hu
  refine ⟨none, 0, ?_, ?_, ?_, ?_, fun b o e => by cases e⟩
  · subst hs0; rw [List.getElem_replicate]; rw [List.getElem?_replicate, if_pos hu]; rfl
  · rw [List.getElem_replicate]; exact SliceR.nil
  · rw [List.getElem_replicate]; exact Nat.le_refl _
  · unfold maxLen; omega
/-- As far as it has been copied. -/
def fillC (c : Config) (k : Nat) : Config := c.take k ++ List.replicate (c.length - k) []
theorem fillC_length (c : Config) (k : Nat) : (fillC c k).length = c.length := by simp [fillC]; omega
theorem fillC_zero (c : Config) : fillC c 0 = List.replicate c.length [] := by simp [fillC]
theorem fillC_full (c : Config) : fillC c c.length = c := by simp [fillC]
theorem fillC_at (c : Config) (k i : Nat) : (fillC c k)[i]? = if i < c.length then some (if i < k then c.getD i [] else []) else none := by
  unfold fillC
  rw [List.getElem?_append]
  by_cases hi : i < c.length
  · rw [if_pos hi]
    by_cases hk : i < k
    · rw [if_pos hk, if_pos (by rw [List.length_take]; omega), List.getElem?_take_of_lt hk, List.getElem?_eq_getElem hi, getD_eq hi]
    · rw [if_neg hk, if_neg (by rw [List.length_take]; omega), List.getElem?_replicate, if_pos (by rw [List.length_take]; omega)]
  · rw [if_neg hi]
    by_cases hk : i < (c.take k).length
    · rw [List.length_take] at hk; omega
    · rw [if_neg hk, List.getElem?_replicate, if_neg (by rw [List.length_take] at *; omega)]
theorem fillC_succ (c : Config) (k : Nat) (h : k < c.length) : (fillC c k).set k c[k] = fillC c (k + 1) := by
  apply List.ext_getElem?
  intro i
  rw [List.getElem?_set, fillC_at, fillC_at, fillC_length]
  by_cases he : k = i
  · subst he
    rw [if_pos rfl, if_pos h, if_pos h, if_pos (by omega), getD_eq h]
  · rw [if_neg he]
    by_cases hi : i < c.length
    · rw [if_pos hi, if_pos hi]
      by_cases hk : i < k
      · rw [if_pos hk, if_pos (by omega)]
      · rw [if_neg hk, if_neg (by omega)]
    · rw [if_neg hi, if_neg hi]

theorem rows_infoC : (Tryz.prog.info? 26).map (fun i => (i.zero, i.size, i.bytes)) = some (some (.slice none 0 0), 1, 24) := by kernel_rfl
theorem int_infoC : (Tryz.prog.info? 3).map (fun i => (i.zero, i.size, i.bytes)) = some (some (.int .i64 0), 1, 8) := by kernel_rfl
set_option maxRecDepth 100000 in
set_option maxHeartbeats 2000000 in
theorem memCopy_any (v : Value) (c : Config) (w : World) (h : ConfV w v c) (hL : lightC c = true) :
    Calls Tryz.prog 104 #[v] w (RetOwnC c w) := by
  obtain ⟨A, k, rfl, hR, _, _⟩ := h
  have HR := Lib.hid (fun w' (kk : Bel w w') => hR.keep kk)
  obtain ⟨l1, l2⟩ := lightC_parts hL
  have HL2 := Lib.hid l2
  clear hR l2 hL
  obtain ⟨i0, hi0, hz0, hz1, hz2⟩ := info_parts rows_infoC
  obtain ⟨j0, hj0, hy0, hy1, hy2⟩ := info_parts int_infoC
  go_enter Tryz.func104, Tryz.ntmps104
  go_wp2_with (at_make; refine wpList_make _ rfl 30 (.tmp 7) (.tmp 7) rfl w.heap.size 26 i0 (.slice none 0 0) 1 Tryz.underlying30 hi0 hz0 hz1 .i64 .i64 c.length rfl rfl (by rw [hz2]; omega) (by unfold maxLen; omega) (by simp) ?_; intro gb w1 hown hb; have HW := hb; rw [made_one _ rfl] at hown; have HO := Lib.hid (OwnC.zero hown rfl); clear hown hb)
  go_loopg [4, 5, 11] c.length (fun m _x _y z wr => ∃ (v : Nat) (hs : List Value), v ≤ c.length ∧ m = c.length - v ∧ z = .int .i64 v ∧ Hid (OwnC wr w.heap.size gb c.length (fillC c v) hs) ∧ Bel w wr)
  case atStart => exact ⟨0, _, by omega, rfl, rfl, by show OwnC _ _ _ _ _ _; rw [fillC_zero]; exact HO.out, HW⟩
  case round =>
    clear HO HW
    obtain ⟨v, hs, hv, rfl, rfl, HO, HW⟩ := hrel
    by_cases hlt : v < c.length
    · have hd0 : decide (v < c.length) = true := by simpa using hlt
      obtain ⟨b, o, R, rc, rfl, hbl, hcell, hI, _, _⟩ := (HR.out _ HW).at_ v hlt
      have hle := HL2.out _ (List.getElem_mem hlt)
      have HI := Lib.hid hI
      clear hI
      have hbase := own_base HO.out.own
      have HSL : Hid (hs.length = c.length) := by have := HO.out.own.1; rw [fillC_length] at this; show _ = _; omega
      go_wp2_with (at_builtin; go_must (refine wpList_extend _ rfl (.const (.slice none 0 0)) (.tmp 18) 26 rfl wr.heap.size 3 j0 (.int .i64 0) 1 8 Tryz.underlying26 hj0 hy0 hy1 hy2 rfl (by decide) none 0 0 [] rfl (World.ownsRow_nil _ _ _ _) R c[v].length rc (c[v].map (Value.int .i64)) rfl HI.out.cells (int_cells_one _) (by unfold maxLen; omega) (by omega) (Nat.le_refl _) ?_); intro A3 c3 w3 hown3 hgr3 _; rw [List.nil_append, Nat.zero_add] at hown3; have hb3 := (Bel.refl wr).grown hgr3 (fun k hk => by cases hk); obtain ⟨_, hN⟩ := own_newI hown3; have HN := Lib.hid hN; have HO3 := Lib.hid (HO.out.keep hb3); have y1 := own_cell0 HO3.out.own v (by rw [HSL.out]; omega); have y2 := HO3.out.own.frozenAt v; have ygb := (own_base HO3.out.own).2; replace HW := HW.trans hb3; clear hown3 hgr3 hb3 hN)
      go_roundg (c.length - (v + 1))
      case rel =>
        refine ⟨v + 1, hs.set v (.slice A3 c[v].length c3), by omega, rfl, by go_num, ?_, HW.setCell (by simp; omega) _⟩
        have h3 := HN.out
        show OwnC _ _ _ _ _ _
        rw [← fillC_succ c v hlt]
        simpa using HO3.out.set (v := v) (l := c[v]) (A := A3) (c' := c3) (by rw [fillC_length]; exact hlt) h3.1 h3.2.1 h3.2.2.1 (h3.off (by omega))
      case measure => omega
    · have hd0 : decide (v < c.length) = false := by simpa using hlt
      obtain rfl : v = c.length := by omega
      go_wp2_with fail
      go_ret
      have hO := HO.out
      rw [fillC_full] at hO
      exact ⟨gb, _, hs, rfl, hO, HW⟩

set_option maxRecDepth 100000 in
set_option maxHeartbeats 2000000 in
theorem refCopy_any (v : Value) (c : Config) (w : World) (h : ConfV w v c) (hL : lightC c = true) (hpos : 0 < c.length) :
    Calls Tryz.prog 20 #[v] w (RetOwnC c w) := by
  obtain ⟨A, k, rfl, hR, _, _⟩ := h
  have HR := Lib.hid (fun w' (kk : Bel w w') => hR.keep kk)
  obtain ⟨l1, l2⟩ := lightC_parts hL
  have HL2 := Lib.hid l2
  clear hR l2 hL
  obtain ⟨i0, hi0, hz0, hz1, hz2⟩ := info_parts rows_infoC
  obtain ⟨j0, hj0, hy0, hy1, hy2⟩ := info_parts int_infoC
  have HW := Bel.refl w
  go_enter Tryz.func20, Tryz.ntmps20
  go_wp2
  go_loopg [3, 4] c.length (fun m x z wr => ∃ (v : Nat) (B : Option Addr) (cb : Nat) (hs : List Value), v ≤ c.length ∧ m = c.length - v ∧ x = .slice B v cb ∧ z = .int .i64 v ∧ Hid (AppC wr w.heap.size B cb (c.take v) hs) ∧ Bel w wr)
  case atStart => exact ⟨0, none, 0, [], by omega, rfl, rfl, rfl, AppC.nil _ _, HW⟩
  case round =>
    clear HW
    obtain ⟨v, B, cb, hs, hv, rfl, rfl, rfl, HO, HW⟩ := hrel
    by_cases hlt : v < c.length
    · have hd0 : decide (v < c.length) = true := by simpa using hlt
      obtain ⟨b, o, R, rc, rfl, hbl, hcell, hI, _, _⟩ := (HR.out _ HW).at_ v hlt
      have hle := HL2.out _ (List.getElem_mem hlt)
      have HI := Lib.hid hI
      have HT : Hid ((c.take v).length = v) := by show _ = _; rw [List.length_take]; omega
      clear hI
      go_wp2_with (first
        | (at_builtin; refine wpList_extend _ rfl (.const (.slice none 0 0)) (.tmp 15) 26 rfl wr.heap.size 3 j0 (.int .i64 0) 1 8 Tryz.underlying26 hj0 hy0 hy1 hy2 rfl (by decide) none 0 0 [] rfl (World.ownsRow_nil _ _ _ _) R c[v].length rc (c[v].map (Value.int .i64)) rfl HI.out.cells (int_cells_one _) (by unfold maxLen; omega) (by omega) (Nat.le_refl _) ?_; intro A3 c3 w3 hown3 hgr3 _; rw [List.nil_append, Nat.zero_add] at hown3; have hb3 := (Bel.refl wr).grown hgr3 (fun k hk => by cases hk); obtain ⟨_, hN⟩ := own_newI hown3; have HN := Lib.hid hN; have HO3 := Lib.hid (HO.out.keep hb3); have HOV := Lib.hid (own_len HO3.out.own HT.out); have hszr := HW.size; have hoffA : ∀ g o, B = some ⟨g, o, none⟩ → Off g A3 := (fun g o e => HN.out.off (by have := HO.out.own; subst e; exact (own_lt this))); replace HW := HW.trans hb3; clear hown3 hgr3 hb3 hN)
        | (at_builtin; refine wpList_push _ rfl (.tmp 11) (.tmp 17) 30 rfl w.heap.size 26 i0 (.slice none 0 0) 1 24 Tryz.underlying30 hi0 hz0 hz1 hz2 rfl (by decide) B v cb hs rfl (HOV.out.alloc _) w3.heap.size #[.slice A3 c[v].length c3] 26 (0, 0) rfl (heap_new _ _) rfl (one_slice _ _ _) (by unfold maxLen; omega) (by omega) (by have := HW.size; simp; omega) ?_; intro B4 c4 w4 hown4 hgr4 hat4; have HP := Lib.hid (HO3.out.push HT.out (HN.out.lower hszr) hoffA hown4 hgr4 hat4); replace HW := (HW.alloc _).push (HOV.out.alloc _) hgr4; clear hown4 hgr4 hat4))
      go_roundg (c.length - (v + 1))
      case rel =>
        refine ⟨v + 1, B4, c4, hs ++ [.slice A3 c[v].length c3], by omega, rfl, rfl, by go_num, ?_, HW⟩
        show AppC _ _ _ _ _ _
        rw [List.take_succ_eq_append_getElem hlt]
        exact HP.out
      case measure => omega
    · have hd0 : decide (v < c.length) = false := by simpa using hlt
      obtain rfl : v = c.length := by omega
      go_wp2_with fail
      go_ret
      have hO := HO.out
      rw [List.take_of_length_le (Nat.le_refl _)] at hO
      obtain ⟨gb, rfl⟩ := hO.form hpos
      exact ⟨gb, _, hs, rfl, hO.ownC, HW⟩

end Go.Proofs.YtibfjhhadbkkgaaGreat

