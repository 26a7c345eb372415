/- Merged of: WVa WVe WVf WVg (see NOTES.md). -/
import Derived.Test.YtgemlgpjbclonaaGreatDoorZ27
import Derived.Test.YtgemlgpjbclonaaGreatDoorZ30
import Derived.Test.YtgemlgpjbclonaaGreatDoorZ16
import Derived.Test.YtgemlgpjbclonaaGreatDoorZ26
import Derived.Test.YtgemlgpjbclonaaGreatDoorZ31
import Derived.Test.YtgemlgpjbclonaaGreatDoorZ22
import Derived.Test.YtgemlgpjbclonaaGreatDoorZ28
set_option linter.unusedSimpArgs false
set_option linter.unnecessarySimpa false
set_option linter.unusedVariables false

/- Contracts: the reference's count of configurations; its daemons' numbers. -/
namespace Go.Proofs.YtgemlgpjbclonaaGreatDoor
open Go.RowKit

/-- How far the number of states of a node has come. -/
theorem szL_at {M a : Int} {t : List (Int × Int)} {x : Nat} (hx : x < t.length) : szL M a (t.drop x) = szL M (min (a * (t[x].2 - t[x].1 + 1)) M) (t.drop (x + 1)) := by
 rw [List.drop_eq_getElem_cons hx]; rfl
theorem cntR_at {M r : Int} {T : List (List (Int × Int))} {v : Nat} (hv : v < T.length) : cntR M r (T.drop v) = if 32768 < szL M 1 T[v] ∨ 32768 < r * szL M 1 T[v] then none else cntR M (r * szL M 1 T[v]) (T.drop (v + 1)) := by
 rw [List.drop_eq_getElem_cons hv]; rfl
theorem szL_bound {M : Int} (hM : 1 ≤ M) {t : List (Int × Int)} (ho : okL t) : 1 ≤ szL M 1 t ∧ szL M 1 t ≤ M := by
 rw [szL_eq hM ho (by omega) (by omega)]
 have := sizeL_pos ho
 omega
theorem cnt_none {T : List (List (Int × Int))} (ho : okN T) (h : cntR 1073741824 1 T = none) : cntP (sizeN T) = (0, 3) := by
 rw [cntR_eq (by omega) ho (by omega) (by omega), Int.one_mul] at h
 unfold limF at h
 unfold cntP
 split at h
 ·rename_i h1; rw [if_pos h1]
 ·cases h
theorem cnt_some {T : List (List (Int × Int))} {r : Int} (ho : okN T) (h : cntR 1073741824 1 T = some r) : cntP (sizeN T) = (r, 0) := by
 rw [cntR_eq (by omega) ho (by omega) (by omega), Int.one_mul] at h
 unfold limF at h
 unfold cntP
 split at h
 ·cases h
 ·rename_i h1; rw [if_neg h1]; injection h with h; rw [h]

set_option maxHeartbeats 1000000 in
theorem refDaemon_any (kind : Int) (w : World) :
  Calls Tryz.prog 17 #[.int .i64 kind] w fun e w' => e = .returned (.bool (kindB kind)) ∧ w = w' := by
 have HF : Hid (kindB kind = (decide (1 ≤ kind) && decide (kind ≤ 4))) := rfl
 by_cases h0 : 1 ≤ kind
 ·have d0 : decide (1 ≤ kind) = true := by simpa using h0
  rw [d0] at HF
  by_cases h1 : kind ≤ 4
  ·have d1 : decide (kind ≤ 4) = true := by simpa using h1
   rw [d1] at HF
   go_enter Tryz.func17, Tryz.ntmps17
   go_wp2_with fail
   go_ret
   exact ⟨ret_bool (by rw [HF.out]; rfl), rfl⟩
  ·have d1 : decide (kind ≤ 4) = false := by simpa using h1
   rw [d1] at HF
   go_enter Tryz.func17, Tryz.ntmps17
   go_wp2_with fail
   go_ret
   exact ⟨ret_bool (by rw [HF.out]; rfl), rfl⟩
 ·have d0 : decide (1 ≤ kind) = false := by simpa using h0
  rw [d0] at HF
  go_enter Tryz.func17, Tryz.ntmps17
  go_wp2_with fail
  go_ret
  exact ⟨ret_bool (by rw [HF.out]; rfl), rfl⟩

set_option maxRecDepth 100000 in
set_option maxHeartbeats 2000000 in
theorem refThere_any (v1 : Value) (p : Prg) (v2 : Value) (g : Graph) (v : Nat) (w : World) (h : PrgV w v1 p) (h2 : GraphV w v2 g) (hL : lightP p = true) (hG : lightG g = true) (hf : fitsF p g = 0) (hv : v < g.ports.length) (hp : 1 ≤ p.vars.length) :
  Calls Tryz.prog 78 #[v1, v2, .int .i64 (v : Int), .int .i64 0] w fun e w' => e = .returned (.bool true) ∧ Bel w w' := by
 have HPV := Lib.hid (fun w' (k : Bel w w') => h.keep k)
 have HGV := Lib.hid (fun w' (k : Bel w w') => h2.keep k)
 obtain ⟨A1, k1, A2, k2, rfl, _, _, _, _, _, _⟩ := h
 obtain ⟨A3, k3, A4, k4, rfl, _, _, _, _, _, _⟩ := h2
 have HW := Bel.refl ((w.alloc (.cells #[.string p.name, .slice A1 p.vars.length k1, .slice A2 p.rules.length k2] 25)).alloc (.cells #[.slice A3 g.ids.length k3, .slice A4 g.ports.length k4] 29))
 have HL := Lib.hid hL
 have HGL := Lib.hid hG
 have HF := Lib.hid hf
 have HI1 : Hid (inB (v : Int) 0 ((g.ports.length : Int) - 1) = true) := inB_iff.2 (by omega)
 have HI2 : Hid (inB 0 0 ((p.vars.length : Int) - 1) = true) := inB_iff.2 (by omega)
 have hn := (fits_zero hf).2.1.le
 have hv10 := (lightP_parts hL).2.1
 clear hL hG hf
 go_enter Tryz.func78, Tryz.ntmps78
 go_wp2_with (first
  | (go_at_call 43; refine (refFits_any _ p _ g _ (HPV.out _ (box2_bel HW)) (HGV.out _ (box2_bel HW)) HL.out HGL.out).mono ?_; rintro e w' ⟨rfl, hb⟩; rw [HF.out]; replace HW := HW.trans hb; clear hb; (try clear p0 p1 p2 g0 g1 gsz); obtain ⟨p0, p1, p2, g0, g1, gsz⟩ := pgbox HW)
  | (go_at_call 45; refine (in01_any _ _ _ _).mono ?_; rintro e w' ⟨rfl, rfl⟩; first | rw [HI1.out] | rw [HI2.out]))
 go_ret
 exact ⟨rfl, box2_bel HW⟩
set_option maxRecDepth 100000 in
set_option maxHeartbeats 2000000 in
theorem refSize_any (v1 : Value) (p : Prg) (v2 : Value) (g : Graph) (v : Nat) (w : World) (h : PrgV w v1 p) (h2 : GraphV w v2 g) (hL : lightP p = true) (hG : lightG g = true) (hf : fitsF p g = 0) (hv : v < g.ports.length) (hp : 1 ≤ p.vars.length) :
  Calls Tryz.prog 44 #[v1, v2, .int .i64 (v : Int)] w fun e w' => e = .returned (.int .i64 (szL 1073741824 1 (rowF p g v))) ∧ Bel w w' := by
 have HPV := Lib.hid (fun w' (k : Bel w w') => h.keep k)
 have HGV := Lib.hid (fun w' (k : Bel w w') => h2.keep k)
 obtain ⟨A1, k1, A2, k2, rfl, _, _, _, _, _, _⟩ := h
 obtain ⟨A3, k3, A4, k4, rfl, _, _, _, _, _, _⟩ := h2
 have HW := Bel.refl ((w.alloc (.cells #[.string p.name, .slice A1 p.vars.length k1, .slice A2 p.rules.length k2] 25)).alloc (.cells #[.slice A3 g.ids.length k3, .slice A4 g.ports.length k4] 29))
 have HL := Lib.hid hL
 have HGL := Lib.hid hG
 have HFT := Lib.hid hf
 obtain ⟨h1, h3, _⟩ := fits_zero hf
 have HCN := Lib.hid (check_numbers h1).1
 have HGO := Lib.hid h3
 have HP1 := Lib.hid hp
 have hvt : v < (tableF p g).length := by rw [tableF_length, h3.ids]; exact hv
 have HSM : Hid (∀ x (hx : x < p.vars.length), -4096 ≤ (boundsF p.vars[x] g v).1 ∧ (boundsF p.vars[x] g v).1 ≤ 4096 ∧ (boundsF p.vars[x] g v).1 ≤ (boundsF p.vars[x] g v).2 ∧ (boundsF p.vars[x] g v).2 ≤ 80000) := fun x hx => by
  have := (table_small hf).at_ hvt (j := x) (by rw [tableF_row hvt]; exact hx)
  have e : (tableF p g)[v] = rowF p g v := tableF_at hvt
  simp only [e, rowF, List.getElem_map] at this
  exact this
 have hv10 := (lightP_parts hL).2.1
 clear hL hG hf h1 h3
 go_enter Tryz.func44, Tryz.ntmps44
 go_wp2_with (go_at_call 78; refine (refThere_any _ p _ g v _ (HPV.out _ (box2_bel HW)) (HGV.out _ (box2_bel HW)) HL.out HGL.out HFT.out hv HP1.out).mono ?_; rintro e w' ⟨rfl, hb⟩; replace HW := HW.trans hb; clear hb; (try clear p0 p1 p2 g0 g1 gsz); obtain ⟨p0, p1, p2, g0, g1, gsz⟩ := pgbox HW)
 clear p0 p1 p2 g0 g1 gsz
 go_loopg [7, 8, 9, 10] p.vars.length (fun m o z _a _b wr => ∃ (x : Nat) (a : Int), x ≤ p.vars.length ∧ m = p.vars.length - x ∧ o = .int .i64 a ∧ z = .int .i64 (x : Int) ∧ 1 ≤ a ∧ a ≤ 1073741824 ∧ Hid (szL 1073741824 a ((rowF p g v).drop x) = szL 1073741824 1 (rowF p g v)) ∧ Bel ((w.alloc (.cells #[.string p.name, .slice A1 p.vars.length k1, .slice A2 p.rules.length k2] 25)).alloc (.cells #[.slice A3 g.ids.length k3, .slice A4 g.ports.length k4] 29)) wr)
 case atStart => exact ⟨0, 1, by omega, rfl, rfl, rfl, by omega, by omega, by show _ = _; simp, HW⟩
 case round =>
  clear HW
  obtain ⟨x, a, hx, rfl, rfl, rfl, ha1, ha2, HQ, HW⟩ := hrel
  obtain ⟨p0, p1, p2, g0, g1, gsz⟩ := pgbox HW
  by_cases hlt : x < p.vars.length
  ·have hd0 : decide (x < p.vars.length) = true := by simpa using hlt
   have HNX := Lib.hid (List.all_eq_true.1 HCN.out _ (List.getElem_mem hlt))
   have hsm := HSM.out x hlt
   have hrl : x < (rowF p g v).length := by rw [rowF_length]; exact hlt
   rw [szL_at hrl] at HQ
   have HRX : Hid ((rowF p g v)[x] = boundsF p.vars[x] g v) := by show _ = _; simp [rowF]
   rw [HRX.out] at HQ
   obtain ⟨lo, hlo⟩ : ∃ lo, (boundsF p.vars[x] g v).1 = lo := ⟨_, rfl⟩
   obtain ⟨hi, hhi⟩ : ∃ hi, (boundsF p.vars[x] g v).2 = hi := ⟨_, rfl⟩
   rw [hlo, hhi] at hsm HQ
   have HLO := Lib.hid hlo
   have HHI := Lib.hid hhi
   clear hlo hhi
   have hmr := mul_range (a := a) (b := hi - lo + 1) (A := 1073741824) (B := 90000) (by omega) ha2 (by omega) (by omega)
   have hmg := mul_ge (r := a) (s := hi - lo + 1) ha1 (by omega)
   obtain ⟨m, hm, hm'⟩ := ite_min (a * (hi - lo + 1)) 1073741824
   rw [← hm'] at HQ
   have hmb : 1 ≤ m ∧ m ≤ 1073741824 := by omega
   clear hm'
   go_wp2_with (go_at_call 75; refine (ends_any _ p _ g v x _ (HPV.out _ (box2_bel HW)) (HGV.out _ (box2_bel HW)) hlt HNX.out HGO.out hv HGL.out).mono ?_; rintro e w' ⟨rfl, hb⟩; rw [HLO.out, HHI.out]; replace HW := HW.trans hb; clear hb; (try clear p0 p1 p2 g0 g1 gsz); obtain ⟨p0, p1, p2, g0, g1, gsz⟩ := pgbox HW)
   go_roundg (p.vars.length - (x + 1))
   case rel => exact ⟨x + 1, m, by omega, rfl, by go_num, by go_num, hmb.1, hmb.2, HQ, HW⟩
   case measure => omega
  ·have hd0 : decide (x < p.vars.length) = false := by simpa using hlt
   obtain rfl : x = p.vars.length := by omega
   go_wp2_with fail
   go_ret
   refine ⟨ret_int ?_, box2_bel HW⟩
   rw [← HQ.out, List.drop_eq_nil_of_le (by rw [rowF_length]; exact Nat.le_refl _)]; rfl

set_option maxRecDepth 100000 in
set_option maxHeartbeats 2000000 in
theorem refCount10_any (v1 : Value) (p : Prg) (v2 : Value) (g : Graph) (w : World) (h : PrgV w v1 p) (h2 : GraphV w v2 g) (hL : lightP p = true) (hG : lightG g = true) :
  Calls Tryz.prog 16 #[v1, v2] w fun e w' => e = .returned (.tuple #[.int .i64 (totalF p g).1, .int .i64 (totalF p g).2]) ∧ Bel w w' := by
 have HPV := Lib.hid (fun w' (k : Bel w w') => h.keep k)
 have HGV := Lib.hid (fun w' (k : Bel w w') => h2.keep k)
 obtain ⟨A1, k1, A2, k2, rfl, _, _, _, _, _, _⟩ := h
 obtain ⟨A3, k3, A4, k4, rfl, _, _, _, _, _, _⟩ := h2
 have HW := Bel.refl ((w.alloc (.cells #[.string p.name, .slice A1 p.vars.length k1, .slice A2 p.rules.length k2] 25)).alloc (.cells #[.slice A3 g.ids.length k3, .slice A4 g.ports.length k4] 29))
 have HL := Lib.hid hL
 have HGL := Lib.hid hG
 clear hL hG
 by_cases hf : fitsF p g = 0
 ·have HF := Lib.hid hf
  have HE : Hid (totalF p g = cntP (sizeN (tableF p g))) := totalF_fits hf
  obtain ⟨h1, h3, _⟩ := fits_zero hf
  have hv1 := check_vars' h1
  have HOK : Hid (okN (tableF p g)) := table_ok hf
  have HTL : Hid ((tableF p g).length = g.ports.length) := by show _ = _; rw [tableF_length, h3.ids]
  have hn24 := h3.le
  clear hf h1 h3
  go_enter Tryz.func16, Tryz.ntmps16
  go_wp2_with (go_at_call 43; refine (refFits_any _ p _ g _ (HPV.out _ (box2_bel HW)) (HGV.out _ (box2_bel HW)) HL.out HGL.out).mono ?_; rintro e w' ⟨rfl, hb⟩; rw [HF.out]; replace HW := HW.trans hb; clear hb; (try clear p0 p1 p2 g0 g1 gsz); obtain ⟨p0, p1, p2, g0, g1, gsz⟩ := pgbox HW)
  clear p0 p1 p2 g0 g1 gsz
  go_loopg [7, 8, 9] g.ports.length (fun m o z _a wr => ∃ (v : Nat) (r : Int), v ≤ g.ports.length ∧ m = g.ports.length - v ∧ o = .int .i64 r ∧ z = .int .i64 (v : Int) ∧ 1 ≤ r ∧ r ≤ 32768 ∧ Hid (cntR 1073741824 r ((tableF p g).drop v) = cntR 1073741824 1 (tableF p g)) ∧ Bel ((w.alloc (.cells #[.string p.name, .slice A1 p.vars.length k1, .slice A2 p.rules.length k2] 25)).alloc (.cells #[.slice A3 g.ids.length k3, .slice A4 g.ports.length k4] 29)) wr)
  case atStart => exact ⟨0, 1, by omega, rfl, rfl, rfl, by omega, by omega, by show _ = _; simp, HW⟩
  case round =>
   clear HW
   obtain ⟨v, r, hv, rfl, rfl, rfl, hr1, hr2, HQ, HW⟩ := hrel
   obtain ⟨p0, p1, p2, g0, g1, gsz⟩ := pgbox HW
   by_cases hlt : v < g.ports.length
   ·have hd0 : decide (v < g.ports.length) = true := by simpa using hlt
    have hvt : v < (tableF p g).length := by rw [HTL.out]; exact hlt
    have HRW : Hid ((tableF p g)[v] = rowF p g v) := tableF_at hvt
    have hsb := szL_bound (M := 1073741824) (by omega) (HOK.out _ (List.getElem_mem hvt))
    rw [cntR_at hvt] at HQ
    rw [HRW.out] at HQ hsb
    obtain ⟨s, hs⟩ : ∃ s, s = szL 1073741824 1 (rowF p g v) := ⟨_, rfl⟩
    rw [← hs] at HQ hsb
    have HS := Lib.hid hs
    have hmr := mul_range (a := r) (b := s) (A := 32768) (B := 1073741824) (by omega) hr2 (by omega) hsb.2
    have hmg := mul_ge (r := r) (s := s) hr1 hsb.1
    clear hs
    by_cases hb1 : 32768 < s
    ·have d1 : decide (32768 < s) = true := by simpa using hb1
     rw [if_pos (.inl hb1)] at HQ
     have HC := Lib.hid (cnt_none HOK.out HQ.out.symm)
     clear hb1
     go_wp2_with (go_at_call 44; refine (refSize_any _ p _ g v _ (HPV.out _ (box2_bel HW)) (HGV.out _ (box2_bel HW)) HL.out HGL.out HF.out hlt hv1).mono ?_; rintro e w' ⟨rfl, hb⟩; rw [← HS.out]; replace HW := HW.trans hb; clear hb; (try clear p0 p1 p2 g0 g1 gsz); obtain ⟨p0, p1, p2, g0, g1, gsz⟩ := pgbox HW)
     go_ret2
     exact ⟨by rw [HE.out, HC.out]; rfl, box2_bel HW⟩
    ·have d1 : decide (32768 < s) = false := by simpa using hb1
     by_cases hb2 : 32768 < r * s
     ·have d2 : decide (32768 < r * s) = true := by simpa using hb2
      rw [if_pos (.inr hb2)] at HQ
      have HC := Lib.hid (cnt_none HOK.out HQ.out.symm)
      clear hb1 hb2
      go_wp2_with (go_at_call 44; refine (refSize_any _ p _ g v _ (HPV.out _ (box2_bel HW)) (HGV.out _ (box2_bel HW)) HL.out HGL.out HF.out hlt hv1).mono ?_; rintro e w' ⟨rfl, hb⟩; rw [← HS.out]; replace HW := HW.trans hb; clear hb; (try clear p0 p1 p2 g0 g1 gsz); obtain ⟨p0, p1, p2, g0, g1, gsz⟩ := pgbox HW)
      go_ret2
      exact ⟨by rw [HE.out, HC.out]; rfl, box2_bel HW⟩
     ·have d2 : decide (32768 < r * s) = false := by simpa using hb2
      rw [if_neg (by omega)] at HQ
      have hrs : 1 ≤ r * s ∧ r * s ≤ 32768 := by omega
      clear hb1 hb2
      go_wp2_with (go_at_call 44; refine (refSize_any _ p _ g v _ (HPV.out _ (box2_bel HW)) (HGV.out _ (box2_bel HW)) HL.out HGL.out HF.out hlt hv1).mono ?_; rintro e w' ⟨rfl, hb⟩; rw [← HS.out]; replace HW := HW.trans hb; clear hb; (try clear p0 p1 p2 g0 g1 gsz); obtain ⟨p0, p1, p2, g0, g1, gsz⟩ := pgbox HW)
      go_roundg (g.ports.length - (v + 1))
      case rel => exact ⟨v + 1, r * s, by omega, rfl, rfl, by go_num, hrs.1, hrs.2, HQ, HW⟩
      case measure => omega
   ·have hd0 : decide (v < g.ports.length) = false := by simpa using hlt
    obtain rfl : v = g.ports.length := by omega
    have HC : Hid (cntP (sizeN (tableF p g)) = (r, 0)) := cnt_some HOK.out (by rw [← HQ.out, ← HTL.out, List.drop_length]; rfl)
    go_wp2_with fail
    go_ret2
    exact ⟨by rw [HE.out, HC.out]; rfl, box2_bel HW⟩
 ·have hfb : (fitsF p g != 0) = true := by simpa using hf
  have HE : Hid (totalF p g = (0, fitsF p g)) := by show _ = _; unfold totalF; rw [if_pos (by simpa using hf)]
  clear hf
  go_enter Tryz.func16, Tryz.ntmps16
  go_wp2_with (go_at_call 43; refine (refFits_any _ p _ g _ (HPV.out _ (box2_bel HW)) (HGV.out _ (box2_bel HW)) HL.out HGL.out).mono ?_; rintro e w' ⟨rfl, hb⟩; replace HW := HW.trans hb; clear hb; (try clear p0 p1 p2 g0 g1 gsz); obtain ⟨p0, p1, p2, g0, g1, gsz⟩ := pgbox HW)
  go_ret2
  exact ⟨by rw [HE.out]; rfl, box2_bel HW⟩

end Go.Proofs.YtgemlgpjbclonaaGreatDoor

/- Contract: the reference's least configuration. -/
namespace Go.Proofs.YtgemlgpjbclonaaGreatDoor
open Go.RowKit

theorem rows_infoL : (Tryz.prog.info? 26).map (fun i => (i.zero, i.size, i.bytes)) = some (some (.slice none 0 0), 1, 24) := by kernel_rfl
theorem int_infoL : (Tryz.prog.info? 3).map (fun i => (i.zero, i.size, i.bytes)) = some (some (.int .i64 0), 1, 8) := by kernel_rfl
theorem leastL_row (p : Prg) (g : Graph) (v : Nat) : leastL (rowF p g v) = p.vars.map fun x => (boundsF x g v).1 := by simp [leastL, rowF, Function.comp_def]
theorem leastL_next {p : Prg} {g : Graph} {v x : Nat} (hx : x < p.vars.length) : (leastL (rowF p g v)).take (x + 1) = (leastL (rowF p g v)).take x ++ [(boundsF p.vars[x] g v).1] := by
 rw [leastL_row, List.take_succ_eq_append_getElem (by simpa using hx)]; simp
theorem leastN_next {p : Prg} {g : Graph} {v : Nat} (hv : v < (tableF p g).length) : (leastN (tableF p g)).take (v + 1) = (leastN (tableF p g)).take v ++ [leastL (rowF p g v)] := by
 rw [List.take_succ_eq_append_getElem (by rw [leastN_length]; exact hv)]
 congr 2
 simp only [leastN, List.getElem_map]
 rw [show (tableF p g)[v] = rowF p g v from tableF_at hv]
set_option maxRecDepth 100000 in
set_option maxHeartbeats 2000000 in
theorem refLeast10_any (v1 : Value) (p : Prg) (v2 : Value) (g : Graph) (w : World) (h : PrgV w v1 p) (h2 : GraphV w v2 g) (hL : lightP p = true) (hG : lightG g = true) (hf : fitsF p g = 0) :
  Calls Tryz.prog 74 #[v1, v2] w (RetLeast p g w) := by
 have HPV := Lib.hid (fun w' (k : Bel w w') => h.keep k)
 have HGV := Lib.hid (fun w' (k : Bel w w') => h2.keep k)
 obtain ⟨A1, k1, A2, k2, rfl, _, _, _, _, _, _⟩ := h
 obtain ⟨A3, k3, A4, k4, rfl, _, _, _, _, _, _⟩ := h2
 obtain ⟨i0, hi0, hz0, hz1, hz2⟩ := info_parts rows_infoL
 obtain ⟨j0, hj0, hy0, hy1, hy2⟩ := info_parts int_infoL
 have HW := Bel.refl ((w.alloc (.cells #[.string p.name, .slice A1 p.vars.length k1, .slice A2 p.rules.length k2] 25)).alloc (.cells #[.slice A3 g.ids.length k3, .slice A4 g.ports.length k4] 29))
 have HL := Lib.hid hL
 have HGL := Lib.hid hG
 have HFT := Lib.hid hf
 obtain ⟨h1, h3, _⟩ := fits_zero hf
 have HCN := Lib.hid (check_numbers h1).1
 have HGO := Lib.hid h3
 have hp1 := check_vars' h1
 have hle := h3.le
 have hpos := h3.pos
 have hv10 := (lightP_parts hL).2.1
 have HTL : Hid ((tableF p g).length = g.ports.length) := by show _ = _; rw [tableF_length, h3.ids]
 clear hL hG hf h1 h3
 go_enter Tryz.func74, Tryz.ntmps74
 go_wp2_with (go_at_call 43; refine (refFits_any _ p _ g _ (HPV.out _ (box2_bel HW)) (HGV.out _ (box2_bel HW)) HL.out HGL.out).mono ?_; rintro e w' ⟨rfl, hb⟩; rw [HFT.out]; replace HW := HW.trans hb; clear hb; (try clear p0 p1 p2 g0 g1 gsz); obtain ⟨p0, p1, p2, g0, g1, gsz⟩ := pgbox HW)
 clear p0 p1 p2 g0 g1 gsz
 go_loopg [7, 8] g.ports.length (fun m r z wr => ∃ (v : Nat) (B : Option Addr) (cb : Nat) (bs : List (Nat × Nat)), v ≤ g.ports.length ∧ m = g.ports.length - v ∧ r = .slice B v cb ∧ z = .int .i64 (v : Int) ∧ Hid (RowsC wr (w.heap.size + 1 + 1) B cb p.vars.length ((leastN (tableF p g)).take v) bs) ∧ Bel ((w.alloc (.cells #[.string p.name, .slice A1 p.vars.length k1, .slice A2 p.rules.length k2] 25)).alloc (.cells #[.slice A3 g.ids.length k3, .slice A4 g.ports.length k4] 29)) wr)
 case atStart => exact ⟨0, none, 0, [], by omega, rfl, rfl, rfl, RowsC.nil _ _ _, HW⟩
 case round =>
  clear HW
  obtain ⟨v, B, cb, bs, hv, rfl, rfl, rfl, HO, HW⟩ := hrel
  obtain ⟨wo, rfl⟩ : ∃ wo, wo = wr := ⟨_, rfl⟩
  obtain ⟨p0, p1, p2, g0, g1, gsz⟩ := pgbox HW
  by_cases hlt : v < g.ports.length
  ·have hd0 : decide (v < g.ports.length) = true := by simpa using hlt
   have HNX := Lib.hid (leastN_next (p := p) (g := g) (v := v) (by rw [HTL.out]; exact hlt))
   have HT : Hid (((leastN (tableF p g)).take v).length = v) := by show _ = _; rw [List.length_take, leastN_length, HTL.out]; omega
   go_wp2_with fail
   have HW1 := HW
   have hszo := HW.size
   have HBO := Bel.refl wo
   clear p0 p1 p2 g0 g1 gsz HW
   go_loopg [9, 10] p.vars.length (fun m s z ws => ∃ (x : Nat) (S : Option Addr) (sc : Nat), x ≤ p.vars.length ∧ m = p.vars.length - x ∧ s = .slice S x sc ∧ z = .int .i64 (x : Int) ∧ Hid (ws.ownsRow wo.heap.size 3 1 (.slice S x sc) x (((leastL (rowF p g v)).take x).map (Value.int .i64))) ∧ Bel wo ws)
   case atStart => exact ⟨0, none, 0, by omega, rfl, rfl, rfl, World.ownsRow_nil _ _ _ _, HBO⟩
   case round =>
    clear HBO
    obtain ⟨x, S, sc, hx, rfl, rfl, rfl, HS, HB⟩ := hrel
    have HW := HW1.trans HB
    obtain ⟨p0, p1, p2, g0, g1, gsz⟩ := pgbox HW
    by_cases hlx : x < p.vars.length
    ·have hd1 : decide (x < p.vars.length) = true := by simpa using hlx
     have HNUM := Lib.hid (List.all_eq_true.1 HCN.out _ (List.getElem_mem hlx))
     have HLN := Lib.hid (leastL_next (p := p) (g := g) (v := v) hlx)
     obtain ⟨lo, hlo⟩ : ∃ lo, (boundsF p.vars[x] g v).1 = lo := ⟨_, rfl⟩
     rw [hlo] at HLN
     have HLO := Lib.hid hlo
     clear hlo
     go_wp2_with (first
      | (go_at_call 75; refine (ends_any _ p _ g v x _ (HPV.out _ (box2_bel HW)) (HGV.out _ (box2_bel HW)) hlx HNUM.out HGO.out hlt HGL.out).mono ?_; rintro e w' ⟨rfl, hb⟩; rw [HLO.out]; have HS' := Lib.hid (hb.owns HS.out); have HB' := HB.trans hb; replace HW := HW.trans hb; clear hb; (try clear p0 p1 p2 g0 g1 gsz); obtain ⟨p0, p1, p2, g0, g1, gsz⟩ := pgbox HW)
      | (at_builtin; refine wpList_push _ rfl (.tmp 41) (.tmp 43) 26 rfl wo.heap.size 3 j0 (.int .i64 0) 1 8 Tryz.underlying26 hj0 hy0 hy1 hy2 rfl (by decide) S x sc (((leastL (rowF p g v)).take x).map (Value.int .i64)) rfl (HS'.out.alloc _) w'.heap.size #[.int .i64 lo] 3 (0, 0) rfl (heap_new _ _) rfl (one_int _ _) (by unfold maxLen; omega) (by omega) (by have := HB'.size; simp; omega) ?_; intro S4 c4 w4 hown hgr hat; have HO4 := Lib.hid hown; have HB4 := (HB'.alloc (.cells #[.int .i64 lo] 3)).grown hgr (fun k hk => own_ge HS'.out k hk); clear hown hgr hat))
     go_roundg (p.vars.length - (x + 1))
     case rel =>
      refine ⟨x + 1, S4, c4, by omega, rfl, rfl, by go_num, ?_, HB4⟩
      have := HO4.out
      show World.ownsRow _ _ _ _ _ _ _
      rw [HLN.out, List.map_append]
      exact this
     case measure => omega
    ·have hd1 : decide (x < p.vars.length) = false := by simpa using hlx
     obtain rfl : x = p.vars.length := by omega
     have HLL : Hid ((leastL (rowF p g v)).take p.vars.length = leastL (rowF p g v)) := by
      show _ = _
      rw [List.take_of_length_le]
      rw [leastL_row]; simp
     rw [HLL.out] at HS
     obtain ⟨g3, rfl⟩ : ∃ g3, S = some ⟨g3, 0, none⟩ := by
      obtain ⟨gm, cap, hv', _⟩ := HS.out.form (by omega)
      injection hv' with hA
      exact ⟨gm, hA⟩
     have HO3 := Lib.hid (HO.out.keep HB)
     have HOV := Lib.hid (own_len HO3.out.own HT.out)
     go_wp2_with (at_builtin; refine wpList_push _ rfl (.tmp 45) (.tmp 47) 50 rfl (w.heap.size + 1 + 1) 26 i0 (.slice none 0 0) 1 24 Tryz.underlying50 hi0 hz0 hz1 hz2 rfl (by decide) B v cb (rowVals p.vars.length bs) rfl (HOV.out.alloc _) wr.heap.size #[.slice (some ⟨g3, 0, none⟩) p.vars.length sc] 26 (0, 0) rfl (heap_new _ _) rfl (one_slice _ _ _) (by unfold maxLen; omega) (by omega) (by have := HW.size; simp at this ⊢; omega) ?_; intro B4 c4 w4 hown4 hgr4 hat4; have HP : Hid (RowsC w4 (w.heap.size + 1 + 1) B4 c4 p.vars.length ((leastN (tableF p g)).take v ++ [leastL (rowF p g v)]) (bs ++ [(g3, sc)])) := (by show RowsC _ _ _ _ _ _ _; exact HO.out.push (by simp at hszo; omega) HT.out HS.out HB hown4 hgr4); replace HW := (HW.alloc _).grown hgr4 (fun k hk => by have := own_ge HOV.out k hk; simp; omega); clear hown4 hgr4 hat4)
     go_roundg (g.ports.length - (v + 1))
     case rel =>
      refine ⟨v + 1, B4, c4, bs ++ [(g3, sc)], by omega, rfl, rfl, by go_num, ?_, HW⟩
      show RowsC _ _ _ _ _ _ _
      rw [HNX.out]
      exact HP.out
     case measure => omega
  ·have hd0 : decide (v < g.ports.length) = false := by simpa using hlt
   obtain rfl : v = g.ports.length := by omega
   go_wp2_with fail
   go_ret2
   have hO := HO.out
   rw [List.take_of_length_le (by rw [leastN_length, HTL.out]; exact Nat.le_refl _)] at hO
   have hln : (leastN (tableF p g)).length = g.ports.length := by rw [leastN_length, HTL.out]
   obtain ⟨gb, rfl⟩ := hO.form (by rw [hln]; omega)
   exact ⟨gb, cb, bs, rfl, hO.lower (by omega), box2_bel HW⟩

end Go.Proofs.YtgemlgpjbclonaaGreatDoor

/- Contract: the reference's configuration with a number. -/
namespace Go.Proofs.YtgemlgpjbclonaaGreatDoor
open Go.RowKit

def RetConfK (p : Prg) (g : Graph) (k : Nat) (w : World) (e : Ending) (w' : World) : Prop :=
 ∃ gb cap bs, e = .returned (.slice (some ⟨gb, 0, none⟩) g.ports.length cap) ∧ RowsC w' w.heap.size (some ⟨gb, 0, none⟩) cap p.vars.length (confK p g k) bs ∧ Bel w w'
theorem set_same {α : Type} {l : List α} {i : Nat} {x : α} (h : l[i]? = some x) : l.set i x = l := by
 obtain ⟨hi, rfl⟩ := List.getElem?_eq_some_iff.1 h
 exact List.set_getElem_self hi
set_option maxRecDepth 100000 in
set_option maxHeartbeats 4000000 in
theorem refConf_any (v1 : Value) (p : Prg) (v2 : Value) (g : Graph) (k : Nat) (w : World) (h : PrgV w v1 p) (h2 : GraphV w v2 g) (hL : lightP p = true) (hG : lightG g = true) (hf : fitsF p g = 0) (hk : (k : Int) < sizeF p g) (hk2 : k ≤ 32768) :
  Calls Tryz.prog 39 #[v1, v2, .int .i64 (k : Int)] w (RetConfK p g k w) := by
 have HPV := Lib.hid (fun w' (k : Bel w w') => h.keep k)
 have HGV := Lib.hid (fun w' (k : Bel w w') => h2.keep k)
 obtain ⟨A1, k1, A2, k2, rfl, _, _, _, _, _, _⟩ := h
 obtain ⟨A3, k3, A4, k4, rfl, _, _, _, _, _, _⟩ := h2
 have HW := Bel.refl ((w.alloc (.cells #[.string p.name, .slice A1 p.vars.length k1, .slice A2 p.rules.length k2] 25)).alloc (.cells #[.slice A3 g.ids.length k3, .slice A4 g.ports.length k4] 29))
 have HL := Lib.hid hL
 have HGL := Lib.hid hG
 have HFT := Lib.hid hf
 obtain ⟨h1, h3, _⟩ := fits_zero hf
 have HCN := Lib.hid (check_numbers h1).1
 have HGO := Lib.hid h3
 have hp1 := check_vars' h1
 have hle := h3.le
 have hpos := h3.pos
 have hv10 := (lightP_parts hL).2.1
 have HTL : Hid ((tableF p g).length = g.ports.length) := by show _ = _; rw [tableF_length, h3.ids]
 have HOK := Lib.hid (table_ok hf)
 have HSM := Lib.hid (table_small hf)
 have HC : Hid ((runN (tableF p g) (k : Int)).1 = confK p g k) := runN_conf (table_ok hf) (by omega) hk
 clear hL hG hf h1 h3 hk
 obtain ⟨T, hT⟩ : ∃ T, tableF p g = T := ⟨_, rfl⟩
 have HT := Lib.hid hT
 rw [hT] at HTL HOK HSM HC
 clear hT
 go_enter Tryz.func39, Tryz.ntmps39
 go_wp2_with (go_at_call 74; refine (refLeast10_any _ p _ g _ (HPV.out _ (box2_bel HW)) (HGV.out _ (box2_bel HW)) HL.out HGL.out HFT.out).mono ?_; rintro e w' ⟨gb, cap, bs, rfl, hR, hb⟩; rw [HT.out] at hR; have HR := Lib.hid (hR.lower (base' := w.heap.size + 1 + 1) (by have := HW.size; simp at this ⊢; try omega)); clear hR; replace HW := HW.trans hb; clear hb; (try clear p0 p1 p2 g0 g1 gsz); obtain ⟨p0, p1, p2, g0, g1, gsz⟩ := pgbox HW)
 clear p0 p1 p2 g0 g1 gsz
 go_loopg [2, 9] g.ports.length (fun m kk z wr => ∃ (v : Nat), v ≤ g.ports.length ∧ v = m ∧ kk = .int .i64 (runN (T.drop v) (k : Int)).2 ∧ z = .int .i64 ((v : Int) - 1) ∧ Hid (RowsC wr (w.heap.size + 1 + 1) (some ⟨gb, 0, none⟩) cap p.vars.length (partN T (k : Int) v) bs) ∧ Bel ((w.alloc (.cells #[.string p.name, .slice A1 p.vars.length k1, .slice A2 p.rules.length k2] 25)).alloc (.cells #[.slice A3 g.ids.length k3, .slice A4 g.ports.length k4] 29)) wr)
 case atStart =>
  refine ⟨g.ports.length, by omega, rfl, ?_, by go_num, ?_, HW⟩
  ·rw [← HTL.out, List.drop_length]; rfl
  ·show RowsC _ _ _ _ _ _ _
   rw [← HTL.out, partN_start]; exact HR.out
 case round =>
  clear HW HR
  obtain ⟨v', hv, rfl, rfl, hz, HO, HW⟩ := hrel
  obtain ⟨wo, rfl⟩ : ∃ wo, wo = wr := ⟨_, rfl⟩
  by_cases hv0 : 0 < v'
  ·obtain ⟨v, rfl⟩ : ∃ v, v' = v + 1 := ⟨v' - 1, by omega⟩
   have hd0 : decide ((0 : Int) ≤ (v : Int)) = true := decide_eq_true (by omega)
   have hlt : v < T.length := by rw [HTL.out]; omega
   have hvi : (((v + 1 : Nat) : Int) - 1) = (v : Int) := by omega
   rw [hvi] at hz
   subst hz
   have hrow : T[v] = rowF p g v := by
    have : v < (tableF p g).length := by rw [HT.out]; exact hlt
    have e := tableF_at (p := p) (g := g) this
    simp only [HT.out] at e
    exact e
   have hrl : T[v].length = p.vars.length := by rw [hrow, rowF_length]
   obtain ⟨s1, s2, s3⟩ := partN_step (T := T) (k := (k : Int)) hlt
   have S1 := Lib.hid s1
   have S2 := Lib.hid s2
   obtain ⟨n1, n2⟩ := runN_rest (T := T.drop (v + 1)) (k := (k : Int)) (okN_drop HOK.out _) (by omega)
   have HOT : Hid (okL T[v]) := HOK.out _ (List.getElem_mem hlt)
   obtain ⟨K, hK⟩ : ∃ K, (runN (T.drop (v + 1)) (k : Int)).2 = K := ⟨_, rfl⟩
   rw [hK] at n1 n2 S1 S2
   obtain ⟨D, hD⟩ : ∃ D, partN T (k : Int) (v + 1) = D := ⟨_, rfl⟩
   rw [hD] at s3 S1 HO
   have HD3 := Lib.hid s3
   rw [hK]
   obtain ⟨t, ht⟩ : ∃ t, T[v] = t := ⟨_, rfl⟩
   rw [ht] at hrow hrl S1 S2 HD3 HOT
   have HSMv : Hid (∀ x (hx : x < t.length), -4096 ≤ (t[x]).1 ∧ (t[x]).1 ≤ 4096 ∧ (t[x]).1 ≤ (t[x]).2 ∧ (t[x]).2 ≤ 80000) := fun x hx => by
    have h0 : x < (T[v]).length := by rw [ht]; exact hx
    have := HSM.out.at_ hlt (j := x) h0
    simp only [ht] at this
    exact this
   have HROW := Lib.hid hrow
   obtain ⟨b, hb1, hb2, hb3, _, _, _⟩ := HO.out.row_at HD3.out
   have HRB := Lib.hid hb1
   clear s1 s2 s3 hK hD ht hrow hb1
   obtain ⟨p0, p1, p2, g0, g1, gsz⟩ := pgbox HW
   have hvn : (v : Int) < (g.ports.length : Int) := by omega
   go_wp2_with fail
   clear p0 p1 p2 g0 g1 gsz hb2 hb3
   have hvD : v < D.length := (List.getElem?_eq_some_iff.1 HD3.out).1
   have HVD : Hid (v < D.length) := hvD
   clear hvD
   go_loopg [2, 10] p.vars.length (fun m kk z wr => ∃ (x : Nat), x ≤ p.vars.length ∧ x = m ∧ kk = .int .i64 (runL (t.drop x) K).2 ∧ z = .int .i64 ((x : Int) - 1) ∧ Hid (RowsC wr (w.heap.size + 1 + 1) (some ⟨gb, 0, none⟩) cap p.vars.length (D.set v (partL t K x)) bs) ∧ Bel ((w.alloc (.cells #[.string p.name, .slice A1 p.vars.length k1, .slice A2 p.rules.length k2] 25)).alloc (.cells #[.slice A3 g.ids.length k3, .slice A4 g.ports.length k4] 29)) wr)
   case atStart =>
    refine ⟨p.vars.length, by omega, rfl, ?_, by go_num, ?_, HW⟩
    ·rw [← hrl, List.drop_length]; rfl
    ·show RowsC _ _ _ _ _ _ _
     rw [← hrl, partL_start, set_same HD3.out]; rw [hrl]; exact HO.out
   case round =>
    clear HW HO
    obtain ⟨x', hx, hm, rfl, hz, HO, HW⟩ := hrel
    subst hm
    by_cases hx0 : 0 < x'
    ·obtain ⟨x, rfl⟩ : ∃ x, x' = x + 1 := ⟨x' - 1, by omega⟩
     have hxi : (((x + 1 : Nat) : Int) - 1) = (x : Int) := by omega
     rw [hxi] at hz
     subst hz
     clear hxi
     have hd1 : decide ((0 : Int) ≤ (x : Int)) = true := decide_eq_true (by omega)
     have hlx : x < t.length := by rw [hrl]; omega
     have hlv : x < p.vars.length := by omega
     have HNUM := Lib.hid (List.all_eq_true.1 HCN.out _ (List.getElem_mem hlv))
     obtain ⟨q1, q2, q3⟩ := partL_step (k := K) hlx
     obtain ⟨r1, r2⟩ := runL_rest (bs := t.drop (x + 1)) (k := K) (okL_drop HOT.out _) n1
     have hsm := HSMv.out x hlx
     have HTX : Hid (t[x] = boundsF p.vars[x] g v) := by
      show _ = _
      have h1 := HROW.out
      subst h1
      simp [rowF]
     obtain ⟨lo, hlo⟩ : ∃ lo, (t[x]).1 = lo := ⟨_, rfl⟩
     obtain ⟨hi, hhi⟩ : ∃ hi, (t[x]).2 = hi := ⟨_, rfl⟩
     obtain ⟨K2, hK2⟩ : ∃ K2, (runL (t.drop (x + 1)) K).2 = K2 := ⟨_, rfl⟩
     rw [hK2] at r1 r2 q1 q2
     rw [hlo, hhi] at q1 q2 hsm
     rw [hlo] at q3
     rw [hK2]
     have HLO : Hid ((boundsF p.vars[x] g v).1 = lo) := by show _ = _; rw [← HTX.out, hlo]
     have HHI : Hid ((boundsF p.vars[x] g v).2 = hi) := by show _ = _; rw [← HTX.out, hhi]
     have Q1 := Lib.hid q1
     have Q2 := Lib.hid q2
     obtain ⟨DX, hDX⟩ : ∃ DX, partL t K (x + 1) = DX := ⟨_, rfl⟩
     rw [hDX] at q3 Q1 HO
     have HDV : Hid ((D.set v DX)[v]? = some DX) := List.getElem?_set_self HVD.out
     obtain ⟨b', hb', hb2, hb3, hown, hb5, hb6⟩ := HO.out.row_at HDV.out
     obtain rfl : b = b' := by have := HRB.out; rw [hb'] at this; injection this with this; exact this.symm
     obtain ⟨gq, eq1, _, _, hcy, hcyf⟩ := own_at hown (j := x) (u := .int .i64 lo) (by rw [List.getElem?_map, q3]; rfl)
     obtain rfl : b.1 = gq := by simpa using eq1
     have HOWN := Lib.hid hown
     have HQ3 := Lib.hid q3
     clear q1 q2 q3 hlo hhi hK2 hDX hb' eq1 hown
     have HPUT : Hid (∀ (W : World), Bel wr W → ∀ z : Int, RowsC (W.setCell ⟨b.1, x, none⟩ (.int .i64 z)) (w.heap.size + 1 + 1) (some ⟨gb, 0, none⟩) cap p.vars.length (D.set v (DX.set x z)) bs) := fun W hb z => by
      have := (HO.out.keep hb).put HRB.out HDV.out x z
      rw [List.set_set] at this
      exact this
     obtain ⟨p0, p1, p2, g0, g1, gsz⟩ := pgbox HW
     go_wp2_with (go_at_call 75; refine (ends_any _ p _ g v x _ (HPV.out _ (box2_bel HW)) (HGV.out _ (box2_bel HW)) hlv HNUM.out HGO.out (by omega) HGL.out).mono ?_; rintro e w' ⟨rfl, hb⟩; rw [HLO.out, HHI.out]; have HBW := Lib.hid hb; have c1 := (hb.cell hb3).trans hb2; obtain ⟨gq2, eq2, _, _, c2, c3⟩ := own_at (hb.owns HOWN.out) (j := x) (u := .int .i64 lo) (by rw [List.getElem?_map, HQ3.out]; rfl); obtain rfl : b.1 = gq2 := (by simpa using eq2); clear eq2; have c4 := Nat.lt_of_lt_of_le hb3 hb.size; have c5 := Nat.lt_of_lt_of_le hb5 hb.size; replace HW := HW.trans hb; clear hb; (try clear p0 p1 p2 g0 g1 gsz); obtain ⟨p0, p1, p2, g0, g1, gsz⟩ := pgbox HW)
     have e1 : Int.tmod K2 (hi - lo + 1) = K2 % (hi - lo + 1) := Int.tmod_eq_emod_of_nonneg r1
     have e2 : Int.tdiv K2 (hi - lo + 1) = K2 / (hi - lo + 1) := Int.tdiv_eq_ediv_of_nonneg r1
     have e3 : ¬ hi - lo + 1 = 0 := by omega
     have m1 := Int.emod_nonneg K2 e3
     have m2 := Int.emod_lt_of_pos K2 (show 0 < hi - lo + 1 by omega)
     have m3 := Int.ediv_nonneg r1 (show 0 ≤ hi - lo + 1 by omega)
     have m4 := Int.ediv_le_self (hi - lo + 1) r1
     replace HW := HW.drew
     go_region
     go_wp2_with fail
     go_roundg x
     case rel =>
      refine ⟨x, by omega, rfl, ?_, by go_num, ?_, ?_⟩
      ·rw [Q2.out]; try rfl
      ·show RowsC _ _ _ _ _ _ _
       rw [Q1.out]
       have := HPUT.out _ (HBW.out.drew) (lo + K2 % (hi - lo + 1))
       try exact this
      ·exact HW.setCell (by have := HOWN.out; have := (own_base this).1; simp; omega) _
     case measure => omega
    ·obtain rfl : x' = 0 := by omega
     subst hz
     have hd1 : decide ((0 : Int) ≤ ((0 : Nat) : Int) - 1) = false := decide_eq_false (by omega)
     go_wp2_with fail
     go_roundg v
     case rel =>
      refine ⟨v, by omega, rfl, ?_, by go_num, ?_, HW⟩
      ·rw [S2.out]; try rfl
      ·show RowsC _ _ _ _ _ _ _
       rw [S1.out]
       have := HO.out
       rw [partL_zero] at this
       exact this
     case measure => omega
  ·obtain rfl : v' = 0 := by omega
   subst hz
   have hd0 : decide ((0 : Int) ≤ ((0 : Nat) : Int) - 1) = false := decide_eq_false (by omega)
   go_wp2_with fail
   go_ret
   have hO := HO.out
   rw [partN_zero, HC.out] at hO
   exact ⟨gb, cap, bs, rfl, hO.lower (by omega), box2_bel HW⟩

end Go.Proofs.YtgemlgpjbclonaaGreatDoor

/- Contract: the reference's number of a configuration. -/
namespace Go.Proofs.YtgemlgpjbclonaaGreatDoor
open Go.RowKit

theorem numL_at {t : List (Int × Int)} {c : List Int} {x : Nat} (hx : x < t.length) (hc : x < c.length) (a : Int) :
  a * sizeL (t.drop x) + numL (t.drop x) (c.drop x) = (a * (t[x].2 - t[x].1 + 1) + c[x] - t[x].1) * sizeL (t.drop (x + 1)) + numL (t.drop (x + 1)) (c.drop (x + 1)) := by
 rw [List.drop_eq_getElem_cons hx, List.drop_eq_getElem_cons hc]
 show a * ((t[x].2 - t[x].1 + 1) * sizeL (t.drop (x + 1))) + ((c[x] - t[x].1) * sizeL (t.drop (x + 1)) + numL (t.drop (x + 1)) (c.drop (x + 1))) = _
 rw [← Int.mul_assoc, ← Int.add_assoc, ← Int.add_mul, ← Int.add_sub_assoc]
theorem numN_at {T : List (List (Int × Int))} {C : List (List Int)} {v : Nat} (hv : v < T.length) (hc : v < C.length) (a : Int) :
  a * sizeN (T.drop v) + numN (T.drop v) (C.drop v) = (a * sizeL T[v] + numL T[v] C[v]) * sizeN (T.drop (v + 1)) + numN (T.drop (v + 1)) (C.drop (v + 1)) := by
 rw [List.drop_eq_getElem_cons hv, List.drop_eq_getElem_cons hc]
 show a * (sizeL T[v] * sizeN (T.drop (v + 1))) + (numL T[v] C[v] * sizeN (T.drop (v + 1)) + numN (T.drop (v + 1)) (C.drop (v + 1))) = _
 rw [← Int.mul_assoc, ← Int.add_assoc, ← Int.add_mul]
theorem horn_le {a s r : Int} (ha : 0 ≤ a) (hs : 0 < s) (hr : 0 ≤ r) {q : Int} (h : a * s + r = q) : a ≤ q := by
 have := Int.mul_le_mul_of_nonneg_left (show 1 ≤ s by omega) ha
 rw [Int.mul_one] at this
 omega

set_option maxRecDepth 100000 in
set_option maxHeartbeats 4000000 in
theorem refNum10_any (v1 : Value) (p : Prg) (v2 : Value) (g : Graph) (v3 : Value) (c : Config) (w : World) (h : PrgV w v1 p) (h2 : GraphV w v2 g) (h3 : ConfV w v3 c) (hL : lightP p = true) (hG : lightG g = true) (hm0 : memF p g c = 0) (hsz : sizeF p g ≤ 32768) :
  Calls Tryz.prog 41 #[v1, v2, v3] w fun e w' => e = .returned (.int .i64 (numF p g c)) ∧ Bel w w' := by
 have HPV := Lib.hid (fun w' (k : Bel w w') => h.keep k)
 have HGV := Lib.hid (fun w' (k : Bel w w') => h2.keep k)
 obtain ⟨A5, k5, rfl, hCR, _, _⟩ := h3
 have HCR := Lib.hid (fun w' (k : Bel w w') => hCR.keep k)
 obtain ⟨A1, k1, A2, k2, rfl, _, _, _, _, _, _⟩ := h
 obtain ⟨A3, k3, A4, k4, rfl, _, _, _, _, _, _⟩ := h2
 have HW := Bel.refl ((w.alloc (.cells #[.string p.name, .slice A1 p.vars.length k1, .slice A2 p.rules.length k2] 25)).alloc (.cells #[.slice A3 g.ids.length k3, .slice A4 g.ports.length k4] 29))
 have HL := Lib.hid hL
 have HGL := Lib.hid hG
 have hf := (mem_zero hm0).1
 obtain ⟨h1, h3', _⟩ := fits_zero hf
 have HCN := Lib.hid (check_numbers h1).1
 have HGO := Lib.hid h3'
 have hle := h3'.le
 have hv10 := (lightP_parts hL).2.1
 have HTL : Hid ((tableF p g).length = g.ports.length) := by show _ = _; rw [tableF_length, h3'.ids]
 have HOK := Lib.hid (table_ok hf)
 have HSM := Lib.hid (table_small hf)
 have HIN := Lib.hid (mem_in hm0)
 have hcl : c.length = g.ports.length := by have := inN_length (mem_in hm0); rw [this, HTL.out]
 have HTOT : Hid (0 ≤ numF p g c ∧ numF p g c ≤ 32768) := by obtain ⟨a, b⟩ := numF_range hm0; exact ⟨a, by omega⟩
 have HNF : Hid (numF p g c = numN (tableF p g) c) := rfl
 obtain ⟨q, hq⟩ : ∃ q, numF p g c = q := ⟨_, rfl⟩
 rw [hq] at HTOT HNF
 rw [hq]
 have hc24 : c.length ≤ 24 := by omega
 have HCLN := Lib.hid hcl
 clear hL hG hm0 hf h1 h3' hCR hsz hq hcl
 obtain ⟨T, hT⟩ : ∃ T, tableF p g = T := ⟨_, rfl⟩
 have HT := Lib.hid hT
 rw [hT] at HTL HOK HSM HIN HNF
 clear hT
 go_enter Tryz.func41, Tryz.ntmps41
 go_wp2_with fail
 go_loopg [7, 8] c.length (fun m o z wr => ∃ (v : Nat) (a : Int), v ≤ c.length ∧ m = c.length - v ∧ o = .int .i64 a ∧ z = .int .i64 (v : Int) ∧ 0 ≤ a ∧ Hid (a * sizeN (T.drop v) + numN (T.drop v) (c.drop v) = q) ∧ Bel ((w.alloc (.cells #[.string p.name, .slice A1 p.vars.length k1, .slice A2 p.rules.length k2] 25)).alloc (.cells #[.slice A3 g.ids.length k3, .slice A4 g.ports.length k4] 29)) wr)
 case atStart => exact ⟨0, 0, by omega, rfl, rfl, rfl, by omega, by show _ = _; rw [List.drop_zero, List.drop_zero, Int.zero_mul, Int.zero_add]; exact HNF.out.symm, HW⟩
 case round =>
  clear HW
  obtain ⟨v, a, hv, rfl, rfl, rfl, ha, HQ, HW⟩ := hrel
  obtain ⟨wo, rfl⟩ : ∃ wo, wo = wr := ⟨_, rfl⟩
  by_cases hlt : v < c.length
  ·have hd0 : decide (v < c.length) = true := by simpa using hlt
   have hvT : v < T.length := by rw [HTL.out, ← HCLN.out]; exact hlt
   have hvg : v < g.ports.length := by rw [← HCLN.out]; exact hlt
   have hrow : T[v] = rowF p g v := by
    have : v < (tableF p g).length := by rw [HT.out]; exact hvT
    have e := tableF_at (p := p) (g := g) this
    simp only [HT.out] at e
    exact e
   have hin := (inN_iff.1 HIN.out).2 v hlt hvT
   rw [numN_at hvT hlt] at HQ
   have HSM2 : Hid (∀ x (hx : x < T[v].length), -4096 ≤ (T[v][x]).1 ∧ (T[v][x]).1 ≤ 4096 ∧ (T[v][x]).1 ≤ (T[v][x]).2 ∧ (T[v][x]).2 ≤ 80000) := fun x hx => HSM.out.at_ hvT hx
   have HOT : Hid (okL T[v]) := HOK.out _ (List.getElem_mem hvT)
   have HS1 : Hid (0 < sizeN (T.drop (v + 1))) := sizeN_pos (okN_drop HOK.out _)
   have HS2 : Hid (0 ≤ numN (T.drop (v + 1)) (c.drop (v + 1))) := (numN_range (inN_drop (v + 1) HIN.out)).1
   obtain ⟨b, o, R, rc, rfl, hbl, hcell, hI, _, _⟩ := (HCR.out _ (Bel.refl w)).at_ v hlt
   have HI := Lib.hid (fun w' (k : Bel w w') => IntsR.keep hI k)
   have HROW := Lib.hid hrow
   have HIN2 := Lib.hid hin
   generalize T[v] = t at *
   generalize c[v] = d at *
   have HDL : Hid (d.length = t.length) := inL_length HIN2.out
   have HTLN : Hid (t.length = p.vars.length) := by show _ = _; rw [HROW.out, rowF_length]
   have hd10 : d.length ≤ 10 := by rw [HDL.out, HTLN.out]; exact hv10
   have hc1 := ((box2_bel HW).cell hbl).trans hcell
   have hb1 := Nat.lt_of_lt_of_le hbl (box2_bel HW).size
   clear hI hrow hin
   go_wp2_with fail
   have HW1 := HW
   clear hc1 hb1
   go_loopg [7, 9] d.length (fun m o z wr => ∃ (x : Nat) (a : Int), x ≤ d.length ∧ m = d.length - x ∧ o = .int .i64 a ∧ z = .int .i64 (x : Int) ∧ 0 ≤ a ∧ Hid ((a * sizeL (t.drop x) + numL (t.drop x) (d.drop x)) * sizeN (T.drop (v + 1)) + numN (T.drop (v + 1)) (c.drop (v + 1)) = q) ∧ Bel ((w.alloc (.cells #[.string p.name, .slice A1 p.vars.length k1, .slice A2 p.rules.length k2] 25)).alloc (.cells #[.slice A3 g.ids.length k3, .slice A4 g.ports.length k4] 29)) wr)
   case atStart => exact ⟨0, a, by omega, rfl, rfl, rfl, ha, by show _ = _; rw [List.drop_zero, List.drop_zero]; exact HQ.out, HW⟩
   case round =>
    clear HW HQ ha
    obtain ⟨x, a, hx, rfl, rfl, rfl, ha, HQ, HW⟩ := hrel
    have hc1 := ((box2_bel HW).cell hbl).trans hcell
    have hb1 := Nat.lt_of_lt_of_le hbl (box2_bel HW).size
    by_cases hlx : x < d.length
    ·have hd1 : decide (x < d.length) = true := by simpa using hlx
     have hxt : x < t.length := by rw [← HDL.out]; exact hlx
     have hxv : x < p.vars.length := by rw [← HTLN.out]; exact hxt
     have HNUM := Lib.hid (List.all_eq_true.1 HCN.out _ (List.getElem_mem hxv))
     have hsm := HSM2.out x hxt
     have hin2 := (inL_iff.1 HIN2.out).2 x hlx hxt
     have hn1 := (numL_range (inL_drop x HIN2.out)).1
     have hs1 := sizeL_pos (okL_drop HOT.out x)
     have hn2 := (numL_range (inL_drop (x + 1) HIN2.out)).1
     have hs2 := sizeL_pos (okL_drop HOT.out (x + 1))
     have hq0 := HTOT.out
     have hA : a ≤ q := by
      have e1 := horn_le (a := a * sizeL (t.drop x) + numL (t.drop x) (d.drop x)) (by have := Int.mul_nonneg ha (Int.le_of_lt hs1); omega) HS1.out HS2.out HQ.out
      have e2 := horn_le (q := a * sizeL (t.drop x) + numL (t.drop x) (d.drop x)) ha hs1 hn1 rfl
      omega
     rw [numL_at hxt hlx] at HQ
     obtain ⟨b2, o2, eR, hb2, hc2⟩ := (HI.out _ (Bel.refl w)).at_ x hlx
     subst eR
     have HTX : Hid (t[x] = boundsF p.vars[x] g v) := by
      show _ = _
      have h1 := HROW.out
      subst h1
      simp [rowF]
     obtain ⟨lo, hlo⟩ : ∃ lo, (t[x]).1 = lo := ⟨_, rfl⟩
     obtain ⟨hi, hhi⟩ : ∃ hi, (t[x]).2 = hi := ⟨_, rfl⟩
     obtain ⟨y, hy⟩ : ∃ y, d[x] = y := ⟨_, rfl⟩
     rw [hlo, hhi] at hsm hin2 HQ
     rw [hy] at hin2 HQ hc2
     have HLO : Hid ((boundsF p.vars[x] g v).1 = lo) := by show _ = _; rw [← HTX.out, hlo]
     have HHI : Hid ((boundsF p.vars[x] g v).2 = hi) := by show _ = _; rw [← HTX.out, hhi]
     have hmr := mul_range (a := a) (b := hi - lo + 1) (A := 32768) (B := 90000) ha (by omega) (by omega) (by omega)
     have hc2b := Lib.hid (fun w' (k : Bel w w') => ((k.cell hb2).trans hc2 : w'.cell? ⟨b2, o2 + x, none⟩ = some (.int .i64 y)))
     have hc1b := Lib.hid (fun w' (k : Bel w w') => ((k.cell hbl).trans hcell))
     clear hlo hhi hy hn1 hs1 hn2 hs2 hc2
     obtain ⟨p0, p1, p2, g0, g1, gsz⟩ := pgbox HW
     have hkI : (x : Int) < (d.length : Int) := by omega
     have hvI : (v : Int) < (c.length : Int) := by omega
     go_wp2_with (go_at_call 75; refine (ends_any _ p _ g v x _ (HPV.out _ (box2_bel HW)) (HGV.out _ (box2_bel HW)) hxv HNUM.out HGO.out hvg HGL.out).mono ?_; rintro e w' ⟨rfl, hb⟩; rw [HLO.out, HHI.out]; clear hc1 hb1; replace HW := HW.trans hb; clear hb; (try clear p0 p1 p2 g0 g1 gsz); obtain ⟨p0, p1, p2, g0, g1, gsz⟩ := pgbox HW; have z1 := hc1b.out _ (box2_bel HW); have z2 := hc2b.out _ (box2_bel HW); have z3 := Nat.lt_of_lt_of_le hbl (box2_bel HW).size; have z4 := Nat.lt_of_lt_of_le hb2 (box2_bel HW).size)
     go_roundg (d.length - (x + 1))
     case rel =>
      refine ⟨x + 1, a * (hi - lo + 1) + y - lo, by omega, rfl, by go_num, by go_num, by omega, HQ, HW⟩
     case measure => omega
    ·have hd1 : decide (x < d.length) = false := by simpa using hlx
     obtain rfl : x = d.length := by omega
     have HQ2 : Hid (a * sizeN (T.drop (v + 1)) + numN (T.drop (v + 1)) (c.drop (v + 1)) = q) := by
      have := HQ.out
      rw [List.drop_length, List.drop_eq_nil_of_le (by rw [HDL.out]; exact Nat.le_refl _)] at this
      show _ = _
      rw [← this]
      simp [sizeL, numL]
     have hvI : (v : Int) < (c.length : Int) := by omega
     go_wp2_with fail
     go_roundg (c.length - (v + 1))
     case rel => exact ⟨v + 1, a, by omega, rfl, rfl, by go_num, ha, HQ2, HW⟩
     case measure => omega
  ·have hd0 : decide (v < c.length) = false := by simpa using hlt
   obtain rfl : v = c.length := by omega
   go_wp2_with fail
   go_ret
   refine ⟨ret_int ?_, box2_bel HW⟩
   have := HQ.out
   rw [List.drop_length, List.drop_eq_nil_of_le (by rw [HTL.out, HCLN.out]; exact Nat.le_refl _)] at this
   rw [← this]
   simp [sizeN, numN]

end Go.Proofs.YtgemlgpjbclonaaGreatDoor

