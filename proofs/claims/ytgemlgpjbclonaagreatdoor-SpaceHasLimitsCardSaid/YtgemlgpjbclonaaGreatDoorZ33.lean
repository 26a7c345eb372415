/- Merged of: WVa L18a Open Door (see NOTES.md). -/
import Derived.Test.YtgemlgpjbclonaaGreatDoorZ27
import Derived.Test.YtgemlgpjbclonaaGreatDoorZ30
import Derived.Test.YtgemlgpjbclonaaGreatDoorZ16
import Derived.Test.YtgemlgpjbclonaaGreatDoorZ32
import Derived.Test.YtgemlgpjbclonaaGreatDoorZ01
import Derived.ProofKit
import Derived.OpenShut
import Derived.Deep.Slices
import Derived.Deep.Fields
import Derived.ChangeSame
import Derived.Carry
import Derived.Test.YtgemlgpjbclonaaGreatDoorZ03
import Derived.Lib.LaidTab
import Derived.LaidMore
import Derived.Stop.Joined
set_option linter.unusedSimpArgs false
set_option linter.unnecessarySimpa false
set_option linter.unusedVariables false

/- Contracts: the reference's count of configurations; its daemons' numbers. -/
namespace Go.Proofs.YtgemlgpjbclonaaGreatDoor
open Go.RowKit

/-- How far the number of states of a node has come. -/
theorem szL_at {M a : Int} {t : List (Int × Int)} {x : Nat} (hx : x < t.length) : szL M a (t.drop x) = szL M (min (a * (t[x].2 - t[x].1 + 1)) M) (t.drop (x + 1)) := by
  rw [List.drop_eq_getElem_cons hx]; rfl
theorem cntR_at {M r : Int} {T : List (List (Int × Int))} {v : Nat} (hv : v < T.length) : cntR M r (T.drop v) = if 32768 < szL M 1 T[v] ∨ 32768 < r * szL M 1 T[v] then none else cntR M (r * szL M 1 T[v]) (T.drop (v + 1)) := by
  rw [List.drop_eq_getElem_cons hv]; rfl
theorem szL_bound {M : Int} (hM : 1 ≤ M) {t : List (Int × Int)} (ho : okL t) : 1 ≤ szL M 1 t ∧ szL M 1 t ≤ M := by
  rw [szL_eq hM ho (by omega) (by omega)]
  have := sizeL_pos ho
  omega
theorem cnt_none {T : List (List (Int × Int))} (ho : okN T) (h : cntR 1073741824 1 T = none) : cntP (sizeN T) = (0, 3) := by
  rw [cntR_eq (by omega) ho (by omega) (by omega), Int.one_mul] at h
  unfold limF at h
  unfold cntP
  split at h
  · rename_i h1; rw [if_pos h1]
  · cases h
theorem cnt_some {T : List (List (Int × Int))} {r : Int} (ho : okN T) (h : cntR 1073741824 1 T = some r) : cntP (sizeN T) = (r, 0) := by
  rw [cntR_eq (by omega) ho (by omega) (by omega), Int.one_mul] at h
  unfold limF at h
  unfold cntP
  split at h
  · cases h
  · rename_i h1; rw [if_neg h1]; injection h with h; rw [h]

set_option maxHeartbeats 1000000 in
theorem refDaemon_any (kind : Int) (w : World) :
    Calls Tryz.prog 17 #[.int .i64 kind] w fun e w' => e = .returned (.bool (kindB kind)) ∧ w = w' := by
  have HF : Hid (kindB kind = (decide (1 ≤ kind) && decide (kind ≤ 4))) := rfl
  by_cases h0 : 1 ≤ kind
  · have d0 : decide (1 ≤ kind) = true := by simpa using h0
    rw [d0] at HF
    by_cases h1 : kind ≤ 4
    · have d1 : decide (kind ≤ 4) = true := by simpa using h1
      rw [d1] at HF
      go_enter Tryz.func17, Tryz.ntmps17
      go_wp2_with fail
      go_ret
      exact ⟨ret_bool (by rw [HF.out]; rfl), rfl⟩
    · have d1 : decide (kind ≤ 4) = false := by simpa using h1
      rw [d1] at HF
      go_enter Tryz.func17, Tryz.ntmps17
      go_wp2_with fail
      go_ret
      exact ⟨ret_bool (by rw [HF.out]; rfl), rfl⟩
  · have d0 : decide (1 ≤ kind) = false := by simpa using h0
    rw [d0] at HF
    go_enter Tryz.func17, Tryz.ntmps17
    go_wp2_with fail
    go_ret
    exact ⟨ret_bool (by rw [HF.out]; rfl), rfl⟩

set_option maxRecDepth 100000 in
set_option maxHeartbeats 2000000 in
theorem refThere_any (v1 : Value) (p : Prg) (v2 : Value) (g : Graph) (v : Nat) (w : World) (h : PrgV w v1 p) (h2 : GraphV w v2 g) (hL : lightP p = true) (hG : lightG g = true) (hf : fitsF p g = 0) (hv : v < g.ports.length) (hp : 1 ≤ p.vars.length) :
    Calls Tryz.prog 78 #[v1, v2, .int .i64 (v : Int), .int .i64 0] w fun e w' => e = .returned (.bool true) ∧ Bel w w' := by
  have HPV := Lib.hid (fun w' (k : Bel w w') => h.keep k)
  have HGV := Lib.hid (fun w' (k : Bel w w') => h2.keep k)
  obtain ⟨A1, k1, A2, k2, rfl, _, _, _, _, _, _⟩ := h
  obtain ⟨A3, k3, A4, k4, rfl, _, _, _, _, _, _⟩ := h2
  have HW := Bel.refl ((w.alloc (.cells #[.string p.name, .slice A1 p.vars.length k1, .slice A2 p.rules.length k2] 25)).alloc (.cells #[.slice A3 g.ids.length k3, .slice A4 g.ports.length k4] 29))
  have HL := Lib.hid hL
  have HGL := Lib.hid hG
  have HF := Lib.hid hf
  have HI1 : Hid (inB (v : Int) 0 ((g.ports.length : Int) - 1) = true) := inB_iff.2 (by omega)
  have HI2 : Hid (inB 0 0 ((p.vars.length : Int) - 1) = true) := inB_iff.2 (by omega)
  have hn := (fits_zero hf).2.1.le
  have hv10 := (lightP_parts hL).2.1
  clear hL hG hf
  go_enter Tryz.func78, Tryz.ntmps78
  go_wp2_with (first
    | (go_at_call 43; refine (refFits_any _ p _ g _ (HPV.out _ (box2_bel HW)) (HGV.out _ (box2_bel HW)) HL.out HGL.out).mono ?_; rintro e w' ⟨rfl, hb⟩; rw [HF.out]; replace HW := HW.trans hb; clear hb; (try clear p0 p1 p2 g0 g1 gsz); obtain ⟨p0, p1, p2, g0, g1, gsz⟩ := pgbox HW)
    | (go_at_call 45; refine (in01_any _ _ _ _).mono ?_; rintro e w' ⟨rfl, rfl⟩; first | rw [HI1.out] | rw [HI2.out]))
  go_ret
  exact ⟨rfl, box2_bel HW⟩
set_option maxRecDepth 100000 in
set_option maxHeartbeats 2000000 in
theorem refSize_any (v1 : Value) (p : Prg) (v2 : Value) (g : Graph) (v : Nat) (w : World) (h : PrgV w v1 p) (h2 : GraphV w v2 g) (hL : lightP p = true) (hG : lightG g = true) (hf : fitsF p g = 0) (hv : v < g.ports.length) (hp : 1 ≤ p.vars.length) :
    Calls Tryz.prog 44 #[v1, v2, .int .i64 (v : Int)] w fun e w' => e = .returned (.int .i64 (szL 1073741824 1 (rowF p g v))) ∧ Bel w w' := by
  have HPV := Lib.hid (fun w' (k : Bel w w') => h.keep k)
  have HGV := Lib.hid (fun w' (k : Bel w w') => h2.keep k)
  obtain ⟨A1, k1, A2, k2, rfl, _, _, _, _, _, _⟩ := h
  obtain ⟨A3, k3, A4, k4, rfl, _, _, _, _, _, _⟩ := h2
  have HW := Bel.refl ((w.alloc (.cells #[.string p.name, .slice A1 p.vars.length k1, .slice A2 p.rules.length k2] 25)).alloc (.cells #[.slice A3 g.ids.length k3, .slice A4 g.ports.length k4] 29))
  have HL := Lib.hid hL
  have HGL := Lib.hid hG
  have HFT := Lib.hid hf
  obtain ⟨h1, h3, _⟩ := fits_zero hf
  have HCN := Lib.hid (check_numbers h1).1
  have HGO := Lib.hid h3
  have HP1 := Lib.hid hp
  have hvt : v < (tableF p g).length := by rw [tableF_length, h3.ids]; exact hv
  have HSM : Hid (∀ x (hx : x < p.vars.length), -4096 ≤ (boundsF p.vars[x] g v).1 ∧ (boundsF p.vars[x] g v).1 ≤ 4096 ∧ (boundsF p.vars[x] g v).1 ≤ (boundsF p.vars[x] g v).2 ∧ (boundsF p.vars[x] g v).2 ≤ 80000) := fun x hx => by
    have := (table_small hf).at_ hvt (j := x) (by rw [tableF_row hvt]; exact hx)
    have e : (tableF p g)[v] = rowF p g v := tableF_at hvt
    simp only [e, rowF, List.getElem_map] at this
    exact this
  have hv10 := (lightP_parts hL).2.1
  clear hL hG hf h1 h3
  go_enter Tryz.func44, Tryz.ntmps44
  go_wp2_with (go_at_call 78; refine (refThere_any _ p _ g v _ (HPV.out _ (box2_bel HW)) (HGV.out _ (box2_bel HW)) HL.out HGL.out HFT.out hv HP1.out).mono ?_; rintro e w' ⟨rfl, hb⟩; replace HW := HW.trans hb; clear hb; (try clear p0 p1 p2 g0 g1 gsz); obtain ⟨p0, p1, p2, g0, g1, gsz⟩ := pgbox HW)
  clear p0 p1 p2 g0 g1 gsz
  go_loopg [7, 8, 9, 10] p.vars.length (fun m o z _a _b wr => ∃ (x : Nat) (a : Int), x ≤ p.vars.length ∧ m = p.vars.length - x ∧ o = .int .i64 a ∧ z = .int .i64 (x : Int) ∧ 1 ≤ a ∧ a ≤ 1073741824 ∧ Hid (szL 1073741824 a ((rowF p g v).drop x) = szL 1073741824 1 (rowF p g v)) ∧ Bel ((w.alloc (.cells #[.string p.name, .slice A1 p.vars.length k1, .slice A2 p.rules.length k2] 25)).alloc (.cells #[.slice A3 g.ids.length k3, .slice A4 g.ports.length k4] 29)) wr)
  case atStart => exact ⟨0, 1, by omega, rfl, rfl, rfl, by omega, by omega, by show _ = _; simp, HW⟩
  case round =>
    clear HW
    obtain ⟨x, a, hx, rfl, rfl, rfl, ha1, ha2, HQ, HW⟩ := hrel
    obtain ⟨p0, p1, p2, g0, g1, gsz⟩ := pgbox HW
    by_cases hlt : x < p.vars.length
    · have hd0 : decide (x < p.vars.length) = true := by simpa using hlt
      have HNX := Lib.hid (List.all_eq_true.1 HCN.out _ (List.getElem_mem hlt))
      have hsm := HSM.out x hlt
      have hrl : x < (rowF p g v).length := by rw [rowF_length]; exact hlt
      rw [szL_at hrl] at HQ
      have HRX : Hid ((rowF p g v)[x] = boundsF p.vars[x] g v) := by show _ = _; simp [rowF]
      rw [HRX.out] at HQ
      obtain ⟨lo, hlo⟩ : ∃ lo, (boundsF p.vars[x] g v).1 = lo := ⟨_, rfl⟩
      obtain ⟨hi, hhi⟩ : ∃ hi, (boundsF p.vars[x] g v).2 = hi := ⟨_, rfl⟩
      rw [hlo, hhi] at hsm HQ
      have HLO := Lib.hid hlo
      have HHI := Lib.hid hhi
      clear hlo hhi
      have hmr := mul_range (a := a) (b := hi - lo + 1) (A := 1073741824) (B := 90000) (by omega) ha2 (by omega) (by omega)
      have hmg := mul_ge (r := a) (s := hi - lo + 1) ha1 (by omega)
      obtain ⟨m, hm, hm'⟩ := ite_min (a * (hi - lo + 1)) 1073741824
      rw [← hm'] at HQ
      have hmb : 1 ≤ m ∧ m ≤ 1073741824 := by omega
      clear hm'
      go_wp2_with (go_at_call 75; refine (ends_any _ p _ g v x _ (HPV.out _ (box2_bel HW)) (HGV.out _ (box2_bel HW)) hlt HNX.out HGO.out hv HGL.out).mono ?_; rintro e w' ⟨rfl, hb⟩; rw [HLO.out, HHI.out]; replace HW := HW.trans hb; clear hb; (try clear p0 p1 p2 g0 g1 gsz); obtain ⟨p0, p1, p2, g0, g1, gsz⟩ := pgbox HW)
      go_roundg (p.vars.length - (x + 1))
      case rel => exact ⟨x + 1, m, by omega, rfl, by go_num, by go_num, hmb.1, hmb.2, HQ, HW⟩
      case measure => omega
    · have hd0 : decide (x < p.vars.length) = false := by simpa using hlt
      obtain rfl : x = p.vars.length := by omega
      go_wp2_with fail
      go_ret
      refine ⟨ret_int ?_, box2_bel HW⟩
      rw [← HQ.out, List.drop_eq_nil_of_le (by rw [rowF_length]; exact Nat.le_refl _)]; rfl

set_option maxRecDepth 100000 in
set_option maxHeartbeats 2000000 in
theorem refCount10_any (v1 : Value) (p : Prg) (v2 : Value) (g : Graph) (w : World) (h : PrgV w v1 p) (h2 : GraphV w v2 g) (hL : lightP p = true) (hG : lightG g = true) :
    Calls Tryz.prog 16 #[v1, v2] w fun e w' => e = .returned (.tuple #[.int .i64 (totalF p g).1, .int .i64 (totalF p g).2]) ∧ Bel w w' := by
  have HPV := Lib.hid (fun w' (k : Bel w w') => h.keep k)
  have HGV := Lib.hid (fun w' (k : Bel w w') => h2.keep k)
  obtain ⟨A1, k1, A2, k2, rfl, _, _, _, _, _, _⟩ := h
  obtain ⟨A3, k3, A4, k4, rfl, _, _, _, _, _, _⟩ := h2
  have HW := Bel.refl ((w.alloc (.cells #[.string p.name, .slice A1 p.vars.length k1, .slice A2 p.rules.length k2] 25)).alloc (.cells #[.slice A3 g.ids.length k3, .slice A4 g.ports.length k4] 29))
  have HL := Lib.hid hL
  have HGL := Lib.hid hG
  clear hL hG
  by_cases hf : fitsF p g = 0
  · have HF := Lib.hid hf
    have HE : Hid (totalF p g = cntP (sizeN (tableF p g))) := totalF_fits hf
    obtain ⟨h1, h3, _⟩ := fits_zero hf
    have hv1 := check_vars' h1
    have HOK : Hid (okN (tableF p g)) := table_ok hf
    have HTL : Hid ((tableF p g).length = g.ports.length) := by show _ = _; rw [tableF_length, h3.ids]
    have hn24 := h3.le
    clear hf h1 h3
    go_enter Tryz.func16, Tryz.ntmps16
    go_wp2_with (go_at_call 43; refine (refFits_any _ p _ g _ (HPV.out _ (box2_bel HW)) (HGV.out _ (box2_bel HW)) HL.out HGL.out).mono ?_; rintro e w' ⟨rfl, hb⟩; rw [HF.out]; replace HW := HW.trans hb; clear hb; (try clear p0 p1 p2 g0 g1 gsz); obtain ⟨p0, p1, p2, g0, g1, gsz⟩ := pgbox HW)
    clear p0 p1 p2 g0 g1 gsz
    go_loopg [7, 8, 9] g.ports.length (fun m o z _a wr => ∃ (v : Nat) (r : Int), v ≤ g.ports.length ∧ m = g.ports.length - v ∧ o = .int .i64 r ∧ z = .int .i64 (v : Int) ∧ 1 ≤ r ∧ r ≤ 32768 ∧ Hid (cntR 1073741824 r ((tableF p g).drop v) = cntR 1073741824 1 (tableF p g)) ∧ Bel ((w.alloc (.cells #[.string p.name, .slice A1 p.vars.length k1, .slice A2 p.rules.length k2] 25)).alloc (.cells #[.slice A3 g.ids.length k3, .slice A4 g.ports.length k4] 29)) wr)
    case atStart => exact ⟨0, 1, by omega, rfl, rfl, rfl, by omega, by omega, by show _ = _; simp, HW⟩
    case round =>
      clear HW
      obtain ⟨v, r, hv, rfl, rfl, rfl, hr1, hr2, HQ, HW⟩ := hrel
      obtain ⟨p0, p1, p2, g0, g1, gsz⟩ := pgbox HW
      by_cases hlt : v < g.ports.length
      · have hd0 : decide (v < g.ports.length) = true := by simpa using hlt
        have hvt : v < (tableF p g).length := by rw [HTL.out]; exact hlt
        have HRW : Hid ((tableF p g)[v] = rowF p g v) := tableF_at hvt
        have hsb := szL_bound (M := 1073741824) (by omega) (HOK.out _ (List.getElem_mem hvt))
        rw [cntR_at hvt] at HQ
        rw [HRW.out] at HQ hsb
        obtain ⟨s, hs⟩ : ∃ s, s = szL 1073741824 1 (rowF p g v) := ⟨_, rfl⟩
        rw [← hs] at HQ hsb
        have HS := Lib.hid hs
        have hmr := mul_range (a := r) (b := s) (A := 32768) (B := 1073741824) (by omega) hr2 (by omega) hsb.2
        have hmg := mul_ge (r := r) (s := s) hr1 hsb.1
        clear hs
        by_cases hb1 : 32768 < s
        · have d1 : decide (32768 < s) = true := by simpa using hb1
          rw [if_pos (.inl hb1)] at HQ
          have HC := Lib.hid (cnt_none HOK.out HQ.out.symm)
          clear hb1
          go_wp2_with (go_at_call 44; refine (refSize_any _ p _ g v _ (HPV.out _ (box2_bel HW)) (HGV.out _ (box2_bel HW)) HL.out HGL.out HF.out hlt hv1).mono ?_; rintro e w' ⟨rfl, hb⟩; rw [← HS.out]; replace HW := HW.trans hb; clear hb; (try clear p0 p1 p2 g0 g1 gsz); obtain ⟨p0, p1, p2, g0, g1, gsz⟩ := pgbox HW)
          go_ret2
          exact ⟨by rw [HE.out, HC.out]; rfl, box2_bel HW⟩
        · have d1 : decide (32768 < s) = false := by simpa using hb1
          by_cases hb2 : 32768 < r * s
          · have d2 : decide (32768 < r * s) = true := by simpa using hb2
            rw [if_pos (.inr hb2)] at HQ
            have HC := Lib.hid (cnt_none HOK.out HQ.out.symm)
            clear hb1 hb2
            go_wp2_with (go_at_call 44; refine (refSize_any _ p _ g v _ (HPV.out _ (box2_bel HW)) (HGV.out _ (box2_bel HW)) HL.out HGL.out HF.out hlt hv1).mono ?_; rintro e w' ⟨rfl, hb⟩; rw [← HS.out]; replace HW := HW.trans hb; clear hb; (try clear p0 p1 p2 g0 g1 gsz); obtain ⟨p0, p1, p2, g0, g1, gsz⟩ := pgbox HW)
            go_ret2
            exact ⟨by rw [HE.out, HC.out]; rfl, box2_bel HW⟩
          · have d2 : decide (32768 < r * s) = false := by simpa using hb2
            rw [if_neg (by omega)] at HQ
            have hrs : 1 ≤ r * s ∧ r * s ≤ 32768 := by omega
            clear hb1 hb2
            go_wp2_with (go_at_call 44; refine (refSize_any _ p _ g v _ (HPV.out _ (box2_bel HW)) (HGV.out _ (box2_bel HW)) HL.out HGL.out HF.out hlt hv1).mono ?_; rintro e w' ⟨rfl, hb⟩; rw [← HS.out]; replace HW := HW.trans hb; clear hb; (try clear p0 p1 p2 g0 g1 gsz); obtain ⟨p0, p1, p2, g0, g1, gsz⟩ := pgbox HW)
            go_roundg (g.ports.length - (v + 1))
            case rel => exact ⟨v + 1, r * s, by omega, rfl, rfl, by go_num, hrs.1, hrs.2, HQ, HW⟩
            case measure => omega
      · have hd0 : decide (v < g.ports.length) = false := by simpa using hlt
        obtain rfl : v = g.ports.length := by omega
        have HC : Hid (cntP (sizeN (tableF p g)) = (r, 0)) := cnt_some HOK.out (by rw [← HQ.out, ← HTL.out, List.drop_length]; rfl)
        go_wp2_with fail
        go_ret2
        exact ⟨by rw [HE.out, HC.out]; rfl, box2_bel HW⟩
  · have hfb : (fitsF p g != 0) = true := by simpa using hf
    have HE : Hid (totalF p g = (0, fitsF p g)) := by show _ = _; unfold totalF; rw [if_pos (by simpa using hf)]
    clear hf
    go_enter Tryz.func16, Tryz.ntmps16
    go_wp2_with (go_at_call 43; refine (refFits_any _ p _ g _ (HPV.out _ (box2_bel HW)) (HGV.out _ (box2_bel HW)) HL.out HGL.out).mono ?_; rintro e w' ⟨rfl, hb⟩; replace HW := HW.trans hb; clear hb; (try clear p0 p1 p2 g0 g1 gsz); obtain ⟨p0, p1, p2, g0, g1, gsz⟩ := pgbox HW)
    go_ret2
    exact ⟨by rw [HE.out]; rfl, box2_bel HW⟩

end Go.Proofs.YtgemlgpjbclonaaGreatDoor

/- The walk of SpaceHasLimits. -/
namespace Go.Proofs.YtgemlgpjbclonaaGreatDoor
open Go.RowKit

set_option maxRecDepth 100000 in
set_option maxHeartbeats 4000000 in
theorem spaceHasLimits_walk (v1 : Value) (p : Prg) (v2 : Value) (g : Graph) (kind : Int) (w : World) (h : PrgV w v1 p) (h2 : GraphV w v2 g) (hT : Tab32 w) :
    Calls Tryz.prog 4 #[v1, v2, .int .i64 kind] w fun e w' => e = .returned (.bool true) ∧ Bel w w' := by
  have HPV := Lib.hid (fun w' (k : Bel w w') => h.keep k)
  have HGV := Lib.hid (fun w' (k : Bel w w') => h2.keep k)
  have HT := Lib.hid (fun w' (k : Bel w w') => hT.keep k)
  obtain ⟨A1, k1, A2, k2, rfl, _, _, _, _, _, _⟩ := h
  obtain ⟨A3, k3, A4, k4, rfl, _, _, _, _, _, _⟩ := h2
  have HW := Bel.refl ((w.alloc (.cells #[.string p.name, .slice A1 p.vars.length k1, .slice A2 p.rules.length k2] 25)).alloc (.cells #[.slice A3 g.ids.length k3, .slice A4 g.ports.length k4] 29))
  clear hT
  cases hlp : lightP p with
  | false =>
    go_enter Tryz.func4, Tryz.ntmps4
    go_wp2_with (first
      | (go_at_call 14; refine (lightProgram_any _ p _ (HPV.out _ (box2_bel HW))).mono ?_; rintro e w' ⟨rfl, hb⟩; rw [hlp]; replace HW := HW.trans hb; clear hb; (try clear p0 p1 p2 g0 g1 gsz); obtain ⟨p0, p1, p2, g0, g1, gsz⟩ := pgbox HW)
      | (go_at_call 10; refine (awake18_any _ (HT.out _ (box2_bel HW))).mono ?_; rintro e w' ⟨rfl, hb⟩; replace HW := HW.trans hb; clear hb; (try clear p0 p1 p2 g0 g1 gsz); obtain ⟨p0, p1, p2, g0, g1, gsz⟩ := pgbox HW))
    go_ret
    exact ⟨rfl, box2_bel HW⟩
  | true =>
    cases hlg : lightG g with
    | false =>
      go_enter Tryz.func4, Tryz.ntmps4
      go_wp2_with (first
        | (go_at_call 14; refine (lightProgram_any _ p _ (HPV.out _ (box2_bel HW))).mono ?_; rintro e w' ⟨rfl, hb⟩; rw [hlp]; replace HW := HW.trans hb; clear hb; (try clear p0 p1 p2 g0 g1 gsz); obtain ⟨p0, p1, p2, g0, g1, gsz⟩ := pgbox HW)
        | (go_at_call 15; refine (lightGraph_any _ g _ (HGV.out _ (box2_bel HW))).mono ?_; rintro e w' ⟨rfl, hb⟩; rw [hlg]; replace HW := HW.trans hb; clear hb; (try clear p0 p1 p2 g0 g1 gsz); obtain ⟨p0, p1, p2, g0, g1, gsz⟩ := pgbox HW)
        | (go_at_call 10; refine (awake18_any _ (HT.out _ (box2_bel HW))).mono ?_; rintro e w' ⟨rfl, hb⟩; replace HW := HW.trans hb; clear hb; (try clear p0 p1 p2 g0 g1 gsz); obtain ⟨p0, p1, p2, g0, g1, gsz⟩ := pgbox HW))
      go_ret
      exact ⟨rfl, box2_bel HW⟩
    | true =>
      have HL := Lib.hid hlp
      have HGL := Lib.hid hlg
      obtain ⟨NT, hNT⟩ : ∃ NT, totalF p g = NT := ⟨_, rfl⟩
      obtain ⟨n0, e0⟩ := NT
      have HNT := Lib.hid hNT
      have HBD : Hid (buildF p g kind = if e0 ≠ 0 ∧ e0 ≠ 3 then (⟨[], []⟩, e0) else if kindB kind = false then (⟨[], []⟩, 12) else if e0 ≠ 0 then (⟨[], []⟩, e0) else (spaceF p g kind, 0)) := by
        show _ = _
        unfold buildF
        rw [hNT]
      clear hNT
      by_cases h0 : e0 = 0
      · subst h0
        go_enter Tryz.func4, Tryz.ntmps4
        go_wp2_with (first
          | (go_at_call 14; refine (lightProgram_any _ p _ (HPV.out _ (box2_bel HW))).mono ?_; rintro e w' ⟨rfl, hb⟩; rw [hlp]; replace HW := HW.trans hb; clear hb; (try clear p0 p1 p2 g0 g1 gsz); obtain ⟨p0, p1, p2, g0, g1, gsz⟩ := pgbox HW)
          | (go_at_call 15; refine (lightGraph_any _ g _ (HGV.out _ (box2_bel HW))).mono ?_; rintro e w' ⟨rfl, hb⟩; rw [hlg]; replace HW := HW.trans hb; clear hb; (try clear p0 p1 p2 g0 g1 gsz); obtain ⟨p0, p1, p2, g0, g1, gsz⟩ := pgbox HW)
          | (go_at_call 16; refine (refCount10_any _ p _ g _ (HPV.out _ (box2_bel HW)) (HGV.out _ (box2_bel HW)) HL.out HGL.out).mono ?_; rintro e w' ⟨rfl, hb⟩; rw [HNT.out]; replace HW := HW.trans hb; clear hb; (try clear p0 p1 p2 g0 g1 gsz); obtain ⟨p0, p1, p2, g0, g1, gsz⟩ := pgbox HW)
          | (go_at_call 10; refine (awake18_any _ (HT.out _ (box2_bel HW))).mono ?_; rintro e w' ⟨rfl, hb⟩; replace HW := HW.trans hb; clear hb; (try clear p0 p1 p2 g0 g1 gsz); obtain ⟨p0, p1, p2, g0, g1, gsz⟩ := pgbox HW))
        go_ret
        exact ⟨rfl, box2_bel HW⟩
      · have HFW : Hid ((totalF p g).2 = 0 → sizeF p g ≤ 200 ∧ g.ports.length ≤ 5) := fun h => by rw [HNT.out] at h; exact absurd h h0
        have d0 : (e0 == 0) = false := by simpa using h0
        by_cases h3 : e0 = 3
        · subst h3
          cases hk : kindB kind with
          | true =>
            have HKD := Lib.hid hk
            have HBF : Hid (buildF p g kind = (⟨[], []⟩, 3)) := by
              show _ = _
              rw [HBD.out, if_neg (by simp), hk, if_neg (by decide), if_pos (by decide)]
            clear h0 hk
            go_enter Tryz.func4, Tryz.ntmps4
            go_wp2_with (first
              | (go_at_call 14; refine (lightProgram_any _ p _ (HPV.out _ (box2_bel HW))).mono ?_; rintro e w' ⟨rfl, hb⟩; rw [hlp]; replace HW := HW.trans hb; clear hb; (try clear p0 p1 p2 g0 g1 gsz); obtain ⟨p0, p1, p2, g0, g1, gsz⟩ := pgbox HW)
              | (go_at_call 15; refine (lightGraph_any _ g _ (HGV.out _ (box2_bel HW))).mono ?_; rintro e w' ⟨rfl, hb⟩; rw [hlg]; replace HW := HW.trans hb; clear hb; (try clear p0 p1 p2 g0 g1 gsz); obtain ⟨p0, p1, p2, g0, g1, gsz⟩ := pgbox HW)
              | (go_at_call 16; refine (refCount10_any _ p _ g _ (HPV.out _ (box2_bel HW)) (HGV.out _ (box2_bel HW)) HL.out HGL.out).mono ?_; rintro e w' ⟨rfl, hb⟩; rw [HNT.out]; replace HW := HW.trans hb; clear hb; (try clear p0 p1 p2 g0 g1 gsz); obtain ⟨p0, p1, p2, g0, g1, gsz⟩ := pgbox HW)
              | (go_at_call 10; refine (awake18_any _ (HT.out _ (box2_bel HWA))).mono ?_; rintro e w3 ⟨rfl, hb⟩; have HB3 := HBN.out.keep hb; have z0 := HB3.cell 0 (v := .slice AE 0 cE) rfl; have z1 := HB3.cell 1 (v := .slice AA 0 cA) rfl; have zl := HB3.lt; have HW3 := HWA.trans hb; clear HB3)
              | (go_at_call 11; go_must (have hbd := spaceBuild_any _ p _ g kind _ (HPV.out _ (box2_bel HW)) (HGV.out _ (box2_bel HW)) (HT.out _ (box2_bel HW)) HL.out HGL.out HFW.out; rw [HBF.out] at hbd; refine hbd.mono ?_; rintro e w' ⟨v, rfl, hS, hb⟩; obtain ⟨AE, cE, AA, cA, rfl, _⟩ := (id hS : SpaceV _ _ _); clear hS; simp only [List.length_nil]; replace HW := HW.trans hb; clear hb; (try clear p0 p1 p2 g0 g1 gsz); obtain ⟨p0, p1, p2, g0, g1, gsz⟩ := pgbox HW; have HWA := HW.alloc (.cells #[.slice AE 0 cE, .slice AA 0 cA] 35); have HBN := Lib.hid (Blk.new w' #[.slice AE 0 cE, .slice AA 0 cA] 35)))
              | (go_at_call 17; refine (refDaemon_any kind _).mono ?_; rintro e w' ⟨rfl, rfl⟩; rw [HKD.out]))
            go_ret
            exact ⟨by simp, box2_bel HW3⟩
          | false =>
            have HKD := Lib.hid hk
            have HBF : Hid (buildF p g kind = (⟨[], []⟩, 12)) := by
              show _ = _
              rw [HBD.out, if_neg (by simp), hk, if_pos rfl]
            clear h0 hk
            go_enter Tryz.func4, Tryz.ntmps4
            go_wp2_with (first
              | (go_at_call 14; refine (lightProgram_any _ p _ (HPV.out _ (box2_bel HW))).mono ?_; rintro e w' ⟨rfl, hb⟩; rw [hlp]; replace HW := HW.trans hb; clear hb; (try clear p0 p1 p2 g0 g1 gsz); obtain ⟨p0, p1, p2, g0, g1, gsz⟩ := pgbox HW)
              | (go_at_call 15; refine (lightGraph_any _ g _ (HGV.out _ (box2_bel HW))).mono ?_; rintro e w' ⟨rfl, hb⟩; rw [hlg]; replace HW := HW.trans hb; clear hb; (try clear p0 p1 p2 g0 g1 gsz); obtain ⟨p0, p1, p2, g0, g1, gsz⟩ := pgbox HW)
              | (go_at_call 16; refine (refCount10_any _ p _ g _ (HPV.out _ (box2_bel HW)) (HGV.out _ (box2_bel HW)) HL.out HGL.out).mono ?_; rintro e w' ⟨rfl, hb⟩; rw [HNT.out]; replace HW := HW.trans hb; clear hb; (try clear p0 p1 p2 g0 g1 gsz); obtain ⟨p0, p1, p2, g0, g1, gsz⟩ := pgbox HW)
              | (go_at_call 10; refine (awake18_any _ (HT.out _ (box2_bel HWA))).mono ?_; rintro e w3 ⟨rfl, hb⟩; have HB3 := HBN.out.keep hb; have z0 := HB3.cell 0 (v := .slice AE 0 cE) rfl; have z1 := HB3.cell 1 (v := .slice AA 0 cA) rfl; have zl := HB3.lt; have HW3 := HWA.trans hb; clear HB3)
              | (go_at_call 11; go_must (have hbd := spaceBuild_any _ p _ g kind _ (HPV.out _ (box2_bel HW)) (HGV.out _ (box2_bel HW)) (HT.out _ (box2_bel HW)) HL.out HGL.out HFW.out; rw [HBF.out] at hbd; refine hbd.mono ?_; rintro e w' ⟨v, rfl, hS, hb⟩; obtain ⟨AE, cE, AA, cA, rfl, _⟩ := (id hS : SpaceV _ _ _); clear hS; simp only [List.length_nil]; replace HW := HW.trans hb; clear hb; (try clear p0 p1 p2 g0 g1 gsz); obtain ⟨p0, p1, p2, g0, g1, gsz⟩ := pgbox HW; have HWA := HW.alloc (.cells #[.slice AE 0 cE, .slice AA 0 cA] 35); have HBN := Lib.hid (Blk.new w' #[.slice AE 0 cE, .slice AA 0 cA] 35)))
              | (go_at_call 17; refine (refDaemon_any kind _).mono ?_; rintro e w' ⟨rfl, rfl⟩; rw [HKD.out]))
            go_ret
            exact ⟨by simp, box2_bel HW3⟩
        · have HBF : Hid (buildF p g kind = (⟨[], []⟩, e0)) := by
            show _ = _
            rw [HBD.out, if_pos ⟨h0, h3⟩]
          have d3 : (e0 == 3) = false := by simpa using h3
          clear h0 h3
          go_enter Tryz.func4, Tryz.ntmps4
          go_wp2_with (first
            | (go_at_call 14; refine (lightProgram_any _ p _ (HPV.out _ (box2_bel HW))).mono ?_; rintro e w' ⟨rfl, hb⟩; rw [hlp]; replace HW := HW.trans hb; clear hb; (try clear p0 p1 p2 g0 g1 gsz); obtain ⟨p0, p1, p2, g0, g1, gsz⟩ := pgbox HW)
            | (go_at_call 15; refine (lightGraph_any _ g _ (HGV.out _ (box2_bel HW))).mono ?_; rintro e w' ⟨rfl, hb⟩; rw [hlg]; replace HW := HW.trans hb; clear hb; (try clear p0 p1 p2 g0 g1 gsz); obtain ⟨p0, p1, p2, g0, g1, gsz⟩ := pgbox HW)
            | (go_at_call 16; refine (refCount10_any _ p _ g _ (HPV.out _ (box2_bel HW)) (HGV.out _ (box2_bel HW)) HL.out HGL.out).mono ?_; rintro e w' ⟨rfl, hb⟩; rw [HNT.out]; replace HW := HW.trans hb; clear hb; (try clear p0 p1 p2 g0 g1 gsz); obtain ⟨p0, p1, p2, g0, g1, gsz⟩ := pgbox HW)
            | (go_at_call 10; refine (awake18_any _ (HT.out _ (box2_bel HWA))).mono ?_; rintro e w3 ⟨rfl, hb⟩; have HB3 := HBN.out.keep hb; have z0 := HB3.cell 0 (v := .slice AE 0 cE) rfl; have z1 := HB3.cell 1 (v := .slice AA 0 cA) rfl; have zl := HB3.lt; have HW3 := HWA.trans hb; clear HB3)
            | (go_at_call 11; go_must (have hbd := spaceBuild_any _ p _ g kind _ (HPV.out _ (box2_bel HW)) (HGV.out _ (box2_bel HW)) (HT.out _ (box2_bel HW)) HL.out HGL.out HFW.out; rw [HBF.out] at hbd; refine hbd.mono ?_; rintro e w' ⟨v, rfl, hS, hb⟩; obtain ⟨AE, cE, AA, cA, rfl, _⟩ := (id hS : SpaceV _ _ _); clear hS; simp only [List.length_nil]; replace HW := HW.trans hb; clear hb; (try clear p0 p1 p2 g0 g1 gsz); obtain ⟨p0, p1, p2, g0, g1, gsz⟩ := pgbox HW; have HWA := HW.alloc (.cells #[.slice AE 0 cE, .slice AA 0 cA] 35); have HBN := Lib.hid (Blk.new w' #[.slice AE 0 cE, .slice AA 0 cA] 35))))
          go_ret
          exact ⟨by simp, box2_bel HW3⟩

end Go.Proofs.YtgemlgpjbclonaaGreatDoor

/- From a row's reading of the arguments to lists and numbers, and from a walk back to the row: for laws that return true and leave the arguments as they are. -/
namespace Go.Proofs.YtgemlgpjbclonaaGreatDoor
open Go.ChangeShapes Go.WideShapes Go.ChangeAt Go.RowKit Go.Deep

theorem Tryz.own : ownKnob Tryz.prog.godebug = none := by kernel_rfl
theorem Tryz.laidOut : laidOutB Tryz.prog = true := by kernel_rfl
theorem Tryz.cells_int : Tryz.prog.cellsOf 3 = 1 := by kernel_rfl

section
variable {H : Type} {enc : TypeId × Value → H} {P : Program} {w : World} {base : Nat} {spare : Nat → Bool} {held : Bool}

theorem block_lt {w : World} {a : Addr} {v : Value} (h : w.cell? a = some v) : a.block < w.heap.size ∧ a.spot = none := by
  unfold World.cell? at h
  split at h
  · rename_i c e f hh
    refine ⟨?_, ?_⟩
    · rcases Nat.lt_or_ge a.block w.heap.size with hlt | hge
      · exact hlt
      · rw [Array.getElem?_eq_none hge] at hh; cases hh
    · cases hs : a.spot with
      | none => rfl
      | some s => rw [hs] at h; simp at h
  · cases h

theorem add_none {b o k : Nat} : (⟨b, o, none⟩ : Addr).add k = ⟨b, o + k, none⟩ := by
  unfold Addr.add
  split
  · rename_i h; subst h; rfl
  · rfl

theorem open_sliceR {α : Type} [Inhabited α] {t e : TypeId} {size : Nat} {E : World → Nat → Nat → α → Prop} {Good : α → Prop} (ht : P.underlying t = some (.slice e)) (hC : P.cellsOf e = size) (hsz : 0 < size)
    (hE : ∀ n cs y b o, (∀ j, j < size → w.cell? ⟨b, o + j, none⟩ = cs[j]?) → cs.length = size → DataW.trod enc P w base spare held n e cs = some y → ∃ x, E w b o x ∧ Good x)
    {fuel : Nat} {cs : List Value} {x : DataW H × List MemPlace} (h : DataW.trod enc P w base spare held fuel t cs = some x) :
    ∃ (A : Option Addr) (n c : Nat) (xs : List α), cs = [.slice A n c] ∧ SliceR size E w A n xs ∧ (∀ x ∈ xs, Good x) ∧ n ≤ c ∧ c ≤ maxLen := by
  rcases open_slice ht h with ⟨hcs, _⟩ | ⟨a, len, cap, m, n, D, Pl, hcs, hb, hl, hm, hmm, hx, hi⟩
  · exact ⟨none, 0, 0, [], hcs, SliceR.nil, fun _ h => by simp at h, Nat.le_refl _, by unfold maxLen; omega⟩
  · have hlm : len ≤ m := by rw [hmm]; split <;> omega
    rw [hC] at hi
    rcases Nat.eq_zero_or_pos len with h0 | h0
    · subst h0
      exact ⟨some a, 0, cap, [], hcs, SliceR.nil, fun _ h => by simp at h, hl, hm⟩
    · have ha : a = ⟨a.block, a.off, none⟩ ∧ a.block < w.heap.size := by
        obtain ⟨cs', hc, _⟩ := hi 0 (by omega)
        obtain ⟨_, hcl, hat⟩ := World.cells?_some hc
        have h1 := hat 0 (by omega)
        rw [List.getElem?_eq_getElem (by omega)] at h1
        simp [Addr.add] at h1
        obtain ⟨h2, h3⟩ := block_lt h1
        exact ⟨by rw [← h3], h2⟩
      obtain ⟨hae, hab⟩ := ha
      generalize a.block = b at *
      generalize a.off = o at *
      subst hae
      have hch : ∀ i, i < len → ∃ x, E w b (o + i * size) x ∧ Good x := by
        intro i hi'
        obtain ⟨cs', hc, htr⟩ := hi i (by omega)
        obtain ⟨_, hcl, hat⟩ := World.cells?_some hc
        refine hE n cs' _ b (o + i * size) (fun j hj => ?_) hcl htr
        have := hat j hj
        rw [add_none, add_none] at this
        exact this
      obtain ⟨f, hf⟩ := choose_lt hch
      refine ⟨some ⟨b, o, none⟩, len, cap, (List.range len).map f, hcs, ⟨by simp, fun i x hx => ?_⟩, fun x hx => ?_, hl, hm⟩
      · have hil : i < len := by
          have := (List.getElem?_eq_some_iff.1 hx).1
          simpa using this
        rw [List.getElem?_map, List.getElem?_range hil] at hx
        simp at hx
        subst hx
        exact ⟨b, o, rfl, hab, (hf i hil).1⟩
      · obtain ⟨i, hi', rfl⟩ := List.mem_map.1 hx
        exact (hf i (List.mem_range.1 hi')).2

/-- A number of the kind int. -/
def InI64 (x : Int) : Prop := -9223372036854775808 ≤ x ∧ x ≤ 9223372036854775807
theorem inI64_of_wf {x : Int} (h : (Lit.int .i64 x).wf = true) : InI64 x := by
  simpa [InI64, Lit.wf, IntKind.min, IntKind.max, IntKind.signed, IntKind.bits] using h

theorem open_int_at {e : TypeId} (he : P.underlying e = some (.int .i64)) : ∀ n cs y b o, (∀ j, j < 1 → w.cell? ⟨b, o + j, none⟩ = cs[j]?) → cs.length = 1 → DataW.trod enc P w base spare held n e cs = some y → ∃ x, IntAt w b o x ∧ InI64 x := by
  intro n cs y b o hat hl h
  obtain ⟨x, rfl, _, hwf⟩ := DataW.trod_int he h
  refine ⟨x, ?_, inI64_of_wf hwf⟩
  have := hat 0 (by omega)
  simpa [IntAt] using this

theorem open_intsR {t e : TypeId} (ht : P.underlying t = some (.slice e)) (hC : P.cellsOf e = 1) (he : P.underlying e = some (.int .i64)) {v : Value} {d : DataW H} {p : List MemPlace} {r : Reach} {b0 : Nat} (h : DataW.Trod enc P w base spare held t v d p) (hv : Value.okWide P w r b0 t v) :
    ∃ (A : Option Addr) (n c : Nat) (xs : List Int), v = .slice A n c ∧ IntsR w A n xs ∧ (∀ x ∈ xs, InI64 x) ∧ n ≤ c ∧ c ≤ maxLen := by
  obtain ⟨a, l, c', rfl⟩ := okWide_slice ht hv
  obtain ⟨fuel, h⟩ := h
  obtain ⟨A, n, c, xs, hcs, hr, hg, h1, h2⟩ := open_sliceR (E := IntAt) (Good := InI64) ht hC (by decide) (open_int_at he) h
  exact ⟨A, n, c, xs, by simpa [Value.cells] using hcs, hr, hg, h1, h2⟩

end

section
variable {H : Type} {enc : TypeId × Value → H} {P : Program}

theorem trodAll_stays (hl : laidOutB P = true) {W W' : World} {sp : Nat → Bool} (hb : Below W.heap.size W W') : ∀ {ts : List TypeId} {vs : List Value} {ds : List (DataW H)} {ps : List MemPlace},
    (∀ t ∈ ts, P.readableRec t = true ∧ t < P.types.size) → DataW.TrodAll enc P W 0 (fun _ => true) true ts vs ds ps → (∀ x ∈ ps, x.block < W.heap.size) → (∀ x ∈ ps, sp x.block = true) → DataW.TrodAll enc P W' 0 sp true ts vs ds ps
  | [], vs, ds, ps, _, h, _, _ => by
    obtain ⟨rfl, rfl, rfl⟩ := trodAll_nil h
    exact trodAll_mk0
  | t :: ts, vs, ds, ps, hr, h, hlt, hsp => by
    obtain ⟨v, vs', d, ds', p, q, rfl, rfl, rfl, hd, hrest⟩ := trodAll_cons h
    refine trodAll_cons_mk ?_ (trodAll_stays hl hb (fun t ht => hr t (by simp [ht])) hrest (fun x hx => hlt x (by simp [hx])) (fun x hx => hsp x (by simp [hx])))
    exact WideElems.Trod_stays hl (hr t (by simp)).1 (hr t (by simp)).2 hd (fun x hx => hb.same (hlt x (by simp [hx]))) (fun x hx => hsp x (by simp [hx]))

/-- The row's last step for a law: it has returned true, and nothing that was there has changed. -/
theorem law_post {f : Func} {s : ChangeSpec} {apart fresh handsOn again : Bool} {W W' : World} {args : Array Value} {ds gs : List (DataW H)} {before : List MemPlace} {tb : TypeId}
    (hl : laidOutB P = true) (hvs : s.vars = []) (hr0 : (f.params.toList.all fun t => P.readableRec t && decide (t < P.types.size)) = true) (hres : f.resultTypes = #[tb]) (htb : P.underlying tb = some .bool)
    (hW : DataW.Whole enc P f.params.toList s.vars apart W args.toList ds gs before)
    (hfn : (s.fn H (ds ++ gs)).results = [.lit (.bool true)] ∧ (s.fn H (ds ++ gs)).args = ds ∧ (s.fn H (ds ++ gs)).vars = [])
    (hb : Bel W W') : s.post enc P f apart fresh handsOn again W args (.bool true) W' := by
  have hr : ∀ t ∈ f.params.toList, P.readableRec t = true ∧ t < P.types.size := fun t ht => by
    have := List.all_eq_true.1 hr0 t ht
    simpa using this
  have hb' : Below W.heap.size W W' := hb
  have hlt : ∀ p ∈ before, p.block < W.heap.size := fun p hp => hW.lt p hp
  have hold : ∀ p ∈ before, (fun b => decide (b < W.heap.size)) p.block = true := fun p hp => by simpa using hlt p hp
  have hWh := hW
  obtain ⟨pa, pv, hA, hV, hps, hz, hn⟩ := hW
  rw [hvs] at hV
  obtain ⟨hg, hpv⟩ := trodVars_none hV
  subst hg; subst hpv
  have hps' : before = pa := by simpa using hps
  subst hps'
  have hargs : ∀ sp : Nat → Bool, (∀ p ∈ before, sp p.block = true) → DataW.TrodAll enc P W' 0 sp true f.params.toList args.toList (s.fn H (ds ++ [])).args before := fun sp hsp => by
    rw [hfn.2.1]
    exact trodAll_stays hl hb' hr hA hlt hsp
  have hvars : ∀ sp : Nat → Bool, DataW.TrodVars enc P W' sp s.vars (s.fn H (ds ++ [])).vars [] := fun sp => by
    rw [hvs, hfn.2.2]
    exact rfl
  have hresT : ∀ (b : Nat) (sp : Nat → Bool) (hd : Bool), DataW.TrodAll enc P W' b sp hd f.resultTypes.toList ((Value.bool true).resultList f.resultTypes.size) (s.fn H (ds ++ [])).results [] := fun b sp hd => by
    rw [hres, hfn.1]
    exact trodAll_cons_mk (shut_bool htb _) trodAll_mk0
  refine ⟨ds, [], before, [], before, [], hWh, hresT _ _ _, hargs _ hold, hvars _, World.keptBut_mono (fun p hp => ⟨hp, ?_⟩) (hb'.frame (· ∈ before)), fun _ => ?_⟩
  · right; simpa using hp
  · refine ⟨ok_one hres rfl (okWide_bool_mk htb _), _, _, ([] ++ before) ++ [], ⟨[] ++ before, [], trodAll_append (hargs _ (fun _ _ => rfl)) (hresT _ _ _), hvars _, rfl, ?_, ?_⟩, ?_⟩
    · intro b off hp
      have hin : MemPlace.cell b off ∈ before := by simpa using hp
      rw [hb'.frozen (hlt _ hin)]
      exact hz b off hin
    · intro ha
      have := hn ha
      simpa using this
    · intro p hp _
      simpa using hp
end
end Go.Proofs.YtgemlgpjbclonaaGreatDoor

/- What a row's condition about the library's table gives the walks; the door's own heap meets it. -/
namespace Go.Proofs.YtgemlgpjbclonaaGreatDoor
open Go.ChangeShapes Go.WideShapes Go.ChangeAt Go.WideMaps Go.WideElems Go.RowKit

theorem gTab : Tryz.prog.globalNamed "math/bits.deBruijn32tab" = some 0 := by kernel_rfl
theorem tTab : (Tryz.prog.globals[0]?).map (·.type) = some 174 := by kernel_rfl
theorem cTab1 : Tryz.prog.cellsOf 5 = 1 := by kernel_rfl
theorem cTab32 : Tryz.prog.cellsOf 174 = 32 := by kernel_rfl
def bruijnZ : List Int := bruijn.map fun (n : Nat) => (n : Int)
abbrev laidL : List (String × DataW Unit) := [("math/bits.deBruijn32tab", Rows.laid_math_bits_deBruijn32tab)]
theorem tab32_of {W : World} (h : laidMetH Tryz.prog laidL W) : Tab32 W := by
  rw [MakeChecks.laidMetH_plain _ _ _ (by kernel_rfl)] at h
  have ht : Lib.TabIs Tryz.prog W "math/bits.deBruijn32tab" .u8 bruijnZ :=
    Lib.tabIs_of_head gTab tTab Tryz.underlying174 Tryz.underlying5 cTab1 cTab32 (show laidMet Tryz.prog [("math/bits.deBruijn32tab", Lib.tabData .u8 bruijnZ)] W from h)
  have hc : ∀ i, i < 32 → W.cell? ⟨0, i, none⟩ = some (.int .u8 ((bruijn.getD i 0 : Nat) : Int)) := fun i hi => by
    have h1 := ht.cell gTab i (by simpa [bruijnZ, bruijn] using hi)
    rw [h1]
    have hb : i < bruijn.length := by simpa [bruijn] using hi
    simp [bruijnZ, List.getD_eq_getElem?_getD, hb]
  refine ⟨?_, hc⟩
  have h0 := hc 0 (by decide)
  rcases Nat.lt_or_ge 0 W.heap.size with h | h
  · exact h
  · simp [World.cell?, Array.getElem?_eq_none h] at h0
theorem door_met (os : Os) (args : Array Value) : laidMetH Tryz.prog laidL ((World.doorLaid Tryz.prog 400 os).forCall (fun _ _ => 0) ⟨#[], args, []⟩).memory :=
  laidMetH_of_parts3 (fuel := 8) (laidMet_of_run' 8 (by kernel_rfl) (by kernel_rfl)) (by kernel_rfl) (by kernel_rfl)

end Go.Proofs.YtgemlgpjbclonaaGreatDoor

