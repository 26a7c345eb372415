/- Merged of: L18e (see NOTES.md). -/
import Derived.Test.YtgemlgpjbclonaaGreatDoorZ32
import Derived.Test.YtgemlgpjbclonaaGreatDoorZ39
import Derived.Test.YtgemlgpjbclonaaGreatDoorZ37
set_option linter.unusedSimpArgs false
set_option linter.unnecessarySimpa false
set_option linter.unusedVariables false

/- The walk of SpaceIsMadeOfSteps. -/
namespace Go.Proofs.YtgemlgpjbclonaaGreatDoor
open Go.RowKit

theorem lastF_snoc {l : List (Nat × Int)} {i : Nat} (hi : i < l.length) (S : Nat) : lastF (l.take (i + 1)) S = if l[i].1 = S then l[i].2 else lastF (l.take i) S := by
 unfold lastF
 rw [List.take_succ_eq_append_getElem hi, List.foldl_append]; rfl
/-- The arcs of a state: where the step of a set leads. -/
theorem last_permits {p : Prg} {g : Graph} {kind : Int} {c : Config} (hm : memF p g c = 0) (hk : kindB kind = true) (h5 : g.ports.length ≤ 5) {S : Nat} (hS : S < 4294967296) :
  lastF (arcsOf p g kind c) S = if permitsF g kind (enabF p g c) S = true then numF p g (stepCF p g c S) else -1 := by
 have h32 := enab_32 hm h5
 have hlt : enabF p g c < 4294967296 := by omega
 unfold lastF arcsOf
 rw [last_map]
 have := mem_choices hlt hk (choices_few (g := g) (kind := kind) h32).1 hS
 by_cases hp : permitsF g kind (enabF p g c) S = true
 ·rw [if_pos hp, if_pos (this.2 hp)]
 ·rw [if_neg hp, if_neg (fun h => hp (this.1 h))]

set_option maxRecDepth 100000 in
set_option maxHeartbeats 8000000 in
theorem spaceSteps_walk (v1 : Value) (p : Prg) (v2 : Value) (g : Graph) (kind kk : Int) (S : Nat) (w : World) (h : PrgV w v1 p) (h2 : GraphV w v2 g) (hS : S < 4294967296) (hT : Tab32 w) :
  Calls Tryz.prog 5 #[v1, v2, .int .i64 kind, .int .i64 kk, .int .u32 (S : Int)] w fun e w' => e = .returned (.bool true) ∧ Bel w w' := by
 have HPV := Lib.hid (fun w' (k : Bel w w') => h.keep k)
 have HGV := Lib.hid (fun w' (k : Bel w w') => h2.keep k)
 have HT := Lib.hid (fun w' (k : Bel w w') => hT.keep k)
 obtain ⟨A1, k1, A2, k2, rfl, _, _, _, _, _, _⟩ := h
 obtain ⟨A3, k3, A4, k4, rfl, _, _, _, _, _, _⟩ := h2
 have HW := Bel.refl ((w.alloc (.cells #[.string p.name, .slice A1 p.vars.length k1, .slice A2 p.rules.length k2] 25)).alloc (.cells #[.slice A3 g.ids.length k3, .slice A4 g.ports.length k4] 29))
 clear hT
 obtain ⟨fs, hfs⟩ : ∃ fs, fairS p g kind = fs := ⟨_, rfl⟩
 obtain ⟨sF, bF⟩ := fs
 have HFS := Lib.hid hfs
 have HYES : Hid (bF = true → _) := fun hb => fairS_yes (p := p) (g := g) (kind := kind) (by rw [hfs]; exact hb)
 clear hfs
 cases bF with
 | false =>
  clear HYES
  go_enter Tryz.func5, Tryz.ntmps5
  go_wp2_with (first
   | (go_at_call 18; have hbd := fair18_any _ p _ g kind _ (HPV.out _ (box2_bel HW)) (HGV.out _ (box2_bel HW)); rw [HFS.out] at hbd; refine hbd.mono ?_; rintro e w1 ⟨vF, rfl, hS, hb⟩; obtain ⟨AF, cF, BF, dF, rfl⟩ := hS; replace HW := (HW.trans hb).alloc (.cells #[.slice AF sF.enabled.length cF, .slice BF sF.arcs.length dF] 35); clear hb hbd; (try clear p0 p1 p2 g0 g1 gsz); obtain ⟨p0, p1, p2, g0, g1, gsz⟩ := pgbox HW)
   | (go_at_call 10; refine (awake18_any _ (HT.out _ (box2_bel HW))).mono ?_; rintro e w' ⟨rfl, hb⟩; replace HW := HW.trans hb; clear hb; (try clear p0 p1 p2 g0 g1 gsz); obtain ⟨p0, p1, p2, g0, g1, gsz⟩ := pgbox HW))
  go_ret
  exact ⟨rfl, box2_bel HW⟩
 | true =>
  obtain ⟨hL, hG, hkd, h5, n, hn, ht, hf, hsz, hn1, hbd0⟩ := HYES.out rfl
  have HL := Lib.hid hL
  have HGL := Lib.hid hG
  have HKD := Lib.hid hkd
  have HFW : Hid ((totalF p g).2 = 0 → sizeF p g ≤ 200 ∧ g.ports.length ≤ 5) := fun _ => ⟨by omega, h5⟩
  have HTT := Lib.hid ht
  have HGO := Lib.hid (fits_zero hf).2.1
  have HVA := Lib.hid (space_valid (kind := kind) hf hsz hkd h5)
  have HWF := Lib.hid (space_wf (kind := kind) hf hsz hkd h5)
  have HLI := Lib.hid (space_light (kind := kind) hf hsz hn h5)
  -- the state at hand
  obtain ⟨k, hk⟩ := Int.eq_ofNat_of_zero_le (show 0 ≤ modF kk (n : Int) from Int.emod_nonneg kk (by omega))
  have hkn : k < n := by have : modF kk (n : Int) < (n : Int) := Int.emod_lt_of_pos kk (by omega); omega
  have HMOD := Lib.hid hk
  have hm : memF p g (confK p g k) = 0 := confK_mem hf (by omega)
  have HCL := Lib.hid (conf_light hm hL)
  have hE5 := enab_32 hm h5
  have HEP := Lib.hid (enab_pow hm)
  have HEN : Hid (enabledF p g (confK p g k) = enabF p g (confK p g k)) := by show _ = _; unfold enabledF; rw [if_neg (by simpa using hm)]
  have HLP := Lib.hid (last_permits hm hkd h5 hS)
  have HPS : Hid (permitsF g kind (enabF p g (confK p g k)) S = true → stepRF p g (confK p g k) S = (stepCF p g (confK p g k) S, 0) ∧ memF p g (stepCF p g (confK p g k) S) = 0) := fun h => by
   have h3 := choice_step hm hkd h5 ((mem_choices (show enabF p g (confK p g k) < 4294967296 by omega) hkd (choices_few hE5).1 hS).2 h)
   exact h3.2
  have hl31 := arcs_31 (kind := kind) hm h5
  have HEL := Lib.hid (esF_length p g n)
  have HLL := Lib.hid (lsF_length p g kind n)
  have HEA : (esF p g n)[k]? = some (enabF p g (confK p g k)) := by rw [List.getElem?_eq_getElem (by rw [esF_length]; exact hkn), esF_at p g hkn]
  have HLA : (lsF p g kind n)[k]? = some (arcsOf p g kind (confK p g k)) := by rw [List.getElem?_eq_getElem (by rw [lsF_length]; exact hkn), lsF_at p g kind hkn]
  obtain ⟨es, hes⟩ : ∃ es, esF p g n = es := ⟨_, rfl⟩
  obtain ⟨ls, hls⟩ : ∃ ls, lsF p g kind n = ls := ⟨_, rfl⟩
  rw [hes] at HEL
  rw [hls] at HLL
  rw [hes] at HEA
  rw [hls] at HLA
  rw [hes, hls] at hbd0 HVA HWF HLI
  have HBF := Lib.hid hbd0
  have hkE : k < es.length := by rw [HEL.out]; exact hkn
  have hkL : k < ls.length := by rw [HLL.out]; exact hkn
  have hkEI : (k : Int) < (es.length : Int) := by omega
  have hkLI : (k : Int) < (ls.length : Int) := by omega
  obtain ⟨c, hc⟩ : ∃ c, confK p g k = c := ⟨_, rfl⟩
  have HCK := Lib.hid hc
  rw [hc] at hm HCL hE5 HEP HEN HLP HPS hl31 HEA HLA
  have HM := Lib.hid hm
  obtain ⟨l, hla⟩ : ∃ l, arcsOf p g kind c = l := ⟨_, rfl⟩
  obtain ⟨E, hE⟩ : ∃ E, enabF p g c = E := ⟨_, rfl⟩
  rw [hla] at HLA HLP hl31
  rw [hE] at HEA HEN HLP HPS HEP hE5
  replace HEA := Lib.hid (List.getElem?_eq_some_iff.1 HEA).2
  replace HLA := Lib.hid (List.getElem?_eq_some_iff.1 HLA).2
  have HEL2 := Lib.hid (show (es.length : Int) = (n : Int) by rw [HEL.out])
  have hE32 : E < 4294967296 := by omega
  have hn200 : n ≤ 200 := hn
  clear hL hG hkd h5 ht hf hsz hbd0 HYES hes hls hk hm hc hla hE hn1 hn
  go_enter Tryz.func5, Tryz.ntmps5
  go_wp2_with (first
   | (go_at_call 18; have hbd := fair18_any _ p _ g kind _ (HPV.out _ (box2_bel HW)) (HGV.out _ (box2_bel HW)); rw [HFS.out] at hbd; refine hbd.mono ?_; rintro e w1 ⟨vF, rfl, hS, hb⟩; obtain ⟨AF, cF, BF, dF, rfl⟩ := hS; replace HW := (HW.trans hb).alloc (.cells #[.slice AF sF.enabled.length cF, .slice BF sF.arcs.length dF] 35); clear hb hbd; (try clear p0 p1 p2 g0 g1 gsz); obtain ⟨p0, p1, p2, g0, g1, gsz⟩ := pgbox HW)
   | (go_at_call 11; have hbd := spaceBuild_any _ p _ g kind _ (HPV.out _ (box2_bel HW)) (HGV.out _ (box2_bel HW)) (HT.out _ (box2_bel HW)) HL.out HGL.out HFW.out; rw [HBF.out] at hbd; refine hbd.mono ?_; rintro e w2 ⟨vS, rfl, hS, hb⟩; have HS1 := Lib.hid (fun w3 (kk : Bel w2 w3) => hS.keep kk); obtain ⟨AE, cE, AA, cA, rfl, _⟩ := (id hS : SpaceV _ _ _); have HN := Lib.hid (Blk.new w2 #[.slice AE es.length cE, .slice AA ls.length cA] 35); replace HW := (HW.trans hb).alloc (.cells #[.slice AE es.length cE, .slice AA ls.length cA] 35); have hN0 := HN.out.cell 0 (v := .slice AE es.length cE) rfl; have hN1 := HN.out.cell 1 (v := .slice AA ls.length cA) rfl; have hNl := HN.out.lt; have HB2 := (Bel.refl w2).alloc (.cells #[.slice AE es.length cE, .slice AA ls.length cA] 35); clear hb hS hbd; (try clear p0 p1 p2 g0 g1 gsz))
   | (go_at_call 19; refine (refSpaceValid_any _ ⟨es, ls⟩ _ (HS1.out _ HB2) HWF.out HLI.out).mono ?_; rintro e w3 ⟨rfl, hb⟩; rw [HVA.out]; have M1 := HN.out.keep hb; have m0 := M1.cell 0 (v := .slice AE es.length cE) rfl; have m1 := M1.cell 1 (v := .slice AA ls.length cA) rfl; have ml := M1.lt; have HM1 := Lib.hid M1; replace HB2 := HB2.trans hb; clear M1; replace HW := HW.trans hb; clear hb; (try clear p0 p1 p2 g0 g1 gsz); obtain ⟨p0, p1, p2, g0, g1, gsz⟩ := pgbox HW)
   | (go_at_call 20; rw [HEL2.out]; refine (mod_any _ _ _ (by omega) (by omega)).mono ?_; rintro e w' ⟨rfl, rfl⟩; rw [HMOD.out])
   | (go_at_call 21; refine (refUnrank_any _ p _ g k n _ (HPV.out _ (box2_bel HW)) (HGV.out _ (box2_bel HW)) HL.out HGL.out HTT.out hkn (by omega)).mono ?_; rintro e w4 ⟨vC, rfl, hCV, hb⟩; rw [HCK.out] at hCV; have HCV := Lib.hid (fun w' (kk : Bel w4 w') => hCV.keep kk); have HM2 := Lib.hid (HM1.out.keep hb); replace HB2 := HB2.trans hb; clear hCV m0 m1 ml; replace HW := HW.trans hb; clear hb; (try clear p0 p1 p2 g0 g1 gsz); obtain ⟨p0, p1, p2, g0, g1, gsz⟩ := pgbox HW)
   | (go_at_call 22; refine (refEnabled_any _ p _ g _ c _ (HPV.out _ (box2_bel HW)) (HGV.out _ (box2_bel HW)) (HCV.out _ (Bel.refl _)) HL.out HGL.out HCL.out).mono ?_; rintro e w5 ⟨rfl, hb⟩; rw [HEN.out]; have HM3 := Lib.hid (HM2.out.keep hb); have HCV5 := Lib.hid (fun w' (kk : Bel w5 w') => HCV.out w' (hb.trans kk)); replace HB2 := HB2.trans hb; replace HW := HW.trans hb; clear hb; (try clear p0 p1 p2 g0 g1 gsz); obtain ⟨p0, p1, p2, g0, g1, gsz⟩ := pgbox HW))
  have HW5 := Lib.hid HW
  have HB25 := Lib.hid HB2
  have HB := Bel.refl w5
  clear p0 p1 p2 g0 g1 gsz HW HB2
  go_loopg [18, 19] l.length (fun m t z wr => ∃ i : Nat, i ≤ l.length ∧ m = l.length - i ∧ t = .int .i64 (lastF (l.take i) S) ∧ z = .int .i64 (i : Int) ∧ Bel w5 wr)
  case atStart => exact ⟨0, by omega, rfl, rfl, rfl, HB⟩
  case round =>
   clear HB
   obtain ⟨i, hi, rfl, rfl, rfl, HB⟩ := hrel
   have hB2r := HB25.out.trans HB
   have HMr := HM3.out.keep HB
   have q0 := HMr.cell 0 (v := .slice AE es.length cE) rfl
   have q1 := HMr.cell 1 (v := .slice AA ls.length cA) rfl
   have ql := HMr.lt
   have HW := HW5.out.trans HB
   obtain ⟨AE', cE', AA', cA', hag, hE, hA, _, _, _, _⟩ := HS1.out wr hB2r
   obtain ⟨rfl, rfl, rfl, rfl⟩ : AE = AE' ∧ cE = cE' ∧ AA = AA' ∧ cA = cA' := by simpa [and_assoc] using hag
   obtain ⟨bA, oA, R, rc, rfl, hbA, x1, hR, _, _⟩ := hA.at_ k hkL
   dsimp only at x1 hR
   rw [HLA.out] at x1 hR
   by_cases hlt : i < l.length
   ·have hd0 : decide (i < l.length) = true := by simpa using hlt
    obtain ⟨b, o, rfl, hbl, c0, c1⟩ := hR.at_ i hlt
    have HLS := Lib.hid (lastF_snoc hlt S)
    obtain ⟨x, hx⟩ : ∃ x, l[i] = x := ⟨_, rfl⟩
    rw [hx] at c0 c1 HLS
    obtain ⟨T, U⟩ := x
    dsimp only at c0 c1
    clear hE hA hag hR hx
    by_cases he : T = S
    ·have e1 : ((T : Int) == (S : Int)) = true := by simp [he]
     have e2 : (T == S) = true := by simp [he]
     have HLS2 : Hid (lastF (l.take (i + 1)) S = U) := by show _ = _; rw [HLS.out, if_pos he]
     clear he
     go_wp2_with fail
     go_roundg (l.length - (i + 1))
     case rel => exact ⟨i + 1, by omega, rfl, by rw [HLS2.out], by go_num, HB⟩
     case measure => omega
    ·have e1 : ((T : Int) == (S : Int)) = false := by simp; omega
     have e2 : (T == S) = false := by simp; omega
     have HLS2 : Hid (lastF (l.take (i + 1)) S = lastF (l.take i) S) := by show _ = _; rw [HLS.out, if_neg he]
     clear he
     go_wp2_with fail
     go_roundg (l.length - (i + 1))
     case rel => exact ⟨i + 1, by omega, rfl, by rw [HLS2.out], by go_num, HB⟩
     case measure => omega
   ·have hd0 : decide (i < l.length) = false := by simpa using hlt
    obtain rfl : i = l.length := by omega
    obtain ⟨bE, oE, rfl, hbE, x0⟩ := hE.at_ k hkE
    dsimp only at x0
    rw [HEA.out] at x0
    have X0 : Hid (∀ w', Bel wr w' → w'.cell? ⟨bE, oE + k, none⟩ = some (.int .u32 (E : Int)) ∧ bE < w'.heap.size) := fun w' kk => ⟨(kk.cell hbE).trans x0, Nat.lt_of_lt_of_le hbE kk.size⟩
    rw [List.take_length]
    obtain ⟨tq, htq⟩ : ∃ tq, lastF l S = tq := ⟨_, rfl⟩
    rw [htq] at HLP ⊢
    have HM9 := Lib.hid HMr
    have eE : ((E : Int) == (E : Int)) = true := by simp
    have eE2 : (E == E) = true := by simp
    obtain ⟨p0, p1, p2, g0, g1, gsz⟩ := pgbox HW
    clear hE hA hag hR htq x0 HMr
    cases hp : permitsF g kind E S with
    | false =>
     have HPF := Lib.hid hp
     rw [hp, if_neg (by decide)] at HLP
     obtain rfl : tq = -1 := HLP.out
     clear hp HPS
     have HBr := Bel.refl wr
     go_wp2_with (first
      | (go_at_call 23; refine (refPermits_any _ g kind E S _ (HGV.out _ (box2_bel HW)) HGO.out HGL.out HKD.out HEP.out hS).mono ?_; rintro e w6 ⟨rfl, hb⟩; rw [HPF.out]; replace HBr := HBr.trans hb; replace HW := HW.trans hb; clear hb; (try clear p0 p1 p2 g0 g1 gsz); obtain ⟨p0, p1, p2, g0, g1, gsz⟩ := pgbox HW)
      | (go_at_call 10; refine (awake18_any _ (HT.out _ (box2_bel HW))).mono ?_; rintro e w7 ⟨rfl, hb⟩; replace HBr := HBr.trans hb; obtain ⟨y0, y1⟩ := X0.out _ HBr; have M7 := HM9.out.keep HBr; have m0 := M7.cell 0 (v := .slice (some ⟨bE, oE, none⟩) es.length cE) rfl; have ml := M7.lt; clear M7; replace HW := HW.trans hb; clear hb; (try clear p0 p1 p2 g0 g1 gsz); obtain ⟨p0, p1, p2, g0, g1, gsz⟩ := pgbox HW))
     go_ret
     exact ⟨by simp, box2_bel HW⟩
    | true =>
     have HPF := Lib.hid hp
     rw [hp, if_pos rfl] at HLP
     obtain ⟨hst, hmd⟩ := HPS.out hp
     have HST := Lib.hid hst
     have HMD := Lib.hid hmd
     have HDL := Lib.hid (conf_light hmd HL.out)
     obtain ⟨D, hD⟩ : ∃ D, stepCF p g c S = D := ⟨_, rfl⟩
     rw [hD] at HST HMD HDL HLP
     obtain rfl : tq = numF p g D := HLP.out
     obtain ⟨nm, hnm⟩ : ∃ nm, numF p g D = nm := ⟨_, rfl⟩
     rw [hnm]
     have HNM := Lib.hid hnm
     have eN : (nm == nm) = true := by simp
     clear hp HPS hst hmd hD hnm HLP
     have HBr := Bel.refl wr
     go_wp2_with (first
      | (go_at_call 23; refine (refPermits_any _ g kind E S _ (HGV.out _ (box2_bel HW)) HGO.out HGL.out HKD.out HEP.out hS).mono ?_; rintro e w6 ⟨rfl, hb⟩; rw [HPF.out]; replace HBr := HBr.trans hb; replace HW := HW.trans hb; clear hb; (try clear p0 p1 p2 g0 g1 gsz); obtain ⟨p0, p1, p2, g0, g1, gsz⟩ := pgbox HW)
      | (go_at_call 24; have hps := refStep_any _ p _ g _ c S _ (HPV.out _ (box2_bel HW)) (HGV.out _ (box2_bel HW)) (HCV5.out _ (HB.trans HBr)) HL.out HGL.out HCL.out hS; rw [HST.out] at hps; refine hps.mono ?_; rintro e w8 ⟨AD, cD, rfl, hDV, hb⟩; have HDV := Lib.hid hDV; replace HBr := HBr.trans hb; clear hps hDV; replace HW := HW.trans hb; clear hb; (try clear p0 p1 p2 g0 g1 gsz); obtain ⟨p0, p1, p2, g0, g1, gsz⟩ := pgbox HW)
      | (go_at_call 25; refine (refRank_any _ p _ g _ D n _ (HPV.out _ (box2_bel HW)) (HGV.out _ (box2_bel HW)) HDV.out HL.out HGL.out HDL.out HMD.out HTT.out (by omega)).mono ?_; rintro e w9 ⟨rfl, hb⟩; rw [HNM.out]; replace HBr := HBr.trans hb; replace HW := HW.trans hb; clear hb; (try clear p0 p1 p2 g0 g1 gsz); obtain ⟨p0, p1, p2, g0, g1, gsz⟩ := pgbox HW)
      | (go_at_call 10; refine (awake18_any _ (HT.out _ (box2_bel HW))).mono ?_; rintro e w7 ⟨rfl, hb⟩; replace HBr := HBr.trans hb; obtain ⟨y0, y1⟩ := X0.out _ HBr; have M7 := HM9.out.keep HBr; have m0 := M7.cell 0 (v := .slice (some ⟨bE, oE, none⟩) es.length cE) rfl; have ml := M7.lt; clear M7; replace HW := HW.trans hb; clear hb; (try clear p0 p1 p2 g0 g1 gsz); obtain ⟨p0, p1, p2, g0, g1, gsz⟩ := pgbox HW))
     go_ret
     exact ⟨by simp, box2_bel HW⟩

end Go.Proofs.YtgemlgpjbclonaaGreatDoor

