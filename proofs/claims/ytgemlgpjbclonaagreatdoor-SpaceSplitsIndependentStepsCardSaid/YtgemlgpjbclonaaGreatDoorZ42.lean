/- Merged of: L18g (see NOTES.md). -/
import Derived.Test.YtgemlgpjbclonaaGreatDoorZ32
import Derived.Test.YtgemlgpjbclonaaGreatDoorZ39
import Derived.Test.YtgemlgpjbclonaaGreatDoorZ37
set_option linter.unusedSimpArgs false
set_option linter.unnecessarySimpa false
set_option linter.unusedVariables false

/- The walk of SpaceSplitsIndependentSteps. -/
namespace Go.Proofs.YtgemlgpjbclonaaGreatDoor
open Go.RowKit

theorem first_arcs {p : Prg} {g : Graph} {kind : Int} {c : Config} {S : Nat} (h : S ∈ (choicesF g kind (enabF p g c)).1) : firstT (arcsOf p g kind c) S = numF p g (stepCF p g c S) := by
 unfold arcsOf
 rw [first_map, if_pos h]
theorem arcs_at {p : Prg} {g : Graph} {kind : Int} {c : Config} {i : Nat} (hi : i < (arcsOf p g kind c).length) : ∃ X, X ∈ (choicesF g kind (enabF p g c)).1 ∧ (arcsOf p g kind c)[i] = (X, numF p g (stepCF p g c X)) := by
 have := List.getElem_mem hi
 obtain ⟨X, hX, e⟩ := List.mem_map.1 this
 exact ⟨X, hX, e.symm⟩
theorem choice_indep {p : Prg} {g : Graph} {c : Config} (hm : memF p g c = 0) (h5 : g.ports.length ≤ 5) {X : Nat} (hX : X ∈ (choicesF g 2 (enabF p g c)).1) : indepF g X = true := by
 have hg := (fits_zero (mem_zero hm).1).2.1
 have hle := hg.le
 have h32 := enab_32 hm h5
 have hlt : enabF p g c < 4294967296 := by omega
 obtain ⟨hX32, hXE⟩ := choices_part hlt hX
 have hXp := (mem_choices hlt (by decide) (choices_few h32).1 hX32).1 hX
 have hX0 := (permits_part hXp).1
 rw [indep_same hg hX32 (within_trans hXE (within_bound (by omega) (enab_pow hm)))]
 unfold permitsF at hXp
 rw [if_neg hX0, hXE, if_neg (by decide), if_neg (by decide), if_pos rfl] at hXp
 exact hXp
/-- The two arcs that replace one. -/
theorem split_arcs {p : Prg} {g : Graph} {k n X P : Nat} (hf : fitsF p g = 0) (hsz : sizeF p g = (n : Int)) (hk : k < n) (h5 : g.ports.length ≤ 5) (hX : X ∈ (choicesF g 2 (enabF p g (confK p g k))).1) (hP : P &&& X = P) (h0 : P ≠ 0) (h1 : P ≠ X) :
  ∃ kd : Nat, kd < n ∧ firstT (arcsOf p g 2 (confK p g k)) P = (kd : Int) ∧ firstT (arcsOf p g 2 (confK p g kd)) (diffF X P) = numF p g (stepCF p g (confK p g k) X) := by
 have hm : memF p g (confK p g k) = 0 := confK_mem hf (by omega)
 obtain ⟨s1, s2, s3⟩ := split_steps hm h5 hX hP h0 h1
 have hmd := (choice_step hm (by decide) h5 s1).2.2
 obtain ⟨r1, r2⟩ := numF_range hmd
 have e := confK_num hmd
 refine ⟨(numF p g (stepCF p g (confK p g k) P)).toNat, by omega, ?_, ?_⟩
 ·rw [first_arcs s1]; omega
 ·rw [e, first_arcs s2, s3]

set_option maxRecDepth 100000 in
set_option maxHeartbeats 8000000 in
theorem spaceSplits_walk (v1 : Value) (p : Prg) (v2 : Value) (g : Graph) (kk ii : Int) (P0 : Nat) (w : World) (h : PrgV w v1 p) (h2 : GraphV w v2 g) (hP0 : P0 < 4294967296) (hT : Tab32 w) :
  Calls Tryz.prog 8 #[v1, v2, .int .i64 kk, .int .i64 ii, .int .u32 (P0 : Int)] w fun e w' => e = .returned (.bool true) ∧ Bel w w' := by
 have HPV := Lib.hid (fun w' (k : Bel w w') => h.keep k)
 have HGV := Lib.hid (fun w' (k : Bel w w') => h2.keep k)
 have HT := Lib.hid (fun w' (k : Bel w w') => hT.keep k)
 obtain ⟨A1, k1, A2, k2, rfl, _, _, _, _, _, _⟩ := h
 obtain ⟨A3, k3, A4, k4, rfl, _, _, _, _, _, _⟩ := h2
 have HW := Bel.refl ((w.alloc (.cells #[.string p.name, .slice A1 p.vars.length k1, .slice A2 p.rules.length k2] 25)).alloc (.cells #[.slice A3 g.ids.length k3, .slice A4 g.ports.length k4] 29))
 clear hT
 obtain ⟨fs, hfs⟩ : ∃ fs, fairS p g 2 = fs := ⟨_, rfl⟩
 obtain ⟨sF, bF⟩ := fs
 have HFS := Lib.hid hfs
 have HYES : Hid (bF = true → _) := fun hb => fairS_yes (p := p) (g := g) (kind := 2) (by rw [hfs]; exact hb)
 clear hfs
 cases bF with
 | false =>
  clear HYES
  go_enter Tryz.func8, Tryz.ntmps8
  go_wp2_with (first
   | (go_at_call 18; have hbd := fair18_any _ p _ g 2 _ (HPV.out _ (box2_bel HW)) (HGV.out _ (box2_bel HW)); rw [HFS.out] at hbd; refine hbd.mono ?_; rintro e w1 ⟨vF, rfl, hS, hb⟩; obtain ⟨AF, cF, BF, dF, rfl⟩ := hS; replace HW := (HW.trans hb).alloc (.cells #[.slice AF sF.enabled.length cF, .slice BF sF.arcs.length dF] 35); clear hb hbd; (try clear p0 p1 p2 g0 g1 gsz); obtain ⟨p0, p1, p2, g0, g1, gsz⟩ := pgbox HW)
   | (go_at_call 10; refine (awake18_any _ (HT.out _ (box2_bel HW))).mono ?_; rintro e w' ⟨rfl, hb⟩; replace HW := HW.trans hb; clear hb; (try clear p0 p1 p2 g0 g1 gsz); obtain ⟨p0, p1, p2, g0, g1, gsz⟩ := pgbox HW))
  go_ret
  exact ⟨rfl, box2_bel HW⟩
 | true =>
  obtain ⟨hL, hG, _, h5, n, hn, ht, hf, hsz, hn1, hbd0⟩ := HYES.out rfl
  have HL := Lib.hid hL
  have HGL := Lib.hid hG
  have HFW : Hid ((totalF p g).2 = 0 → sizeF p g ≤ 200 ∧ g.ports.length ≤ 5) := fun _ => ⟨by omega, h5⟩
  have HGO := Lib.hid (fits_zero hf).2.1
  have HVA := Lib.hid (space_valid (kind := 2) hf hsz (by decide) h5)
  have HWF := Lib.hid (space_wf (kind := 2) hf hsz (by decide) h5)
  have HLI := Lib.hid (space_light (kind := 2) hf hsz hn h5)
  obtain ⟨k, hk⟩ := Int.eq_ofNat_of_zero_le (show 0 ≤ modF kk (n : Int) from Int.emod_nonneg kk (by omega))
  have hkn : k < n := by have : modF kk (n : Int) < (n : Int) := Int.emod_lt_of_pos kk (by omega); omega
  have HMOD := Lib.hid hk
  have hm : memF p g (confK p g k) = 0 := confK_mem hf (by omega)
  have hl31 := arcs_31 (kind := 2) hm h5
  have HEL := Lib.hid (esF_length p g n)
  have HLL := Lib.hid (lsF_length p g 2 n)
  have HLA : ∀ u, u < n → (lsF p g 2 n)[u]? = some (arcsOf p g 2 (confK p g u)) := fun u hu => by rw [List.getElem?_eq_getElem (by rw [lsF_length]; exact hu), lsF_at p g 2 hu]
  have HL31 : Hid (∀ u, u < n → (arcsOf p g 2 (confK p g u)).length ≤ 31) := fun u hu => arcs_31 (confK_mem hf (by omega)) h5
  have HAT : Hid (∀ i, (hi : i < (arcsOf p g 2 (confK p g k)).length) → ∃ X U, (arcsOf p g 2 (confK p g k))[i] = (X, U) ∧ X < 4294967296 ∧ indepF g X = true ∧ ∀ P, P &&& X = P → P ≠ 0 → P ≠ X → ∃ kd : Nat, kd < n ∧ firstT (arcsOf p g 2 (confK p g k)) P = (kd : Int) ∧ firstT (arcsOf p g 2 (confK p g kd)) (diffF X P) = U) := by
   intro i hi
   obtain ⟨X, hX, e⟩ := arcs_at hi
   exact ⟨X, _, e, (choice_step hm (by decide) h5 hX).1, choice_indep hm h5 hX, fun P a b c => split_arcs hf hsz hkn h5 hX a b c⟩
  obtain ⟨es, hes⟩ : ∃ es, esF p g n = es := ⟨_, rfl⟩
  obtain ⟨ls, hls⟩ : ∃ ls, lsF p g 2 n = ls := ⟨_, rfl⟩
  rw [hes] at HEL
  rw [hls] at HLL
  rw [hls] at HLA
  replace HLA := Lib.hid HLA
  rw [hes, hls] at hbd0 HVA HWF HLI
  have HBF := Lib.hid hbd0
  have hkL : k < ls.length := by rw [HLL.out]; exact hkn
  have hkLI : (k : Int) < (ls.length : Int) := by omega
  have HEL2 := Lib.hid (show (ls.length : Int) = (n : Int) by rw [HLL.out])
  have hlk0 := HLA.out k hkn
  obtain ⟨l, hla⟩ : ∃ l, arcsOf p g 2 (confK p g k) = l := ⟨_, rfl⟩
  rw [hla] at hlk0 hl31 HAT
  have HLKL : Hid (arcsOf p g 2 (confK p g k) = l) := hla
  have HLK : Hid (ls[k] = l) := (List.getElem?_eq_some_iff.1 hlk0).2
  have hn200 : n ≤ 200 := hn
  clear hL hG h5 ht hf hsz hbd0 HYES hes hls hk hm hla hn hlk0
  have hcase : l = [] ∨ 0 < l.length := by cases l with
   | nil => exact .inl rfl
   | cons a l => exact .inr (by simp)
  rcases hcase with rfl | hl0
  ·go_enter Tryz.func8, Tryz.ntmps8
   go_wp2_with (first
    | (go_at_call 18; have hbd := fair18_any _ p _ g 2 _ (HPV.out _ (box2_bel HW)) (HGV.out _ (box2_bel HW)); rw [HFS.out] at hbd; refine hbd.mono ?_; rintro e w1 ⟨vF, rfl, hS, hb⟩; obtain ⟨AF, cF, BF, dF, rfl⟩ := hS; replace HW := (HW.trans hb).alloc (.cells #[.slice AF sF.enabled.length cF, .slice BF sF.arcs.length dF] 35); clear hb hbd; (try clear p0 p1 p2 g0 g1 gsz); obtain ⟨p0, p1, p2, g0, g1, gsz⟩ := pgbox HW)
    | (go_at_call 11; have hbd := spaceBuild_any _ p _ g 2 _ (HPV.out _ (box2_bel HW)) (HGV.out _ (box2_bel HW)) (HT.out _ (box2_bel HW)) HL.out HGL.out HFW.out; rw [HBF.out] at hbd; refine hbd.mono ?_; rintro e w2 ⟨vS, rfl, hS, hb⟩; have HS1 := Lib.hid (fun w3 (kk : Bel w2 w3) => hS.keep kk); obtain ⟨AE, cE, AA, cA, rfl, _, hA, _⟩ := (id hS : SpaceV _ _ _); obtain ⟨bA, oA, R, rc, rfl, hbA, x1, hR, _, _⟩ := hA.at_ k hkL; dsimp only at x1; rw [HLK.out] at x1; have X1 := Lib.hid x1; have HN := Lib.hid (Blk.new w2 #[.slice AE es.length cE, .slice (some ⟨bA, oA, none⟩) ls.length cA] 35); replace HW := (HW.trans hb).alloc (.cells #[.slice AE es.length cE, .slice (some ⟨bA, oA, none⟩) ls.length cA] 35); have hN0 := HN.out.cell 0 (v := .slice AE es.length cE) rfl; have hN1 := HN.out.cell 1 (v := .slice (some ⟨bA, oA, none⟩) ls.length cA) rfl; have hNl := HN.out.lt; have HB2 := (Bel.refl w2).alloc (.cells #[.slice AE es.length cE, .slice (some ⟨bA, oA, none⟩) ls.length cA] 35); clear hb hS hbd x1 hA hR; (try clear p0 p1 p2 g0 g1 gsz))
    | (go_at_call 19; refine (refSpaceValid_any _ ⟨es, ls⟩ _ (HS1.out _ HB2) HWF.out HLI.out).mono ?_; rintro e w3 ⟨rfl, hb⟩; rw [HVA.out]; have M1 := HN.out.keep hb; have m0 := M1.cell 0 (v := .slice AE es.length cE) rfl; have m1 := M1.cell 1 (v := .slice (some ⟨bA, oA, none⟩) ls.length cA) rfl; have ml := M1.lt; replace HB2 := HB2.trans hb; have x1 := (HB2.cell hbA).trans X1.out; have xl := Nat.lt_of_lt_of_le hbA HB2.size; clear M1; replace HW := HW.trans hb; clear hb; (try clear p0 p1 p2 g0 g1 gsz); obtain ⟨p0, p1, p2, g0, g1, gsz⟩ := pgbox HW)
    | (go_at_call 20; rw [HEL2.out]; refine (mod_any _ _ _ (by omega) (by omega)).mono ?_; rintro e w' ⟨rfl, rfl⟩; rw [HMOD.out])
    | (go_at_call 10; refine (awake18_any _ (HT.out _ (box2_bel HW))).mono ?_; rintro e w' ⟨rfl, hb⟩; replace HW := HW.trans hb; clear hb; (try clear p0 p1 p2 g0 g1 gsz); obtain ⟨p0, p1, p2, g0, g1, gsz⟩ := pgbox HW))
   go_ret
   exact ⟨rfl, box2_bel HW⟩
  ·obtain ⟨i, hi⟩ := Int.eq_ofNat_of_zero_le (show 0 ≤ modF ii (l.length : Int) from Int.emod_nonneg ii (by omega))
   have hil : i < l.length := by have : modF ii (l.length : Int) < (l.length : Int) := Int.emod_lt_of_pos ii (by omega); omega
   have hilI : (i : Int) < (l.length : Int) := by omega
   have HMODI := Lib.hid hi
   obtain ⟨X, U, hx, hX32, hXi, hsp⟩ := HAT.out i hil
   have HXI := Lib.hid hXi
   have HSP := Lib.hid hsp
   have HXE := Lib.hid hx
   have hba := bits_and (S := P0) (T := X) hP0 hX32
   have hl0n : l.length ≠ 0 := by omega
   have hl0e : (l.length == 0) = false := by simpa using hl0n
   have hl0I : ((l.length : Int) == 0) = false := by simpa using hl0n
   clear hi hx hXi hsp HAT
   go_enter Tryz.func8, Tryz.ntmps8
   go_upto_region 10 with (first
    | (go_at_call 18; have hbd := fair18_any _ p _ g 2 _ (HPV.out _ (box2_bel HW)) (HGV.out _ (box2_bel HW)); rw [HFS.out] at hbd; refine hbd.mono ?_; rintro e w1 ⟨vF, rfl, hS, hb⟩; obtain ⟨AF, cF, BF, dF, rfl⟩ := hS; replace HW := (HW.trans hb).alloc (.cells #[.slice AF sF.enabled.length cF, .slice BF sF.arcs.length dF] 35); clear hb hbd; (try clear p0 p1 p2 g0 g1 gsz); obtain ⟨p0, p1, p2, g0, g1, gsz⟩ := pgbox HW)
    | (go_at_call 11; have hbd := spaceBuild_any _ p _ g 2 _ (HPV.out _ (box2_bel HW)) (HGV.out _ (box2_bel HW)) (HT.out _ (box2_bel HW)) HL.out HGL.out HFW.out; rw [HBF.out] at hbd; refine hbd.mono ?_; rintro e w2 ⟨vS, rfl, hS, hb⟩; have HS1 := Lib.hid (fun w3 (kk : Bel w2 w3) => hS.keep kk); obtain ⟨AE, cE, AA, cA, rfl, _, hA, _⟩ := (id hS : SpaceV _ _ _); obtain ⟨bA, oA, R, rc, rfl, hbA, x1, hR, _, _⟩ := hA.at_ k hkL; dsimp only at x1 hR; rw [HLK.out] at x1 hR; have X1 := Lib.hid x1; have HN := Lib.hid (Blk.new w2 #[.slice AE es.length cE, .slice (some ⟨bA, oA, none⟩) ls.length cA] 35); replace HW := (HW.trans hb).alloc (.cells #[.slice AE es.length cE, .slice (some ⟨bA, oA, none⟩) ls.length cA] 35); have hN0 := HN.out.cell 0 (v := .slice AE es.length cE) rfl; have hN1 := HN.out.cell 1 (v := .slice (some ⟨bA, oA, none⟩) ls.length cA) rfl; have hNl := HN.out.lt; have HR := Lib.hid (fun w3 (kk : Bel w2 w3) => hR.keep kk); have HB2 := (Bel.refl w2).alloc (.cells #[.slice AE es.length cE, .slice (some ⟨bA, oA, none⟩) ls.length cA] 35); clear hb hS hbd x1 hA hR; (try clear p0 p1 p2 g0 g1 gsz))
    | (go_at_call 19; refine (refSpaceValid_any _ ⟨es, ls⟩ _ (HS1.out _ HB2) HWF.out HLI.out).mono ?_; rintro e w3 ⟨rfl, hb⟩; rw [HVA.out]; have M1 := HN.out.keep hb; have m0 := M1.cell 0 (v := .slice AE es.length cE) rfl; have m1 := M1.cell 1 (v := .slice (some ⟨bA, oA, none⟩) ls.length cA) rfl; have ml := M1.lt; have HM1 := Lib.hid M1; replace HB2 := HB2.trans hb; have x1 := (HB2.cell hbA).trans X1.out; have xl := Nat.lt_of_lt_of_le hbA HB2.size; clear M1; replace HW := HW.trans hb; clear hb; (try clear p0 p1 p2 g0 g1 gsz); obtain ⟨p0, p1, p2, g0, g1, gsz⟩ := pgbox HW)
    | (go_at_call 20; rw [HEL2.out]; refine (mod_any _ _ _ (by omega) (by omega)).mono ?_; rintro e w' ⟨rfl, rfl⟩; rw [HMOD.out]))
   obtain ⟨b, o, rfl, hbb, c0, c1⟩ := (HR.out _ HB2).at_ i hil
   rw [HXE.out] at c0 c1
   dsimp only at c0 c1
   have hcell := Lib.hid (fun w' (kk : Bel w3 w') => show w'.cell? ⟨w2.heap.size, 1, none⟩ = some (.slice (some ⟨bA, oA, none⟩) ls.length cA) ∧ w'.cell? ⟨bA, oA + k, none⟩ = some (.slice (some ⟨b, o, none⟩) l.length rc) ∧ w'.cell? ⟨b, o + i * 2, none⟩ = some (.int .u32 (X : Int)) ∧ w'.cell? ⟨b, o + i * 2 + 1, none⟩ = some (.int .i64 U) ∧ w2.heap.size < w'.heap.size ∧ bA < w'.heap.size ∧ b < w'.heap.size from ⟨(kk.cell ml).trans m1, (kk.cell xl).trans x1, (kk.cell hbb).trans c0, (kk.cell hbb).trans c1, Nat.lt_of_lt_of_le ml kk.size, Nat.lt_of_lt_of_le xl kk.size, Nat.lt_of_lt_of_le hbb kk.size⟩)
   have HBr := (Bel.refl w3).drew
   clear c0 c1 x1 xl m0 m1 ml
   go_region_held3 (fun w' => w'.cell? ⟨w2.heap.size, 1, none⟩ = some (.slice (some ⟨bA, oA, none⟩) ls.length cA) ∧ w'.cell? ⟨bA, oA + k, none⟩ = some (.slice (some ⟨b, o, none⟩) l.length rc) ∧ w'.cell? ⟨b, o + i * 2, none⟩ = some (.int .u32 (X : Int)) ∧ w'.cell? ⟨b, o + i * 2 + 1, none⟩ = some (.int .i64 U) ∧ w2.heap.size < w'.heap.size ∧ bA < w'.heap.size ∧ b < w'.heap.size) (first | exact hcell.out _ HBr | exact hcell.out _ (HBr.alloc _) | exact hcell.out _ (((HBr.alloc _).setCell (by simp) _).setCell (by simp) _)) ((go_simp; go_at_call 20; refine (mod_any _ _ _ (by omega) (by omega)).mono ?_; rintro e w' ⟨rfl, rfl⟩; rw [HMODI.out]))
   all_goals
    have HBA : Bel w3 (w3.alloc (.cells #[.int .u32 (X : Int), .int .i64 U] 56)).drew := ((Bel.refl w3).alloc _).drew
    have HNA := Lib.hid ((Blk.new w3 #[.int .u32 (X : Int), .int .i64 U] 56).keep ((Bel.refl _).drew))
    have HMA := Lib.hid (HM1.out.keep HBA)
    have HBW := Lib.hid (HB2.trans HBA)
    replace HW := HW.trans HBA
    generalize (w3.alloc (.cells #[.int .u32 (X : Int), .int .i64 U] 56)).drew = W1 at *
    clear HBA HBr hcell p0 p1 p2 g0 g1 gsz
    obtain ⟨p0, p1, p2, g0, g1, gsz⟩ := pgbox HW
    have a0 := HNA.out.cell 0 (v := .int .u32 (X : Int)) rfl
    have al := HNA.out.lt
    have hPX : (P0 &&& X) &&& X = P0 &&& X := by rw [Nat.and_assoc, Nat.and_self]
    have hP32 : P0 &&& X < 4294967296 := Nat.lt_of_le_of_lt Nat.and_le_right hX32
    generalize P0 &&& X = P at *
    by_cases hcs : P = 0 ∨ P = X
    ·have hor : (((P : Int) == 0) = true) ∨ (((P : Int) == 0) = false ∧ ((P : Int) == (X : Int)) = true) := by
      by_cases h0 : P = 0
      ·left; simp [h0]
      ·right
       rcases hcs with h | h
       ·exact absurd h h0
       ·exact ⟨by simp; exact h0, by simp [h]⟩
     clear hcs
     rcases hor with z0 | ⟨z0, z1⟩
     all_goals
      go_wp2_with (first
       | (go_at_call 10; refine (awake18_any _ (HT.out _ (box2_bel HW))).mono ?_; rintro e w5 ⟨rfl, hb⟩; have a0 := (HNA.out.keep hb).cell 0 (v := .int .u32 (X : Int)) rfl; have al := (HNA.out.keep hb).lt; replace HW := HW.trans hb; clear hb; (try clear p0 p1 p2 g0 g1 gsz); obtain ⟨p0, p1, p2, g0, g1, gsz⟩ := pgbox HW)
       | (go_at_call 28; refine (refIndep_any _ g X _ (HGV.out _ (box2_bel HW)) HGO.out HGL.out hX32).mono ?_; rintro e w6 ⟨rfl, hb⟩; rw [HXI.out]; replace HW := HW.trans hb; clear hb; (try clear p0 p1 p2 g0 g1 gsz); obtain ⟨p0, p1, p2, g0, g1, gsz⟩ := pgbox HW))
      go_ret
      exact ⟨by simp, box2_bel HW⟩
    ·obtain ⟨hP0', hPX'⟩ := not_or.1 hcs
     obtain ⟨kd, hkd, t1, t2⟩ := HSP.out P hPX hP0' hPX'
     have hlk1 : (Spc.mk es ls).arcs[k] = l := HLK.out
     have T1 : Hid (firstT (Spc.mk es ls).arcs[k] P = (kd : Int)) := by show _ = _; rw [hlk1]; exact t1
     have hkdl : kd < ls.length := by rw [HLL.out]; exact hkd
     have hlk2 : (Spc.mk es ls).arcs[kd] = arcsOf p g 2 (confK p g kd) := (List.getElem?_eq_some_iff.1 (HLA.out kd hkd)).2
     have T2 : Hid (firstT (Spc.mk es ls).arcs[kd] (diffF X P) = U) := by show _ = _; rw [hlk2]; exact t2
     have L1 : Hid ((Spc.mk es ls).arcs[k].length ≤ 1000000) := by show _ ≤ _; rw [hlk1]; omega
     have L2 : Hid ((Spc.mk es ls).arcs[kd].length ≤ 1000000) := by show _ ≤ _; rw [hlk2]; have := HL31.out kd hkd; omega
     have z0 : ((P : Int) == 0) = false := by simp; exact hP0'
     have z1 : ((P : Int) == (X : Int)) = false := by simp; omega
     have zk : decide ((kd : Int) < 0) = false := by simp
     have hbn := bits_andNot X P
     have s0 := HMA.out.cell 0 (v := .slice AE es.length cE) rfl
     have s1 := HMA.out.cell 1 (v := .slice (some ⟨bA, oA, none⟩) ls.length cA) rfl
     have sl := HMA.out.lt
     clear hcs hP0' hPX' t1 t2 hlk1 hlk2
     go_upto_region 17 with (go_at_call 29; have ht := target_any _ ⟨es, ls⟩ k P _ (HS1.out _ HBW.out) hkL L1.out; rw [T1.out] at ht; refine ht.mono ?_; rintro e w4 ⟨rfl, hb⟩; have HB4 := Lib.hid hb; clear ht; replace HW := HW.trans hb; clear hb; (try clear p0 p1 p2 g0 g1 gsz); obtain ⟨p0, p1, p2, g0, g1, gsz⟩ := pgbox HW)
     have hcell := Lib.hid (fun w' (kk : Bel w4 w') => show w'.cell? ⟨w2.heap.size, 0, none⟩ = some (.slice AE es.length cE) ∧ w'.cell? ⟨w2.heap.size, 1, none⟩ = some (.slice (some ⟨bA, oA, none⟩) ls.length cA) ∧ w'.cell? ⟨w3.heap.size, 0, none⟩ = some (.int .u32 (X : Int)) ∧ w'.cell? ⟨w3.heap.size, 1, none⟩ = some (.int .i64 U) ∧ w2.heap.size < w'.heap.size ∧ w3.heap.size < w'.heap.size from ⟨(HMA.out.keep (HB4.out.trans kk)).cell 0 rfl, (HMA.out.keep (HB4.out.trans kk)).cell 1 rfl, (HNA.out.keep (HB4.out.trans kk)).cell 0 rfl, (HNA.out.keep (HB4.out.trans kk)).cell 1 rfl, (HMA.out.keep (HB4.out.trans kk)).lt, (HNA.out.keep (HB4.out.trans kk)).lt⟩)
     have HBr := (Bel.refl w4).drew
     replace HW := HW.drew
     clear s0 s1 sl a0 al p0 p1 p2 g0 g1 gsz
     go_region_held3 (fun w' => w'.cell? ⟨w2.heap.size, 0, none⟩ = some (.slice AE es.length cE) ∧ w'.cell? ⟨w2.heap.size, 1, none⟩ = some (.slice (some ⟨bA, oA, none⟩) ls.length cA) ∧ w'.cell? ⟨w3.heap.size, 0, none⟩ = some (.int .u32 (X : Int)) ∧ w'.cell? ⟨w3.heap.size, 1, none⟩ = some (.int .i64 U) ∧ w2.heap.size < w'.heap.size ∧ w3.heap.size < w'.heap.size) (exact hcell.out _ HBr) (first
      | (go_simp; go_at_call 10; refine (awake18_any _ (HT.out _ (box2_bel HW))).mono ?_; rintro e w5 ⟨rfl, hb⟩; replace HW := HW.trans hb; replace HBr := HBr.trans hb; clear hb)
      | (go_simp; go_at_call 29; have ht := target_any _ ⟨es, ls⟩ kd (diffF X P) _ (HS1.out _ (HBW.out.trans (HB4.out.trans HBr))) hkdl L2.out; rw [T2.out] at ht; refine ht.mono ?_; rintro e w6 ⟨rfl, hb⟩; replace HW := HW.trans hb; replace HBr := HBr.trans hb; clear hb ht))
     all_goals
      go_wp2_with fail
      go_ret
      exact ⟨by simp, box2_bel HW⟩

end Go.Proofs.YtgemlgpjbclonaaGreatDoor

