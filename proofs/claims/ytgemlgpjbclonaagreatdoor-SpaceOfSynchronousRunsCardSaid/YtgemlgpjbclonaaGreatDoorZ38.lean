/- Merged of: L18d (see NOTES.md). -/
import Derived.Test.YtgemlgpjbclonaaGreatDoorZ32
import Derived.Test.YtgemlgpjbclonaaGreatDoorZ37
import Derived.BigQuiet
set_option linter.unusedSimpArgs false
set_option linter.unnecessarySimpa false
set_option linter.unusedVariables false

/- The walk of SpaceOfSynchronousRuns. -/
namespace Go.Proofs.YtgemlgpjbclonaaGreatDoor
open Go.RowKit

/-- Under the synchronous daemon there is one step, of all enabled nodes, or none. -/
theorem sync_arcs (p : Prg) (g : Graph) (c : Config) : (enabF p g c = 0 ∧ arcsOf p g 4 c = []) ∨ (enabF p g c ≠ 0 ∧ ∃ T, arcsOf p g 4 c = [(enabF p g c, T)]) := by
 unfold arcsOf choicesF
 by_cases h : enabF p g c = 0
 ·left; rw [if_pos h]; exact ⟨h, rfl⟩
 ·right; rw [if_neg h, if_neg (by decide), if_pos rfl]; exact ⟨h, _, rfl⟩
theorem sync_at (p : Prg) (g : Graph) (n k : Nat) (hk : k < n) : ∃ E l, (esF p g n)[k]? = some E ∧ (lsF p g 4 n)[k]? = some l ∧ ((E = 0 ∧ l = []) ∨ (E ≠ 0 ∧ ∃ T, l = [(E, T)])) := by
 refine ⟨_, _, ?_, ?_, sync_arcs p g (confK p g k)⟩
 ·rw [List.getElem?_eq_getElem (by rw [esF_length]; exact hk), esF_at p g hk]
 ·rw [List.getElem?_eq_getElem (by rw [lsF_length]; exact hk), lsF_at p g 4 hk]

set_option maxRecDepth 100000 in
set_option maxHeartbeats 4000000 in
theorem spaceSync_walk (v1 : Value) (p : Prg) (v2 : Value) (g : Graph) (w : World) (h : PrgV w v1 p) (h2 : GraphV w v2 g) (hT : Tab32 w) :
  Calls Tryz.prog 7 #[v1, v2] w fun e w' => e = .returned (.bool true) ∧ Bel w w' := by
 have HPV := Lib.hid (fun w' (k : Bel w w') => h.keep k)
 have HGV := Lib.hid (fun w' (k : Bel w w') => h2.keep k)
 have HT := Lib.hid (fun w' (k : Bel w w') => hT.keep k)
 obtain ⟨A1, k1, A2, k2, rfl, _, _, _, _, _, _⟩ := h
 obtain ⟨A3, k3, A4, k4, rfl, _, _, _, _, _, _⟩ := h2
 have HW := Bel.refl ((w.alloc (.cells #[.string p.name, .slice A1 p.vars.length k1, .slice A2 p.rules.length k2] 25)).alloc (.cells #[.slice A3 g.ids.length k3, .slice A4 g.ports.length k4] 29))
 clear hT
 obtain ⟨fs, hfs⟩ : ∃ fs, fairS p g 4 = fs := ⟨_, rfl⟩
 obtain ⟨sF, bF⟩ := fs
 have HFS := Lib.hid hfs
 have HYES : Hid (bF = true → _) := fun hb => fairS_yes (p := p) (g := g) (kind := 4) (by rw [hfs]; exact hb)
 clear hfs
 cases bF with
 | false =>
  clear HYES
  go_enter Tryz.func7, Tryz.ntmps7
  go_wp2_with (first
   | (go_at_call 18; have hbd := fair18_any _ p _ g 4 _ (HPV.out _ (box2_bel HW)) (HGV.out _ (box2_bel HW)); rw [HFS.out] at hbd; refine hbd.mono ?_; rintro e w1 ⟨vF, rfl, hS, hb⟩; obtain ⟨AF, cF, BF, dF, rfl⟩ := hS; replace HW := (HW.trans hb).alloc (.cells #[.slice AF sF.enabled.length cF, .slice BF sF.arcs.length dF] 35); clear hb hbd; (try clear p0 p1 p2 g0 g1 gsz); obtain ⟨p0, p1, p2, g0, g1, gsz⟩ := pgbox HW)
   | (go_at_call 10; refine (awake18_any _ (HT.out _ (box2_bel HW))).mono ?_; rintro e w' ⟨rfl, hb⟩; replace HW := HW.trans hb; clear hb; (try clear p0 p1 p2 g0 g1 gsz); obtain ⟨p0, p1, p2, g0, g1, gsz⟩ := pgbox HW))
  go_ret
  exact ⟨rfl, box2_bel HW⟩
 | true =>
  obtain ⟨hL, hG, hkd, h5, n, hn, ht, hf, hsz, hn1, hbd0⟩ := HYES.out rfl
  have HL := Lib.hid hL
  have HGL := Lib.hid hG
  have HFW : Hid ((totalF p g).2 = 0 → sizeF p g ≤ 200 ∧ g.ports.length ≤ 5) := fun _ => ⟨by omega, h5⟩
  have HAT := sync_at p g n
  have HEL := Lib.hid (esF_length p g n)
  have HLL := Lib.hid (lsF_length p g 4 n)
  obtain ⟨es, hes⟩ : ∃ es, esF p g n = es := ⟨_, rfl⟩
  obtain ⟨ls, hls⟩ : ∃ ls, lsF p g 4 n = ls := ⟨_, rfl⟩
  rw [hes] at HEL
  rw [hls] at HLL
  rw [hes, hls] at hbd0
  rw [hes, hls] at HAT
  replace HAT := Lib.hid HAT
  have HBF := Lib.hid hbd0
  have hne : (ls.length != es.length) = false := by rw [HEL.out, HLL.out]; simp
  have hneI : ((ls.length : Int) != (es.length : Int)) = false := by rw [HEL.out, HLL.out]; simp
  have hpos : decide (0 < ls.length) = true := by rw [HLL.out]; simp; omega
  have hposI : decide ((0 : Int) < (ls.length : Int)) = true := by rw [HLL.out]; simp; omega
  have hl200 : ls.length ≤ 200 := by rw [HLL.out]; exact hn
  clear hL hG hkd h5 ht hf hsz hbd0 HYES hes hls
  go_enter Tryz.func7, Tryz.ntmps7
  go_wp2_with (first
   | (go_at_call 18; have hbd := fair18_any _ p _ g 4 _ (HPV.out _ (box2_bel HW)) (HGV.out _ (box2_bel HW)); rw [HFS.out] at hbd; refine hbd.mono ?_; rintro e w1 ⟨vF, rfl, hS, hb⟩; obtain ⟨AF, cF, BF, dF, rfl⟩ := hS; replace HW := (HW.trans hb).alloc (.cells #[.slice AF sF.enabled.length cF, .slice BF sF.arcs.length dF] 35); clear hb hbd; (try clear p0 p1 p2 g0 g1 gsz); obtain ⟨p0, p1, p2, g0, g1, gsz⟩ := pgbox HW)
   | (go_at_call 11; have hbd := spaceBuild_any _ p _ g 4 _ (HPV.out _ (box2_bel HW)) (HGV.out _ (box2_bel HW)) (HT.out _ (box2_bel HW)) HL.out HGL.out HFW.out; rw [HBF.out] at hbd; refine hbd.mono ?_; rintro e w2 ⟨vS, rfl, hS, hb⟩; have HS1 := Lib.hid (fun w3 (kk : Bel w2 w3) => hS.keep kk); obtain ⟨AE, cE, AA, cA, rfl, _⟩ := (id hS : SpaceV _ _ _); have HN := Lib.hid (Blk.new w2 #[.slice AE es.length cE, .slice AA ls.length cA] 35); replace HW := (HW.trans hb).alloc (.cells #[.slice AE es.length cE, .slice AA ls.length cA] 35); have hN0 := HN.out.cell 0 (v := .slice AE es.length cE) rfl; have hN1 := HN.out.cell 1 (v := .slice AA ls.length cA) rfl; have hNl := HN.out.lt; have HWN := Lib.hid HW; clear hb hS hbd; (try clear p0 p1 p2 g0 g1 gsz)))
  have HB := Bel.refl (w2.alloc (.cells #[.slice AE es.length cE, .slice AA ls.length cA] 35))
  clear hN0 hN1 hNl HW hne hneI
  go_loopg [9] ls.length (fun m z wr => ∃ k : Nat, k ≤ ls.length ∧ m = ls.length - k ∧ z = .int .i64 (k : Int) ∧ Bel (w2.alloc (.cells #[.slice AE es.length cE, .slice AA ls.length cA] 35)) wr)
  case atStart => exact ⟨0, by omega, rfl, rfl, HB⟩
  case round =>
   clear HB
   obtain ⟨k, hk, rfl, rfl, HB⟩ := hrel
   have HNk := HN.out.keep HB
   have q0 := HNk.cell 0 (v := .slice AE es.length cE) rfl
   have q1 := HNk.cell 1 (v := .slice AA ls.length cA) rfl
   have ql := HNk.lt
   clear HNk
   by_cases hlt : k < ls.length
   ·have hd0 : decide (k < ls.length) = true := by simpa using hlt
    obtain ⟨E, l, hE1, hl1, hcase⟩ := HAT.out k (by rw [← HLL.out]; exact hlt)
    obtain ⟨hkE, hE1⟩ := List.getElem?_eq_some_iff.1 hE1
    obtain ⟨hkL, hl1⟩ := List.getElem?_eq_some_iff.1 hl1
    have hB2 : Bel w2 wr := ((Bel.refl w2).alloc _).trans HB
    obtain ⟨AE', cE', AA', cA', hag, hE, hA, _, _, _, _⟩ := HS1.out wr hB2
    obtain ⟨rfl, rfl, rfl, rfl⟩ : AE = AE' ∧ cE = cE' ∧ AA = AA' ∧ cA = cA' := by simpa [and_assoc] using hag
    obtain ⟨bE, oE, rfl, hbE, x0⟩ := hE.at_ k hkE
    obtain ⟨bA, oA, R, rc, rfl, hbA, x1, hR, _, _⟩ := hA.at_ k hkL
    have hkI : (k : Int) < (ls.length : Int) := by omega
    have hkEI : (k : Int) < (es.length : Int) := by omega
    dsimp only at x0 x1 hR
    rw [hE1] at x0
    rw [hl1] at x1 hR
    clear hE hA hag hB2 hE1 hl1
    rcases hcase with ⟨rfl, rfl⟩ | ⟨c1, T, rfl⟩
    ·clear hR
     go_wp2_with fail
     go_quiet (fail)
     go_wp2_with fail
     go_roundg (ls.length - (k + 1))
     case rel => exact ⟨k + 1, by omega, rfl, by go_num, HB.drewN _⟩
     case measure => omega
    ·obtain ⟨b, o, rfl, hb1, y0, y1⟩ := hR.at_ 0 (by simp)
     simp only [List.getElem_cons_zero, Nat.zero_mul, Nat.add_zero] at y0 y1
     have e1 : (E != 0) = true := by simpa using c1
     have e1I : ((E : Int) != 0) = true := by simp; exact c1
     have e2 : (E == 0) = false := by simpa using c1
     have e2I : ((E : Int) == 0) = false := by simp; exact c1
     have e3 : (E != E) = false := by simp
     have e3I : ((E : Int) != (E : Int)) = false := by simp
     clear hR c1
     go_wp2_with fail
     go_quiet (fail)
     go_wp2_with fail
     go_roundg (ls.length - (k + 1))
     case rel => exact ⟨k + 1, by omega, rfl, by go_num, HB.drewN _⟩
     case measure => omega
   ·have hd0 : decide (k < ls.length) = false := by simpa using hlt
    have HW := HWN.out.trans HB
    go_wp2_with (go_at_call 10; refine (awake18_any _ (HT.out _ (box2_bel HW))).mono ?_; rintro e w3 ⟨rfl, hb⟩; have M1 := HN.out.keep (HB.trans hb); have m0 := M1.cell 0 (v := .slice AE es.length cE) rfl; have m1 := M1.cell 1 (v := .slice AA ls.length cA) rfl; have ml := M1.lt; replace HW := HW.trans hb; clear M1 hb)
    go_ret
    exact ⟨by simp, box2_bel HW⟩

end Go.Proofs.YtgemlgpjbclonaaGreatDoor

