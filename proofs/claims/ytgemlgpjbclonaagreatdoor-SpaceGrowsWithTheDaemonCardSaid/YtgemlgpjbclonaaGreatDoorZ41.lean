/- Merged of: L18f (see NOTES.md). -/
import Derived.Test.YtgemlgpjbclonaaGreatDoorZ32
import Derived.Test.YtgemlgpjbclonaaGreatDoorZ37
import Derived.Test.YtgemlgpjbclonaaGreatDoorZ39
import Derived.BigQuiet
set_option linter.unusedSimpArgs false
set_option linter.unnecessarySimpa false
set_option linter.unusedVariables false

/- The walk of SpaceGrowsWithTheDaemon. -/
namespace Go.Proofs.YtgemlgpjbclonaaGreatDoor
open Go.RowKit

theorem arcs_sub {p : Prg} {g : Graph} {a b : Int} {n : Nat} (hf : fitsF p g = 0) (hsz : sizeF p g = (n : Int)) (ha : kindB a = true) (hb : kindB b = true) (h5 : g.ports.length ≤ 5) (hw : withinF a b = true) {k : Nat} (hk : k < n) :
  ∃ la lb, (lsF p g a n)[k]? = some la ∧ (lsF p g b n)[k]? = some lb ∧ la.Sublist lb ∧ la.length ≤ 31 ∧ lb.length ≤ 31 := by
 have hm : memF p g (confK p g k) = 0 := confK_mem hf (by omega)
 refine ⟨arcsOf p g a (confK p g k), arcsOf p g b (confK p g k), ?_, ?_, ?_, arcs_31 hm h5, arcs_31 hm h5⟩
 ·rw [List.getElem?_eq_getElem (by rw [lsF_length]; exact hk), lsF_at p g a hk]
 ·rw [List.getElem?_eq_getElem (by rw [lsF_length]; exact hk), lsF_at p g b hk]
 unfold arcsOf
 exact (choices_sub (fits_zero hf).2.1 ha hb h5 (enab_pow hm) hw).map _
/-- The next element of a part of a list lies further on. -/
theorem sub_next {α : Type} {s t : List α} {j i : Nat} (h : (s.drop j).Sublist (t.drop i)) (hj : j < s.length) : ∃ hi : i < t.length, (t[i] = s[j] ∧ (s.drop (j + 1)).Sublist (t.drop i)) ∨ (s.drop j).Sublist (t.drop (i + 1)) := by
 have hi : i < t.length := by
  rcases Nat.lt_or_ge i t.length with h1 | h1
  ·exact h1
  ·have := h.length_le
   rw [List.drop_eq_nil_of_le h1] at this
   simp at this
   omega
 refine ⟨hi, ?_⟩
 rw [List.drop_eq_getElem_cons hj, List.drop_eq_getElem_cons hi] at h
 generalize hA : t[i] = x at h
 generalize hB : s[j] = y at h
 cases h with
 | cons _ h => right; rw [List.drop_eq_getElem_cons hj, hB]; exact h
 | cons_cons _ h => left; exact ⟨rfl, by rw [List.drop_eq_getElem_cons hi]; exact h.cons _⟩

theorem kind_mod {m : Int} (h : 0 ≤ m ∧ m < 4) : kindB (1 + m) = true := by unfold kindB; simp; omega
theorem sub_stop {α : Type} {s t : List α} {j i : Nat} (h : (s.drop j).Sublist (t.drop i)) : (s.drop (j + 1)).Sublist (t.drop i) := by
 have : s.drop (j + 1) = (s.drop j).drop 1 := by rw [List.drop_drop]
 rw [this]
 exact (List.drop_sublist _ _).trans h
theorem sub_in {α : Type} {s t : List α} {j i : Nat} (h : (s.drop j).Sublist (t.drop i)) (hj : j < s.length) : i < t.length := (sub_next h hj).1
theorem sub_go {α : Type} {s t : List α} {j i : Nat} (h : (s.drop j).Sublist (t.drop i)) (hj : j < s.length) (hi : i < t.length) (hne : t[i] ≠ s[j]) : (s.drop j).Sublist (t.drop (i + 1)) := by
 obtain ⟨_, ⟨e, _⟩ | e⟩ := sub_next h hj
 ·exact absurd e hne
 ·exact e

set_option maxRecDepth 100000 in
set_option maxHeartbeats 8000000 in
theorem spaceGrows_walk (v1 : Value) (p : Prg) (v2 : Value) (g : Graph) (a b : Int) (w : World) (h : PrgV w v1 p) (h2 : GraphV w v2 g) (hT : Tab32 w) :
  Calls Tryz.prog 6 #[v1, v2, .int .i64 a, .int .i64 b] w fun e w' => e = .returned (.bool true) ∧ Bel w w' := by
 have HPV := Lib.hid (fun w' (k : Bel w w') => h.keep k)
 have HGV := Lib.hid (fun w' (k : Bel w w') => h2.keep k)
 have HT := Lib.hid (fun w' (k : Bel w w') => hT.keep k)
 obtain ⟨A1, k1, A2, k2, rfl, _, _, _, _, _, _⟩ := h
 obtain ⟨A3, k3, A4, k4, rfl, _, _, _, _, _, _⟩ := h2
 have HW := Bel.refl ((w.alloc (.cells #[.string p.name, .slice A1 p.vars.length k1, .slice A2 p.rules.length k2] 25)).alloc (.cells #[.slice A3 g.ids.length k3, .slice A4 g.ports.length k4] 29))
 clear hT
 obtain ⟨ma, hma⟩ : ∃ ma, modF a 4 = ma := ⟨_, rfl⟩
 obtain ⟨mb, hmb⟩ : ∃ mb, modF b 4 = mb := ⟨_, rfl⟩
 have ra : 0 ≤ ma ∧ ma < 4 := by rw [← hma]; exact ⟨Int.emod_nonneg a (by omega), Int.emod_lt_of_pos a (by omega)⟩
 have rb : 0 ≤ mb ∧ mb < 4 := by rw [← hmb]; exact ⟨Int.emod_nonneg b (by omega), Int.emod_lt_of_pos b (by omega)⟩
 have HMA := Lib.hid hma
 have HMB := Lib.hid hmb
 have HKA := Lib.hid (kind_mod ra)
 have HKB := Lib.hid (kind_mod rb)
 obtain ⟨fa, hfa⟩ : ∃ fs, fairS p g (1 + ma) = fs := ⟨_, rfl⟩
 obtain ⟨fb, hfb⟩ : ∃ fs, fairS p g (1 + mb) = fs := ⟨_, rfl⟩
 obtain ⟨sA, bA⟩ := fa
 obtain ⟨sB, bB⟩ := fb
 have HFA := Lib.hid hfa
 have HFB := Lib.hid hfb
 have HYA : Hid (bA = true → _) := fun hb => fairS_yes (p := p) (g := g) (kind := 1 + ma) (by rw [hfa]; exact hb)
 have HYB : Hid (bB = true → _) := fun hb => fairS_yes (p := p) (g := g) (kind := 1 + mb) (by rw [hfb]; exact hb)
 obtain ⟨wi, hwi⟩ : ∃ wi, withinF (1 + ma) (1 + mb) = wi := ⟨_, rfl⟩
 have HWI := Lib.hid hwi
 clear hma hmb hfa hfb hwi
 by_cases hgo : bA = true ∧ bB = true ∧ wi = true
 ·obtain ⟨rfl, rfl, rfl⟩ := hgo
  obtain ⟨hL, hG, hka, h5, n, hn, ht, hf, hsz, hn1, hba⟩ := HYA.out rfl
  obtain ⟨_, _, hkb, _, n', _, _, _, hsz', _, hbb⟩ := HYB.out rfl
  obtain rfl : n = n' := by omega
  have HL := Lib.hid hL
  have HGL := Lib.hid hG
  have HFW : Hid ((totalF p g).2 = 0 → sizeF p g ≤ 200 ∧ g.ports.length ≤ 5) := fun _ => ⟨by omega, h5⟩
  have HSUB := fun (k : Nat) (hk : k < n) => arcs_sub (k := k) hf hsz hka hkb h5 HWI.out hk
  have HEL := Lib.hid (esF_length p g n)
  have HLA := Lib.hid (lsF_length p g (1 + ma) n)
  have HLB := Lib.hid (lsF_length p g (1 + mb) n)
  obtain ⟨es, hes⟩ : ∃ es, esF p g n = es := ⟨_, rfl⟩
  obtain ⟨ls, hls⟩ : ∃ ls, lsF p g (1 + ma) n = ls := ⟨_, rfl⟩
  obtain ⟨lt, hlt⟩ : ∃ lt, lsF p g (1 + mb) n = lt := ⟨_, rfl⟩
  rw [hes] at HEL hba hbb
  rw [hls] at HLA hba
  rw [hlt] at HLB hbb
  rw [hls, hlt] at HSUB
  replace HSUB := Lib.hid HSUB
  have HBA := Lib.hid hba
  have HBB := Lib.hid hbb
  have hne : (ls.length != lt.length) = false := by rw [HLA.out, HLB.out]; simp
  have hneI : ((ls.length : Int) != (lt.length : Int)) = false := by rw [HLA.out, HLB.out]; simp
  have hl200 : ls.length ≤ 200 := by rw [HLA.out]; exact hn
  have ht200 : lt.length ≤ 200 := by rw [HLB.out]; exact hn
  have he200 : es.length ≤ 1000000 := by rw [HEL.out]; omega
  clear hL hG hka hkb h5 ht hf hsz hsz' hba hbb HYA HYB hes hls hlt hn hn1
  go_enter Tryz.func6, Tryz.ntmps6
  go_upto_region 2 with (go_at_call 20; refine (mod_any _ _ _ (by omega) (by omega)).mono ?_; rintro e w' ⟨rfl, rfl⟩; first | rw [HMA.out] | rw [HMB.out])
  go_upto_region 3 with (go_at_call 18; have hbd := fair18_any _ p _ g (1 + ma) _ (HPV.out _ (box2_bel HW)) (HGV.out _ (box2_bel HW)); rw [HFA.out] at hbd; refine hbd.mono ?_; rintro e w1 ⟨vF, rfl, hS, hb⟩; obtain ⟨AF1, cF1, BF1, dF1, rfl⟩ := hS; replace HW := (HW.trans hb).alloc (.cells #[.slice AF1 sA.enabled.length cF1, .slice BF1 sA.arcs.length dF1] 35); clear hb hbd; (try clear p0 p1 p2 g0 g1 gsz); obtain ⟨p0, p1, p2, g0, g1, gsz⟩ := pgbox HW)
  go_upto_region 4 with (go_at_call 18; have hbd := fair18_any _ p _ g (1 + mb) _ (HPV.out _ (box2_bel HW)) (HGV.out _ (box2_bel HW)); rw [HFB.out] at hbd; refine hbd.mono ?_; rintro e w2 ⟨vF, rfl, hS, hb⟩; obtain ⟨AF2, cF2, BF2, dF2, rfl⟩ := hS; replace HW := (HW.trans hb).alloc (.cells #[.slice AF2 sB.enabled.length cF2, .slice BF2 sB.arcs.length dF2] 35); clear hb hbd; (try clear p0 p1 p2 g0 g1 gsz); obtain ⟨p0, p1, p2, g0, g1, gsz⟩ := pgbox HW)
  go_upto_region 7 with (first
   | (go_at_call 26; refine (refWithin_any _ _ _ HKA.out HKB.out).mono ?_; rintro e w' ⟨rfl, rfl⟩; rw [HWI.out])
   | (go_at_call 11; have hbd := spaceBuild_any _ p _ g (1 + ma) _ (HPV.out _ (box2_bel HW)) (HGV.out _ (box2_bel HW)) (HT.out _ (box2_bel HW)) HL.out HGL.out HFW.out; rw [HBA.out] at hbd; refine hbd.mono ?_; rintro e w3 ⟨vS, rfl, hS, hb⟩; have HS1 := Lib.hid (fun w' (kk : Bel w3 w') => hS.keep kk); obtain ⟨AE, cE, AA, cA, rfl, _⟩ := (id hS : SpaceV _ _ _); have HN := Lib.hid (Blk.new w3 #[.slice AE es.length cE, .slice AA ls.length cA] 35); have HB3 := Lib.hid ((Bel.refl w3).alloc (.cells #[.slice AE es.length cE, .slice AA ls.length cA] 35)); replace HW := (HW.trans hb).alloc (.cells #[.slice AE es.length cE, .slice AA ls.length cA] 35); clear hb hS hbd; (try clear p0 p1 p2 g0 g1 gsz); obtain ⟨p0, p1, p2, g0, g1, gsz⟩ := pgbox HW))
  go_upto_region 8 with (go_at_call 11; have hbd := spaceBuild_any _ p _ g (1 + mb) _ (HPV.out _ (box2_bel HW)) (HGV.out _ (box2_bel HW)) (HT.out _ (box2_bel HW)) HL.out HGL.out HFW.out; rw [HBB.out] at hbd; refine hbd.mono ?_; rintro e w4 ⟨vS, rfl, hS, hb⟩; have HS2 := Lib.hid (fun w' (kk : Bel w4 w') => hS.keep kk); obtain ⟨BE, dE, BA, dA, rfl, _⟩ := (id hS : SpaceV _ _ _); have HN2 := Lib.hid (Blk.new w4 #[.slice BE es.length dE, .slice BA lt.length dA] 35); have HB4 := Lib.hid ((Bel.refl w4).alloc (.cells #[.slice BE es.length dE, .slice BA lt.length dA] 35)); have HB34 := Lib.hid ((HB3.out.trans hb).alloc (.cells #[.slice BE es.length dE, .slice BA lt.length dA] 35)); have HNN := Lib.hid ((HN.out.keep hb).alloc (.cells #[.slice BE es.length dE, .slice BA lt.length dA] 35)); replace HW := (HW.trans hb).alloc (.cells #[.slice BE es.length dE, .slice BA lt.length dA] 35); have m0 := HNN.out.cell 0 (v := .slice AE es.length cE) rfl; have m1 := HNN.out.cell 1 (v := .slice AA ls.length cA) rfl; have ml := HNN.out.lt; have r0 := HN2.out.cell 0 (v := .slice BE es.length dE) rfl; have r1 := HN2.out.cell 1 (v := .slice BA lt.length dA) rfl; have rl := HN2.out.lt; clear hb hS hbd; (try clear p0 p1 p2 g0 g1 gsz))
  go_wp2_with (go_at_call 27; have hE1 : MasksR _ AE es.length es := (by obtain ⟨x1, x2, x3, x4, hx, h1, _⟩ := HS1.out _ HB34.out; obtain ⟨rfl, rfl, rfl, rfl⟩ : AE = x1 ∧ cE = x2 ∧ AA = x3 ∧ cA = x4 := (by simpa [and_assoc] using hx); exact h1); have hE2 : MasksR _ BE es.length es := (by obtain ⟨x1, x2, x3, x4, hx, h1, _⟩ := HS2.out _ HB4.out; obtain ⟨rfl, rfl, rfl, rfl⟩ : BE = x1 ∧ dE = x2 ∧ BA = x3 ∧ dA = x4 := (by simpa [and_assoc] using hx); exact h1); refine (refSameSets_any _ _ es _ _ _ hE1 hE2 he200).mono ?_; rintro e w5 ⟨rfl, hb⟩; have HB35 := Lib.hid (HB34.out.trans hb); have HB45 := Lib.hid (HB4.out.trans hb); have HN5 := Lib.hid (HNN.out.keep hb); have HN25 := Lib.hid (HN2.out.keep hb); replace HW := HW.trans hb; clear hb m0 m1 ml r0 r1 rl; have m0 := HN5.out.cell 0 (v := .slice AE es.length cE) rfl; have m1 := HN5.out.cell 1 (v := .slice AA ls.length cA) rfl; have ml := HN5.out.lt; have r0 := HN25.out.cell 0 (v := .slice BE es.length dE) rfl; have r1 := HN25.out.cell 1 (v := .slice BA lt.length dA) rfl; have rl := HN25.out.lt)
  have HW5 := Lib.hid HW
  have HB := Bel.refl w5
  clear m0 m1 ml r0 r1 rl HW hne hneI
  go_loopg [17] ls.length (fun m z wr => ∃ k : Nat, k ≤ ls.length ∧ m = ls.length - k ∧ z = .int .i64 (k : Int) ∧ Bel w5 wr)
  case atStart => exact ⟨0, by omega, rfl, rfl, HB⟩
  case round =>
   clear HB
   obtain ⟨k, hk, rfl, rfl, HB⟩ := hrel
   obtain ⟨wo, rfl⟩ : ∃ wo, wo = wr := ⟨_, rfl⟩
   have m1 := (HN5.out.keep HB).cell 1 (v := .slice AA ls.length cA) rfl
   have ml := (HN5.out.keep HB).lt
   by_cases hlt : k < ls.length
   ·have hd0 : decide (k < ls.length) = true := by simpa using hlt
    obtain ⟨la, lb, hla, hlb, hsub, hs31, ht31⟩ := HSUB.out k (by rw [← HLA.out]; exact hlt)
    obtain ⟨hk1, hla⟩ := List.getElem?_eq_some_iff.1 hla
    obtain ⟨hk2, hlb⟩ := List.getElem?_eq_some_iff.1 hlb
    obtain ⟨x1, x2, x3, x4, hx, _, hA, _, _, _, _⟩ := HS1.out wo (HB35.out.trans HB)
    obtain ⟨rfl, rfl, rfl, rfl⟩ : AE = x1 ∧ cE = x2 ∧ AA = x3 ∧ cA = x4 := by simpa [and_assoc] using hx
    obtain ⟨x1, x2, x3, x4, hx2, _, hA2, _, _, _, _⟩ := HS2.out wo (HB45.out.trans HB)
    obtain ⟨rfl, rfl, rfl, rfl⟩ : BE = x1 ∧ dE = x2 ∧ BA = x3 ∧ dA = x4 := by simpa [and_assoc] using hx2
    obtain ⟨c1, o1, R, rc, rfl, hc1, y1, hR, _, _⟩ := hA.at_ k hk1
    obtain ⟨c2, o2, Q, qc, rfl, hc2, y2, hQ, _, _⟩ := hA2.at_ k hk2
    dsimp only at y1 y2 hR hQ
    rw [hla] at y1 hR
    rw [hlb] at y2 hQ
    have HR := Lib.hid (fun w' (k : Bel wo w') => hR.keep k)
    have HQ := Lib.hid (fun w' (k : Bel wo w') => hQ.keep k)
    have Y1 := Lib.hid y1
    have Y2 := Lib.hid y2
    have HSB := Lib.hid hsub
    have hkI : (k : Int) < (ls.length : Int) := by omega
    have hkJ : (k : Int) < (lt.length : Int) := by omega
    clear hA hA2 hx hx2 hR hQ y1 y2 hsub hla hlb
    go_wp2_with fail
    clear m1 ml
    go_loopg [18, 19] la.length (fun m x z wr => ∃ i j : Nat, j ≤ la.length ∧ m = la.length - j ∧ i ≤ lb.length ∧ x = .int .i64 (i : Int) ∧ z = .int .i64 (j : Int) ∧ Hid ((la.drop j).Sublist (lb.drop i)) ∧ Bel wo wr)
    case atStart => exact ⟨0, 0, by omega, rfl, by omega, rfl, rfl, HSB, Bel.refl wo⟩
    case round =>
     obtain ⟨i, j, hj, rfl, hi, rfl, rfl, HSU, HB2⟩ := hrel
     obtain ⟨wp, rfl⟩ : ∃ wp, wp = wr := ⟨_, rfl⟩
     have m1 := (HN5.out.keep (HB.trans HB2)).cell 1 (v := .slice (some ⟨c1, o1, none⟩) ls.length cA) rfl
     have ml := (HN5.out.keep (HB.trans HB2)).lt
     have y1 := (HB2.cell hc1).trans Y1.out
     have yl := Nat.lt_of_lt_of_le hc1 HB2.size
     by_cases hja : j < la.length
     ·have hd1 : decide (j < la.length) = true := by simpa using hja
      have hil := sub_in HSU.out hja
      go_wp2_with fail
      clear m1 ml y1 yl
      go_loopg [18] (lb.length - i) (fun m x wr => ∃ i : Nat, i < lb.length ∧ m = lb.length - i ∧ x = .int .i64 (i : Int) ∧ Hid ((la.drop j).Sublist (lb.drop i)) ∧ Bel wp wr)
      case atStart => exact ⟨i, hil, rfl, rfl, HSU, Bel.refl wp⟩
      case round =>
       clear hil HSU hi
       obtain ⟨i, hil, rfl, rfl, HSU, HB3⟩ := hrel
       have HB23 := HB2.trans HB3
       have m1 := (HN5.out.keep (HB.trans HB23)).cell 1 (v := .slice (some ⟨c1, o1, none⟩) ls.length cA) rfl
       have ml := (HN5.out.keep (HB.trans HB23)).lt
       have r1 := (HN25.out.keep (HB.trans HB23)).cell 1 (v := .slice (some ⟨c2, o2, none⟩) lt.length dA) rfl
       have rl := (HN25.out.keep (HB.trans HB23)).lt
       have y1 := (HB23.cell hc1).trans Y1.out
       have yl := Nat.lt_of_lt_of_le hc1 HB23.size
       have y2 := (HB23.cell hc2).trans Y2.out
       have yl2 := Nat.lt_of_lt_of_le hc2 HB23.size
       have hd2 : decide (i < lb.length) = true := by simpa using hil
       have hd3 : (i == lb.length) = false := by simp; omega
       have hd3I : ((i : Int) == (lb.length : Int)) = false := by simp; omega
       obtain ⟨b1, q1, rfl, hb1, e1, e2⟩ := (HR.out _ HB23).at_ j hja
       obtain ⟨b2, q2, rfl, hb2, e3, e4⟩ := (HQ.out _ HB23).at_ i hil
       have HST := Lib.hid (sub_stop HSU.out)
       have HGO := Lib.hid (sub_go HSU.out hja hil)
       obtain ⟨x, hx⟩ : ∃ x, la[j] = x := ⟨_, rfl⟩
       obtain ⟨y, hy⟩ : ∃ y, lb[i] = y := ⟨_, rfl⟩
       rw [hx] at e1 e2 HGO
       rw [hy] at e3 e4 HGO
       clear hx hy HSU
       obtain ⟨S, T⟩ := x
       obtain ⟨U, V⟩ := y
       dsimp only at e1 e2 e3 e4
       by_cases hS : U = S
       ·subst hS
        have n1 : ((U : Int) == (U : Int)) = true := by simp
        by_cases hV : V = T
        ·subst hV
         have n2 : (V == V) = true := by simp
         clear HGO
         go_wp2_with fail
         go_quiet (fail)
         go_wp2_with fail
         go_roundg (la.length - (j + 1))
         case rel => exact ⟨i, j + 1, by omega, rfl, by omega, rfl, by go_num, HST, HB23.drewN _⟩
         case measure => omega
        ·have n2 : (V == T) = false := by simpa using hV
         have HGO2 := Lib.hid (HGO.out (by simp; exact hV))
         have hi2 := sub_in HGO2.out hja
         clear HGO hV HST
         go_wp2_with fail
         go_quiet (fail)
         go_wp2_with fail
         go_roundg (lb.length - (i + 1))
         case rel => exact ⟨i + 1, hi2, rfl, by go_num, HGO2, HB3.drewN _⟩
         case measure => omega
       ·have n1 : ((U : Int) == (S : Int)) = false := by simp; omega
        have HGO2 := Lib.hid (HGO.out (by simp; intro e; exact absurd e hS))
        have hi2 := sub_in HGO2.out hja
        clear HGO hS HST
        go_wp2_with fail
        go_quiet (fail)
        go_wp2_with fail
        go_roundg (lb.length - (i + 1))
        case rel => exact ⟨i + 1, hi2, rfl, by go_num, HGO2, HB3.drewN _⟩
        case measure => omega
     ·have hd1 : decide (j < la.length) = false := by simpa using hja
      go_wp2_with fail
      go_roundg (ls.length - (k + 1))
      case rel => exact ⟨k + 1, by omega, rfl, by go_num, HB.trans HB2⟩
      case measure => omega
   ·have hd0 : decide (k < ls.length) = false := by simpa using hlt
    have HW := HW5.out.trans HB
    go_wp2_with (go_at_call 10; refine (awake18_any _ (HT.out _ (box2_bel HW))).mono ?_; rintro e w6 ⟨rfl, hb⟩; replace HW := HW.trans hb; clear hb)
    go_ret
    exact ⟨rfl, box2_bel HW⟩
 ·clear HYA HYB
  cases bA with
  | false =>
   go_enter Tryz.func6, Tryz.ntmps6
   go_upto_region 2 with (go_at_call 20; refine (mod_any _ _ _ (by omega) (by omega)).mono ?_; rintro e w' ⟨rfl, rfl⟩; first | rw [HMA.out] | rw [HMB.out])
   go_upto_region 3 with (go_at_call 18; have hbd := fair18_any _ p _ g (1 + ma) _ (HPV.out _ (box2_bel HW)) (HGV.out _ (box2_bel HW)); rw [HFA.out] at hbd; refine hbd.mono ?_; rintro e w1 ⟨vF, rfl, hS, hb⟩; obtain ⟨AF1, cF1, BF1, dF1, rfl⟩ := hS; replace HW := (HW.trans hb).alloc (.cells #[.slice AF1 sA.enabled.length cF1, .slice BF1 sA.arcs.length dF1] 35); clear hb hbd; (try clear p0 p1 p2 g0 g1 gsz); obtain ⟨p0, p1, p2, g0, g1, gsz⟩ := pgbox HW)
   go_upto_region 4 with (go_at_call 18; have hbd := fair18_any _ p _ g (1 + mb) _ (HPV.out _ (box2_bel HW)) (HGV.out _ (box2_bel HW)); rw [HFB.out] at hbd; refine hbd.mono ?_; rintro e w2 ⟨vF, rfl, hS, hb⟩; obtain ⟨AF2, cF2, BF2, dF2, rfl⟩ := hS; replace HW := (HW.trans hb).alloc (.cells #[.slice AF2 sB.enabled.length cF2, .slice BF2 sB.arcs.length dF2] 35); clear hb hbd; (try clear p0 p1 p2 g0 g1 gsz); obtain ⟨p0, p1, p2, g0, g1, gsz⟩ := pgbox HW)
   go_wp2_with (go_at_call 10; refine (awake18_any _ (HT.out _ (box2_bel HW))).mono ?_; rintro e w' ⟨rfl, hb⟩; replace HW := HW.trans hb; clear hb; (try clear p0 p1 p2 g0 g1 gsz); obtain ⟨p0, p1, p2, g0, g1, gsz⟩ := pgbox HW)
   go_ret
   exact ⟨rfl, box2_bel HW⟩
  | true =>
   cases bB with
   | false =>
    go_enter Tryz.func6, Tryz.ntmps6
    go_upto_region 2 with (go_at_call 20; refine (mod_any _ _ _ (by omega) (by omega)).mono ?_; rintro e w' ⟨rfl, rfl⟩; first | rw [HMA.out] | rw [HMB.out])
    go_upto_region 3 with (go_at_call 18; have hbd := fair18_any _ p _ g (1 + ma) _ (HPV.out _ (box2_bel HW)) (HGV.out _ (box2_bel HW)); rw [HFA.out] at hbd; refine hbd.mono ?_; rintro e w1 ⟨vF, rfl, hS, hb⟩; obtain ⟨AF1, cF1, BF1, dF1, rfl⟩ := hS; replace HW := (HW.trans hb).alloc (.cells #[.slice AF1 sA.enabled.length cF1, .slice BF1 sA.arcs.length dF1] 35); clear hb hbd; (try clear p0 p1 p2 g0 g1 gsz); obtain ⟨p0, p1, p2, g0, g1, gsz⟩ := pgbox HW)
    go_upto_region 4 with (go_at_call 18; have hbd := fair18_any _ p _ g (1 + mb) _ (HPV.out _ (box2_bel HW)) (HGV.out _ (box2_bel HW)); rw [HFB.out] at hbd; refine hbd.mono ?_; rintro e w2 ⟨vF, rfl, hS, hb⟩; obtain ⟨AF2, cF2, BF2, dF2, rfl⟩ := hS; replace HW := (HW.trans hb).alloc (.cells #[.slice AF2 sB.enabled.length cF2, .slice BF2 sB.arcs.length dF2] 35); clear hb hbd; (try clear p0 p1 p2 g0 g1 gsz); obtain ⟨p0, p1, p2, g0, g1, gsz⟩ := pgbox HW)
    go_wp2_with (go_at_call 10; refine (awake18_any _ (HT.out _ (box2_bel HW))).mono ?_; rintro e w' ⟨rfl, hb⟩; replace HW := HW.trans hb; clear hb; (try clear p0 p1 p2 g0 g1 gsz); obtain ⟨p0, p1, p2, g0, g1, gsz⟩ := pgbox HW)
    go_ret
    exact ⟨rfl, box2_bel HW⟩
   | true =>
    obtain rfl : wi = false := by cases wi with
     | false => rfl
     | true => exact absurd ⟨rfl, rfl, rfl⟩ hgo
    go_enter Tryz.func6, Tryz.ntmps6
    go_upto_region 2 with (go_at_call 20; refine (mod_any _ _ _ (by omega) (by omega)).mono ?_; rintro e w' ⟨rfl, rfl⟩; first | rw [HMA.out] | rw [HMB.out])
    go_upto_region 3 with (go_at_call 18; have hbd := fair18_any _ p _ g (1 + ma) _ (HPV.out _ (box2_bel HW)) (HGV.out _ (box2_bel HW)); rw [HFA.out] at hbd; refine hbd.mono ?_; rintro e w1 ⟨vF, rfl, hS, hb⟩; obtain ⟨AF1, cF1, BF1, dF1, rfl⟩ := hS; replace HW := (HW.trans hb).alloc (.cells #[.slice AF1 sA.enabled.length cF1, .slice BF1 sA.arcs.length dF1] 35); clear hb hbd; (try clear p0 p1 p2 g0 g1 gsz); obtain ⟨p0, p1, p2, g0, g1, gsz⟩ := pgbox HW)
    go_upto_region 4 with (go_at_call 18; have hbd := fair18_any _ p _ g (1 + mb) _ (HPV.out _ (box2_bel HW)) (HGV.out _ (box2_bel HW)); rw [HFB.out] at hbd; refine hbd.mono ?_; rintro e w2 ⟨vF, rfl, hS, hb⟩; obtain ⟨AF2, cF2, BF2, dF2, rfl⟩ := hS; replace HW := (HW.trans hb).alloc (.cells #[.slice AF2 sB.enabled.length cF2, .slice BF2 sB.arcs.length dF2] 35); clear hb hbd; (try clear p0 p1 p2 g0 g1 gsz); obtain ⟨p0, p1, p2, g0, g1, gsz⟩ := pgbox HW)
    go_wp2_with (first
     | (go_at_call 26; refine (refWithin_any _ _ _ HKA.out HKB.out).mono ?_; rintro e w' ⟨rfl, rfl⟩; rw [HWI.out])
     | (go_at_call 10; refine (awake18_any _ (HT.out _ (box2_bel HW))).mono ?_; rintro e w' ⟨rfl, hb⟩; replace HW := HW.trans hb; clear hb; (try clear p0 p1 p2 g0 g1 gsz); obtain ⟨p0, p1, p2, g0, g1, gsz⟩ := pgbox HW))
    go_ret
    exact ⟨rfl, box2_bel HW⟩

end Go.Proofs.YtgemlgpjbclonaaGreatDoor

