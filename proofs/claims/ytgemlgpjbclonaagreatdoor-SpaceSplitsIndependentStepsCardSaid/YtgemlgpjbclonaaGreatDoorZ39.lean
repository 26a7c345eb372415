/- Merged of: WVb WVk WVl (see NOTES.md). -/
import Derived.Test.YtgemlgpjbclonaaGreatDoorZ32
import Derived.Test.YtgemlgpjbclonaaGreatDoorZ34
import Derived.BigQuiet
import Derived.Test.YtgemlgpjbclonaaGreatDoorZ35
import Derived.Test.YtgemlgpjbclonaaGreatDoorZ33
import Derived.Test.YtgemlgpjbclonaaGreatDoorZ17
set_option linter.unusedSimpArgs false
set_option linter.unnecessarySimpa false
set_option linter.unusedVariables false

/- Contracts: whether a transition system is well-formed, the reference's. -/
namespace Go.Proofs.YtgemlgpjbclonaaGreatDoor
open Go.RowKit

def arcsS (E : Nat) (n : Int) (l : List (Nat × Int)) : Bool := (decide (E ≠ 0) == decide (0 < l.length)) && arcsB E n 0 l
theorem stateB8_parts (E : Nat) (n : Int) (l : List (Nat × Int)) : stateB8 E n l = (decide (E < 16777216) && arcsS E n l) := by unfold stateB8 arcsS; rw [Bool.and_assoc]

set_option maxRecDepth 100000 in
set_option maxHeartbeats 4000000 in
theorem refArcs_any (E : Nat) (A : Option Addr) (c : Nat) (l : List (Nat × Int)) (n : Nat) (w : World) (hA : ArcsR w A l.length l) (hx : ∀ x ∈ l, x.1 < 4294967296) (hl : l.length ≤ 70) (hn : n ≤ 200) :
  Calls Tryz.prog 47 #[.slice A l.length c, .int .u32 (E : Int), .int .i64 (n : Int)] w fun e w' => e = .returned (.bool (arcsS E n l)) ∧ Bel w w' := by
 have HF : Hid (arcsS E n l = ((decide (E ≠ 0) == decide (0 < l.length)) && arcsB E n 0 l)) := rfl
 have HA := Lib.hid (fun w' (k : Bel w w') => hA.keep k)
 have HX := Lib.hid hx
 have HB := Bel.refl w
 clear hA hx
 by_cases hm : (decide (E ≠ 0) == decide (0 < l.length)) = true
 ·rw [hm] at HF
  obtain ⟨eb, e1, e2⟩ : ∃ eb : Bool, ((E : Int) != 0) = eb ∧ decide (0 < l.length) = eb := by
   refine ⟨_, rfl, ?_⟩
   have h1 : decide (E ≠ 0) = decide (0 < l.length) := by simpa using hm
   have h2 : ((E : Int) != 0) = decide (E ≠ 0) := by by_cases h : E = 0 <;> simp [h]
   rw [h2, h1]
  have e3 : (eb != eb) = false := by cases eb <;> rfl
  clear hm
  go_enter Tryz.func47, Tryz.ntmps47
  go_wp2_with fail
  go_loopg [7] l.length (fun m z wr => ∃ (i bf : Nat), i ≤ l.length ∧ m = l.length - i ∧ z = .int .i64 (i : Int) ∧ Hid (bf = if h : 0 < i ∧ i - 1 < l.length then l[i - 1].1 else 0) ∧ Hid (arcsB E n bf (l.drop i) = arcsB E n 0 l) ∧ Bel w wr)
  case atStart => exact ⟨0, 0, by omega, rfl, rfl, rfl, by show _ = _; simp, HB⟩
  case round =>
   clear HB e1 e2 e3
   obtain ⟨i, bf, hi, rfl, rfl, HBF, HQ, HB⟩ := hrel
   by_cases hlt : i < l.length
   ·have hd0 : decide (i < l.length) = true := by simpa using hlt
    obtain ⟨b, o, rfl, hbl, c0, c1⟩ := (HA.out _ HB).at_ i hlt
    have hx1 := HX.out _ (List.getElem_mem hlt)
    rw [arcsB_at hlt] at HQ
    obtain ⟨S, hS⟩ : ∃ S, S = l[i].1 := ⟨_, rfl⟩
    obtain ⟨T, hT⟩ : ∃ T, T = l[i].2 := ⟨_, rfl⟩
    have HSd := Lib.hid hS
    rw [← hS] at hx1 c0
    rw [← hT] at c1
    simp only [← hS, ← hT] at HQ
    clear hS hT
    obtain ⟨iv, hiv⟩ : ∃ iv, inB T 0 ((n : Int) - 1) = iv := ⟨_, rfl⟩
    have HIV := Lib.hid hiv
    have hIB : iv = (decide (0 ≤ T) && decide (T < n)) := by
     rw [← hiv, Bool.eq_iff_iff, inB_iff]; simp; omega
    have HIB := Lib.hid hIB
    clear hiv hIB
    by_cases a0 : S = 0
    ·subst a0
     rw [decide_eq_false (Nat.not_lt_zero _)] at HQ
     go_wp2_with fail
     go_quiet (fail)
     go_wp2_with fail
     go_ret
     exact ⟨ret_bool (by rw [HF.out, ← HQ.out]; rfl), HB.drewN _⟩
    ·have z0 : ((S : Int) == 0) = false := by simp; omega
     have z0' : (S == 0) = false := by simp; omega
     have HD := diffF_zero (T := E) hx1
     have hbn := bits_andNot S E
     cases hw : within32 S E with
     | false =>
      rw [hw] at HQ HD
      have hz : ((diffF S E : Int) != 0) = true := by simp at HD ⊢; omega
      have hz' : (diffF S E != 0) = true := by simp at HD ⊢; omega
      clear hw HD a0
      go_wp2_with fail
      go_quiet (fail)
      go_wp2_with fail
      go_ret
      exact ⟨ret_bool (by rw [HF.out, ← HQ.out]; simp), HB.drewN _⟩
     | true =>
      rw [hw] at HQ HD
      have hz : ((diffF S E : Int) != 0) = false := by simp at HD ⊢; omega
      have hz' : (diffF S E != 0) = false := by simp at HD ⊢; omega
      clear hw HD
      rcases Nat.eq_zero_or_pos i with h0 | h0
      ·subst h0
       have hbf : bf = 0 := by rw [HBF.out]; simp
       subst hbf
       rw [decide_eq_true (show 0 < S by omega)] at HQ
       clear a0
       simp only [Nat.zero_mul, Nat.add_zero] at c0 c1
       go_wp2_with fail
       go_quiet ((go_at_call 45; exact Calls.quiet_of_same ((in01_any _ _ _ _).mono (fun _ _ hh => ⟨hh.1.trans (by rw [HIV.out]), hh.2.symm⟩))))
       cases iv with
       | true =>
        go_wp2_with fail
        go_roundg (l.length - (0 + 1))
        case rel => exact ⟨1, S, by omega, rfl, by go_num, by show _ = _; rw [dif_pos ⟨by omega, hlt⟩]; exact HSd.out, by have := HQ.out; have h2 := HIB.out; rw [eq_comm, Bool.and_eq_true] at h2; rw [h2.1, h2.2] at this; show _ = _; simpa using this, HB.drewN _⟩
        case measure => omega
       | false =>
        go_wp2_with fail
        go_ret
        refine ⟨ret_bool ?_, HB.drewN _⟩
        have h2 := HIB.out
        rw [HF.out, ← HQ.out]
        revert h2
        cases decide (0 ≤ T) <;> cases decide (T < (n : Int)) <;> simp
      ·obtain ⟨k, rfl⟩ : ∃ k, i = k + 1 := ⟨i - 1, by omega⟩
       have hk : k < l.length := by omega
       have hbf : bf = l[k].1 := by rw [HBF.out, dif_pos ⟨by omega, by simpa using hk⟩]; simp
       obtain ⟨b2, o2, hab, hbl2, p0, _⟩ := (HA.out _ HB).at_ k hk
       obtain ⟨rfl, rfl⟩ : b = b2 ∧ o = o2 := by injection hab with hab; injection hab with h1 h2; exact ⟨h1, h2⟩
       have hx2 := HX.out _ (List.getElem_mem hk)
       rw [← hbf] at p0 hx2
       clear hbf hab
       by_cases a1 : bf < S
       ·have d1 : decide (S ≤ bf) = false := by simp; omega
        have d1I : decide ((S : Int) ≤ (bf : Int)) = false := by simp; omega
        rw [decide_eq_true a1] at HQ
        have g0 : decide ((0 : Int) < ((k + 1 : Nat) : Int)) = true := decide_eq_true (by omega)
        clear a0 a1
        go_wp2_with fail
        go_quiet ((go_at_call 45; exact Calls.quiet_of_same ((in01_any _ _ _ _).mono (fun _ _ hh => ⟨hh.1.trans (by rw [HIV.out]), hh.2.symm⟩))))
        cases iv with
        | true =>
         go_wp2_with fail
         go_roundg (l.length - (k + 1 + 1))
         case rel => exact ⟨k + 1 + 1, S, by omega, rfl, by go_num, by show _ = _; rw [dif_pos ⟨by omega, by simpa using hlt⟩]; exact HSd.out, by have := HQ.out; have h2 := HIB.out; rw [eq_comm, Bool.and_eq_true] at h2; rw [h2.1, h2.2] at this; show _ = _; simpa using this, HB.drewN _⟩
         case measure => omega
        | false =>
         go_wp2_with fail
         go_ret
         refine ⟨ret_bool ?_, HB.drewN _⟩
         have h2 := HIB.out
         rw [HF.out, ← HQ.out]
         revert h2
         cases decide (0 ≤ T) <;> cases decide (T < (n : Int)) <;> simp
       ·have d1 : decide (S ≤ bf) = true := by simp; omega
        have d1I : decide ((S : Int) ≤ (bf : Int)) = true := by simp; omega
        rw [decide_eq_false a1] at HQ
        have g0 : decide ((0 : Int) < ((k + 1 : Nat) : Int)) = true := decide_eq_true (by omega)
        clear a0 a1
        go_wp2_with fail
        go_quiet (fail)
        go_wp2_with fail
        go_ret
        exact ⟨ret_bool (by rw [HF.out, ← HQ.out]; rfl), HB.drewN _⟩
   ·have hd0 : decide (i < l.length) = false := by simpa using hlt
    obtain rfl : i = l.length := by omega
    rw [arcsB_end] at HQ
    go_wp2_with fail
    go_ret
    exact ⟨ret_bool (by rw [HF.out, ← HQ.out]; rfl), HB⟩
 ·have hm' : (decide (E ≠ 0) == decide (0 < l.length)) = false := by simpa using hm
  rw [hm'] at HF
  obtain ⟨eb, e1, e2⟩ : ∃ eb : Bool, ((E : Int) != 0) = eb ∧ decide (0 < l.length) = !eb := by
   refine ⟨_, rfl, ?_⟩
   have h1 : decide (E ≠ 0) ≠ decide (0 < l.length) := by simpa using hm
   have h2 : ((E : Int) != 0) = decide (E ≠ 0) := by by_cases h : E = 0 <;> simp [h]
   rw [h2]
   revert h1
   cases decide (E ≠ 0) <;> cases decide (0 < l.length) <;> simp
  have e3 : (!eb != eb) = true := by cases eb <;> rfl
  clear hm hm'
  go_enter Tryz.func47, Tryz.ntmps47
  go_wp2_with fail
  go_ret
  exact ⟨ret_bool (by rw [HF.out]; rfl), HB⟩

theorem within24 {E : Nat} (hE : E < 4294967296) : within32 E (setF 24 fun _ => true) = decide (E < 16777216) := by
 rw [Bool.eq_iff_iff, within32_iff, decide_eq_true_iff]
 constructor
 ·intro h
  rcases Nat.lt_or_ge E 16777216 with h1 | h1
  ·exact h1
  ·obtain ⟨i, hi, ht⟩ := Nat.exists_ge_and_testBit_of_ge_two_pow (show 2 ^ 24 ≤ E from h1)
   have h32 : i < 32 := by
    rcases Nat.lt_or_ge i 32 with h2 | h2
    ·exact h2
    ·have := Nat.testBit_lt_two_pow (i := i) (show E < 2 ^ i from Nat.lt_of_lt_of_le hE (Nat.pow_le_pow_right (n := 2) (by omega) h2))
     rw [this] at ht; cases ht
   have h3 := h i h32 ht
   rw [setF_bit] at h3
   simp at h3
   omega
 ·intro h v hv ht
  rw [setF_bit]
  simp
  rcases Nat.lt_or_ge v 24 with h1 | h1
  ·exact h1
  ·have := Nat.testBit_lt_two_pow (i := v) (show E < 2 ^ v from Nat.lt_of_lt_of_le h (Nat.pow_le_pow_right (n := 2) (by omega) h1))
   rw [this] at ht; cases ht

set_option maxRecDepth 100000 in
set_option maxHeartbeats 1000000 in
theorem refSpaceValid_any (v : Value) (s : Spc) (w : World) (h : SpaceV w v s) (hwf : wfS s) (hl : lightS s = true) :
  Calls Tryz.prog 19 #[v] w fun e w' => e = .returned (.bool (validS s)) ∧ Bel w w' := by
 obtain ⟨l1, l2, l3⟩ := lightS_parts hl
 have HF : Hid (validS s = (decide (1 ≤ s.enabled.length) && decide (s.arcs.length = s.enabled.length) && (List.range s.enabled.length).all fun k => stateB8 (s.enabled.getD k 0) s.enabled.length (s.arcs.getD k []))) := rfl
 obtain ⟨AE, cE, AA, cA, rfl, hE, hA, _, _, _, _⟩ := h
 have HE := Lib.hid (fun w' (k : Bel w w') => hE.keep k)
 have HA := Lib.hid (fun w' (k : Bel w w') => hA.keep k)
 have HWF := Lib.hid hwf
 have HL3 := Lib.hid l3
 have HW := Bel.refl (w.alloc (.cells #[.slice AE s.enabled.length cE, .slice AA s.arcs.length cA] 35))
 clear hE hA hwf hl l3
 by_cases h1 : 1 ≤ s.enabled.length
 ·have HI1 : Hid (inB (s.enabled.length : Int) 1 32768 = true) := inB_iff.2 (by omega)
  rw [decide_eq_true h1] at HF
  by_cases h2 : s.arcs.length = s.enabled.length
  ·have d3 : (((s.arcs.length : Nat) : Int) != ((s.enabled.length : Nat) : Int)) = false := by simp; omega
   have d3' : (s.arcs.length != s.enabled.length) = false := by simp; omega
   rw [decide_eq_true h2] at HF
   have H2 := Lib.hid h2
   clear h2
   go_enter Tryz.func19, Tryz.ntmps19
   go_wp2_with (go_at_call 45; refine (in01_any _ _ _ _).mono ?_; rintro e w' ⟨rfl, rfl⟩; rw [HI1.out])
   go_loopg [4, 5] s.enabled.length (fun m t z wr => ∃ (k tt : Nat), k ≤ s.enabled.length ∧ m = s.enabled.length - k ∧ t = .int .i64 (tt : Int) ∧ tt ≤ 70 * k ∧ z = .int .i64 (k : Int) ∧ Hid (((List.range k).all fun k => stateB8 (s.enabled.getD k 0) s.enabled.length (s.arcs.getD k [])) = true) ∧ Bel (w.alloc (.cells #[.slice AE s.enabled.length cE, .slice AA s.arcs.length cA] 35)) wr)
   case atStart => exact ⟨0, 0, by omega, rfl, rfl, by omega, rfl, rfl, HW⟩
   case round =>
    clear HW d3 d3'
    obtain ⟨k, tt, hk, rfl, rfl, htt, rfl, HI, HW⟩ := hrel
    have q0 := box_cell HW 0 (v := .slice AE s.enabled.length cE) rfl
    have q1 := box_cell HW 1 (v := .slice AA s.arcs.length cA) rfl
    have ql := box_lt HW
    by_cases hlt : k < s.enabled.length
    ·have hd0 : decide (k < s.enabled.length) = true := by simpa using hlt
     have hltA : k < s.arcs.length := by rw [H2.out]; exact hlt
     obtain ⟨bE, oE, rfl, hbE, k0⟩ := (HE.out _ (Bel.refl w)).at_ k hlt
     obtain ⟨bA, oA, R, rc, rfl, hbA, k1, hR, _, _⟩ := (HA.out _ (Bel.refl w)).at_ k hltA
     have HR := Lib.hid (fun w' (k : Bel w w') => hR.keep k)
     have HST : Hid (stateB8 (s.enabled.getD k 0) s.enabled.length (s.arcs.getD k []) = stateB8 s.enabled[k] s.enabled.length s.arcs[k]) := by show _ = _; rw [getD_eq hlt, getD_eq hltA]
     have hE32 := HWF.out.1 _ (List.getElem_mem hlt)
     have HX := Lib.hid (HWF.out.2 _ (List.getElem_mem hltA))
     have hll := HL3.out _ (List.getElem_mem hltA)
     have hkA : (k : Int) < (s.arcs.length : Int) := by omega
     have hkE : (k : Int) < (s.enabled.length : Int) := by omega
     clear hR
     generalize s.arcs[k] = l at *
     generalize s.enabled[k] = E at *
     have hcell := Lib.hid (fun w3 (kk : Bel (w.alloc (.cells #[.slice (some ⟨bE, oE, none⟩) s.enabled.length cE, .slice (some ⟨bA, oA, none⟩) s.arcs.length cA] 35)) w3) => show w3.cell? ⟨w.heap.size, 0, none⟩ = some (.slice (some ⟨bE, oE, none⟩) s.enabled.length cE) ∧ w3.cell? ⟨w.heap.size, 1, none⟩ = some (.slice (some ⟨bA, oA, none⟩) s.arcs.length cA) ∧ w3.cell? ⟨bE, oE + k, none⟩ = some (.int .u32 (E : Int)) ∧ w3.cell? ⟨bA, oA + k, none⟩ = some (.slice R l.length rc) ∧ w.heap.size < w3.heap.size ∧ bE < w3.heap.size ∧ bA < w3.heap.size from ⟨box_cell kk 0 rfl, box_cell kk 1 rfl, ((box_bel kk).cell hbE).trans k0, ((box_bel kk).cell hbA).trans k1, box_lt kk, Nat.lt_of_lt_of_le hbE (box_bel kk).size, Nat.lt_of_lt_of_le hbA (box_bel kk).size⟩)
     obtain ⟨_, _, _, x1, _, _, xA⟩ := hcell.out _ HW
     have d4 : decide ((262144 : Int) < (tt : Int) + (l.length : Int)) = false := decide_eq_false (by omega)
     have d4' : decide (262144 < tt + l.length) = false := decide_eq_false (by omega)
     clear k0 k1
     obtain ⟨M, hM⟩ : ∃ M, setF 24 (fun _ => true) = M := ⟨_, rfl⟩
     have HM := Lib.hid hM
     have hbn := bits_andNot E M
     have HD := diffF_zero (T := M) hE32
     rw [← hM, within24 hE32, hM] at HD
     clear hM
     by_cases h24 : E < 16777216
     ·rw [decide_eq_true h24] at HD
      have hz : ((diffF E M : Int) != 0) = false := by simp at HD ⊢; omega
      have hz' : (diffF E M != 0) = false := by simp at HD ⊢; omega
      have HSB : Hid (stateB8 E s.enabled.length l = arcsS E s.enabled.length l) := by show _ = _; rw [stateB8_parts, decide_eq_true h24]; rfl
      clear HD h24
      cases hs : arcsS E s.enabled.length l with
      | true =>
       go_upto_region 9 with fail
       replace HW := HW.drew
       go_region_held3 (fun w3 => w3.cell? ⟨w.heap.size, 0, none⟩ = some (.slice (some ⟨bE, oE, none⟩) s.enabled.length cE) ∧ w3.cell? ⟨w.heap.size, 1, none⟩ = some (.slice (some ⟨bA, oA, none⟩) s.arcs.length cA) ∧ w3.cell? ⟨bE, oE + k, none⟩ = some (.int .u32 (E : Int)) ∧ w3.cell? ⟨bA, oA + k, none⟩ = some (.slice R l.length rc) ∧ w.heap.size < w3.heap.size ∧ bE < w3.heap.size ∧ bA < w3.heap.size) (exact hcell.out _ HW) (first | (go_simp; go_at_call 46; refine (refAll_any 24 _ (by omega)).mono ?_; rintro e w' ⟨rfl, rfl⟩; rw [HM.out]) | (go_simp; go_at_call 47; refine (refArcs_any E R rc l s.enabled.length _ (HR.out _ (box_bel HW)) HX.out hll l1).mono ?_; rintro e w' ⟨rfl, hb⟩; rw [hs]; replace HW := HW.trans hb; clear hb))
       go_wp2_with fail
       go_roundg (s.enabled.length - (k + 1))
       case rel =>
        refine ⟨k + 1, tt + l.length, by omega, rfl, by go_num, by omega, by go_num, ?_, HW⟩
        show _ = _
        rw [validS_next hlt, HI.out, HST.out, HSB.out, hs]; rfl
       case measure => omega
      | false =>
       have HSF := Lib.hid hs
       go_upto_region 9 with fail
       replace HW := HW.drew
       go_region_held3 (fun w3 => w3.cell? ⟨w.heap.size, 0, none⟩ = some (.slice (some ⟨bE, oE, none⟩) s.enabled.length cE) ∧ w3.cell? ⟨w.heap.size, 1, none⟩ = some (.slice (some ⟨bA, oA, none⟩) s.arcs.length cA) ∧ w3.cell? ⟨bE, oE + k, none⟩ = some (.int .u32 (E : Int)) ∧ w3.cell? ⟨bA, oA + k, none⟩ = some (.slice R l.length rc) ∧ w.heap.size < w3.heap.size ∧ bE < w3.heap.size ∧ bA < w3.heap.size) (exact hcell.out _ HW) (first | (go_simp; go_at_call 46; refine (refAll_any 24 _ (by omega)).mono ?_; rintro e w' ⟨rfl, rfl⟩; rw [HM.out]) | (go_simp; go_at_call 47; refine (refArcs_any E R rc l s.enabled.length _ (HR.out _ (box_bel HW)) HX.out hll l1).mono ?_; rintro e w' ⟨rfl, hb⟩; rw [hs]; replace HW := HW.trans hb; clear hb))
       go_wp2_with fail
       go_ret
       refine ⟨ret_bool ?_, box_bel HW⟩
       rw [HF.out, all_stop (f := fun k => stateB8 (s.enabled.getD k 0) s.enabled.length (s.arcs.getD k [])) hlt (by rw [HST.out, HSB.out]; exact HSF.out)]; rfl
     ·rw [decide_eq_false h24] at HD
      have hz : ((diffF E M : Int) != 0) = true := by simp at HD ⊢; omega
      have hz' : (diffF E M != 0) = true := by simp at HD ⊢; omega
      have HSB : Hid (stateB8 E s.enabled.length l = false) := by show _ = _; rw [stateB8_parts, decide_eq_false h24]; rfl
      clear HD h24
      go_wp2_with fail
      go_quiet ((go_at_call 46; exact Calls.quiet_of_same ((refAll_any 24 _ (by omega)).mono (fun _ _ hh => ⟨hh.1.trans (by rw [HM.out]), hh.2.symm⟩))))
      go_wp2_with fail
      go_ret
      refine ⟨ret_bool ?_, box_bel (HW.drewN _)⟩
      rw [HF.out, all_stop (f := fun k => stateB8 (s.enabled.getD k 0) s.enabled.length (s.arcs.getD k [])) hlt (by rw [HST.out, HSB.out])]; rfl
    ·have hd0 : decide (k < s.enabled.length) = false := by simpa using hlt
     obtain rfl : k = s.enabled.length := by omega
     go_wp2_with fail
     go_ret
     exact ⟨ret_bool (by rw [HF.out, HI.out]; rfl), box_bel HW⟩
  ·have d3 : (((s.arcs.length : Nat) : Int) != ((s.enabled.length : Nat) : Int)) = true := by simp; omega
   have d3' : (s.arcs.length != s.enabled.length) = true := by simp; omega
   rw [decide_eq_false h2] at HF
   clear h2
   go_enter Tryz.func19, Tryz.ntmps19
   go_wp2_with (go_at_call 45; refine (in01_any _ _ _ _).mono ?_; rintro e w' ⟨rfl, rfl⟩; rw [HI1.out])
   go_ret
   exact ⟨ret_bool (by rw [HF.out]; rfl), box_bel HW⟩
 ·have HI1 : Hid (inB (s.enabled.length : Int) 1 32768 = false) := inB_false (by omega)
  rw [decide_eq_false h1] at HF
  clear h1
  go_enter Tryz.func19, Tryz.ntmps19
  go_wp2_with (go_at_call 45; refine (in01_any _ _ _ _).mono ?_; rintro e w' ⟨rfl, rfl⟩; rw [HI1.out])
  go_ret
  exact ⟨ret_bool (by rw [HF.out]; rfl), box_bel HW⟩

end Go.Proofs.YtgemlgpjbclonaaGreatDoor

/- Contracts: what the reference's daemons permit. -/
namespace Go.Proofs.YtgemlgpjbclonaaGreatDoor
open Go.RowKit

set_option maxRecDepth 100000 in
set_option maxHeartbeats 1000000 in
theorem refPossible_any (v2 : Value) (g : Graph) (kind : Int) (E : Nat) (w : World) (h2 : GraphV w v2 g) (hg : GOK g) (hG : lightG g = true) (hk : kindB kind = true) (hE : E < 2 ^ g.ports.length) :
  Calls Tryz.prog 50 #[v2, .int .i64 kind, .int .u32 (E : Int)] w fun e w' => e = .returned (.bool true) ∧ Bel w w' := by
 have HGV := Lib.hid (fun w' (k : Bel w w') => h2.keep k)
 obtain ⟨A3, k3, A4, k4, rfl, _, _, _, _, _, _⟩ := h2
 have HGL := Lib.hid hG
 have hle := hg.le
 have HGT : Hid (graphB g = true) := (graphB_iff g).2 hg
 have hE32 : E < 4294967296 := Nat.lt_of_lt_of_le hE (Nat.pow_le_pow_right (n := 2) (by decide) (show g.ports.length ≤ 32 by omega))
 have HKB := Lib.hid hk
 obtain ⟨M, hM⟩ : ∃ M, setF g.ports.length (fun _ => true) = M := ⟨_, rfl⟩
 have HM := Lib.hid hM
 have HD := diffF_zero (T := M) hE32
 have hwb := within_bound (E := E) (show g.ports.length ≤ 32 by omega) hE
 rw [hM] at hwb
 rw [hwb] at HD
 have hbn := bits_andNot E M
 have hz : ((diffF E M : Int) == 0) = true := by simp at HD ⊢; omega
 have hz' : (diffF E M == 0) = true := by simp at HD ⊢; omega
 have HW := Bel.refl (w.alloc (.cells #[.slice A3 g.ids.length k3, .slice A4 g.ports.length k4] 29))
 have q0 := box_cell HW 0 (v := .slice A3 g.ids.length k3) rfl
 have q1 := box_cell HW 1 (v := .slice A4 g.ports.length k4) rfl
 have q2 := box_lt HW
 clear hG hg hk hM hwb HD hE
 go_enter Tryz.func50, Tryz.ntmps50
 go_wp2_with (first
  | (go_at_call 56; refine (refGraphValid_any _ g _ (HGV.out _ (box_bel HW)) HGL.out).mono ?_; rintro e w' ⟨rfl, hb⟩; rw [HGT.out]; replace HW := HW.trans hb; clear hb q0 q1 q2; have q0 := box_cell HW 0 (v := .slice A3 g.ids.length k3) rfl; have q1 := box_cell HW 1 (v := .slice A4 g.ports.length k4) rfl; have q2 := box_lt HW)
  | (go_at_call 17; refine (refDaemon_any _ _).mono ?_; rintro e w' ⟨rfl, rfl⟩; rw [HKB.out])
  | (go_at_call 46; refine (refAll_any g.ports.length _ (by omega)).mono ?_; rintro e w' ⟨rfl, rfl⟩; rw [HM.out]))
 go_ret
 exact ⟨rfl, box_bel HW⟩

set_option maxRecDepth 100000 in
set_option maxHeartbeats 2000000 in
theorem refPermits_any (v2 : Value) (g : Graph) (kind : Int) (E S : Nat) (w : World) (h2 : GraphV w v2 g) (hg : GOK g) (hG : lightG g = true) (hk : kindB kind = true) (hE : E < 2 ^ g.ports.length) (hS : S < 4294967296) :
  Calls Tryz.prog 23 #[v2, .int .i64 kind, .int .u32 (E : Int), .int .u32 (S : Int)] w fun e w' => e = .returned (.bool (permitsF g kind E S)) ∧ Bel w w' := by
 have HF : Hid (permitsF g kind E S = if S = 0 then false else if within32 S E = false then false else if kind = 1 then (S &&& (S - 1)) == 0 else if kind = 2 then indepP g S else if kind = 4 then S == E else true) := rfl
 have HGV := Lib.hid (fun w' (k : Bel w w') => h2.keep k)
 obtain ⟨A3, k3, A4, k4, rfl, _, _, _, _, _, _⟩ := h2
 have HGL := Lib.hid hG
 have HGO := Lib.hid hg
 have hle := hg.le
 have hE32 : E < 4294967296 := Nat.lt_of_lt_of_le hE (Nat.pow_le_pow_right (n := 2) (by decide) (show g.ports.length ≤ 32 by omega))
 have HKB := Lib.hid hk
 have HE := Lib.hid hE
 have hkk : 1 ≤ kind ∧ kind ≤ 4 := by unfold kindB at hk; simpa using hk
 have hbn := bits_andNot S E
 have HD := diffF_zero (T := E) hS
 have HIS : Hid (within32 S E = true → indepF g S = indepP g S) := fun h => indep_same hg hS (within_trans h (within_bound (by omega) hE))
 have HW := Bel.refl (w.alloc (.cells #[.slice A3 g.ids.length k3, .slice A4 g.ports.length k4] 29))
 have q0 := box_cell HW 0 (v := .slice A3 g.ids.length k3) rfl
 have q1 := box_cell HW 1 (v := .slice A4 g.ports.length k4) rfl
 have q2 := box_lt HW
 clear hG hg hk hE
 by_cases h0 : S = 0
 ·subst h0
  rw [if_pos rfl] at HF
  have z0 : (((0 : Nat) : Int) == 0) = true := rfl
  clear HD hbn
  go_enter Tryz.func23, Tryz.ntmps23
  go_wp2_with (go_at_call 50; refine (refPossible_any _ g kind E _ (HGV.out _ (box_bel HW)) HGO.out HGL.out HKB.out HE.out).mono ?_; rintro e w' ⟨rfl, hb⟩; replace HW := HW.trans hb; clear hb q0 q1 q2; have q0 := box_cell HW 0 (v := .slice A3 g.ids.length k3) rfl; have q1 := box_cell HW 1 (v := .slice A4 g.ports.length k4) rfl; have q2 := box_lt HW)
  go_ret
  exact ⟨ret_bool (by rw [HF.out]), box_bel HW⟩
 ·rw [if_neg h0] at HF
  have HCB : Hid ((S &&& (S - 1) == 0) = decide ((elemsF S).length = 1)) := single_iff hS h0
  have z0 : ((S : Int) == 0) = false := by simp; omega
  have z0' : (S == 0) = false := by simp; omega
  cases hw : within32 S E with
  | false =>
   rw [hw, if_pos rfl] at HF
   rw [hw] at HD
   have hz : ((diffF S E : Int) != 0) = true := by simp at HD ⊢; omega
   have hz' : (diffF S E != 0) = true := by simp at HD ⊢; omega
   clear HD hw HIS h0
   go_enter Tryz.func23, Tryz.ntmps23
   go_wp2_with (go_at_call 50; refine (refPossible_any _ g kind E _ (HGV.out _ (box_bel HW)) HGO.out HGL.out HKB.out HE.out).mono ?_; rintro e w' ⟨rfl, hb⟩; replace HW := HW.trans hb; clear hb q0 q1 q2; have q0 := box_cell HW 0 (v := .slice A3 g.ids.length k3) rfl; have q1 := box_cell HW 1 (v := .slice A4 g.ports.length k4) rfl; have q2 := box_lt HW)
   go_ret
   exact ⟨ret_bool (by rw [HF.out]), box_bel HW⟩
  | true =>
   rw [hw, if_neg (by decide)] at HF
   rw [hw] at HD
   have hz : ((diffF S E : Int) != 0) = false := by simp at HD ⊢; omega
   have hz' : (diffF S E != 0) = false := by simp at HD ⊢; omega
   have HI := Lib.hid (HIS.out hw)
   clear HD hw HIS h0
   by_cases c1 : kind = 1
   ·subst c1
    rw [if_pos rfl, HCB.out] at HF
    have hcc : (((elemsF S).length : Int) == 1) = decide ((elemsF S).length = 1) := by rw [Bool.eq_iff_iff]; simp; omega
    obtain ⟨bb, hbb⟩ : ∃ bb, decide ((elemsF S).length = 1) = bb := ⟨_, rfl⟩
    rw [hbb] at HF hcc
    clear hbb
    go_enter Tryz.func23, Tryz.ntmps23
    go_wp2_with (first
     | (go_at_call 50; refine (refPossible_any _ g 1 E _ (HGV.out _ (box_bel HW)) HGO.out HGL.out HKB.out HE.out).mono ?_; rintro e w' ⟨rfl, hb⟩; replace HW := HW.trans hb; clear hb q0 q1 q2; have q0 := box_cell HW 0 (v := .slice A3 g.ids.length k3) rfl; have q1 := box_cell HW 1 (v := .slice A4 g.ports.length k4) rfl; have q2 := box_lt HW)
     | (go_at_call 51; refine (refCountSet_any S _ hS).mono ?_; rintro e w' ⟨rfl, rfl⟩))
    go_ret
    exact ⟨ret_bool (by rw [HF.out]), box_bel HW⟩
   ·rw [if_neg c1] at HF
    by_cases c2 : kind = 2
    ·subst c2
     rw [if_pos rfl] at HF
     clear c1
     go_enter Tryz.func23, Tryz.ntmps23
     go_wp2_with (first
      | (go_at_call 50; refine (refPossible_any _ g 2 E _ (HGV.out _ (box_bel HW)) HGO.out HGL.out HKB.out HE.out).mono ?_; rintro e w' ⟨rfl, hb⟩; replace HW := HW.trans hb; clear hb q0 q1 q2; have q0 := box_cell HW 0 (v := .slice A3 g.ids.length k3) rfl; have q1 := box_cell HW 1 (v := .slice A4 g.ports.length k4) rfl; have q2 := box_lt HW)
      | (go_at_call 28; refine (refIndep_any _ g S _ (HGV.out _ (box_bel HW)) HGO.out HGL.out hS).mono ?_; rintro e w' ⟨rfl, hb⟩; rw [HI.out]; replace HW := HW.trans hb; clear hb q0 q1 q2))
     go_ret
     exact ⟨ret_bool (by rw [HF.out]), box_bel HW⟩
    ·rw [if_neg c2] at HF
     by_cases c4 : kind = 4
     ·subst c4
      rw [if_pos rfl] at HF
      have hcc : ((S : Int) == (E : Int)) = (S == E) := by rw [Bool.eq_iff_iff]; simp; omega
      clear c1 c2
      obtain ⟨bb, hbb⟩ : ∃ bb, (S == E) = bb := ⟨_, rfl⟩
      rw [hbb] at HF hcc
      go_enter Tryz.func23, Tryz.ntmps23
      go_wp2_with (go_at_call 50; refine (refPossible_any _ g 4 E _ (HGV.out _ (box_bel HW)) HGO.out HGL.out HKB.out HE.out).mono ?_; rintro e w' ⟨rfl, hb⟩; replace HW := HW.trans hb; clear hb q0 q1 q2; have q0 := box_cell HW 0 (v := .slice A3 g.ids.length k3) rfl; have q1 := box_cell HW 1 (v := .slice A4 g.ports.length k4) rfl; have q2 := box_lt HW)
      go_ret
      exact ⟨ret_bool (by rw [HF.out]), box_bel HW⟩
     ·rw [if_neg c4] at HF
      obtain rfl : kind = 3 := by omega
      clear c1 c2 c4
      go_enter Tryz.func23, Tryz.ntmps23
      go_wp2_with (go_at_call 50; refine (refPossible_any _ g 3 E _ (HGV.out _ (box_bel HW)) HGO.out HGL.out HKB.out HE.out).mono ?_; rintro e w' ⟨rfl, hb⟩; replace HW := HW.trans hb; clear hb q0 q1 q2; have q0 := box_cell HW 0 (v := .slice A3 g.ids.length k3) rfl; have q1 := box_cell HW 1 (v := .slice A4 g.ports.length k4) rfl; have q2 := box_lt HW)
      go_ret
      exact ⟨ret_bool (by rw [HF.out]), box_bel HW⟩

set_option maxRecDepth 100000 in
set_option maxHeartbeats 1000000 in
theorem refWithin_any (a b : Int) (w : World) (ha : kindB a = true) (hb : kindB b = true) :
  Calls Tryz.prog 26 #[.int .i64 a, .int .i64 b] w fun e w' => e = .returned (.bool (withinF a b)) ∧ w = w' := by
 have HF : Hid (withinF a b = (a == b || b == 3 || (a == 1 && b == 2))) := rfl
 have HA := Lib.hid ha
 have HB := Lib.hid hb
 clear ha hb
 obtain ⟨x, hx⟩ : ∃ x, (a == b) = x := ⟨_, rfl⟩
 obtain ⟨y, hy⟩ : ∃ y, (b == 3) = y := ⟨_, rfl⟩
 obtain ⟨z, hz⟩ : ∃ z, (a == 1) = z := ⟨_, rfl⟩
 obtain ⟨u, hu⟩ : ∃ u, (b == 2) = u := ⟨_, rfl⟩
 rw [hx, hy, hz, hu] at HF
 cases x <;> cases y <;> cases z <;> cases u
 all_goals
  go_enter Tryz.func26, Tryz.ntmps26
  go_wp2_with (go_at_call 17; refine (refDaemon_any _ _).mono ?_; rintro e w' ⟨rfl, rfl⟩; first | rw [HA.out] | rw [HB.out])
  go_ret
  exact ⟨ret_bool (by rw [HF.out]; rfl), rfl⟩

end Go.Proofs.YtgemlgpjbclonaaGreatDoor

/- Contracts: the number of a configuration, and the configuration of a number, with errors. -/
namespace Go.Proofs.YtgemlgpjbclonaaGreatDoor
open Go.RowKit

set_option maxRecDepth 100000 in
set_option maxHeartbeats 1000000 in
theorem refUnrank_any (v1 : Value) (p : Prg) (v2 : Value) (g : Graph) (k n : Nat) (w : World) (h : PrgV w v1 p) (h2 : GraphV w v2 g) (hL : lightP p = true) (hG : lightG g = true) (ht : totalF p g = ((n : Int), 0)) (hk : k < n) (hk2 : n ≤ 32768) :
  Calls Tryz.prog 21 #[v1, v2, .int .i64 (k : Int)] w fun e w' => ∃ v, e = .returned (.tuple #[v, .int .i64 0]) ∧ ConfV w' v (confK p g k) ∧ Bel w w' := by
 obtain ⟨hf, hn⟩ := total_ok ht.symm
 have HPV := Lib.hid (fun w' (k : Bel w w') => h.keep k)
 have HGV := Lib.hid (fun w' (k : Bel w w') => h2.keep k)
 obtain ⟨A1, k1, A2, k2, rfl, _, _, _, _, _, _⟩ := h
 obtain ⟨A3, k3, A4, k4, rfl, _, _, _, _, _, _⟩ := h2
 have HW := Bel.refl ((w.alloc (.cells #[.string p.name, .slice A1 p.vars.length k1, .slice A2 p.rules.length k2] 25)).alloc (.cells #[.slice A3 g.ids.length k3, .slice A4 g.ports.length k4] 29))
 have HL := Lib.hid hL
 have HGL := Lib.hid hG
 have HT := Lib.hid ht
 have HFT := Lib.hid hf
 have HKS : Hid ((k : Int) < sizeF p g) := by show _ < _; omega
 have HI : Hid (inB (k : Int) 0 ((n : Int) - 1) = true) := inB_iff.2 (by omega)
 have HCL : Hid ((confK p g k).length = g.ports.length) := conf_len (confK_mem hf HKS.out)
 have hkk : k ≤ 32768 := by omega
 clear hL hG ht hf hn
 go_enter Tryz.func21, Tryz.ntmps21
 go_wp2_with (first
  | (go_at_call 16; refine (refCount10_any _ p _ g _ (HPV.out _ (box2_bel HW)) (HGV.out _ (box2_bel HW)) HL.out HGL.out).mono ?_; rintro e w' ⟨rfl, hb⟩; rw [HT.out]; replace HW := HW.trans hb; clear hb; (try clear p0 p1 p2 g0 g1 gsz); obtain ⟨p0, p1, p2, g0, g1, gsz⟩ := pgbox HW)
  | (go_at_call 45; refine (in01_any _ _ _ _).mono ?_; rintro e w' ⟨rfl, rfl⟩; rw [HI.out])
  | (go_at_call 39; refine (refConf_any _ p _ g k _ (HPV.out _ (box2_bel HW)) (HGV.out _ (box2_bel HW)) HL.out HGL.out HFT.out HKS.out hkk).mono ?_; rintro e w1 ⟨gb, cap, bs, rfl, hR, hb⟩; have HCV := hR.conf; rw [HCL.out] at HCV; replace HW := HW.trans hb; clear hb; (try clear p0 p1 p2 g0 g1 gsz); obtain ⟨p0, p1, p2, g0, g1, gsz⟩ := pgbox HW))
 go_ret2
 exact ⟨_, rfl, HCV, box2_bel HW⟩

set_option maxRecDepth 100000 in
set_option maxHeartbeats 1000000 in
theorem refRank_any (v1 : Value) (p : Prg) (v2 : Value) (g : Graph) (v3 : Value) (c : Config) (n : Int) (w : World) (h : PrgV w v1 p) (h2 : GraphV w v2 g) (h3 : ConfV w v3 c) (hL : lightP p = true) (hG : lightG g = true) (hC : lightC c = true) (hm : memF p g c = 0) (ht : totalF p g = (n, 0)) (hn : n ≤ 32768) :
  Calls Tryz.prog 25 #[v1, v2, v3] w fun e w' => e = .returned (.tuple #[.int .i64 (numF p g c), .int .i64 0]) ∧ Bel w w' := by
 obtain ⟨hf, hs⟩ := total_ok ht.symm
 have HPV := Lib.hid (fun w' (k : Bel w w') => h.keep k)
 have HGV := Lib.hid (fun w' (k : Bel w w') => h2.keep k)
 have HCV := Lib.hid (fun w' (k : Bel w w') => h3.keep k)
 obtain ⟨A1, k1, A2, k2, rfl, _, _, _, _, _, _⟩ := h
 obtain ⟨A3, k3, A4, k4, rfl, _, _, _, _, _, _⟩ := h2
 have HW := Bel.refl ((w.alloc (.cells #[.string p.name, .slice A1 p.vars.length k1, .slice A2 p.rules.length k2] 25)).alloc (.cells #[.slice A3 g.ids.length k3, .slice A4 g.ports.length k4] 29))
 have HL := Lib.hid hL
 have HGL := Lib.hid hG
 have HCL := Lib.hid hC
 have HT := Lib.hid ht
 have HM := Lib.hid hm
 have HS : Hid (sizeF p g ≤ 32768) := by show _ ≤ _; omega
 obtain ⟨nm, hnm⟩ : ∃ nm, numF p g c = nm := ⟨_, rfl⟩
 rw [hnm]
 have HN := Lib.hid hnm
 clear hL hG hC ht hm hf hs hnm
 go_enter Tryz.func25, Tryz.ntmps25
 go_wp2_with (first
  | (go_at_call 52; refine (refMemCheck_any _ p _ g _ c _ (HPV.out _ (box2_bel HW)) (HGV.out _ (box2_bel HW)) (HCV.out _ (box2_bel HW)) HL.out HGL.out HCL.out).mono ?_; rintro e w' ⟨rfl, hb⟩; rw [HM.out]; replace HW := HW.trans hb; clear hb; (try clear p0 p1 p2 g0 g1 gsz); obtain ⟨p0, p1, p2, g0, g1, gsz⟩ := pgbox HW)
  | (go_at_call 16; refine (refCount10_any _ p _ g _ (HPV.out _ (box2_bel HW)) (HGV.out _ (box2_bel HW)) HL.out HGL.out).mono ?_; rintro e w' ⟨rfl, hb⟩; rw [HT.out]; replace HW := HW.trans hb; clear hb; (try clear p0 p1 p2 g0 g1 gsz); obtain ⟨p0, p1, p2, g0, g1, gsz⟩ := pgbox HW)
  | (go_at_call 41; refine (refNum10_any _ p _ g _ c _ (HPV.out _ (box2_bel HW)) (HGV.out _ (box2_bel HW)) (HCV.out _ (box2_bel HW)) HL.out HGL.out HM.out HS.out).mono ?_; rintro e w' ⟨rfl, hb⟩; rw [HN.out]; replace HW := HW.trans hb; clear hb; (try clear p0 p1 p2 g0 g1 gsz); obtain ⟨p0, p1, p2, g0, g1, gsz⟩ := pgbox HW))
 go_ret2
 exact ⟨rfl, box2_bel HW⟩

end Go.Proofs.YtgemlgpjbclonaaGreatDoor

