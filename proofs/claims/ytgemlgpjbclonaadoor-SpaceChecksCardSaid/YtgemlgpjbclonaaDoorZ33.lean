/- Merged of: WSm WVb L18b Open (see NOTES.md). -/
import Derived.Test.YtgemlgpjbclonaaDoorZ30
import Derived.Test.YtgemlgpjbclonaaDoorZ24
import Derived.Test.YtgemlgpjbclonaaDoorZ32
import Derived.BigQuiet
import Derived.Test.YtgemlgpjbclonaaDoorZ01
import Derived.ProofKit
import Derived.OpenShut
import Derived.Deep.Slices
import Derived.Deep.Fields
import Derived.ChangeSame
import Derived.Carry
set_option linter.unusedSimpArgs false
set_option linter.unnecessarySimpa false
set_option linter.unusedVariables false

/- Contract: the reference's Neighbours, for a valid graph; All; Independent. -/
namespace Go.Proofs.YtgemlgpjbclonaaDoor
open Go.RowKit


set_option maxHeartbeats 1000000 in
theorem refAll_any (n : Nat) (w : World) (hn : n ≤ 30) :
    Calls Tryd.prog 12 #[.int .i64 (n : Int)] w fun e w' => e = .returned (.int .u32 (setF n (fun _ => true) : Nat)) ∧ w = w' := by
  go_enter Tryd.func12, Tryd.ntmps12
  go_wp2_with fail
  go_loopg [3, 4] n (fun m s z wr => ∃ v : Nat, v ≤ n ∧ m = n - v ∧ s = .int .u32 (setF v (fun _ => true) : Nat) ∧ z = .int .i64 v ∧ w = wr)
  case atStart => exact ⟨0, by omega, rfl, rfl, rfl, rfl⟩
  case round =>
    obtain ⟨v, hv, rfl, rfl, rfl, rfl⟩ := hrel
    have hsl := setF_lt32 (fun _ => true) (show v ≤ 32 by omega)
    by_cases hlt : v < n
    · have hd0 : decide (v < n) = true := by simpa using hlt
      have hd1 : decide (v < 32) = true := by simp; omega
      go_wp2_with fail
      go_roundg (n - (v + 1))
      case rel => exact ⟨v + 1, by omega, rfl, by rw [setF_succ, if_pos rfl, bits_set hsl (by omega)], by go_num, rfl⟩
      case measure => omega
    · have hd0 : decide (v < n) = false := by simpa using hlt
      obtain rfl : v = n := by omega
      go_wp2_with fail
      go_ret
      exact ⟨rfl, rfl⟩


end Go.Proofs.YtgemlgpjbclonaaDoor

/- Contracts: whether a transition system is well-formed, the reference's. -/
namespace Go.Proofs.YtgemlgpjbclonaaDoor
open Go.RowKit

def arcsS (E : Nat) (n : Int) (l : List (Nat × Int)) : Bool := (decide (E ≠ 0) == decide (0 < l.length)) && arcsB E n 0 l
theorem stateB8_parts (E : Nat) (n : Int) (l : List (Nat × Int)) : stateB8 E n l = (decide (E < 16777216) && arcsS E n l) := by unfold stateB8 arcsS; rw [Bool.and_assoc]

set_option maxRecDepth 100000 in
set_option maxHeartbeats 4000000 in
theorem refArcs_any (E : Nat) (A : Option Addr) (c : Nat) (l : List (Nat × Int)) (n : Nat) (w : World) (hA : ArcsR w A l.length l) (hx : ∀ x ∈ l, x.1 < 4294967296) (hl : l.length ≤ 70) (hn : n ≤ 200) :
    Calls Tryd.prog 13 #[.slice A l.length c, .int .u32 (E : Int), .int .i64 (n : Int)] w fun e w' => e = .returned (.bool (arcsS E n l)) ∧ Bel w w' := by
  have HF : Hid (arcsS E n l = ((decide (E ≠ 0) == decide (0 < l.length)) && arcsB E n 0 l)) := rfl
  have HA := Lib.hid (fun w' (k : Bel w w') => hA.keep k)
  have HX := Lib.hid hx
  have HB := Bel.refl w
  clear hA hx
  by_cases hm : (decide (E ≠ 0) == decide (0 < l.length)) = true
  · rw [hm] at HF
    obtain ⟨eb, e1, e2⟩ : ∃ eb : Bool, ((E : Int) != 0) = eb ∧ decide (0 < l.length) = eb := by
      refine ⟨_, rfl, ?_⟩
      have h1 : decide (E ≠ 0) = decide (0 < l.length) := by simpa using hm
      have h2 : ((E : Int) != 0) = decide (E ≠ 0) := by by_cases h : E = 0 <;> simp [h]
      rw [h2, h1]
    have e3 : (eb != eb) = false := by cases eb <;> rfl
    clear hm
    go_enter Tryd.func13, Tryd.ntmps13
    go_wp2_with fail
    go_loopg [7] l.length (fun m z wr => ∃ (i bf : Nat), i ≤ l.length ∧ m = l.length - i ∧ z = .int .i64 (i : Int) ∧ Hid (bf = if h : 0 < i ∧ i - 1 < l.length then l[i - 1].1 else 0) ∧ Hid (arcsB E n bf (l.drop i) = arcsB E n 0 l) ∧ Bel w wr)
    case atStart => exact ⟨0, 0, by omega, rfl, rfl, rfl, by show _ = _; simp, HB⟩
    case round =>
      clear HB e1 e2 e3
      obtain ⟨i, bf, hi, rfl, rfl, HBF, HQ, HB⟩ := hrel
      by_cases hlt : i < l.length
      · have hd0 : decide (i < l.length) = true := by simpa using hlt
        obtain ⟨b, o, rfl, hbl, c0, c1⟩ := (HA.out _ HB).at_ i hlt
        have hx1 := HX.out _ (List.getElem_mem hlt)
        rw [arcsB_at hlt] at HQ
        obtain ⟨S, hS⟩ : ∃ S, S = l[i].1 := ⟨_, rfl⟩
        obtain ⟨T, hT⟩ : ∃ T, T = l[i].2 := ⟨_, rfl⟩
        have HSd := Lib.hid hS
        rw [← hS] at hx1 c0
        rw [← hT] at c1
        simp only [← hS, ← hT] at HQ
        clear hS hT
        obtain ⟨iv, hiv⟩ : ∃ iv, inB T 0 ((n : Int) - 1) = iv := ⟨_, rfl⟩
        have HIV := Lib.hid hiv
        have hIB : iv = (decide (0 ≤ T) && decide (T < n)) := by
          rw [← hiv, Bool.eq_iff_iff, inB_iff]; simp; omega
        have HIB := Lib.hid hIB
        clear hiv hIB
        by_cases a0 : S = 0
        · subst a0
          rw [decide_eq_false (Nat.not_lt_zero _)] at HQ
          go_wp2_with fail
          go_quiet (fail)
          go_wp2_with fail
          go_ret
          exact ⟨ret_bool (by rw [HF.out, ← HQ.out]; rfl), HB.drewN _⟩
        · have z0 : ((S : Int) == 0) = false := by simp; omega
          have z0' : (S == 0) = false := by simp; omega
          have HD := diffF_zero (T := E) hx1
          have hbn := bits_andNot S E
          cases hw : within32 S E with
          | false =>
            rw [hw] at HQ HD
            have hz : ((diffF S E : Int) != 0) = true := by simp at HD ⊢; omega
            have hz' : (diffF S E != 0) = true := by simp at HD ⊢; omega
            clear hw HD a0
            go_wp2_with fail
            go_quiet (fail)
            go_wp2_with fail
            go_ret
            exact ⟨ret_bool (by rw [HF.out, ← HQ.out]; simp), HB.drewN _⟩
          | true =>
            rw [hw] at HQ HD
            have hz : ((diffF S E : Int) != 0) = false := by simp at HD ⊢; omega
            have hz' : (diffF S E != 0) = false := by simp at HD ⊢; omega
            clear hw HD
            rcases Nat.eq_zero_or_pos i with h0 | h0
            · subst h0
              have hbf : bf = 0 := by rw [HBF.out]; simp
              subst hbf
              rw [decide_eq_true (show 0 < S by omega)] at HQ
              clear a0
              simp only [Nat.zero_mul, Nat.add_zero] at c0 c1
              go_wp2_with fail
              go_quiet ((go_at_call 11; exact Calls.quiet_of_same ((in01_any _ _ _ _).mono (fun _ _ hh => ⟨hh.1.trans (by rw [HIV.out]), hh.2.symm⟩))))
              cases iv with
              | true =>
                go_wp2_with fail
                go_roundg (l.length - (0 + 1))
                case rel => exact ⟨1, S, by omega, rfl, by go_num, by show _ = _; rw [dif_pos ⟨by omega, hlt⟩]; exact HSd.out, by have := HQ.out; have h2 := HIB.out; rw [eq_comm, Bool.and_eq_true] at h2; rw [h2.1, h2.2] at this; show _ = _; simpa using this, HB.drewN _⟩
                case measure => omega
              | false =>
                go_wp2_with fail
                go_ret
                refine ⟨ret_bool ?_, HB.drewN _⟩
                have h2 := HIB.out
                rw [HF.out, ← HQ.out]
                revert h2
                cases decide (0 ≤ T) <;> cases decide (T < (n : Int)) <;> simp
            · obtain ⟨k, rfl⟩ : ∃ k, i = k + 1 := ⟨i - 1, by omega⟩
              have hk : k < l.length := by omega
              have hbf : bf = l[k].1 := by rw [HBF.out, dif_pos ⟨by omega, by simpa using hk⟩]; simp
              obtain ⟨b2, o2, hab, hbl2, p0, _⟩ := (HA.out _ HB).at_ k hk
              obtain ⟨rfl, rfl⟩ : b = b2 ∧ o = o2 := by injection hab with hab; injection hab with h1 h2; exact ⟨h1, h2⟩
              have hx2 := HX.out _ (List.getElem_mem hk)
              rw [← hbf] at p0 hx2
              clear hbf hab
              by_cases a1 : bf < S
              · have d1 : decide (S ≤ bf) = false := by simp; omega
                have d1I : decide ((S : Int) ≤ (bf : Int)) = false := by simp; omega
                rw [decide_eq_true a1] at HQ
                have g0 : decide ((0 : Int) < ((k + 1 : Nat) : Int)) = true := decide_eq_true (by omega)
                clear a0 a1
                go_wp2_with fail
                go_quiet ((go_at_call 11; exact Calls.quiet_of_same ((in01_any _ _ _ _).mono (fun _ _ hh => ⟨hh.1.trans (by rw [HIV.out]), hh.2.symm⟩))))
                cases iv with
                | true =>
                  go_wp2_with fail
                  go_roundg (l.length - (k + 1 + 1))
                  case rel => exact ⟨k + 1 + 1, S, by omega, rfl, by go_num, by show _ = _; rw [dif_pos ⟨by omega, by simpa using hlt⟩]; exact HSd.out, by have := HQ.out; have h2 := HIB.out; rw [eq_comm, Bool.and_eq_true] at h2; rw [h2.1, h2.2] at this; show _ = _; simpa using this, HB.drewN _⟩
                  case measure => omega
                | false =>
                  go_wp2_with fail
                  go_ret
                  refine ⟨ret_bool ?_, HB.drewN _⟩
                  have h2 := HIB.out
                  rw [HF.out, ← HQ.out]
                  revert h2
                  cases decide (0 ≤ T) <;> cases decide (T < (n : Int)) <;> simp
              · have d1 : decide (S ≤ bf) = true := by simp; omega
                have d1I : decide ((S : Int) ≤ (bf : Int)) = true := by simp; omega
                rw [decide_eq_false a1] at HQ
                have g0 : decide ((0 : Int) < ((k + 1 : Nat) : Int)) = true := decide_eq_true (by omega)
                clear a0 a1
                go_wp2_with fail
                go_quiet (fail)
                go_wp2_with fail
                go_ret
                exact ⟨ret_bool (by rw [HF.out, ← HQ.out]; rfl), HB.drewN _⟩
      · have hd0 : decide (i < l.length) = false := by simpa using hlt
        obtain rfl : i = l.length := by omega
        rw [arcsB_end] at HQ
        go_wp2_with fail
        go_ret
        exact ⟨ret_bool (by rw [HF.out, ← HQ.out]; rfl), HB⟩
  · have hm' : (decide (E ≠ 0) == decide (0 < l.length)) = false := by simpa using hm
    rw [hm'] at HF
    obtain ⟨eb, e1, e2⟩ : ∃ eb : Bool, ((E : Int) != 0) = eb ∧ decide (0 < l.length) = !eb := by
      refine ⟨_, rfl, ?_⟩
      have h1 : decide (E ≠ 0) ≠ decide (0 < l.length) := by simpa using hm
      have h2 : ((E : Int) != 0) = decide (E ≠ 0) := by by_cases h : E = 0 <;> simp [h]
      rw [h2]
      revert h1
      cases decide (E ≠ 0) <;> cases decide (0 < l.length) <;> simp
    have e3 : (!eb != eb) = true := by cases eb <;> rfl
    clear hm hm'
    go_enter Tryd.func13, Tryd.ntmps13
    go_wp2_with fail
    go_ret
    exact ⟨ret_bool (by rw [HF.out]; rfl), HB⟩

theorem within24 {E : Nat} (hE : E < 4294967296) : within32 E (setF 24 fun _ => true) = decide (E < 16777216) := by
  rw [Bool.eq_iff_iff, within32_iff, decide_eq_true_iff]
  constructor
  · intro h
    rcases Nat.lt_or_ge E 16777216 with h1 | h1
    · exact h1
    · obtain ⟨i, hi, ht⟩ := Nat.exists_ge_and_testBit_of_ge_two_pow (show 2 ^ 24 ≤ E from h1)
      have h32 : i < 32 := by
        rcases Nat.lt_or_ge i 32 with h2 | h2
        · exact h2
        · have := Nat.testBit_lt_two_pow (i := i) (show E < 2 ^ i from Nat.lt_of_lt_of_le hE (Nat.pow_le_pow_right (n := 2) (by omega) h2))
          rw [this] at ht; cases ht
      have h3 := h i h32 ht
      rw [setF_bit] at h3
      simp at h3
      omega
  · intro h v hv ht
    rw [setF_bit]
    simp
    rcases Nat.lt_or_ge v 24 with h1 | h1
    · exact h1
    · have := Nat.testBit_lt_two_pow (i := v) (show E < 2 ^ v from Nat.lt_of_lt_of_le h (Nat.pow_le_pow_right (n := 2) (by omega) h1))
      rw [this] at ht; cases ht

set_option maxRecDepth 100000 in
set_option maxHeartbeats 1000000 in
theorem refSpaceValid_any (v : Value) (s : Spc) (w : World) (h : SpaceV w v s) (hwf : wfS s) (hl : lightS s = true) :
    Calls Tryd.prog 7 #[v] w fun e w' => e = .returned (.bool (validS s)) ∧ Bel w w' := by
  obtain ⟨l1, l2, l3⟩ := lightS_parts hl
  have HF : Hid (validS s = (decide (1 ≤ s.enabled.length) && decide (s.arcs.length = s.enabled.length) && (List.range s.enabled.length).all fun k => stateB8 (s.enabled.getD k 0) s.enabled.length (s.arcs.getD k []))) := rfl
  obtain ⟨AE, cE, AA, cA, rfl, hE, hA, _, _, _, _⟩ := h
  have HE := Lib.hid (fun w' (k : Bel w w') => hE.keep k)
  have HA := Lib.hid (fun w' (k : Bel w w') => hA.keep k)
  have HWF := Lib.hid hwf
  have HL3 := Lib.hid l3
  have HW := Bel.refl (w.alloc (.cells #[.slice AE s.enabled.length cE, .slice AA s.arcs.length cA] 25))
  clear hE hA hwf hl l3
  by_cases h1 : 1 ≤ s.enabled.length
  · have HI1 : Hid (inB (s.enabled.length : Int) 1 32768 = true) := inB_iff.2 (by omega)
    rw [decide_eq_true h1] at HF
    by_cases h2 : s.arcs.length = s.enabled.length
    · have d3 : (((s.arcs.length : Nat) : Int) != ((s.enabled.length : Nat) : Int)) = false := by simp; omega
      have d3' : (s.arcs.length != s.enabled.length) = false := by simp; omega
      rw [decide_eq_true h2] at HF
      have H2 := Lib.hid h2
      clear h2
      go_enter Tryd.func7, Tryd.ntmps7
      go_wp2_with (go_at_call 11; refine (in01_any _ _ _ _).mono ?_; rintro e w' ⟨rfl, rfl⟩; rw [HI1.out])
      go_loopg [4, 5] s.enabled.length (fun m t z wr => ∃ (k tt : Nat), k ≤ s.enabled.length ∧ m = s.enabled.length - k ∧ t = .int .i64 (tt : Int) ∧ tt ≤ 70 * k ∧ z = .int .i64 (k : Int) ∧ Hid (((List.range k).all fun k => stateB8 (s.enabled.getD k 0) s.enabled.length (s.arcs.getD k [])) = true) ∧ Bel (w.alloc (.cells #[.slice AE s.enabled.length cE, .slice AA s.arcs.length cA] 25)) wr)
      case atStart => exact ⟨0, 0, by omega, rfl, rfl, by omega, rfl, rfl, HW⟩
      case round =>
        clear HW d3 d3'
        obtain ⟨k, tt, hk, rfl, rfl, htt, rfl, HI, HW⟩ := hrel
        have q0 := box_cell HW 0 (v := .slice AE s.enabled.length cE) rfl
        have q1 := box_cell HW 1 (v := .slice AA s.arcs.length cA) rfl
        have ql := box_lt HW
        by_cases hlt : k < s.enabled.length
        · have hd0 : decide (k < s.enabled.length) = true := by simpa using hlt
          have hltA : k < s.arcs.length := by rw [H2.out]; exact hlt
          obtain ⟨bE, oE, rfl, hbE, k0⟩ := (HE.out _ (Bel.refl w)).at_ k hlt
          obtain ⟨bA, oA, R, rc, rfl, hbA, k1, hR, _, _⟩ := (HA.out _ (Bel.refl w)).at_ k hltA
          have HR := Lib.hid (fun w' (k : Bel w w') => hR.keep k)
          have HST : Hid (stateB8 (s.enabled.getD k 0) s.enabled.length (s.arcs.getD k []) = stateB8 s.enabled[k] s.enabled.length s.arcs[k]) := by show _ = _; rw [getD_eq hlt, getD_eq hltA]
          have hE32 := HWF.out.1 _ (List.getElem_mem hlt)
          have HX := Lib.hid (HWF.out.2 _ (List.getElem_mem hltA))
          have hll := HL3.out _ (List.getElem_mem hltA)
          have hkA : (k : Int) < (s.arcs.length : Int) := by omega
          have hkE : (k : Int) < (s.enabled.length : Int) := by omega
          clear hR
          generalize s.arcs[k] = l at *
          generalize s.enabled[k] = E at *
          have hcell := Lib.hid (fun w3 (kk : Bel (w.alloc (.cells #[.slice (some ⟨bE, oE, none⟩) s.enabled.length cE, .slice (some ⟨bA, oA, none⟩) s.arcs.length cA] 25)) w3) => show w3.cell? ⟨w.heap.size, 0, none⟩ = some (.slice (some ⟨bE, oE, none⟩) s.enabled.length cE) ∧ w3.cell? ⟨w.heap.size, 1, none⟩ = some (.slice (some ⟨bA, oA, none⟩) s.arcs.length cA) ∧ w3.cell? ⟨bE, oE + k, none⟩ = some (.int .u32 (E : Int)) ∧ w3.cell? ⟨bA, oA + k, none⟩ = some (.slice R l.length rc) ∧ w.heap.size < w3.heap.size ∧ bE < w3.heap.size ∧ bA < w3.heap.size from ⟨box_cell kk 0 rfl, box_cell kk 1 rfl, ((box_bel kk).cell hbE).trans k0, ((box_bel kk).cell hbA).trans k1, box_lt kk, Nat.lt_of_lt_of_le hbE (box_bel kk).size, Nat.lt_of_lt_of_le hbA (box_bel kk).size⟩)
          obtain ⟨_, _, _, x1, _, _, xA⟩ := hcell.out _ HW
          have d4 : decide ((262144 : Int) < (tt : Int) + (l.length : Int)) = false := decide_eq_false (by omega)
          have d4' : decide (262144 < tt + l.length) = false := decide_eq_false (by omega)
          clear k0 k1
          obtain ⟨M, hM⟩ : ∃ M, setF 24 (fun _ => true) = M := ⟨_, rfl⟩
          have HM := Lib.hid hM
          have hbn := bits_andNot E M
          have HD := diffF_zero (T := M) hE32
          rw [← hM, within24 hE32, hM] at HD
          clear hM
          by_cases h24 : E < 16777216
          · rw [decide_eq_true h24] at HD
            have hz : ((diffF E M : Int) != 0) = false := by simp at HD ⊢; omega
            have hz' : (diffF E M != 0) = false := by simp at HD ⊢; omega
            have HSB : Hid (stateB8 E s.enabled.length l = arcsS E s.enabled.length l) := by show _ = _; rw [stateB8_parts, decide_eq_true h24]; rfl
            clear HD h24
            cases hs : arcsS E s.enabled.length l with
            | true =>
              go_upto_region 9 with fail
              replace HW := HW.drew
              go_region_held3 (fun w3 => w3.cell? ⟨w.heap.size, 0, none⟩ = some (.slice (some ⟨bE, oE, none⟩) s.enabled.length cE) ∧ w3.cell? ⟨w.heap.size, 1, none⟩ = some (.slice (some ⟨bA, oA, none⟩) s.arcs.length cA) ∧ w3.cell? ⟨bE, oE + k, none⟩ = some (.int .u32 (E : Int)) ∧ w3.cell? ⟨bA, oA + k, none⟩ = some (.slice R l.length rc) ∧ w.heap.size < w3.heap.size ∧ bE < w3.heap.size ∧ bA < w3.heap.size) (exact hcell.out _ HW) (first | (go_simp; go_at_call 12; refine (refAll_any 24 _ (by omega)).mono ?_; rintro e w' ⟨rfl, rfl⟩; rw [HM.out]) | (go_simp; go_at_call 13; refine (refArcs_any E R rc l s.enabled.length _ (HR.out _ (box_bel HW)) HX.out hll l1).mono ?_; rintro e w' ⟨rfl, hb⟩; rw [hs]; replace HW := HW.trans hb; clear hb))
              go_wp2_with fail
              go_roundg (s.enabled.length - (k + 1))
              case rel =>
                refine ⟨k + 1, tt + l.length, by omega, rfl, by go_num, by omega, by go_num, ?_, HW⟩
                show _ = _
                rw [validS_next hlt, HI.out, HST.out, HSB.out, hs]; rfl
              case measure => omega
            | false =>
              have HSF := Lib.hid hs
              go_upto_region 9 with fail
              replace HW := HW.drew
              go_region_held3 (fun w3 => w3.cell? ⟨w.heap.size, 0, none⟩ = some (.slice (some ⟨bE, oE, none⟩) s.enabled.length cE) ∧ w3.cell? ⟨w.heap.size, 1, none⟩ = some (.slice (some ⟨bA, oA, none⟩) s.arcs.length cA) ∧ w3.cell? ⟨bE, oE + k, none⟩ = some (.int .u32 (E : Int)) ∧ w3.cell? ⟨bA, oA + k, none⟩ = some (.slice R l.length rc) ∧ w.heap.size < w3.heap.size ∧ bE < w3.heap.size ∧ bA < w3.heap.size) (exact hcell.out _ HW) (first | (go_simp; go_at_call 12; refine (refAll_any 24 _ (by omega)).mono ?_; rintro e w' ⟨rfl, rfl⟩; rw [HM.out]) | (go_simp; go_at_call 13; refine (refArcs_any E R rc l s.enabled.length _ (HR.out _ (box_bel HW)) HX.out hll l1).mono ?_; rintro e w' ⟨rfl, hb⟩; rw [hs]; replace HW := HW.trans hb; clear hb))
              go_wp2_with fail
              go_ret
              refine ⟨ret_bool ?_, box_bel HW⟩
              rw [HF.out, all_stop (f := fun k => stateB8 (s.enabled.getD k 0) s.enabled.length (s.arcs.getD k [])) hlt (by rw [HST.out, HSB.out]; exact HSF.out)]; rfl
          · rw [decide_eq_false h24] at HD
            have hz : ((diffF E M : Int) != 0) = true := by simp at HD ⊢; omega
            have hz' : (diffF E M != 0) = true := by simp at HD ⊢; omega
            have HSB : Hid (stateB8 E s.enabled.length l = false) := by show _ = _; rw [stateB8_parts, decide_eq_false h24]; rfl
            clear HD h24
            go_wp2_with fail
            go_quiet ((go_at_call 12; exact Calls.quiet_of_same ((refAll_any 24 _ (by omega)).mono (fun _ _ hh => ⟨hh.1.trans (by rw [HM.out]), hh.2.symm⟩))))
            go_wp2_with fail
            go_ret
            refine ⟨ret_bool ?_, box_bel (HW.drewN _)⟩
            rw [HF.out, all_stop (f := fun k => stateB8 (s.enabled.getD k 0) s.enabled.length (s.arcs.getD k [])) hlt (by rw [HST.out, HSB.out])]; rfl
        · have hd0 : decide (k < s.enabled.length) = false := by simpa using hlt
          obtain rfl : k = s.enabled.length := by omega
          go_wp2_with fail
          go_ret
          exact ⟨ret_bool (by rw [HF.out, HI.out]; rfl), box_bel HW⟩
    · have d3 : (((s.arcs.length : Nat) : Int) != ((s.enabled.length : Nat) : Int)) = true := by simp; omega
      have d3' : (s.arcs.length != s.enabled.length) = true := by simp; omega
      rw [decide_eq_false h2] at HF
      clear h2
      go_enter Tryd.func7, Tryd.ntmps7
      go_wp2_with (go_at_call 11; refine (in01_any _ _ _ _).mono ?_; rintro e w' ⟨rfl, rfl⟩; rw [HI1.out])
      go_ret
      exact ⟨ret_bool (by rw [HF.out]; rfl), box_bel HW⟩
  · have HI1 : Hid (inB (s.enabled.length : Int) 1 32768 = false) := inB_false (by omega)
    rw [decide_eq_false h1] at HF
    clear h1
    go_enter Tryd.func7, Tryd.ntmps7
    go_wp2_with (go_at_call 11; refine (in01_any _ _ _ _).mono ?_; rintro e w' ⟨rfl, rfl⟩; rw [HI1.out])
    go_ret
    exact ⟨ret_bool (by rw [HF.out]; rfl), box_bel HW⟩

end Go.Proofs.YtgemlgpjbclonaaDoor

/- The walk of SpaceChecks. -/
namespace Go.Proofs.YtgemlgpjbclonaaDoor
open Go.RowKit

theorem lightS_alt (s : Spc) : lightS s = (decide (s.enabled.length ≤ 200) && (decide (s.arcs.length ≤ 200) && s.arcs.all fun l => decide (l.length ≤ 70))) := by unfold lightS; rw [Bool.and_assoc]
set_option maxRecDepth 100000 in
set_option maxHeartbeats 2000000 in
theorem lightS_any (v : Value) (s : Spc) (w : World) (h : SpaceV w v s) :
    Calls Tryd.prog 4 #[v] w fun e w' => e = .returned (.bool (lightS s)) ∧ Bel w w' := by
  have HF : Hid (lightS s = (decide (s.enabled.length ≤ 200) && (decide (s.arcs.length ≤ 200) && s.arcs.all fun l => decide (l.length ≤ 70)))) := lightS_alt s
  obtain ⟨AE, cE, AA, cA, rfl, hE, hA, _, _, _, _⟩ := h
  have HA := Lib.hid (fun w' (k : Bel w w') => hA.keep k)
  have HW := Bel.refl (w.alloc (.cells #[.slice AE s.enabled.length cE, .slice AA s.arcs.length cA] 25))
  clear hE hA
  by_cases h1 : s.enabled.length ≤ 200
  · have d1 : decide (200 < s.enabled.length) = false := by simp; omega
    have d1I : decide ((200 : Int) < (s.enabled.length : Int)) = false := by simp; omega
    rw [decide_eq_true h1] at HF
    by_cases h2 : s.arcs.length ≤ 200
    · have d2 : decide (200 < s.arcs.length) = false := by simp; omega
      have d2I : decide ((200 : Int) < (s.arcs.length : Int)) = false := by simp; omega
      rw [decide_eq_true h2] at HF
      clear h1
      go_enter Tryd.func4, Tryd.ntmps4
      go_wp2_with fail
      go_loopg [3] s.arcs.length (fun m z wr => ∃ (k : Nat), k ≤ s.arcs.length ∧ m = s.arcs.length - k ∧ z = .int .i64 (k : Int) ∧ Hid ((s.arcs.drop k).all (fun l => decide (l.length ≤ 70)) = s.arcs.all fun l => decide (l.length ≤ 70)) ∧ Bel (w.alloc (.cells #[.slice AE s.enabled.length cE, .slice AA s.arcs.length cA] 25)) wr)
      case atStart => exact ⟨0, by omega, rfl, rfl, rfl, HW⟩
      case round =>
        clear HW d1 d1I d2 d2I
        obtain ⟨k, hk, rfl, rfl, HQ, HW⟩ := hrel
        have q1 := box_cell HW 1 (v := .slice AA s.arcs.length cA) rfl
        have ql := box_lt HW
        by_cases hlt : k < s.arcs.length
        · have hd0 : decide (k < s.arcs.length) = true := by simpa using hlt
          obtain ⟨bA, oA, R, rc, rfl, hbA, k1, hR, _, _⟩ := (HA.out _ (box_bel HW)).at_ k hlt
          rw [List.drop_eq_getElem_cons hlt, List.all_cons] at HQ
          clear hR
          generalize s.arcs[k] = l at *
          by_cases h3 : l.length ≤ 70
          · have d3 : decide (70 < l.length) = false := by simp; omega
            have d3I : decide ((70 : Int) < (l.length : Int)) = false := by simp; omega
            rw [decide_eq_true h3] at HQ
            go_wp2_with fail
            go_roundg (s.arcs.length - (k + 1))
            case rel => exact ⟨k + 1, by omega, rfl, by go_num, by have := HQ.out; show _ = _; simpa using this, HW⟩
            case measure => omega
          · have d3 : decide (70 < l.length) = true := by simp; omega
            have d3I : decide ((70 : Int) < (l.length : Int)) = true := by simp; omega
            rw [decide_eq_false h3] at HQ
            go_wp2_with fail
            go_ret
            exact ⟨ret_bool (by rw [HF.out, ← HQ.out]; rfl), box_bel HW⟩
        · have hd0 : decide (k < s.arcs.length) = false := by simpa using hlt
          obtain rfl : k = s.arcs.length := by omega
          rw [List.drop_length] at HQ
          go_wp2_with fail
          go_ret
          exact ⟨ret_bool (by rw [HF.out, ← HQ.out]; rfl), box_bel HW⟩
    · have d2 : decide (200 < s.arcs.length) = true := by simp; omega
      have d2I : decide ((200 : Int) < (s.arcs.length : Int)) = true := by simp; omega
      rw [decide_eq_false h2] at HF
      clear h1 h2
      go_enter Tryd.func4, Tryd.ntmps4
      go_wp2_with fail
      go_ret
      exact ⟨ret_bool (by rw [HF.out]; rfl), box_bel HW⟩
  · have d1 : decide (200 < s.enabled.length) = true := by simp; omega
    have d1I : decide ((200 : Int) < (s.enabled.length : Int)) = true := by simp; omega
    rw [decide_eq_false h1] at HF
    clear h1
    go_enter Tryd.func4, Tryd.ntmps4
    go_wp2_with fail
    go_ret
    exact ⟨ret_bool (by rw [HF.out]; rfl), box_bel HW⟩

set_option maxRecDepth 100000 in
set_option maxHeartbeats 2000000 in
theorem spaceChecks_walk (v : Value) (s : Spc) (w : World) (h : SpaceV w v s ∧ wfS s) (hT : Tab32 w) :
    Calls Tryd.prog 3 #[v] w fun e w' => e = .returned (.bool true) ∧ Bel w w' := by
  obtain ⟨h, hwf⟩ := h
  have HS := Lib.hid (fun w' (k : Bel w w') => h.keep k)
  have HT := Lib.hid (fun w' (k : Bel w w') => hT.keep k)
  have HWF := Lib.hid hwf
  obtain ⟨AE, cE, AA, cA, rfl, _, _, _, _, _, _⟩ := h
  have HW := Bel.refl (w.alloc (.cells #[.slice AE s.enabled.length cE, .slice AA s.arcs.length cA] 25))
  have q0 := box_cell HW 0 (v := .slice AE s.enabled.length cE) rfl
  have q1 := box_cell HW 1 (v := .slice AA s.arcs.length cA) rfl
  have ql := box_lt HW
  clear hT hwf
  cases hl : lightS s with
  | false =>
    go_enter Tryd.func3, Tryd.ntmps3
    go_wp2_with (first
      | (go_at_call 4; refine (lightS_any _ s _ (HS.out _ (box_bel HW))).mono ?_; rintro e w' ⟨rfl, hb⟩; rw [hl]; replace HW := HW.trans hb; clear hb)
      | (go_at_call 5; refine (awake18_any _ (HT.out _ (box_bel HW))).mono ?_; rintro e w' ⟨rfl, hb⟩; replace HW := HW.trans hb; clear hb))
    go_ret
    exact ⟨rfl, box_bel HW⟩
  | true =>
    have HL := Lib.hid hl
    have hcell := Lib.hid (fun w3 (kk : Bel (w.alloc (.cells #[.slice AE s.enabled.length cE, .slice AA s.arcs.length cA] 25)) w3) => show w3.cell? ⟨w.heap.size, 0, none⟩ = some (.slice AE s.enabled.length cE) ∧ w3.cell? ⟨w.heap.size, 1, none⟩ = some (.slice AA s.arcs.length cA) ∧ w.heap.size < w3.heap.size from ⟨box_cell kk 0 rfl, box_cell kk 1 rfl, box_lt kk⟩)
    go_enter Tryd.func3, Tryd.ntmps3
    go_upto_region 3 with (go_at_call 4; refine (lightS_any _ s _ (HS.out _ (box_bel HW))).mono ?_; rintro e w' ⟨rfl, hb⟩; rw [hl]; replace HW := HW.trans hb; clear hb)
    replace HW := HW.drew
    go_region_held3 (fun w3 => w3.cell? ⟨w.heap.size, 0, none⟩ = some (.slice AE s.enabled.length cE) ∧ w3.cell? ⟨w.heap.size, 1, none⟩ = some (.slice AA s.arcs.length cA) ∧ w.heap.size < w3.heap.size) (exact hcell.out _ HW) (first
      | (go_simp; go_at_call 5; refine (awake18_any _ (HT.out _ (box_bel HW))).mono ?_; rintro e w' ⟨rfl, hb⟩; replace HW := HW.trans hb; clear hb)
      | (go_simp; go_at_call 6; refine (spaceValid_any _ s _ (HS.out _ (box_bel HW)) HWF.out HL.out).mono ?_; rintro e w' ⟨rfl, hb⟩; replace HW := HW.trans hb; clear hb)
      | (go_simp; go_at_call 7; refine (refSpaceValid_any _ s _ (HS.out _ (box_bel HW)) HWF.out HL.out).mono ?_; rintro e w' ⟨rfl, hb⟩; replace HW := HW.trans hb; clear hb))
    all_goals (go_wp2_with fail; go_ret; exact ⟨by simp, box_bel HW⟩)

end Go.Proofs.YtgemlgpjbclonaaDoor

/- From a row's reading of the arguments to lists and numbers, and from a walk back to the row: for laws that return true and leave the arguments as they are. -/
namespace Go.Proofs.YtgemlgpjbclonaaDoor
open Go.ChangeShapes Go.WideShapes Go.ChangeAt Go.RowKit Go.Deep

theorem Tryd.own : ownKnob Tryd.prog.godebug = none := by kernel_rfl
theorem Tryd.laidOut : laidOutB Tryd.prog = true := by kernel_rfl
theorem Tryd.cells_int : Tryd.prog.cellsOf 3 = 1 := by kernel_rfl

section
variable {H : Type} {enc : TypeId × Value → H} {P : Program} {w : World} {base : Nat} {spare : Nat → Bool} {held : Bool}

theorem block_lt {w : World} {a : Addr} {v : Value} (h : w.cell? a = some v) : a.block < w.heap.size ∧ a.spot = none := by
  unfold World.cell? at h
  split at h
  · rename_i c e f hh
    refine ⟨?_, ?_⟩
    · rcases Nat.lt_or_ge a.block w.heap.size with hlt | hge
      · exact hlt
      · rw [Array.getElem?_eq_none hge] at hh; cases hh
    · cases hs : a.spot with
      | none => rfl
      | some s => rw [hs] at h; simp at h
  · cases h

theorem add_none {b o k : Nat} : (⟨b, o, none⟩ : Addr).add k = ⟨b, o + k, none⟩ := by
  unfold Addr.add
  split
  · rename_i h; subst h; rfl
  · rfl

theorem open_sliceR {α : Type} [Inhabited α] {t e : TypeId} {size : Nat} {E : World → Nat → Nat → α → Prop} {Good : α → Prop} (ht : P.underlying t = some (.slice e)) (hC : P.cellsOf e = size) (hsz : 0 < size)
    (hE : ∀ n cs y b o, (∀ j, j < size → w.cell? ⟨b, o + j, none⟩ = cs[j]?) → cs.length = size → DataW.trod enc P w base spare held n e cs = some y → ∃ x, E w b o x ∧ Good x)
    {fuel : Nat} {cs : List Value} {x : DataW H × List MemPlace} (h : DataW.trod enc P w base spare held fuel t cs = some x) :
    ∃ (A : Option Addr) (n c : Nat) (xs : List α), cs = [.slice A n c] ∧ SliceR size E w A n xs ∧ (∀ x ∈ xs, Good x) ∧ n ≤ c ∧ c ≤ maxLen := by
  rcases open_slice ht h with ⟨hcs, _⟩ | ⟨a, len, cap, m, n, D, Pl, hcs, hb, hl, hm, hmm, hx, hi⟩
  · exact ⟨none, 0, 0, [], hcs, SliceR.nil, fun _ h => by simp at h, Nat.le_refl _, by unfold maxLen; omega⟩
  · have hlm : len ≤ m := by rw [hmm]; split <;> omega
    rw [hC] at hi
    rcases Nat.eq_zero_or_pos len with h0 | h0
    · subst h0
      exact ⟨some a, 0, cap, [], hcs, SliceR.nil, fun _ h => by simp at h, hl, hm⟩
    · have ha : a = ⟨a.block, a.off, none⟩ ∧ a.block < w.heap.size := by
        obtain ⟨cs', hc, _⟩ := hi 0 (by omega)
        obtain ⟨_, hcl, hat⟩ := World.cells?_some hc
        have h1 := hat 0 (by omega)
        rw [List.getElem?_eq_getElem (by omega)] at h1
        simp [Addr.add] at h1
        obtain ⟨h2, h3⟩ := block_lt h1
        exact ⟨by rw [← h3], h2⟩
      obtain ⟨hae, hab⟩ := ha
      generalize a.block = b at *
      generalize a.off = o at *
      subst hae
      have hch : ∀ i, i < len → ∃ x, E w b (o + i * size) x ∧ Good x := by
        intro i hi'
        obtain ⟨cs', hc, htr⟩ := hi i (by omega)
        obtain ⟨_, hcl, hat⟩ := World.cells?_some hc
        refine hE n cs' _ b (o + i * size) (fun j hj => ?_) hcl htr
        have := hat j hj
        rw [add_none, add_none] at this
        exact this
      obtain ⟨f, hf⟩ := choose_lt hch
      refine ⟨some ⟨b, o, none⟩, len, cap, (List.range len).map f, hcs, ⟨by simp, fun i x hx => ?_⟩, fun x hx => ?_, hl, hm⟩
      · have hil : i < len := by
          have := (List.getElem?_eq_some_iff.1 hx).1
          simpa using this
        rw [List.getElem?_map, List.getElem?_range hil] at hx
        simp at hx
        subst hx
        exact ⟨b, o, rfl, hab, (hf i hil).1⟩
      · obtain ⟨i, hi', rfl⟩ := List.mem_map.1 hx
        exact (hf i (List.mem_range.1 hi')).2

/-- A number of the kind int. -/
def InI64 (x : Int) : Prop := -9223372036854775808 ≤ x ∧ x ≤ 9223372036854775807
theorem inI64_of_wf {x : Int} (h : (Lit.int .i64 x).wf = true) : InI64 x := by
  simpa [InI64, Lit.wf, IntKind.min, IntKind.max, IntKind.signed, IntKind.bits] using h

theorem open_int_at {e : TypeId} (he : P.underlying e = some (.int .i64)) : ∀ n cs y b o, (∀ j, j < 1 → w.cell? ⟨b, o + j, none⟩ = cs[j]?) → cs.length = 1 → DataW.trod enc P w base spare held n e cs = some y → ∃ x, IntAt w b o x ∧ InI64 x := by
  intro n cs y b o hat hl h
  obtain ⟨x, rfl, _, hwf⟩ := DataW.trod_int he h
  refine ⟨x, ?_, inI64_of_wf hwf⟩
  have := hat 0 (by omega)
  simpa [IntAt] using this

theorem open_intsR {t e : TypeId} (ht : P.underlying t = some (.slice e)) (hC : P.cellsOf e = 1) (he : P.underlying e = some (.int .i64)) {v : Value} {d : DataW H} {p : List MemPlace} {r : Reach} {b0 : Nat} (h : DataW.Trod enc P w base spare held t v d p) (hv : Value.okWide P w r b0 t v) :
    ∃ (A : Option Addr) (n c : Nat) (xs : List Int), v = .slice A n c ∧ IntsR w A n xs ∧ (∀ x ∈ xs, InI64 x) ∧ n ≤ c ∧ c ≤ maxLen := by
  obtain ⟨a, l, c', rfl⟩ := okWide_slice ht hv
  obtain ⟨fuel, h⟩ := h
  obtain ⟨A, n, c, xs, hcs, hr, hg, h1, h2⟩ := open_sliceR (E := IntAt) (Good := InI64) ht hC (by decide) (open_int_at he) h
  exact ⟨A, n, c, xs, by simpa [Value.cells] using hcs, hr, hg, h1, h2⟩

end

section
variable {H : Type} {enc : TypeId × Value → H} {P : Program}

theorem trodAll_stays (hl : laidOutB P = true) {W W' : World} {sp : Nat → Bool} (hb : Below W.heap.size W W') : ∀ {ts : List TypeId} {vs : List Value} {ds : List (DataW H)} {ps : List MemPlace},
    (∀ t ∈ ts, P.readableRec t = true ∧ t < P.types.size) → DataW.TrodAll enc P W 0 (fun _ => true) true ts vs ds ps → (∀ x ∈ ps, x.block < W.heap.size) → (∀ x ∈ ps, sp x.block = true) → DataW.TrodAll enc P W' 0 sp true ts vs ds ps
  | [], vs, ds, ps, _, h, _, _ => by
    obtain ⟨rfl, rfl, rfl⟩ := trodAll_nil h
    exact trodAll_mk0
  | t :: ts, vs, ds, ps, hr, h, hlt, hsp => by
    obtain ⟨v, vs', d, ds', p, q, rfl, rfl, rfl, hd, hrest⟩ := trodAll_cons h
    refine trodAll_cons_mk ?_ (trodAll_stays hl hb (fun t ht => hr t (by simp [ht])) hrest (fun x hx => hlt x (by simp [hx])) (fun x hx => hsp x (by simp [hx])))
    exact WideElems.Trod_stays hl (hr t (by simp)).1 (hr t (by simp)).2 hd (fun x hx => hb.same (hlt x (by simp [hx]))) (fun x hx => hsp x (by simp [hx]))

/-- The row's last step for a law: it has returned true, and nothing that was there has changed. -/
theorem law_post {f : Func} {s : ChangeSpec} {apart fresh handsOn again : Bool} {W W' : World} {args : Array Value} {ds gs : List (DataW H)} {before : List MemPlace} {tb : TypeId}
    (hl : laidOutB P = true) (hvs : s.vars = []) (hr0 : (f.params.toList.all fun t => P.readableRec t && decide (t < P.types.size)) = true) (hres : f.resultTypes = #[tb]) (htb : P.underlying tb = some .bool)
    (hW : DataW.Whole enc P f.params.toList s.vars apart W args.toList ds gs before)
    (hfn : (s.fn H (ds ++ gs)).results = [.lit (.bool true)] ∧ (s.fn H (ds ++ gs)).args = ds ∧ (s.fn H (ds ++ gs)).vars = [])
    (hb : Bel W W') : s.post enc P f apart fresh handsOn again W args (.bool true) W' := by
  have hr : ∀ t ∈ f.params.toList, P.readableRec t = true ∧ t < P.types.size := fun t ht => by
    have := List.all_eq_true.1 hr0 t ht
    simpa using this
  have hb' : Below W.heap.size W W' := hb
  have hlt : ∀ p ∈ before, p.block < W.heap.size := fun p hp => hW.lt p hp
  have hold : ∀ p ∈ before, (fun b => decide (b < W.heap.size)) p.block = true := fun p hp => by simpa using hlt p hp
  have hWh := hW
  obtain ⟨pa, pv, hA, hV, hps, hz, hn⟩ := hW
  rw [hvs] at hV
  obtain ⟨hg, hpv⟩ := trodVars_none hV
  subst hg; subst hpv
  have hps' : before = pa := by simpa using hps
  subst hps'
  have hargs : ∀ sp : Nat → Bool, (∀ p ∈ before, sp p.block = true) → DataW.TrodAll enc P W' 0 sp true f.params.toList args.toList (s.fn H (ds ++ [])).args before := fun sp hsp => by
    rw [hfn.2.1]
    exact trodAll_stays hl hb' hr hA hlt hsp
  have hvars : ∀ sp : Nat → Bool, DataW.TrodVars enc P W' sp s.vars (s.fn H (ds ++ [])).vars [] := fun sp => by
    rw [hvs, hfn.2.2]
    exact rfl
  have hresT : ∀ (b : Nat) (sp : Nat → Bool) (hd : Bool), DataW.TrodAll enc P W' b sp hd f.resultTypes.toList ((Value.bool true).resultList f.resultTypes.size) (s.fn H (ds ++ [])).results [] := fun b sp hd => by
    rw [hres, hfn.1]
    exact trodAll_cons_mk (shut_bool htb _) trodAll_mk0
  refine ⟨ds, [], before, [], before, [], hWh, hresT _ _ _, hargs _ hold, hvars _, World.keptBut_mono (fun p hp => ⟨hp, ?_⟩) (hb'.frame (· ∈ before)), fun _ => ?_⟩
  · right; simpa using hp
  · refine ⟨ok_one hres rfl (okWide_bool_mk htb _), _, _, ([] ++ before) ++ [], ⟨[] ++ before, [], trodAll_append (hargs _ (fun _ _ => rfl)) (hresT _ _ _), hvars _, rfl, ?_, ?_⟩, ?_⟩
    · intro b off hp
      have hin : MemPlace.cell b off ∈ before := by simpa using hp
      rw [hb'.frozen (hlt _ hin)]
      exact hz b off hin
    · intro ha
      have := hn ha
      simpa using this
    · intro p hp _
      simpa using hp
end
end Go.Proofs.YtgemlgpjbclonaaDoor

