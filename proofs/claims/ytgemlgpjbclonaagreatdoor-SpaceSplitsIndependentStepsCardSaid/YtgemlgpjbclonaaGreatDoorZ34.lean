/- Merged of: WSm WVc WVd WVh (see NOTES.md). -/
import Derived.Test.YtgemlgpjbclonaaGreatDoorZ30
import Derived.Test.YtgemlgpjbclonaaGreatDoorZ24
import Derived.Test.YtgemlgpjbclonaaGreatDoorZ26
import Derived.Test.YtgemlgpjbclonaaGreatDoorZ25
import Derived.BigQuiet
import Derived.Test.YtgemlgpjbclonaaGreatDoorZ33
import Derived.Test.YtgemlgpjbclonaaGreatDoorZ32
import Derived.Test.YtgemlgpjbclonaaGreatDoorZ27
set_option linter.unusedSimpArgs false
set_option linter.unnecessarySimpa false
set_option linter.unusedVariables false

/- Contract: the reference's Neighbours, for a valid graph; All; Independent. -/
namespace Go.Proofs.YtgemlgpjbclonaaGreatDoor
open Go.RowKit

set_option maxRecDepth 100000 in
set_option maxHeartbeats 4000000 in
theorem refNeigh_any (v2 : Value) (g : Graph) (S : Nat) (w : World) (h2 : GraphV w v2 g) (hg : GOK g) (hG : lightG g = true) (hS : S < 4294967296) :
  Calls Tryz.prog 57 #[v2, .int .u32 (S : Int)] w fun e w' => e = .returned (.int .u32 (nbrF g S : Nat)) ∧ Bel w w' := by
 have HGV := Lib.hid (fun w' (k : Bel w w') => h2.keep k)
 have hP : ∃ A k A2 k2, v2 = .agg #[.slice A g.ids.length k, .slice A2 g.ports.length k2] ∧ PortsR w A2 g.ports.length g.ports := by
  obtain ⟨A, k, A2, k2, e, _, _, _, hP, _⟩ := h2
  exact ⟨A, k, A2, k2, e, hP⟩
 obtain ⟨A3, k3, A4, k4, rfl, hP⟩ := hP
 have HP := Lib.hid (fun w' (k : Bel w w') => PortsR.keep hP k)
 have HGL := Lib.hid hG
 have hle := hg.le
 have HLT := Lib.hid (fun v (hv : v < g.ports.length) => linksOK_len hv (hg.links v hv))
 have HGT : Hid (graphB g = true) := (graphB_iff g).2 hg
 have HS := Lib.hid hS
 have HNF : Hid (nbrF g S = setF g.ports.length fun v => (g.ports.getD v []).any fun l => hasB S l.to) := rfl
 have HW := Bel.refl (w.alloc (.cells #[.slice A3 g.ids.length k3, .slice A4 g.ports.length k4] 29))
 clear h2 hP hG hg hS
 go_enter Tryz.func57, Tryz.ntmps57
 go_wp2_with (go_at_call 56; refine (refGraphValid_any _ g _ (HGV.out _ (box_bel HW)) HGL.out).mono ?_; rintro e w' ⟨rfl, hb⟩; rw [HGT.out]; replace HW := HW.trans hb; clear hb)
 go_loopg [5, 6, 7] g.ports.length (fun m s x _y wr => ∃ v : Nat, v ≤ g.ports.length ∧ m = g.ports.length - v ∧ s = .int .u32 (setF v fun v => (g.ports.getD v []).any fun l => hasB S l.to : Nat) ∧ x = .int .i64 v ∧ Bel (w.alloc (.cells #[.slice A3 g.ids.length k3, .slice A4 g.ports.length k4] 29)) wr)
 case atStart => exact ⟨0, by omega, rfl, rfl, rfl, HW⟩
 case round =>
  clear HW
  obtain ⟨wo, rfl⟩ : ∃ wo : World, wo = wr := ⟨_, rfl⟩
  obtain ⟨v, hv, rfl, rfl, rfl, HW⟩ := hrel
  have q1 := box_cell HW 1 (v := .slice A4 g.ports.length k4) rfl
  have q2 := box_lt HW
  by_cases hlt : v < g.ports.length
  ·have hd0 : decide (v < g.ports.length) = true := by simpa using hlt
   obtain ⟨b, o, R, rc, rfl, hb, hrow, hL, _, _⟩ := (HP.out _ (box_bel HW)).at_ v hlt
   have HL := Lib.hid hL
   have hll := HLT.out v hlt
   obtain ⟨s0, hs0⟩ : ∃ s0, s0 = setF v fun v => (g.ports.getD v []).any fun l => hasB S l.to := ⟨_, rfl⟩
   have hs0l : s0 < 4294967296 := by rw [hs0]; exact setF_lt32 _ (by omega)
   rw [← hs0]
   have HS0 := Lib.hid hs0
   clear hL hs0
   go_wp2_with fail
   go_loopg [5, 7] g.ports[v].length (fun m s x ws => ∃ i : Nat, i ≤ g.ports[v].length ∧ m = g.ports[v].length - i ∧ s = .int .u32 (accF s0 v ((g.ports[v].take i).any fun l => hasB S l.to) : Nat) ∧ x = .int .i64 i ∧ wo = ws)
   case atStart => exact ⟨0, by omega, rfl, rfl, rfl, rfl⟩
   case round =>
    obtain ⟨i, hi, rfl, rfl, rfl, rfl⟩ := hrel
    have hal := accF_lt hs0l (show v < 32 by omega) ((g.ports[v].take i).any fun l => hasB S l.to)
    by_cases hlt2 : i < g.ports[v].length
    ·have hd2 : decide (i < g.ports[v].length) = true := by simpa using hlt2
     obtain ⟨b1, o1, rfl, hb1, c0, c1⟩ := HL.out.at_ i hlt2
     have HTS : Hid (((g.ports[v].take (i + 1)).any fun l => hasB S l.to) = (((g.ports[v].take i).any fun l => hasB S l.to) || hasB S g.ports[v][i].to)) := by
      show _ = _
      rw [List.take_succ_eq_append_getElem hlt2, List.any_append]; simp
     cases hh : hasB S g.ports[v][i].to with
     | true =>
      rw [hh] at HTS
      go_wp2_with (go_at_call 54; refine (has_any S _ _ HS.out).mono ?_; rintro e w2 ⟨rfl, rfl⟩; rw [hh])
      go_roundg (g.ports[v].length - (i + 1))
      case rel =>
       refine ⟨i + 1, by omega, rfl, ?_, by go_num, rfl⟩
       rw [HTS.out, bits_set hal (by omega)]
       cases (g.ports[v].take i).any fun l => hasB S l.to with
       | true => rw [accF_again]; rfl
       | false => rfl
      case measure => omega
     | false =>
      rw [hh] at HTS
      go_wp2_with (go_at_call 54; refine (has_any S _ _ HS.out).mono ?_; rintro e w2 ⟨rfl, rfl⟩; rw [hh])
      go_roundg (g.ports[v].length - (i + 1))
      case rel => exact ⟨i + 1, by omega, rfl, by rw [HTS.out, Bool.or_false], by go_num, rfl⟩
      case measure => omega
    ·have hd2 : decide (i < g.ports[v].length) = false := by simpa using hlt2
     obtain rfl : i = g.ports[v].length := by omega
     go_wp2_with fail
     go_roundg (g.ports.length - (v + 1))
     case rel =>
      refine ⟨v + 1, by omega, rfl, ?_, by go_num, HW⟩
      rw [List.take_of_length_le (Nat.le_refl _), setF_succ, getD_eq hlt, HS0.out]; rfl
     case measure => omega
  ·have hd0 : decide (v < g.ports.length) = false := by simpa using hlt
   obtain rfl : v = g.ports.length := by omega
   go_wp2_with fail
   go_ret
   exact ⟨ret_int (by rw [HNF.out]), box_bel HW⟩

set_option maxHeartbeats 1000000 in
theorem refAll_any (n : Nat) (w : World) (hn : n ≤ 30) :
  Calls Tryz.prog 46 #[.int .i64 (n : Int)] w fun e w' => e = .returned (.int .u32 (setF n (fun _ => true) : Nat)) ∧ w = w' := by
 go_enter Tryz.func46, Tryz.ntmps46
 go_wp2_with fail
 go_loopg [3, 4] n (fun m s z wr => ∃ v : Nat, v ≤ n ∧ m = n - v ∧ s = .int .u32 (setF v (fun _ => true) : Nat) ∧ z = .int .i64 v ∧ w = wr)
 case atStart => exact ⟨0, by omega, rfl, rfl, rfl, rfl⟩
 case round =>
  obtain ⟨v, hv, rfl, rfl, rfl, rfl⟩ := hrel
  have hsl := setF_lt32 (fun _ => true) (show v ≤ 32 by omega)
  by_cases hlt : v < n
  ·have hd0 : decide (v < n) = true := by simpa using hlt
   have hd1 : decide (v < 32) = true := by simp; omega
   go_wp2_with fail
   go_roundg (n - (v + 1))
   case rel => exact ⟨v + 1, by omega, rfl, by rw [setF_succ, if_pos rfl, bits_set hsl (by omega)], by go_num, rfl⟩
   case measure => omega
  ·have hd0 : decide (v < n) = false := by simpa using hlt
   obtain rfl : v = n := by omega
   go_wp2_with fail
   go_ret
   exact ⟨rfl, rfl⟩

set_option maxRecDepth 100000 in
set_option maxHeartbeats 4000000 in
theorem refIndep_any (v2 : Value) (g : Graph) (S : Nat) (w : World) (h2 : GraphV w v2 g) (hg : GOK g) (hG : lightG g = true) (hS : S < 4294967296) :
  Calls Tryz.prog 28 #[v2, .int .u32 (S : Int)] w fun e w' => e = .returned (.bool (indepF g S)) ∧ Bel w w' := by
 have HGV := Lib.hid (fun w' (k : Bel w w') => h2.keep k)
 obtain ⟨A3, k3, A4, k4, rfl, _, _, _, _, _, _⟩ := h2
 have HGL := Lib.hid hG
 have HG := Lib.hid hg
 have hle := hg.le
 have HGT : Hid (graphB g = true) := (graphB_iff g).2 hg
 have HF := Lib.hid (indepF_eq HGT.out hS)
 have HS := Lib.hid hS
 have HZ := Lib.hid (diffF_zero (T := setF g.ports.length fun _ => true) hS)
 have hbn := bits_andNot S (setF g.ports.length fun _ => true)
 have hba := bits_and (S := nbrF g S) (T := S) (setF_lt32 _ (by omega)) hS
 have HW := Bel.refl (w.alloc (.cells #[.slice A3 g.ids.length k3, .slice A4 g.ports.length k4] 29))
 clear hG hg hS
 cases hw : within32 S (setF g.ports.length fun _ => true) with
 | false =>
  rw [hw] at HF HZ
  have hz : ((diffF S (setF g.ports.length fun _ => true) : Int) != 0) = true := by have := HZ.out; simp at this ⊢; omega
  have hz' : (diffF S (setF g.ports.length fun _ => true) != 0) = true := by have := HZ.out; simp at this ⊢; omega
  clear hw
  go_enter Tryz.func28, Tryz.ntmps28
  go_wp2_with (first
   | (go_at_call 56; refine (refGraphValid_any _ g _ (HGV.out _ (box_bel HW)) HGL.out).mono ?_; rintro e w' ⟨rfl, hb⟩; rw [HGT.out]; replace HW := HW.trans hb; clear hb; have q1 := box_cell HW 1 (v := .slice A4 g.ports.length k4) rfl; have q2 := box_lt HW)
   | (go_at_call 46; refine (refAll_any g.ports.length _ (by omega)).mono ?_; rintro e w' ⟨rfl, rfl⟩))
  go_ret
  exact ⟨ret_bool (by rw [HF.out]; rfl), box_bel HW⟩
 | true =>
  rw [hw] at HF HZ
  have hz : ((diffF S (setF g.ports.length fun _ => true) : Int) != 0) = false := by have := HZ.out; simp at this ⊢; omega
  have hz' : (diffF S (setF g.ports.length fun _ => true) != 0) = false := by have := HZ.out; simp at this ⊢; omega
  clear hw
  go_enter Tryz.func28, Tryz.ntmps28
  go_wp2_with (first
   | (go_at_call 56; refine (refGraphValid_any _ g _ (HGV.out _ (box_bel HW)) HGL.out).mono ?_; rintro e w' ⟨rfl, hb⟩; rw [HGT.out]; replace HW := HW.trans hb; clear hb; have q0 := box_cell HW 0 (v := .slice A3 g.ids.length k3) rfl; have q1 := box_cell HW 1 (v := .slice A4 g.ports.length k4) rfl; have q2 := box_lt HW)
   | (go_at_call 46; refine (refAll_any g.ports.length _ (by omega)).mono ?_; rintro e w' ⟨rfl, rfl⟩)
   | (go_at_call 57; refine (refNeigh_any _ g S _ (HGV.out _ (box_bel HW)) HG.out HGL.out HS.out).mono ?_; rintro e w' ⟨rfl, hb⟩; replace HW := HW.trans hb; clear hb q0 q1 q2))
  go_ret
  refine ⟨ret_bool ?_, box_bel HW⟩
  rw [HF.out, Bool.true_and, Bool.eq_iff_iff]
  simp
  try omega

end Go.Proofs.YtgemlgpjbclonaaGreatDoor

/- Contracts: the reference's sets: number of elements, least element, parts; its choices. -/
namespace Go.Proofs.YtgemlgpjbclonaaGreatDoor
open Go.RowKit

theorem lsb_at {S v : Nat} (hS : S < 4294967296) (h : S.testBit v = true) (hb : ∀ u, u < v → S.testBit u = false) : lsb S = 2 ^ v := by
 have hv := bit_lt hS h
 have e : (elemsF S).head? = some v := by
  unfold elemsF
  rw [List.head?_filter, List.find?_range_eq_some]
  exact ⟨h, by simpa using hv, fun j hj => by rw [hb j hj]; rfl⟩
 rw [lsb_find hS, e]
theorem lsb_none {S : Nat} (hS : S < 4294967296) (hb : ∀ u, u < 32 → S.testBit u = false) : lsb S = 0 := by
 rw [lsb_zero_iff hS]
 exact nat_bits hS (by decide) (fun v hv => by rw [hb v hv]; simp)
def bitsN (S v : Nat) : Nat := ((List.range v).filter (S.testBit ·)).length
theorem bitsN_succ (S v : Nat) : bitsN S (v + 1) = bitsN S v + if S.testBit v = true then 1 else 0 := by
 unfold bitsN; rw [List.range_succ, List.filter_append]
 cases h : S.testBit v <;> simp [h]
theorem bitsN_le (S v : Nat) : bitsN S v ≤ v := by
 unfold bitsN
 have := List.length_filter_le (S.testBit ·) (List.range v)
 simpa using this

set_option maxHeartbeats 1000000 in
theorem refCountSet_any (S : Nat) (w : World) (hS : S < 4294967296) :
  Calls Tryz.prog 51 #[.int .u32 (S : Int)] w fun e w' => e = .returned (.int .i64 ((elemsF S).length : Int)) ∧ w = w' := by
 have HS := Lib.hid hS
 have HF : Hid ((elemsF S).length = bitsN S 32) := rfl
 clear hS
 go_enter Tryz.func51, Tryz.ntmps51
 go_wp2_with fail
 go_loopg [3, 4] 32 (fun m n z wr => ∃ v : Nat, v ≤ 32 ∧ m = 32 - v ∧ n = .int .i64 (bitsN S v : Int) ∧ z = .int .i64 (v : Int) ∧ w = wr)
 case atStart => exact ⟨0, by omega, rfl, rfl, rfl, rfl⟩
 case round =>
  obtain ⟨v, hv, rfl, rfl, rfl, rfl⟩ := hrel
  have hc := bitsN_le S v
  by_cases hlt : v < 32
  ·have hd0 : decide (v < 32) = true := by simpa using hlt
   have HH : Hid (hasB S (v : Int) = S.testBit v) := by show _ = _; unfold hasB; rw [decide_eq_true (show (0 : Int) ≤ (v : Int) by omega), decide_eq_true (show (v : Int) < 32 by omega)]; rfl
   have HN := Lib.hid (bitsN_succ S v)
   cases hb : S.testBit v with
   | true =>
    rw [hb] at HH HN
    rw [if_pos rfl] at HN
    go_wp2_with (go_at_call 54; refine (has_any S _ _ HS.out).mono ?_; rintro e w2 ⟨rfl, rfl⟩; rw [HH.out])
    go_roundg (32 - (v + 1))
    case rel => exact ⟨v + 1, by omega, rfl, by rw [HN.out]; go_num, by go_num, rfl⟩
    case measure => omega
   | false =>
    rw [hb] at HH HN
    rw [if_neg (by decide), Nat.add_zero] at HN
    go_wp2_with (go_at_call 54; refine (has_any S _ _ HS.out).mono ?_; rintro e w2 ⟨rfl, rfl⟩; rw [HH.out])
    go_roundg (32 - (v + 1))
    case rel => exact ⟨v + 1, by omega, rfl, by rw [HN.out]; simp, by go_num, rfl⟩
    case measure => omega
  ·have hd0 : decide (v < 32) = false := by simpa using hlt
   obtain rfl : v = 32 := by omega
   go_wp2_with fail
   go_ret
   exact ⟨by rw [HF.out]; rfl, rfl⟩

set_option maxHeartbeats 1000000 in
theorem refLeastSet_any (S : Nat) (w : World) (hS : S < 4294967296) :
  Calls Tryz.prog 98 #[.int .u32 (S : Int)] w fun e w' => e = .returned (.int .u32 (lsb S : Int)) ∧ w = w' := by
 have HS := Lib.hid hS
 clear hS
 go_enter Tryz.func98, Tryz.ntmps98
 go_wp2_with fail
 go_loopg [3] 32 (fun m z wr => ∃ v : Nat, v ≤ 32 ∧ m = 32 - v ∧ z = .int .i64 (v : Int) ∧ Hid (∀ u, u < v → S.testBit u = false) ∧ w = wr)
 case atStart => exact ⟨0, by omega, rfl, rfl, fun u hu => absurd hu (Nat.not_lt_zero _), rfl⟩
 case round =>
  obtain ⟨v, hv, rfl, rfl, HZ, rfl⟩ := hrel
  by_cases hlt : v < 32
  ·have hd0 : decide (v < 32) = true := by simpa using hlt
   have hd1 : decide ((v : Int) < 32) = true := decide_eq_true (by omega)
   have HH : Hid (hasB S (v : Int) = S.testBit v) := by show _ = _; unfold hasB; rw [decide_eq_true (show (0 : Int) ≤ (v : Int) by omega), decide_eq_true (show (v : Int) < 32 by omega)]; rfl
   have e3 : (2 : Int) ^ v = ((2 ^ v : Nat) : Int) := by rw [Int.natCast_pow]; rfl
   have e2 : (2 : Int) ^ v % 4294967296 = ((2 ^ v : Nat) : Int) := by
    rw [e3]; exact Int.emod_eq_of_lt (b := 4294967296) (Int.natCast_nonneg _) (Int.ofNat_lt.2 (two_lt hlt))
   have E2 := Lib.hid e2
   clear e2 e3
   cases hb : S.testBit v with
   | true =>
    have HLS := Lib.hid (lsb_at HS.out hb HZ.out)
    rw [hb] at HH
    go_wp2_with (go_at_call 54; refine (has_any S _ _ HS.out).mono ?_; rintro e w2 ⟨rfl, rfl⟩; rw [HH.out])
    go_ret
    refine ⟨?_, rfl⟩
    rw [HLS.out, ← E2.out]
    try rfl
   | false =>
    have HZ2 : Hid (∀ u, u < v + 1 → S.testBit u = false) := fun u hu => by
     rcases Nat.lt_or_ge u v with h | h
     ·exact HZ.out u h
     ·obtain rfl : u = v := by omega
      exact hb
    rw [hb] at HH
    go_wp2_with (go_at_call 54; refine (has_any S _ _ HS.out).mono ?_; rintro e w2 ⟨rfl, rfl⟩; rw [HH.out])
    go_roundg (32 - (v + 1))
    case rel => exact ⟨v + 1, by omega, rfl, by go_num, HZ2, rfl⟩
    case measure => omega
  ·have hd0 : decide (v < 32) = false := by simpa using hlt
   obtain rfl : v = 32 := by omega
   have HLS := Lib.hid (lsb_none HS.out HZ.out)
   go_wp2_with fail
   go_ret
   exact ⟨by rw [HLS.out]; rfl, rfl⟩

def RetParts (l : List Nat) (w : World) (e : Ending) (w' : World) : Prop :=
 ∃ A c, e = .returned (.slice A l.length c) ∧ MasksR w' A l.length l ∧ l.length ≤ c ∧ c ≤ maxLen ∧ Bel w w'
theorem RetParts.own {w w' : World} {base e c : Nat} {A : Option Addr} {xs : List Nat} (h : w'.ownsRow base e 1 (.slice A xs.length c) xs.length (xs.map maskV)) (hb : Bel w w') : RetParts xs w (.returned (.slice A xs.length c)) w' :=
 ⟨A, c, rfl, own_masks h, (own_cap h).1, (own_cap h).2, hb⟩
set_option maxRecDepth 100000 in
set_option maxHeartbeats 2000000 in
theorem subsets_any (E : Nat) (w : World) (hE : E < 4294967296) :
  Calls Tryz.prog 76 #[.int .u32 (E : Int)] w (RetParts (partsFrom E (lsb E)) w) := by
 have HB := Bel.refl w
 obtain ⟨i0, hi0, hz0, hz1, hz2⟩ := info_parts u32_info
 have HLP := Lib.hid (lsb_part (S := E))
 have HLE : Hid ((partsFrom E (lsb E)).length ≤ 4294967296) := by
  by_cases h0 : E = 0
  ·subst h0; show _ ≤ _; rw [lsb_zero, partsFrom_zero]; simp
  ·have := parts_len hE (E - lsb E + 1) (lsb E) (by omega) lsb_part (lsb_ne hE h0)
   show _ ≤ _
   omega
 have hl1 := lsb_lt hE
 go_enter Tryz.func76, Tryz.ntmps76
 go_wp2_with (go_at_call 98; refine (refLeastSet_any E _ hE).mono ?_; rintro e w' ⟨rfl, rfl⟩)
 go_loopg [3, 4] (leftP E (lsb E)) (fun m r x wr => ∃ (s : Nat) (pre : List Nat) (R : Option Addr) (rc : Nat), m = leftP E s ∧ r = .slice R pre.length rc ∧ x = .int .u32 (s : Int) ∧ s < 4294967296 ∧ Hid (s &&& E = s) ∧ Hid (pre ++ partsFrom E s = partsFrom E (lsb E)) ∧ Hid (wr.ownsRow w.heap.size 45 1 (.slice R pre.length rc) pre.length (pre.map maskV)) ∧ Bel w wr)
 case atStart => exact ⟨lsb E, [], none, 0, rfl, rfl, rfl, hl1, HLP.out, by show _ = _; simp, World.ownsRow_nil _ _ _ _, HB⟩
 case round =>
  clear HB hl1 HLP
  obtain ⟨s, pre, R, rc, rfl, rfl, rfl, hs, HS, HP, HO, HB⟩ := hrel
  have hpl : pre.length ≤ 4294967296 := by
   have h1 := congrArg List.length HP.out
   have h3 := HLE.out
   rw [List.length_append] at h1
   omega
  by_cases hs0 : s = 0
  ·have hq : ((s : Int) != 0) = false := by simpa using hs0
   have HZ := Lib.hid hs0
   clear hs0
   go_wp2_with fail
   go_ret
   have h1 := HP.out
   rw [HZ.out, partsFrom_zero, List.append_nil] at h1
   rw [← h1]
   exact RetParts.own HO.out HB
  ·have hq : ((s : Int) != 0) = true := by simpa using hs0
   have hse := partW_le HS.out
   have q := nextW_bits (E := E) (s := s) hE hse
   have hnl := nextW_lt (E := E) (s := s) hE
   have HM := Lib.hid (leftP_next hE HS.out hs0)
   have HST := Lib.hid (partsFrom_step hE HS.out hs0)
   have HNP := Lib.hid (nextW_part (E := E) (s := s))
   clear hs0
   generalize nextW 32 E s = nx at *
   have HP2 : Hid ((pre ++ [s]) ++ partsFrom E nx = partsFrom E (lsb E)) := by
    have h1 := HP.out
    rw [HST.out] at h1
    show _ = _
    rw [List.append_assoc]; exact h1
   go_wp2_with (at_builtin; refine wpList_push _ rfl (.tmp 14) (.tmp 16) 32 rfl w.heap.size 45 i0 (.int .u32 0) 1 4 Tryz.underlying32 hi0 hz0 hz1 hz2 rfl (by decide) R pre.length rc (pre.map maskV) rfl (HO.out.alloc _) wr.heap.size #[.int .u32 (s : Int)] 45 (0, 0) rfl (heap_new _ _) rfl (one_mask _) (by unfold maxLen; omega) (by omega) (by have := HB.size; simp; omega) ?_; intro R4 c4 w4 hown hgr hat; have HO4 := Lib.hid hown; have HB4 := (HB.alloc (.cells #[.int .u32 (s : Int)] 45)).grown hgr (fun k hk => own_ge HO.out k hk); clear hown hgr hat)
   go_roundg (leftP E nx)
   case rel =>
    refine ⟨nx, pre ++ [s], R4, c4, rfl, by simp, by go_num, hnl, HNP, HP2, ?_, HB4⟩
    have := HO4.out
    show World.ownsRow _ _ _ _ _ _ _
    simpa [maskV] using this
   case measure => exact HM.out

end Go.Proofs.YtgemlgpjbclonaaGreatDoor

/- Contract: the choices of the reference's daemons. -/
namespace Go.Proofs.YtgemlgpjbclonaaGreatDoor
open Go.RowKit

def upB (E v : Nat) : List Nat := ((List.range v).filter (E.testBit ·)).map pow2
theorem upB_true {E v : Nat} (h : E.testBit v = true) : upB E (v + 1) = upB E v ++ [pow2 v] := by
 unfold upB; rw [List.range_succ, List.filter_append]; simp [h]
theorem upB_false {E v : Nat} (h : E.testBit v = false) : upB E (v + 1) = upB E v := by
 unfold upB; rw [List.range_succ, List.filter_append]; simp [h]
theorem upB_len (E v : Nat) : (upB E v).length ≤ v := by
 unfold upB
 have := List.length_filter_le (E.testBit ·) (List.range v)
 simpa using this

set_option maxRecDepth 100000 in
set_option maxHeartbeats 4000000 in
theorem refChoices_any (v2 : Value) (g : Graph) (kind : Int) (E : Nat) (w : World) (h2 : GraphV w v2 g) (hg : GOK g) (hG : lightG g = true) (hk : kindB kind = true) (hE : E < 2 ^ g.ports.length) :
  Calls Tryz.prog 40 #[v2, .int .i64 kind, .int .u32 (E : Int)] w (RetChoices (choicesR g kind E) w) := by
 have HF : Hid (choicesR g kind E = if kind = 1 then (upB E g.ports.length, 0) else if kind = 4 then (if E = 0 then [] else [E], 0) else if 10 < (elemsF E).length then ([], 3) else ((partsFrom E (lsb E)).filter (fun l => decide (kind = 3) || nbrF g l &&& l == 0), 0)) := rfl
 have HGV := Lib.hid (fun w' (k : Bel w w') => h2.keep k)
 obtain ⟨A3, k3, A4, k4, rfl, _, _, _, _, _, _⟩ := h2
 obtain ⟨i0, hi0, hz0, hz1, hz2⟩ := info_parts u32_info
 have HGL := Lib.hid hG
 have HG := Lib.hid hg
 have hle := hg.le
 have HGT : Hid (graphB g = true) := (graphB_iff g).2 hg
 have hE32 : E < 4294967296 := Nat.lt_of_lt_of_le hE (Nat.pow_le_pow_right (n := 2) (by decide) (show g.ports.length ≤ 32 by omega))
 have HKB := Lib.hid hk
 obtain ⟨M, hM⟩ : ∃ M, setF g.ports.length (fun _ => true) = M := ⟨_, rfl⟩
 have HM := Lib.hid hM
 have HD := diffF_zero (T := M) hE32
 have hwb := within_bound (E := E) (show g.ports.length ≤ 32 by omega) hE
 rw [hM] at hwb
 rw [hwb] at HD
 have hbn := bits_andNot E M
 have hz : ((diffF E M : Int) != 0) = false := by simp at HD ⊢; omega
 have hz' : (diffF E M != 0) = false := by simp at HD ⊢; omega
 have hkk : 1 ≤ kind ∧ kind ≤ 4 := by unfold kindB at hk; simpa using hk
 have HW := Bel.refl (w.alloc (.cells #[.slice A3 g.ids.length k3, .slice A4 g.ports.length k4] 29))
 have q0 := box_cell HW 0 (v := .slice A3 g.ids.length k3) rfl
 have q1 := box_cell HW 1 (v := .slice A4 g.ports.length k4) rfl
 have q2 := box_lt HW
 clear hG hg hk hM hwb HD hE
 by_cases k1 : kind = 1
 ·rw [if_pos k1] at HF
  subst k1
  clear hkk
  go_enter Tryz.func40, Tryz.ntmps40
  go_wp2_with (first
   | (go_at_call 56; refine (refGraphValid_any _ g _ (HGV.out _ (box_bel HW)) HGL.out).mono ?_; rintro e w' ⟨rfl, hb⟩; rw [HGT.out]; replace HW := HW.trans hb; clear hb q0 q1 q2; have q0 := box_cell HW 0 (v := .slice A3 g.ids.length k3) rfl; have q1 := box_cell HW 1 (v := .slice A4 g.ports.length k4) rfl; have q2 := box_lt HW)
   | (go_at_call 17; refine (refDaemon_any _ _).mono ?_; rintro e w' ⟨rfl, rfl⟩; rw [HKB.out])
   | (go_at_call 46; refine (refAll_any g.ports.length _ (by omega)).mono ?_; rintro e w' ⟨rfl, rfl⟩; rw [HM.out]))
  go_loopg [8, 9] g.ports.length (fun m r z wr => ∃ (v : Nat) (R : Option Addr) (rc : Nat), v ≤ g.ports.length ∧ m = g.ports.length - v ∧ r = .slice R (upB E v).length rc ∧ z = .int .i64 (v : Int) ∧ Hid (wr.ownsRow (w.heap.size + 1) 45 1 (.slice R (upB E v).length rc) (upB E v).length ((upB E v).map maskV)) ∧ Bel (w.alloc (.cells #[.slice A3 g.ids.length k3, .slice A4 g.ports.length k4] 29)) wr)
  case atStart => exact ⟨0, none, 0, by omega, rfl, rfl, rfl, World.ownsRow_nil _ _ _ _, HW⟩
  case round =>
   clear HW q0 q1 q2 hz hz' hbn
   obtain ⟨v, R, rc, hv, rfl, rfl, rfl, HO, HW⟩ := hrel
   have q0 := box_cell HW 0 (v := .slice A3 g.ids.length k3) rfl
   have q1 := box_cell HW 1 (v := .slice A4 g.ports.length k4) rfl
   have q2 := box_lt HW
   have hul := upB_len E v
   by_cases hlt : v < g.ports.length
   ·have hd0 : decide (v < g.ports.length) = true := by simpa using hlt
    have hv32 : v < 32 := by omega
    have hd1 : decide (v < 32) = true := by simpa using hv32
    have HH : Hid (hasB E (v : Int) = E.testBit v) := by show _ = _; unfold hasB; rw [decide_eq_true (show (0 : Int) ≤ (v : Int) by omega), decide_eq_true (show (v : Int) < 32 by omega)]; rfl
    cases hb : E.testBit v with
    | true =>
     rw [hb] at HH
     have HU := Lib.hid (upB_true hb)
     have e2 : (2 : Int) ^ v % 4294967296 = ((pow2 v : Nat) : Int) := by
      have e3 : (2 : Int) ^ v = ((pow2 v : Nat) : Int) := by unfold pow2; rw [Int.natCast_pow]; rfl
      rw [e3]; exact Int.emod_eq_of_lt (b := 4294967296) (Int.natCast_nonneg _) (Int.ofNat_lt.2 (two_lt hv32))
     have e4 : IntKind.u32.wrap (2 ^ min v 32) = ((pow2 v : Nat) : Int) := by
      rw [Nat.min_eq_left (by omega), ← e2]; rfl
     clear hb
     go_wp2_with (first
      | (go_at_call 54; refine (has_any E _ _ hE32).mono ?_; rintro e w2 ⟨rfl, rfl⟩; rw [HH.out])
      | (at_builtin; refine wpList_push _ rfl (.tmp 41) (.tmp 45) 32 rfl (w.heap.size + 1) 45 i0 (.int .u32 0) 1 4 Tryz.underlying32 hi0 hz0 hz1 hz2 rfl (by decide) R (upB E v).length rc ((upB E v).map maskV) rfl (HO.out.alloc _) wr.heap.size #[.int .u32 ((pow2 v : Nat) : Int)] 45 (0, 0) rfl (heap_new _ _) rfl (one_mask _) (by unfold maxLen; omega) (by omega) (by have := HW.size; simp at this ⊢; omega) ?_; intro R4 c4 w4 hown hgr hat; have HO4 := Lib.hid hown; have HB4 := (HW.alloc (.cells #[.int .u32 ((pow2 v : Nat) : Int)] 45)).grown hgr (fun k hk => by have := own_ge HO.out k hk; simp; omega); clear hown hgr hat))
     go_roundg (g.ports.length - (v + 1))
     case rel =>
      refine ⟨v + 1, R4, c4, by omega, rfl, by rw [HU.out]; simp, by go_num, ?_, HB4⟩
      have := HO4.out
      show World.ownsRow _ _ _ _ _ _ _
      rw [HU.out]
      simpa [maskV] using this
     case measure => omega
    | false =>
     rw [hb] at HH
     have HU := Lib.hid (upB_false hb)
     clear hb
     go_wp2_with (go_at_call 54; refine (has_any E _ _ hE32).mono ?_; rintro e w2 ⟨rfl, rfl⟩; rw [HH.out])
     go_roundg (g.ports.length - (v + 1))
     case rel => exact ⟨v + 1, R, rc, by omega, rfl, by rw [HU.out], by go_num, by show World.ownsRow _ _ _ _ _ _ _; rw [HU.out]; exact HO.out, HW⟩
     case measure => omega
   ·have hd0 : decide (v < g.ports.length) = false := by simpa using hlt
    obtain rfl : v = g.ports.length := by omega
    go_wp2_with fail
    go_ret2
    rw [HF.out]
    exact RetChoices.own HO.out (box_bel HW)
 rw [if_neg k1] at HF
 have k1' : (kind == 1) = false := by simpa using k1
 by_cases hk4 : kind = 4
 ·rw [if_pos hk4] at HF
  subst hk4
  clear hkk k1
  by_cases h0 : E = 0
  ·rw [if_pos h0] at HF
   have d0 : ((E : Int) != 0) = false := by simpa using h0
   clear h0
   go_enter Tryz.func40, Tryz.ntmps40
   go_wp2_with (first
    | (go_at_call 56; refine (refGraphValid_any _ g _ (HGV.out _ (box_bel HW)) HGL.out).mono ?_; rintro e w' ⟨rfl, hb⟩; rw [HGT.out]; replace HW := HW.trans hb; clear hb q0 q1 q2; have q0 := box_cell HW 0 (v := .slice A3 g.ids.length k3) rfl; have q1 := box_cell HW 1 (v := .slice A4 g.ports.length k4) rfl; have q2 := box_lt HW)
    | (go_at_call 17; refine (refDaemon_any _ _).mono ?_; rintro e w' ⟨rfl, rfl⟩; rw [HKB.out])
    | (go_at_call 46; refine (refAll_any g.ports.length _ (by omega)).mono ?_; rintro e w' ⟨rfl, rfl⟩; rw [HM.out]))
   go_ret2
   rw [HF.out]
   exact RetChoices.empty _ (box_bel HW)
  ·rw [if_neg h0] at HF
   have d0 : ((E : Int) != 0) = true := by simpa using h0
   clear h0
   go_enter Tryz.func40, Tryz.ntmps40
   go_wp2_with (first
    | (go_at_call 56; refine (refGraphValid_any _ g _ (HGV.out _ (box_bel HW)) HGL.out).mono ?_; rintro e w' ⟨rfl, hb⟩; rw [HGT.out]; replace HW := HW.trans hb; clear hb q0 q1 q2; have q0 := box_cell HW 0 (v := .slice A3 g.ids.length k3) rfl; have q1 := box_cell HW 1 (v := .slice A4 g.ports.length k4) rfl; have q2 := box_lt HW)
    | (go_at_call 17; refine (refDaemon_any _ _).mono ?_; rintro e w' ⟨rfl, rfl⟩; rw [HKB.out])
    | (go_at_call 46; refine (refAll_any g.ports.length _ (by omega)).mono ?_; rintro e w2 ⟨rfl, rfl⟩; rw [HM.out])
    | (at_builtin; refine wpList_push _ rfl (.tmp 52) (.tmp 54) 32 rfl (w.heap.size + 1) 45 i0 (.int .u32 0) 1 4 Tryz.underlying32 hi0 hz0 hz1 hz2 rfl (by decide) none 0 0 [] rfl (World.ownsRow_nil _ _ _ _) w'.heap.size #[.int .u32 (E : Int)] 45 (0, 0) rfl (heap_new _ _) rfl (one_mask _) (by unfold maxLen; omega) (by omega) (by have := HW.size; simp at this ⊢; omega) ?_; intro R4 c4 w4 hown hgr hat; have HO4 := Lib.hid hown; have HB4 := (HW.alloc (.cells #[.int .u32 (E : Int)] 45)).grown hgr (fun k hk => by simp [Value.ownBlock] at hk); clear hown hgr hat))
   go_ret2
   rw [HF.out]
   have h1 := HO4.out
   have h2 : w4.ownsRow (w.heap.size + 1) 45 1 (.slice R4 ([E] : List Nat).length c4) ([E] : List Nat).length (([E] : List Nat).map maskV) := by simpa [maskV] using h1
   exact RetChoices.own h2 (box_bel HB4)
 rw [if_neg hk4] at HF
 have k4' : (kind == 4) = false := by simpa using hk4
 by_cases h10 : 10 < (elemsF E).length
 ·rw [if_pos h10] at HF
  have d10 : decide ((10 : Int) < ((elemsF E).length : Int)) = true := by simp; omega
  clear k1 hk4 h10 hkk
  go_enter Tryz.func40, Tryz.ntmps40
  go_wp2_with (first
   | (go_at_call 56; refine (refGraphValid_any _ g _ (HGV.out _ (box_bel HW)) HGL.out).mono ?_; rintro e w' ⟨rfl, hb⟩; rw [HGT.out]; replace HW := HW.trans hb; clear hb q0 q1 q2; have q0 := box_cell HW 0 (v := .slice A3 g.ids.length k3) rfl; have q1 := box_cell HW 1 (v := .slice A4 g.ports.length k4) rfl; have q2 := box_lt HW)
   | (go_at_call 17; refine (refDaemon_any _ _).mono ?_; rintro e w' ⟨rfl, rfl⟩; rw [HKB.out])
   | (go_at_call 46; refine (refAll_any g.ports.length _ (by omega)).mono ?_; rintro e w2 ⟨rfl, rfl⟩; rw [HM.out])
   | (go_at_call 51; refine (refCountSet_any E _ hE32).mono ?_; rintro e w3 ⟨rfl, rfl⟩))
  go_ret2
  rw [HF.out]
  exact RetChoices.empty _ (box_bel HW)
 rw [if_neg h10] at HF
 have d10 : decide ((10 : Int) < ((elemsF E).length : Int)) = false := by simp; omega
 have HLE : Hid ((partsFrom E (lsb E)).length ≤ 4294967296) := by
  by_cases h0 : E = 0
  ·subst h0; show _ ≤ _; rw [lsb_zero, partsFrom_zero]; simp
  ·have := parts_len hE32 (E - lsb E + 1) (lsb E) (by omega) lsb_part (lsb_ne hE32 h0)
   show _ ≤ _
   omega
 have HLM : Hid (∀ l ∈ partsFrom E (lsb E), l < 4294967296) := fun l hl => (mem_parts_low hE32 hl).2.2
 generalize hLL : partsFrom E (lsb E) = L at HF HLE HLM
 generalize hpf : (fun l => decide (kind = 3) || nbrF g l &&& l == 0) = pf at HF
 have HPF : Hid (∀ l, pf l = (decide (kind = 3) || nbrF g l &&& l == 0)) := fun l => by rw [← hpf]
 clear hpf
 have HLQ := Lib.hid hLL
 clear h10 hLL
 go_enter Tryz.func40, Tryz.ntmps40
 go_wp2_with (first
  | (go_at_call 56; refine (refGraphValid_any _ g _ (HGV.out _ (box_bel HW)) HGL.out).mono ?_; rintro e w' ⟨rfl, hb⟩; rw [HGT.out]; replace HW := HW.trans hb; clear hb q0 q1 q2; have q0 := box_cell HW 0 (v := .slice A3 g.ids.length k3) rfl; have q1 := box_cell HW 1 (v := .slice A4 g.ports.length k4) rfl; have q2 := box_lt HW)
  | (go_at_call 17; refine (refDaemon_any _ _).mono ?_; rintro e w' ⟨rfl, rfl⟩; rw [HKB.out])
  | (go_at_call 46; refine (refAll_any g.ports.length _ (by omega)).mono ?_; rintro e w2 ⟨rfl, rfl⟩; rw [HM.out])
  | (go_at_call 51; refine (refCountSet_any E _ hE32).mono ?_; rintro e w3 ⟨rfl, rfl⟩)
  | (go_at_call 76; have hps := subsets_any E w' hE32; rw [HLQ.out] at hps; refine hps.mono ?_; rintro e w4 ⟨AL, cL, rfl, hAL, _, _, hb⟩; have HAL := Lib.hid (fun w5 (k : Bel w4 w5) => hAL.keep k); have HW4 := HW.trans hb; clear hb hAL))
 go_loopg [8, 11] L.length (fun m r z wr => ∃ (i : Nat) (pre : List Nat) (R : Option Addr) (rc : Nat), i ≤ L.length ∧ m = L.length - i ∧ r = .slice R pre.length rc ∧ z = .int .i64 (i : Int) ∧ Hid (pre ++ (L.drop i).filter pf = L.filter pf) ∧ Hid (wr.ownsRow w4.heap.size 45 1 (.slice R pre.length rc) pre.length (pre.map maskV)) ∧ Bel w4 wr)
 case atStart => exact ⟨0, [], none, 0, by omega, rfl, rfl, rfl, by show _ = _; simp, World.ownsRow_nil _ _ _ _, Bel.refl _⟩
 case round =>
  clear HW q0 q1 q2 hz hz' hbn
  obtain ⟨i, pre, R, rc, hi, rfl, rfl, rfl, HP, HO, HB⟩ := hrel
  have HW := HW4.trans HB
  have hLle := HLE.out
  have hpl : pre.length ≤ 4294967296 := by
   have h1 := congrArg List.length HP.out
   have h2 := List.length_filter_le pf L
   have h3 := HLE.out
   rw [List.length_append] at h1
   omega
  by_cases hlt : i < L.length
  ·have hd0 : decide (i < L.length) = true := by simpa using hlt
   obtain ⟨bL, oL, rfl, hbL, c0w⟩ := (HAL.out _ (Bel.refl w4)).at_ i hlt
   have c0 := (HB.cell hbL).trans c0w
   have hbL2 := Nat.lt_of_lt_of_le hbL HB.size
   have hl32 := HLM.out _ (List.getElem_mem hlt)
   have hkI : (i : Int) < (L.length : Int) := by omega
   rw [List.drop_eq_getElem_cons hlt, List.filter_cons] at HP
   generalize L[i] = l at *
   by_cases k3' : kind = 3
   ·have dk : (kind == 3) = true := by simpa using k3'
    have hpl1 : pf l = true := by rw [HPF.out, decide_eq_true k3', Bool.true_or]
    rw [if_pos hpl1] at HP
    have HPn : Hid ((pre ++ [l]) ++ (L.drop (i + 1)).filter pf = L.filter pf) := by
     show _ = _
     rw [List.append_assoc]
     exact HP.out
    clear k3' HP hpl1
    go_wp2_with fail
    go_quiet (fail)
    replace HW := HW.drewN nq
    replace HB := HB.drewN nq
    replace HO := Lib.hid (((Bel.refl wr).drewN nq).owns HO.out)
    generalize wr.drewN nq = WQ at *
    have c0Q := (HB.cell hbL).trans c0w
    have hbL3 := Nat.lt_of_lt_of_le hbL HB.size
    go_wp2_with (at_builtin; refine wpList_push _ rfl (.tmp 84) (.tmp 89) 32 rfl w4.heap.size 45 i0 (.int .u32 0) 1 4 Tryz.underlying32 hi0 hz0 hz1 hz2 rfl (by decide) R pre.length rc (pre.map maskV) rfl (HO.out.alloc _) WQ.heap.size #[.int .u32 (l : Int)] 45 (0, 0) rfl (heap_new _ _) rfl (one_mask _) (by unfold maxLen; omega) (by omega) (by have := HB.size; simp; omega) ?_; intro R4 c4 w5 hown hgr hat; have HO4 := Lib.hid hown; have HB4 := (HB.alloc (.cells #[.int .u32 (l : Int)] 45)).grown hgr (fun k hk => own_ge HO.out k hk); clear hown hgr hat)
    go_roundg (L.length - (i + 1))
    case rel =>
     refine ⟨i + 1, pre ++ [l], R4, c4, by omega, rfl, by simp, by go_num, HPn, ?_, HB4⟩
     have := HO4.out
     show World.ownsRow _ _ _ _ _ _ _
     simpa [maskV] using this
    case measure => omega
   ·have dk : (kind == 3) = false := by simpa using k3'
    have hba := bits_and (S := nbrF g l) (T := l) (setF_lt32 _ (by omega)) hl32
    obtain ⟨bb, hbb⟩ : ∃ bb, (nbrF g l &&& l == 0) = bb := ⟨_, rfl⟩
    have hbz : (((nbrF g l &&& l : Nat) : Int) == 0) = bb := by rw [← hbb, Bool.eq_iff_iff]; simp
    have hpl1 : pf l = bb := by rw [HPF.out, decide_eq_false k3', Bool.false_or, hbb]
    rw [hpl1] at HP
    clear hpl1
    have HK3 := Lib.hid k3'
    have hcell := Lib.hid (fun w6 (kk : Bel w4 w6) => show w6.cell? ⟨w.heap.size, 0, none⟩ = some (.slice A3 g.ids.length k3) ∧ w6.cell? ⟨w.heap.size, 1, none⟩ = some (.slice A4 g.ports.length k4) ∧ w6.cell? ⟨bL, oL + i, none⟩ = some (.int .u32 (l : Int)) ∧ w.heap.size < w6.heap.size ∧ bL < w6.heap.size from ⟨box_cell (HW4.trans kk) 0 rfl, box_cell (HW4.trans kk) 1 rfl, (kk.cell (Nat.lt_of_lt_of_le hbL (Nat.le_refl _))).trans c0w, box_lt (HW4.trans kk), Nat.lt_of_lt_of_le hbL kk.size⟩)
    clear k3' hbb
    go_upto_region 26 with fail
    replace HB := HB.drew
    go_region_held3 (fun w6 => w6.cell? ⟨w.heap.size, 0, none⟩ = some (.slice A3 g.ids.length k3) ∧ w6.cell? ⟨w.heap.size, 1, none⟩ = some (.slice A4 g.ports.length k4) ∧ w6.cell? ⟨bL, oL + i, none⟩ = some (.int .u32 (l : Int)) ∧ w.heap.size < w6.heap.size ∧ bL < w6.heap.size) (exact hcell.out _ HB) ((go_simp; go_at_call 57; refine (refNeigh_any _ g l _ (HGV.out _ (box_bel (HW4.trans HB))) HG.out HGL.out hl32).mono ?_; rintro e wN ⟨rfl, hb⟩; replace HB := HB.trans hb; replace HO := Lib.hid (hb.owns HO.out); clear hb))
    cases bb with
    | true =>
     have HPn : Hid ((pre ++ [l]) ++ (L.drop (i + 1)).filter pf = L.filter pf) := by
      have := HP.out
      rw [if_pos rfl] at this
      show _ = _
      rw [List.append_assoc]
      exact this
     have HW := HW4.trans HB
     have c0N := (HB.cell hbL).trans c0w
     have hbL3 := Nat.lt_of_lt_of_le hbL HB.size
     go_wp2_with (at_builtin; refine wpList_push _ rfl (.tmp 84) (.tmp 89) 32 rfl w4.heap.size 45 i0 (.int .u32 0) 1 4 Tryz.underlying32 hi0 hz0 hz1 hz2 rfl (by decide) R pre.length rc (pre.map maskV) rfl (HO.out.alloc _) wN.heap.size #[.int .u32 (l : Int)] 45 (0, 0) rfl (heap_new _ _) rfl (one_mask _) (by unfold maxLen; omega) (by omega) (by have := HB.size; simp; omega) ?_; intro R4 c4 w5 hown hgr hat; have HO4 := Lib.hid hown; have HB4 := (HB.alloc (.cells #[.int .u32 (l : Int)] 45)).grown hgr (fun k hk => own_ge HO.out k hk); clear hown hgr hat)
     go_roundg (L.length - (i + 1))
     case rel =>
      refine ⟨i + 1, pre ++ [l], R4, c4, by omega, rfl, by simp, by go_num, HPn, ?_, HB4⟩
      have := HO4.out
      show World.ownsRow _ _ _ _ _ _ _
      simpa [maskV] using this
     case measure => omega
    | false =>
     have HPn : Hid (pre ++ (L.drop (i + 1)).filter pf = L.filter pf) := by
      have := HP.out
      rw [if_neg (by decide)] at this
      exact this
     go_wp2_with fail
     go_roundg (L.length - (i + 1))
     case rel => exact ⟨i + 1, pre, R, rc, by omega, rfl, rfl, by go_num, HPn, HO.out, HB⟩
     case measure => omega
  ·have hd0 : decide (i < L.length) = false := by simpa using hlt
   obtain rfl : i = L.length := by omega
   rw [List.drop_length, List.filter_nil, List.append_nil] at HP
   go_wp2_with fail
   go_ret2
   rw [HF.out, ← HP.out]
   exact RetChoices.own HO.out (box_bel HW)

end Go.Proofs.YtgemlgpjbclonaaGreatDoor

/- Rows of arcs that grow, in the world: the reference's transition system while it is built. -/
namespace Go.Proofs.YtgemlgpjbclonaaGreatDoor
open Go.RowKit

/-- The rows of arcs. -/
def ArcsC (w : World) (base : Nat) (L : List (List (Nat × Int))) (hs : List Value) : Prop :=
 hs.length = L.length ∧ ∀ (u : Nat) (l : List (Nat × Int)), L[u]? = some l → ∃ (X : Option Addr) (c : Nat), hs[u]? = some (Value.slice X l.length c) ∧ w.ownsRow base 56 2 (.slice X l.length c) l.length (l.flatMap arcCells)
theorem ArcsC.nil (w : World) (base : Nat) : ArcsC w base [] [] := ⟨rfl, fun u l h => by simp at h⟩
theorem ArcsC.keep {w w' : World} {base : Nat} {L : List (List (Nat × Int))} {hs : List Value} (h : ArcsC w base L hs) (k : Bel w w') : ArcsC w' base L hs :=
 ⟨h.1, fun u l hl => by obtain ⟨X, c, h1, h2⟩ := h.2 u l hl; exact ⟨X, c, h1, k.owns h2⟩⟩
theorem ArcsC.push {w : World} {base : Nat} {L : List (List (Nat × Int))} {hs : List Value} (h : ArcsC w base L hs) {l : List (Nat × Int)} {X : Option Addr} {c : Nat} (hx : w.ownsRow base 56 2 (.slice X l.length c) l.length (l.flatMap arcCells)) : ArcsC w base (L ++ [l]) (hs ++ [.slice X l.length c]) := by
 refine ⟨by simp [h.1], fun u z hz => ?_⟩
 by_cases hu : u < L.length
 ·rw [List.getElem?_append_left hu] at hz
  obtain ⟨Y, d, h1, h2⟩ := h.2 u z hz
  exact ⟨Y, d, by rw [List.getElem?_append_left (by rw [h.1]; exact hu)]; exact h1, h2⟩
 ·have hul : u = L.length := by
   have := (List.getElem?_eq_some_iff.1 hz).1
   simp at this; omega
  subst hul
  rw [List.getElem?_append_right (Nat.le_refl _)] at hz
  obtain rfl : l = z := by simpa using hz
  exact ⟨X, c, by rw [List.getElem?_append_right (by rw [h.1]; exact Nat.le_refl _), h.1]; simp, hx⟩
def twoE (v1 v2 : Value) : Nat → Prop := fun j => some j = v1.ownBlock ∨ some j = v2.ownBlock
theorem Agr.grownV {A B : World} {row : Option Nat} {E : Nat → Prop} (h : A.grownBy B row) (hE : ∀ k, some k = row → E k) : Agr E A B :=
 ⟨h.os, h.tape, h.output, h.size, fun k hk hn => h.block k hk (fun e => hn (hE k e))⟩
theorem own_agrV {E : Nat → Prop} {A B : World} {base e size n : Nat} {v : Value} {xs : List Value} (h : A.ownsRow base e size v n xs) (hA : Agr E A B) (hE : ∀ k, v.ownBlock = some k → ¬ E k) : B.ownsRow base e size v n xs := by
 obtain ⟨Ad, c, rfl⟩ := own_slice h
 rcases h.2 with ⟨hv, h0⟩ | ⟨g, cap, cur, hv, _⟩
 ·rw [hv]; subst h0; exact ⟨h.1, .inl ⟨rfl, rfl⟩⟩
 ·injection hv with hAd hc
  subst hAd
  exact own_agrB h hA (hE g rfl)
theorem own_grw {w w' : World} {base : Nat} {e : TypeId} {size n : Nat} {v : Value} {row : Option Nat} {xs : List Value} (h : w.ownsRow base e size v n xs) (hf : Gr row w w') (hne : v.ownBlock = none ∨ v.ownBlock ≠ row) : w'.ownsRow base e size v n xs := by
 obtain ⟨A, c, rfl⟩ := own_slice h
 rcases h.2 with ⟨hv, h0⟩ | ⟨g, cap, cur, hv, _⟩
 ·rw [hv]; subst h0; exact ⟨h.1, .inl ⟨rfl, rfl⟩⟩
 ·injection hv with hA hc
  subst hA
  refine own_gr h hf ?_
  rcases hne with e | e
  ·simp [Value.ownBlock] at e
  ·simpa [Value.ownBlock] using e
/-- A row of another type is none of the two. -/
theorem two_off {W : World} {base e1 e2 e3 s1 s2 s3 n1 n2 n3 : Nat} {v1 v2 v3 : Value} {x1 x2 x3 : List Value} (h1 : W.ownsRow base e1 s1 v1 n1 x1) (h2 : W.ownsRow base e2 s2 v2 n2 x2) (h3 : W.ownsRow base e3 s3 v3 n3 x3) (n13 : e1 ≠ e3) (n23 : e2 ≠ e3) :
  ∀ k, v3.ownBlock = some k → ¬ twoE v1 v2 k := by
 intro k hk hE
 rcases hE with h | h
 ·rcases own_other h1 h3 n13 with e | e
  ·rw [e] at hk; cases hk
  ·exact e (hk.trans h)
 ·rcases own_other h2 h3 n23 with e | e
  ·rw [e] at hk; cases hk
  ·exact e (hk.trans h)
theorem ArcsC.two {W w5 : World} {base nE nA : Nat} {vE vA : Value} {xs ys : List Value} {L : List (List (Nat × Int))} {hs : List Value} (h : ArcsC W base L hs) (hE : W.ownsRow base 45 1 vE nE xs) (hA : W.ownsRow base 54 1 vA nA ys) (hag : Agr (twoE vE vA) W w5) : ArcsC w5 base L hs :=
 ⟨h.1, fun u l hl => by
  obtain ⟨X, c, h1, h2⟩ := h.2 u l hl
  exact ⟨X, c, h1, own_agrV h2 hag (two_off hE hA h2 (by decide) (by decide))⟩⟩
theorem ArcsC.box {w : World} {base : Nat} {L : List (List (Nat × Int))} {hs : List Value} (h : ArcsC w base L hs) {a : Addr} (ha : a.block < base) (u : Value) : ArcsC (w.setCell a u) base L hs :=
 ⟨h.1, fun q l hl => by obtain ⟨X, c, h1, h2⟩ := h.2 q l hl; exact ⟨X, c, h1, own_other_cell h2 ha u⟩⟩
/-- Both rows have grown and lie in the box again. -/
theorem out_done {W0 W w5 : World} {sB base nE nA nE' nA' c' : Nat} {vE vA vE' vA' : Value} {xs ys xs' ys' : List Value} {L : List (List (Nat × Int))} {hs : List Value} {l : List (Nat × Int)} {X : Option Addr}
  (hBX : Blk W sB #[vE, vA] 35) (h0 : W0.heap.size ≤ sB) (hsb : sB < base) (hB : Bel W0 W) (hE : W.ownsRow base 45 1 vE nE xs) (hA : W.ownsRow base 54 1 vA nA ys) (hC : ArcsC W base L hs)
  (hx : W.ownsRow base 56 2 (.slice X l.length c') l.length (l.flatMap arcCells)) (hag : Agr (twoE vE vA) W w5)
  (hE5 : w5.ownsRow base 45 1 vE' nE' xs') (hA5 : w5.ownsRow base 54 1 vA' nA' ys') :
  Blk ((w5.setCell ⟨sB, 0, none⟩ vE').setCell ⟨sB, 1, none⟩ vA') sB #[vE', vA'] 35 ∧ ((w5.setCell ⟨sB, 0, none⟩ vE').setCell ⟨sB, 1, none⟩ vA').ownsRow base 45 1 vE' nE' xs' ∧ ((w5.setCell ⟨sB, 0, none⟩ vE').setCell ⟨sB, 1, none⟩ vA').ownsRow base 54 1 vA' nA' ys' ∧
   ArcsC ((w5.setCell ⟨sB, 0, none⟩ vE').setCell ⟨sB, 1, none⟩ vA') base (L ++ [l]) (hs ++ [.slice X l.length c']) ∧ Bel W0 ((w5.setCell ⟨sB, 0, none⟩ vE').setCell ⟨sB, 1, none⟩ vA') := by
 have hge : ∀ k, twoE vE vA k → base ≤ k := by
  rintro k (h | h)
  ·exact own_ge hE k h.symm
  ·exact own_ge hA k h.symm
 have hb5 : Blk w5 sB #[vE, vA] 35 := hag.blk hBX (fun h => by have := hge _ h; omega)
 have hB5 : Bel W0 w5 := Agr.belE hB hag (fun k h => by have := hge k h; omega)
 refine ⟨?_, ?_, ?_, ?_, ?_⟩
 ·have := (hb5.set 0 vE').set 1 vA'
  simpa using this
 ·exact own_other_cell (own_other_cell hE5 (by simpa using hsb) _) (by simpa using hsb) _
 ·exact own_other_cell (own_other_cell hA5 (by simpa using hsb) _) (by simpa using hsb) _
 ·exact ((((hC.two hE hA hag).push (own_agrV hx hag (two_off hE hA hx (by decide) (by decide)))).box (by simpa using hsb) _).box (by simpa using hsb) _)
 ·exact (hB5.setCell (by simpa using h0) _).setCell (by simpa using h0) _
theorem heap_two (w : World) (o p : Obj) : ((w.alloc o).alloc p).heap[w.heap.size]? = some o ∧ ((w.alloc o).alloc p).heap[w.heap.size + 1]? = some p := by
 constructor
 ·exact (Below.heap_alloc _ _ _ (by simp)).trans (heap_new w o)
 ·have := heap_new (w.alloc o) p
  rw [World.size_alloc] at this
  exact this
/-- What the rows are in the end. -/
theorem space_end {w : World} {base k cE cA : Nat} {RE RA : Option Addr} {es : List Nat} {L : List (List (Nat × Int))} {hs : List Value} (hE : w.ownsRow base 45 1 (.slice RE k cE) k (es.map maskV)) (hA : w.ownsRow base 54 1 (.slice RA k cA) k hs) (hC : ArcsC w base L hs) :
  SpaceV w (.agg #[.slice RE k cE, .slice RA k cA]) ⟨es, L⟩ := by
 have le : es.length = k := by have := hE.1; simp at this; omega
 have lh : hs.length = k := by have := hA.1; omega
 have lL : L.length = k := by rw [← hC.1]; exact lh
 subst le
 obtain ⟨a1, a2⟩ := own_cap hE
 obtain ⟨b1, b2⟩ := own_cap hA
 refine ⟨RE, cE, RA, cA, by simp [lL], own_masks hE, ⟨rfl, fun u l hl => ?_⟩, a1, a2, by rw [lL]; exact b1, b2⟩
 obtain ⟨X, c, h1, h2⟩ := hC.2 u l hl
 obtain ⟨q, e1, _, q3, q4, _⟩ := own_at hA h1
 obtain ⟨c1, c2⟩ := own_cap h2
 exact ⟨q, 0, e1, q3, X, c, by simpa using q4, own_arcs h2, c1, c2⟩

end Go.Proofs.YtgemlgpjbclonaaGreatDoor

