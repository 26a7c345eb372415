/- Merged of: WTi WTj WTk WTl (see NOTES.md). -/
import Derived.Test.YtgemlgpjbclonaaGreatDoorZ13
import Derived.Lib.Strings
import Derived.Test.YtgemlgpjbclonaaGreatDoorZ06
set_option linter.unusedSimpArgs false
set_option linter.unnecessarySimpa false
set_option linter.unusedVariables false

/- Contract: the reference's named. -/
namespace Go.Proofs.YtgemlgpjbclonaaGreatDoor
open Go.RowKit

theorem str_inj {a b : ByteArray} (h : (a.toList == b.toList) = true) : a = b := by
 have h1 : a.toList = b.toList := by simpa using h
 rw [Lib.toList_data, Lib.toList_data] at h1
 cases a; cases b
 simp only [ByteArray.mk.injEq]
 exact Array.toList_inj.1 h1
theorem str_ne {a b : ByteArray} (h : (a.toList == b.toList) = false) : a ≠ b := by
 rintro rfl; simp at h
theorem namesF_iff (l : List ByteArray) : namesF l = true ↔ (∀ s ∈ l, nameF s = true) ∧ l.Nodup := by
 unfold namesF; simp only [Bool.and_eq_true, decide_eq_true_eq, List.all_eq_true]
theorem namedF_false1 {p : Prg} (h : ¬ namesF (p.vars.map Var.name) = true) : namedF p = false := by
 unfold namedF; rw [Bool.eq_false_iff.2 h]; simp
theorem namedF_false2 {p : Prg} (h : ¬ namesF (p.rules.map Rule.name) = true) : namedF p = false := by
 unfold namedF; rw [Bool.eq_false_iff.2 h]; simp

set_option maxRecDepth 100000 in
set_option maxHeartbeats 4000000 in
theorem refNamed_any (v : Value) (p : Prg) (w : World) (h : PrgV w v p) (hL : lightP p = true) :
  Calls Tryz.prog 118 #[v] w fun e w' => e = .returned (.bool (namedF p)) ∧ Bel w w' := by
 obtain ⟨A, k, A2, k2, rfl, hV, _, _, hR, _, _⟩ := h
 have HV := Lib.hid (fun w' (k : Bel w w') => VarsR.keep hV k); clear hV
 have HR := Lib.hid (fun w' (k : Bel w w') => RulesR.keep hR k); clear hR
 obtain ⟨p1, p2, p3, p4, p5⟩ := lightP_parts hL
 have HP4 := Lib.hid p4
 have HP5 := Lib.hid (fun r hr => (lightR_parts (p5 r hr)).1)
 clear p4 p5 hL
 have HB := Bel.refl (w.alloc (.cells #[.string p.name, .slice A p.vars.length k, .slice A2 p.rules.length k2] 25))
 cases hnm : nameF p.name with
 | false =>
  have HF : Hid (namedF p = false) := by show namedF p = false; unfold namedF; rw [hnm]; rfl
  go_enter Tryz.func118, Tryz.ntmps118
  go_wp2_with (go_at_call 139; refine (refName_any _ _ (by omega)).mono ?_; rintro e w' ⟨rfl, rfl⟩)
  go_ret
  exact ⟨ret_bool HF.out.symm, box_bel HB⟩
 | true =>
  have HNM := Lib.hid hnm
  go_enter Tryz.func118, Tryz.ntmps118
  go_wp2_with (go_at_call 139; refine (refName_any _ _ (by omega)).mono ?_; rintro e w' ⟨rfl, rfl⟩)
  clear hnm
  go_loopg [3, 4] p.vars.length (fun m z _y wr => ∃ j : Nat, j ≤ p.vars.length ∧ m = p.vars.length - j ∧ z = .int .i64 j ∧ Hid ((∀ q, q < j → (hq : q < p.vars.length) → nameF p.vars[q].name = true) ∧ ((p.vars.map Var.name).take j).Nodup) ∧ Bel (w.alloc (.cells #[.string p.name, .slice A p.vars.length k, .slice A2 p.rules.length k2] 25)) wr)
  case atStart => exact ⟨0, by omega, rfl, rfl, ⟨fun q hq => absurd hq (by omega), by simp⟩, HB⟩
  case round =>
   clear HB
   obtain ⟨i, hi, rfl, rfl, HJ, HB⟩ := hrel
   have q1 := box_cell HB 1 rfl
   have q2 := box_lt HB
   by_cases hlt : i < p.vars.length
   ·have hd0 : decide (i < p.vars.length) = true := by simpa using hlt
    have hnl := HP4.out _ (List.getElem_mem hlt)
    go_wp2
    clear hd0 q1 q2
    go_loopg [4] i (fun m x ws => ∃ j : Nat, j ≤ i ∧ m = i - j ∧ x = .int .i64 j ∧ Hid (∀ q, (hq : q < j) → (hq' : q < p.vars.length) → p.vars[q].name ≠ p.vars[i].name) ∧ Bel (w.alloc (.cells #[.string p.name, .slice A p.vars.length k, .slice A2 p.rules.length k2] 25)) ws)
    case atStart => exact ⟨0, by omega, rfl, rfl, fun q hq => absurd hq (by omega), HB⟩
    case round =>
     clear HB
     obtain ⟨j, hj, rfl, rfl, HQ, HB⟩ := hrel
     have q1 := box_cell HB 1 rfl
     have q2 := box_lt HB
     obtain ⟨b, o, rfl, hb, hc, _⟩ := (HV.out _ (box_bel HB)).at_ i hlt
     by_cases hlt2 : j < i
     ·have hji : j < p.vars.length := by omega
      obtain ⟨b', o', e', hb', hc', _⟩ := (HV.out _ (box_bel HB)).at_ j hji
      obtain ⟨rfl, rfl⟩ : b = b' ∧ o = o' := by simpa using e'
      clear e'
      have hd : decide (j < i) = true := by simpa using hlt2
      go_wp2
      go_quiet (fail)
      go_wp2
      ·have he : (p.vars[j].name.toList == p.vars[i].name.toList) = true := by assumption
       go_ret
       refine ⟨ret_bool ?_, (box_bel HB).drewN _⟩
       symm
       refine namedF_false1 fun hf => ?_
       exact notT_nodup hlt2 (by simpa using hlt) (by simpa using str_inj he) ((namesF_iff _).1 hf).2
      ·have he : (p.vars[j].name.toList == p.vars[i].name.toList) = false := by assumption
       go_roundg (i - (j + 1))
       case rel =>
        refine ⟨j + 1, by omega, rfl, by go_num, ?_, HB.drewN _⟩
        intro q hq hq'
        rcases Nat.lt_or_ge q j with h | h
        ·exact HQ.out q h hq'
        ·obtain rfl : q = j := by omega
         exact str_ne he
       case measure => omega
     ·have hd : decide (j < i) = false := by simpa using hlt2
      cases hnn : nameF p.vars[i].name with
      | false =>
       have HF : Hid (namedF p = false) := namedF_false1 fun hf => by
        have := ((namesF_iff _).1 hf).1 p.vars[i].name (List.mem_map_of_mem (List.getElem_mem hlt))
        rw [hnn] at this; cases this
       go_wp2_with (go_at_call 139; refine (refName_any _ _ (by omega)).mono ?_; rintro e w' ⟨rfl, rfl⟩)
       go_ret
       exact ⟨ret_bool HF.out.symm, box_bel HB⟩
      | true =>
       have HNN := Lib.hid hnn
       go_wp2_with (go_at_call 139; refine (refName_any _ _ (by omega)).mono ?_; rintro e w' ⟨rfl, rfl⟩)
       go_roundg (p.vars.length - (i + 1))
       case rel =>
        refine ⟨i + 1, by omega, rfl, by go_num, ⟨?_, nodupT_take_succ (by simpa using hlt) HJ.out.2 ?_⟩, HB⟩
        ·intro q hq hq'
         rcases Nat.lt_or_ge q i with h | h
         ·exact HJ.out.1 q h hq'
         ·obtain rfl : q = i := by omega
          exact HNN.out
        ·intro q hq
         have := HQ.out q (by omega) (by omega)
         simpa using this
       case measure => omega
   ·have hd0 : decide (i < p.vars.length) = false := by simpa using hlt
    have HE : Hid (namesF (p.vars.map Var.name) = true) := by
     show namesF (p.vars.map Var.name) = true
     rw [namesF_iff]
     obtain ⟨a1, a2⟩ := HJ.out
     rw [List.take_of_length_le (by simp; omega)] at a2
     refine ⟨fun s hs => ?_, a2⟩
     obtain ⟨x, hx, rfl⟩ := List.mem_map.1 hs
     obtain ⟨q, hq, rfl⟩ := List.getElem_of_mem hx
     exact a1 q (by omega) hq
    have HE1 := HE
    clear HE HJ
    go_wp2_with fail
    clear hd0 q1 q2 hi hlt
    go_loopg [5, 6] p.rules.length (fun m z _y wr => ∃ j : Nat, j ≤ p.rules.length ∧ m = p.rules.length - j ∧ z = .int .i64 j ∧ Hid ((∀ q, q < j → (hq : q < p.rules.length) → nameF p.rules[q].name = true) ∧ ((p.rules.map Rule.name).take j).Nodup) ∧ Bel (w.alloc (.cells #[.string p.name, .slice A p.vars.length k, .slice A2 p.rules.length k2] 25)) wr)
    case atStart => exact ⟨0, by omega, rfl, rfl, ⟨fun q hq => absurd hq (by omega), by simp⟩, HB⟩
    case round =>
     clear HB
     obtain ⟨i, hi, rfl, rfl, HJ, HB⟩ := hrel
     have q1 := box_cell HB 2 rfl
     have q2 := box_lt HB
     by_cases hlt : i < p.rules.length
     ·have hd0 : decide (i < p.rules.length) = true := by simpa using hlt
      have hnl := HP5.out _ (List.getElem_mem hlt)
      go_wp2
      clear hd0 q1 q2
      go_loopg [6] i (fun m x ws => ∃ j : Nat, j ≤ i ∧ m = i - j ∧ x = .int .i64 j ∧ Hid (∀ q, (hq : q < j) → (hq' : q < p.rules.length) → p.rules[q].name ≠ p.rules[i].name) ∧ Bel (w.alloc (.cells #[.string p.name, .slice A p.vars.length k, .slice A2 p.rules.length k2] 25)) ws)
      case atStart => exact ⟨0, by omega, rfl, rfl, fun q hq => absurd hq (by omega), HB⟩
      case round =>
       clear HB
       obtain ⟨j, hj, rfl, rfl, HQ, HB⟩ := hrel
       have q1 := box_cell HB 2 rfl
       have q2 := box_lt HB
       obtain ⟨b, o, G1, c1, S1, c2, rfl, hb, hc, _⟩ := (HR.out _ (box_bel HB)).at_ i hlt
       by_cases hlt2 : j < i
       ·have hji : j < p.rules.length := by omega
        obtain ⟨b', o', G2, c1p, S2, c2p, e', hb', hc', _⟩ := (HR.out _ (box_bel HB)).at_ j hji
        obtain ⟨rfl, rfl⟩ : b = b' ∧ o = o' := by simpa using e'
        clear e'
        have hd : decide (j < i) = true := by simpa using hlt2
        go_wp2
        go_quiet (fail)
        go_wp2
        ·have he : (p.rules[j].name.toList == p.rules[i].name.toList) = true := by assumption
         go_ret
         refine ⟨ret_bool ?_, (box_bel HB).drewN _⟩
         symm
         refine namedF_false2 fun hf => ?_
         exact notT_nodup hlt2 (by simpa using hlt) (by simpa using str_inj he) ((namesF_iff _).1 hf).2
        ·have he : (p.rules[j].name.toList == p.rules[i].name.toList) = false := by assumption
         go_roundg (i - (j + 1))
         case rel =>
          refine ⟨j + 1, by omega, rfl, by go_num, ?_, HB.drewN _⟩
          intro q hq hq'
          rcases Nat.lt_or_ge q j with h | h
          ·exact HQ.out q h hq'
          ·obtain rfl : q = j := by omega
           exact str_ne he
         case measure => omega
       ·have hd : decide (j < i) = false := by simpa using hlt2
        cases hnn : nameF p.rules[i].name with
        | false =>
         have HF : Hid (namedF p = false) := namedF_false2 fun hf => by
          have := ((namesF_iff _).1 hf).1 p.rules[i].name (List.mem_map_of_mem (List.getElem_mem hlt))
          rw [hnn] at this; cases this
         go_wp2_with (go_at_call 139; refine (refName_any _ _ (by omega)).mono ?_; rintro e w' ⟨rfl, rfl⟩)
         go_ret
         exact ⟨ret_bool HF.out.symm, box_bel HB⟩
        | true =>
         have HNN := Lib.hid hnn
         go_wp2_with (go_at_call 139; refine (refName_any _ _ (by omega)).mono ?_; rintro e w' ⟨rfl, rfl⟩)
         go_roundg (p.rules.length - (i + 1))
         case rel =>
          refine ⟨i + 1, by omega, rfl, by go_num, ⟨?_, nodupT_take_succ (by simpa using hlt) HJ.out.2 ?_⟩, HB⟩
          ·intro q hq hq'
           rcases Nat.lt_or_ge q i with h | h
           ·exact HJ.out.1 q h hq'
           ·obtain rfl : q = i := by omega
            exact HNN.out
          ·intro q hq
           have := HQ.out q (by omega) (by omega)
           simpa using this
         case measure => omega
     ·have hd0 : decide (i < p.rules.length) = false := by simpa using hlt
      have HE : Hid (namesF (p.rules.map Rule.name) = true) := by
       show namesF (p.rules.map Rule.name) = true
       rw [namesF_iff]
       obtain ⟨a1, a2⟩ := HJ.out
       rw [List.take_of_length_le (by simp; omega)] at a2
       refine ⟨fun s hs => ?_, a2⟩
       obtain ⟨x, hx, rfl⟩ := List.mem_map.1 hs
       obtain ⟨q, hq, rfl⟩ := List.getElem_of_mem hx
       exact a1 q (by omega) hq
      go_wp2_with fail
      go_ret
      refine ⟨ret_bool ?_, box_bel HB⟩
      symm
      unfold namedF
      rw [HNM.out, HE1.out, HE.out]; rfl

end Go.Proofs.YtgemlgpjbclonaaGreatDoor

/- Contracts: Check and Valid of the reference's layer 7. -/
namespace Go.Proofs.YtgemlgpjbclonaaGreatDoor
open Go.RowKit

def checkF (p : Prg) : Int :=
 if ¬ (1 ≤ p.vars.length ∧ p.vars.length ≤ 6 ∧ p.rules.length ≤ 12) then 3
 else if namedF p = false then 5
 else if p.vars.all numbersF = false then 2
 else if p.rules.all (formedF p.vars.length) = false then 7
 else if p.rules.all (typedF (kindsF p)) = false then 6
 else 0

theorem RulesR.at_V {w : World} {A : Option Addr} {n : Nat} {xs : List Rule} (h : RulesR w A n xs) (k : Nat) (hk : k < xs.length) :
  ∃ b o G c S c2, A = some ⟨b, o, none⟩ ∧ b < w.heap.size ∧ w.cell? ⟨b, o + k * 3, none⟩ = some (.string xs[k].name) ∧ w.cell? ⟨b, o + k * 3 + 1, none⟩ = some (.slice G xs[k].guard.length c) ∧ w.cell? ⟨b, o + k * 3 + 2, none⟩ = some (.slice S xs[k].sets.length c2)
   ∧ RuleV w (.agg #[.string xs[k].name, .slice G xs[k].guard.length c, .slice S xs[k].sets.length c2]) xs[k] := by
 obtain ⟨b, o, G, c, S, c2, e, hb, h1, h2, h3, h4, h5, h6, h7, h8, h9⟩ := h.at_ k hk
 exact ⟨b, o, G, c, S, c2, e, hb, h1, h2, h3, G, c, S, c2, rfl, h4, h5, h6, h7, h8, h9⟩

theorem kinds_known {p : Prg} (h : p.vars.all numbersF = true) : (kindsF p).all knownK = true := by
 rw [List.all_eq_true] at *
 intro k hk
 obtain ⟨x, hx, rfl⟩ := List.mem_map.1 hk
 have := h x hx
 unfold numbersF at this
 have := of_decide_eq_true this
 unfold knownK
 simp
 omega
theorem kindsF_length (p : Prg) : (kindsF p).length = p.vars.length := by simp [kindsF]

set_option maxRecDepth 100000 in
set_option maxHeartbeats 4000000 in
theorem refCheck_any (v : Value) (p : Prg) (w : World) (h : PrgV w v p) (hL : lightP p = true) :
  Calls Tryz.prog 99 #[v] w fun e w' => e = .returned (.int .i64 (checkF p)) ∧ Bel w w' := by
 have HPV := Lib.hid (fun w' (k : Bel w w') => h.keep k)
 obtain ⟨A, k, A2, k2, rfl, hV, _, _, hR, _, _⟩ := h
 have HV := Lib.hid (fun w' (k : Bel w w') => VarsR.keep hV k); clear hV
 have HR := Lib.hid (fun w' (k : Bel w w') => RulesR.keep hR k); clear hR
 obtain ⟨p1, p2, p3, p4, p5⟩ := lightP_parts hL
 have HP5 := Lib.hid p5
 have HL := Lib.hid hL
 clear p4 p5 hL
 have HB := Bel.refl (w.alloc (.cells #[.string p.name, .slice A p.vars.length k, .slice A2 p.rules.length k2] 25))
 by_cases hn : 1 ≤ p.vars.length ∧ p.vars.length ≤ 6 ∧ p.rules.length ≤ 12
 ·obtain ⟨n1, n2, n3⟩ := hn
  have hin : inB (p.vars.length : Int) 1 6 = true := inB_true (by omega) (by omega)
  have HC1 : Hid (checkF p = if namedF p = false then 5 else if p.vars.all numbersF = false then 2 else if p.rules.all (formedF p.vars.length) = false then 7 else if p.rules.all (typedF (kindsF p)) = false then 6 else 0) := by
   show checkF p = _
   unfold checkF; rw [if_neg (by omega)]
  cases hnm : namedF p with
  | false =>
   rw [hnm, if_pos rfl] at HC1
   go_enter Tryz.func99, Tryz.ntmps99
   go_wp2_with (first
    | (go_at_call 117; refine (in07_any _ _ _ _).mono ?_; rintro e w' ⟨rfl, rfl⟩)
    | (go_at_call 118; refine (refNamed_any _ p _ (HPV.out _ (box_bel HB)) HL.out).mono ?_; rintro e w' ⟨rfl, hb⟩; rw [hnm]; replace HB := HB.trans hb; clear hb))
   go_ret
   exact ⟨ret_int HC1.out.symm, box_bel HB⟩
  | true =>
   rw [hnm, if_neg (by decide)] at HC1
   have HNM := Lib.hid hnm; clear hnm
   go_enter Tryz.func99, Tryz.ntmps99
   go_wp2_with (first
    | (go_at_call 117; refine (in07_any _ _ _ _).mono ?_; rintro e w' ⟨rfl, rfl⟩)
    | (go_at_call 118; refine (refNamed_any _ p _ (HPV.out _ (box_bel HB)) HL.out).mono ?_; rintro e w' ⟨rfl, hb⟩; rw [HNM.out]; replace HB := HB.trans hb; clear hb))
   clear hin
   go_loopg [3] p.vars.length (fun m z wr => ∃ j : Nat, j ≤ p.vars.length ∧ m = p.vars.length - j ∧ z = .int .i64 j ∧ Hid ((p.vars.take j).all numbersF = true) ∧ Bel (w.alloc (.cells #[.string p.name, .slice A p.vars.length k, .slice A2 p.rules.length k2] 25)) wr)
   case atStart => exact ⟨0, by omega, rfl, rfl, rfl, HB⟩
   case round =>
    clear HB
    obtain ⟨i, hi, rfl, rfl, HJ, HB⟩ := hrel
    have q1 := box_cell HB 1 rfl
    have q2 := box_lt HB
    by_cases hlt : i < p.vars.length
    ·have hd0 : decide (i < p.vars.length) = true := by simpa using hlt
     obtain ⟨b, o, rfl, hb, c0, c1, c2, c3, c4, c5⟩ := (HV.out _ (box_bel HB)).at_ i hlt
     cases hnn : numbersF p.vars[i] with
     | false =>
      rw [all_false_at hlt hnn, if_pos rfl] at HC1
      go_wp2_with (go_at_call 119; refine (refNumbers_any p.vars[i] _).mono ?_; rintro e w' ⟨rfl, hbb⟩; rw [hnn]; replace HB := HB.trans hbb; clear hbb)
      go_ret
      exact ⟨ret_int HC1.out.symm, box_bel HB⟩
     | true =>
      have HN := Lib.hid (all_take_succ hlt HJ.out hnn)
      have HNN := Lib.hid hnn; clear hnn
      go_wp2_with (go_at_call 119; refine (refNumbers_any p.vars[i] _).mono ?_; rintro e w' ⟨rfl, hbb⟩; rw [HNN.out]; replace HB := HB.trans hbb; clear hbb)
      go_roundg (p.vars.length - (i + 1))
      case rel => exact ⟨i + 1, by omega, rfl, by go_num, HN, HB⟩
      case measure => omega
    ·have hd0 : decide (i < p.vars.length) = false := by simpa using hlt
     rw [all_of_take (by omega) HJ.out, if_neg (by decide)] at HC1
     clear HJ
     go_wp2_with fail
     clear hd0 q1 q2 hi hlt
     go_loopg [4] p.rules.length (fun m z wr => ∃ j : Nat, j ≤ p.rules.length ∧ m = p.rules.length - j ∧ z = .int .i64 j ∧ Hid ((p.rules.take j).all (formedF p.vars.length) = true) ∧ Bel (w.alloc (.cells #[.string p.name, .slice A p.vars.length k, .slice A2 p.rules.length k2] 25)) wr)
     case atStart => exact ⟨0, by omega, rfl, rfl, rfl, HB⟩
     case round =>
      clear HB
      obtain ⟨i, hi, rfl, rfl, HJ, HB⟩ := hrel
      have q1 := box_cell HB 1 rfl
      have q3 := box_cell HB 2 rfl
      have q2 := box_lt HB
      by_cases hlt : i < p.rules.length
      ·have hd0 : decide (i < p.rules.length) = true := by simpa using hlt
       have hLr := HP5.out _ (List.getElem_mem hlt)
       obtain ⟨b, o, G, c, S, c2, rfl, hb, c0, c1, c2', hRV⟩ := (HR.out _ (box_bel HB)).at_V i hlt
       have HRV := Lib.hid (fun w' (k : Bel wr w') => hRV.keep k); clear hRV
       have hcell := Lib.hid (fun w' (k : Bel wr w') => And.intro ((k.cell q2).trans q1) (And.intro ((k.cell q2).trans q3) (And.intro ((k.cell hb).trans c0) (And.intro ((k.cell hb).trans c1) (And.intro ((k.cell hb).trans c2') (Nat.lt_of_lt_of_le q2 k.size))))))
       have HB2 := Bel.refl wr
       have HLr := Lib.hid hLr; clear hLr
       cases hff : formedF p.vars.length p.rules[i] with
       | false =>
        rw [all_false_at hlt hff, if_pos rfl] at HC1
        go_wp2_with fail
        replace HB2 := HB2.drew
        go_region_held3 (fun w' => w'.cell? ⟨w.heap.size, 1, none⟩ = some (.slice A p.vars.length k) ∧ w'.cell? ⟨w.heap.size, 2, none⟩ = some (.slice (some ⟨b, o, none⟩) p.rules.length k2) ∧ w'.cell? ⟨b, o + i * 3, none⟩ = some (.string p.rules[i].name) ∧ w'.cell? ⟨b, o + i * 3 + 1, none⟩ = some (.slice G p.rules[i].guard.length c) ∧ w'.cell? ⟨b, o + i * 3 + 2, none⟩ = some (.slice S p.rules[i].sets.length c2) ∧ w.heap.size < w'.heap.size) (exact hcell.out _ HB2) (first | (go_simp; go_at_call 120; refine (refFormed_any _ p.rules[i] p.vars.length _ (HRV.out _ HB2) (by omega) HLr.out).mono ?_; rintro e w' ⟨rfl, hbb⟩; rw [hff]; replace HB2 := HB2.trans hbb; clear hbb))
        go_wp2_with fail
        go_ret
        exact ⟨ret_int HC1.out.symm, (box_bel HB).trans HB2⟩
       | true =>
        have HN := Lib.hid (all_take_succ hlt HJ.out hff)
        have HFF := Lib.hid hff; clear hff
        go_wp2_with fail
        replace HB2 := HB2.drew
        go_region_held3 (fun w' => w'.cell? ⟨w.heap.size, 1, none⟩ = some (.slice A p.vars.length k) ∧ w'.cell? ⟨w.heap.size, 2, none⟩ = some (.slice (some ⟨b, o, none⟩) p.rules.length k2) ∧ w'.cell? ⟨b, o + i * 3, none⟩ = some (.string p.rules[i].name) ∧ w'.cell? ⟨b, o + i * 3 + 1, none⟩ = some (.slice G p.rules[i].guard.length c) ∧ w'.cell? ⟨b, o + i * 3 + 2, none⟩ = some (.slice S p.rules[i].sets.length c2) ∧ w.heap.size < w'.heap.size) (exact hcell.out _ HB2) (first | (go_simp; go_at_call 120; refine (refFormed_any _ p.rules[i] p.vars.length _ (HRV.out _ HB2) (by omega) HLr.out).mono ?_; rintro e w' ⟨rfl, hbb⟩; rw [HFF.out]; replace HB2 := HB2.trans hbb; clear hbb))
        go_wp2_with fail
        go_roundg (p.rules.length - (i + 1))
        case rel => exact ⟨i + 1, by omega, rfl, by go_num, HN, HB.trans HB2⟩
        case measure => omega
      ·have hd0 : decide (i < p.rules.length) = false := by simpa using hlt
       have HALL := Lib.hid (all_of_take (by omega) HJ.out)
       rw [HALL.out, if_neg (by decide)] at HC1
       clear HJ
       go_wp2_with fail
       clear hd0 q1 q2 q3 hi hlt
       go_loopg [5] p.rules.length (fun m z wr => ∃ j : Nat, j ≤ p.rules.length ∧ m = p.rules.length - j ∧ z = .int .i64 j ∧ Hid ((p.rules.take j).all (typedF (kindsF p)) = true) ∧ Bel (w.alloc (.cells #[.string p.name, .slice A p.vars.length k, .slice A2 p.rules.length k2] 25)) wr)
       case atStart => exact ⟨0, by omega, rfl, rfl, rfl, HB⟩
       case round =>
        clear HB
        obtain ⟨i, hi, rfl, rfl, HJ, HB⟩ := hrel
        have q0 := box_cell HB 0 rfl
        have q1 := box_cell HB 1 rfl
        have q3 := box_cell HB 2 rfl
        have q2 := box_lt HB
        by_cases hlt : i < p.rules.length
        ·have hd0 : decide (i < p.rules.length) = true := by simpa using hlt
         have hLr := HP5.out _ (List.getElem_mem hlt)
         have hfo := (formedF_iff _ _).1 (List.all_eq_true.1 HALL.out _ (List.getElem_mem hlt))
         rw [← kindsF_length p] at hfo
         obtain ⟨b, o, G, c, S, c2, rfl, hb, c0, c1, c2', hRV⟩ := (HR.out _ (box_bel HB)).at_V i hlt
         have HRV := Lib.hid (fun w' (k : Bel wr w') => hRV.keep k); clear hRV
         have hcell := Lib.hid (fun w' (k : Bel wr w') => And.intro ((k.cell q2).trans q0) (And.intro ((k.cell q2).trans q1) (And.intro ((k.cell q2).trans q3) (And.intro ((k.cell hb).trans c0) (And.intro ((k.cell hb).trans c1) (And.intro ((k.cell hb).trans c2') (Nat.lt_of_lt_of_le q2 k.size)))))))
         have HB2 := Bel.refl wr
         have HLr := Lib.hid hLr; clear hLr
         have HFO := Lib.hid hfo; clear hfo
         obtain ⟨tv, htv⟩ : ∃ tv, typedF (kindsF p) p.rules[i] = tv := ⟨_, rfl⟩
         have HTV := Lib.hid htv
         go_wp2_with fail
         replace HB2 := HB2.drew
         go_region_held3 (fun w' => w'.cell? ⟨w.heap.size, 0, none⟩ = some (.string p.name) ∧ w'.cell? ⟨w.heap.size, 1, none⟩ = some (.slice A p.vars.length k) ∧ w'.cell? ⟨w.heap.size, 2, none⟩ = some (.slice (some ⟨b, o, none⟩) p.rules.length k2) ∧ w'.cell? ⟨b, o + i * 3, none⟩ = some (.string p.rules[i].name) ∧ w'.cell? ⟨b, o + i * 3 + 1, none⟩ = some (.slice G p.rules[i].guard.length c) ∧ w'.cell? ⟨b, o + i * 3 + 2, none⟩ = some (.slice S p.rules[i].sets.length c2) ∧ w.heap.size < w'.heap.size) (exact hcell.out _ HB2) (first
          | (go_simp; go_at_call 122; refine (refKinds_any _ p _ (HPV.out _ ((box_bel HB).trans HB2)) (by omega)).mono ?_; rintro e w' ⟨KA, kc, rfl, hK, _, _, hbb⟩; replace HB2 := HB2.trans hbb; clear hbb)
          | (go_simp; go_at_call 121; refine (refTyped_any _ p.rules[i] _ _ (kindsF p) _ (HRV.out _ HB2) hK HFO.out HLr.out).mono ?_; rintro e w' ⟨rfl, hbb⟩; rw [HTV.out]; replace HB2 := HB2.trans hbb; clear hbb))
         cases tv with
         | false =>
          rw [all_false_at hlt HTV.out, if_pos rfl] at HC1
          go_wp2_with fail
          go_ret
          exact ⟨ret_int HC1.out.symm, (box_bel HB).trans HB2⟩
         | true =>
          have HN := Lib.hid (all_take_succ hlt HJ.out HTV.out)
          go_wp2_with fail
          go_roundg (p.rules.length - (i + 1))
          case rel => exact ⟨i + 1, by omega, rfl, by go_num, HN, HB.trans HB2⟩
          case measure => omega
        ·have hd0 : decide (i < p.rules.length) = false := by simpa using hlt
         rw [all_of_take (by omega) HJ.out, if_neg (by decide)] at HC1
         go_wp2_with fail
         go_ret
         exact ⟨ret_int HC1.out.symm, box_bel HB⟩
 ·have HF : Hid (checkF p = 3) := by show checkF p = 3; unfold checkF; rw [if_pos hn]
  by_cases hv : 1 ≤ p.vars.length ∧ p.vars.length ≤ 6
  ·have hin : inB (p.vars.length : Int) 1 6 = true := inB_true (by omega) (by omega)
   have hr : 12 < p.rules.length := by omega
   have hd : decide (12 < p.rules.length) = true := by simpa using hr
   clear hn hv
   go_enter Tryz.func99, Tryz.ntmps99
   go_wp2_with (go_at_call 117; refine (in07_any _ _ _ _).mono ?_; rintro e w' ⟨rfl, rfl⟩)
   go_ret
   exact ⟨ret_int HF.out.symm, box_bel HB⟩
  ·have hin : inB (p.vars.length : Int) 1 6 = false := by rw [inB_false_iff]; omega
   clear hn hv
   go_enter Tryz.func99, Tryz.ntmps99
   go_wp2_with (go_at_call 117; refine (in07_any _ _ _ _).mono ?_; rintro e w' ⟨rfl, rfl⟩)
   go_ret
   exact ⟨ret_int HF.out.symm, box_bel HB⟩

theorem refPrgValid_any (v : Value) (p : Prg) (w : World) (h : PrgV w v p) (hL : lightP p = true) :
  Calls Tryz.prog 77 #[v] w fun e w' => e = .returned (.bool (decide (checkF p = 0))) ∧ Bel w w' := by
 have HPV := Lib.hid (fun w' (k : Bel w w') => h.keep k)
 obtain ⟨A, k, A2, k2, rfl, _, _, _, _, _, _⟩ := h
 have HB := (Bel.refl w).alloc (.cells #[.string p.name, .slice A p.vars.length k, .slice A2 p.rules.length k2] 25)
 go_enter Tryz.func77, Tryz.ntmps77
 go_wp2_with (go_at_call 99; refine (refCheck_any _ p _ (HPV.out _ HB) hL).mono ?_; rintro e w' ⟨rfl, hb⟩; replace HB := HB.trans hb; clear hb)
 go_ret
 exact ⟨ret_bool (by rw [Bool.eq_iff_iff]; simp), HB⟩

end Go.Proofs.YtgemlgpjbclonaaGreatDoor

/- Contract: the program's named. -/
namespace Go.Proofs.YtgemlgpjbclonaaGreatDoor
open Go.RowKit Go.Maps

def strLit (s : ByteArray) : Lit := .string s.data.toList
theorem strLit_inj {a b : ByteArray} (h : strLit a = strLit b) : a = b := by
 unfold strLit at h
 injection h with h
 cases a; cases b
 simp only [ByteArray.mk.injEq]
 exact Array.toList_inj.1 h
theorem strLits_mem {s : ByteArray} {l : List ByteArray} : strLit s ∈ l.map strLit ↔ s ∈ l := by
 constructor
 ·intro h
  obtain ⟨x, hx, he⟩ := List.mem_map.1 h
  rwa [strLit_inj he] at hx
 ·exact fun h => List.mem_map_of_mem h
theorem strKeyed : Keyed Tryz.prog 9 := string_keyed Tryz.underlying9
theorem boolZero (w : World) : (zeroValue 4).run Tryz.prog w = .ok (.bool false) w := by kernel_rfl
theorem mem_take_of {α : Type} {l : List α} {k : Nat} {x : α} (h : x ∈ l.take k) : ∃ j, ∃ hj : j < l.length, j < k ∧ l[j] = x := by
 rw [List.mem_take_iff_getElem] at h
 obtain ⟨j, hj, rfl⟩ := h
 exact ⟨j, by omega, by omega, rfl⟩

set_option maxRecDepth 100000 in
set_option maxHeartbeats 4000000 in
theorem named_any (v : Value) (p : Prg) (w : World) (h : PrgV w v p) (hL : lightP p = true) :
  Calls Tryz.prog 130 #[v] w fun e w' => e = .returned (.bool (namedF p)) ∧ Bel w w' := by
 obtain ⟨A, k, A2, k2, rfl, hV, _, _, hR, _, _⟩ := h
 have HV := Lib.hid (fun w' (k : Bel w w') => VarsR.keep hV k); clear hV
 have HR := Lib.hid (fun w' (k : Bel w w') => RulesR.keep hR k); clear hR
 obtain ⟨p1, p2, p3, p4, p5⟩ := lightP_parts hL
 have HP4 := Lib.hid p4
 have HP5 := Lib.hid (fun r hr => (lightR_parts (p5 r hr)).1)
 clear p4 p5 hL
 have HB := Bel.refl (w.alloc (.cells #[.string p.name, .slice A p.vars.length k, .slice A2 p.rules.length k2] 25))
 have hmm := @run_makeMap Tryz.prog
 cases hnm : nameF p.name with
 | false =>
  have HF : Hid (namedF p = false) := by show namedF p = false; unfold namedF; rw [hnm]; rfl
  go_enter Tryz.func130, Tryz.ntmps130
  go_wp2_with (go_at_call 144; refine (name_any _ _ (by omega)).mono ?_; rintro e w' ⟨rfl, rfl⟩)
  go_ret
  exact ⟨ret_bool HF.out.symm, box_bel HB⟩
 | true =>
  have HNM := Lib.hid hnm
  have HS0 := Lib.hid (SetR.made Tryz.prog 9 4 (w.alloc (.cells #[.string p.name, .slice A p.vars.length k, .slice A2 p.rules.length k2] 25)))
  replace HB := HB.alloc (.map #[] 0)
  simp only [World.size_alloc] at HS0
  go_enter Tryz.func130, Tryz.ntmps130
  go_wp2_with (go_at_call 144; refine (name_any _ _ (by omega)).mono ?_; rintro e w' ⟨rfl, rfl⟩)
  clear hnm
  go_loopg [5, 17] p.vars.length (fun m _x z wr => ∃ j : Nat, j ≤ p.vars.length ∧ m = p.vars.length - j ∧ z = .int .i64 j ∧ Hid ((∀ q, q < j → (hq : q < p.vars.length) → nameF p.vars[q].name = true) ∧ ((p.vars.map Var.name).take j).Nodup) ∧ Hid (SetR Tryz.prog 9 4 wr (w.heap.size + 1) j (((p.vars.map Var.name).take j).map strLit)) ∧ Bel (w.alloc (.cells #[.string p.name, .slice A p.vars.length k, .slice A2 p.rules.length k2] 25)) wr)
  case atStart => exact ⟨0, by omega, rfl, rfl, ⟨fun q hq => absurd hq (by omega), by simp⟩, HS0, HB⟩
  case round =>
   clear HB HS0
   obtain ⟨i, hi, rfl, rfl, HJ, HS, HB⟩ := hrel
   by_cases hlt : i < p.vars.length
   ·have hd0 : decide (i < p.vars.length) = true := by simpa using hlt
    have hnl := HP4.out _ (List.getElem_mem hlt)
    obtain ⟨b, o, rfl, hb, hc0, hc1, hc2, hc3, hc4, hc5⟩ := (HV.out _ (box_bel HB)).at_ i hlt
    have hkey := WideMaps.keyOf_string_mk (P := Tryz.prog) (k := 9) Tryz.underlying9 (s := p.vars[i].name) (by unfold maxLen; omega)
    have HB2 := HB.alloc (.cells #[.string p.vars[i].name, .int .i64 p.vars[i].kind, .int .i64 p.vars[i].lo, .int .i64 p.vars[i].hi, .int .i64 p.vars[i].perNode, .int .i64 p.vars[i].perID] 85)
    have HS2 := Lib.hid (HS.out.keep ((Bel.refl wr).alloc (.cells #[.string p.vars[i].name, .int .i64 p.vars[i].kind, .int .i64 p.vars[i].lo, .int .i64 p.vars[i].hi, .int .i64 p.vars[i].perNode, .int .i64 p.vars[i].perID] 85)))
    obtain ⟨x, hx, hxi⟩ := HS2.out.look strKeyed Tryz.underlying192 Tryz.underlying4 (boolZero _) hkey
    have HXI := Lib.hid hxi
    have hms := HS2.out.lt
    have HKEY := Lib.hid hkey
    clear hxi hkey
    cases hnn : nameF p.vars[i].name with
    | false =>
     have HF : Hid (namedF p = false) := namedF_false1 fun hf => by
      have := ((namesF_iff _).1 hf).1 p.vars[i].name (List.mem_map_of_mem (List.getElem_mem hlt))
      rw [hnn] at this; cases this
     go_wp2_with (go_at_call 144; refine (name_any _ _ (by omega)).mono ?_; rintro e w' ⟨rfl, rfl⟩)
     go_ret
     exact ⟨ret_bool HF.out.symm, box_bel HB2⟩
    | true =>
     cases x with
     | true =>
      have HF : Hid (namedF p = false) := namedF_false1 fun hf => by
       have hm := HXI.out.1 rfl
       rw [show (Lit.string p.vars[i].name.data.toList) = strLit p.vars[i].name from rfl, strLits_mem] at hm
       obtain ⟨j, hj1, hj2, hj3⟩ := mem_take_of hm
       exact notT_nodup hj2 (by simpa using hlt) (by rw [hj3]; simp) ((namesF_iff _).1 hf).2
      go_wp2_with (go_at_call 144; refine (name_any _ _ (by omega)).mono ?_; rintro e w' ⟨rfl, rfl⟩)
      go_ret
      exact ⟨ret_bool HF.out.symm, box_bel HB2⟩
     | false =>
      have HNN := Lib.hid hnn
      have HT : Hid (((p.vars.map Var.name).take (i + 1)).Nodup) := by
       show List.Nodup _
       refine nodupT_take_succ (by simpa using hlt) HJ.out.2 (fun q hq he => ?_)
       have : (false : Bool) = true := HXI.out.2 (by
        rw [show (Lit.string p.vars[i].name.data.toList) = strLit p.vars[i].name from rfl, strLits_mem, List.mem_take_iff_getElem]
        refine ⟨q, by simp; omega, ?_⟩
        simp at he ⊢
        exact he)
       cases this
      go_wp2_with (first
       | (go_at_call 144; refine (name_any _ _ (by omega)).mono ?_; rintro e w' ⟨rfl, rfl⟩)
       | (at_mapUpdate; refine wpList_putSet _ rfl (.tmp 31) (.tmp 33) (.const (.bool true)) 192 rfl 9 4 strKeyed Tryz.underlying192 Tryz.underlying4 (w.heap.size + 1) i _ rfl HS2.out (by unfold maxLen; omega) _ _ rfl rfl HKEY.out trivial ?_; intro w3 hset hgr; have HB3 := HB2.map (by simp <;> omega) hgr; have HS3 := Lib.hid hset; clear hset hgr))
      go_roundg (p.vars.length - (i + 1))
      case rel =>
       refine ⟨i + 1, by omega, rfl, by go_num, ⟨?_, HT.out⟩, ?_, HB3⟩
       ·intro q hq hq'
        rcases Nat.lt_or_ge q i with h | h
        ·exact HJ.out.1 q h hq'
        ·obtain rfl : q = i := by omega
         exact HNN.out
       ·obtain ⟨D, d1, d2, d3⟩ := HS3.out
        refine ⟨D, d1, d2, fun kl => ?_⟩
        obtain ⟨y, hy, hyi⟩ := d3 kl
        refine ⟨y, hy, ?_⟩
        rw [hyi, List.take_succ_eq_append_getElem (by simpa using hlt)]
        simp [strLit, or_comm]
      case measure => omega
   ·have hd0 : decide (i < p.vars.length) = false := by simpa using hlt
    have HE : Hid (namesF (p.vars.map Var.name) = true) := by
     show namesF (p.vars.map Var.name) = true
     rw [namesF_iff]
     obtain ⟨a1, a2⟩ := HJ.out
     rw [List.take_of_length_le (by simp; omega)] at a2
     refine ⟨fun s hs => ?_, a2⟩
     obtain ⟨x, hx, rfl⟩ := List.mem_map.1 hs
     obtain ⟨q, hq, rfl⟩ := List.getElem_of_mem hx
     exact a1 q (by omega) hq
    have HE1 := HE
    have q1 := box_cell HB 2 rfl
    have q2 := box_lt HB
    have HS0 := Lib.hid (SetR.made Tryz.prog 9 4 wr)
    clear HE HJ HS
    have hmb : w.heap.size + 1 ≤ wr.heap.size := by omega
    replace HB := HB.alloc (.map #[] 0)
    go_wp2_with fail
    clear hd0 q1 q2 hi hlt
    generalize hmbe : wr.heap.size = mb at *
    clear hmbe
    go_loopg [8, 39] p.rules.length (fun m _x z wr => ∃ j : Nat, j ≤ p.rules.length ∧ m = p.rules.length - j ∧ z = .int .i64 j ∧ Hid ((∀ q, q < j → (hq : q < p.rules.length) → nameF p.rules[q].name = true) ∧ ((p.rules.map Rule.name).take j).Nodup) ∧ Hid (SetR Tryz.prog 9 4 wr (mb) j (((p.rules.map Rule.name).take j).map strLit)) ∧ Bel (w.alloc (.cells #[.string p.name, .slice A p.vars.length k, .slice A2 p.rules.length k2] 25)) wr)
    case atStart => exact ⟨0, by omega, rfl, rfl, ⟨fun q hq => absurd hq (by omega), by simp⟩, HS0, HB⟩
    case round =>
     clear HB HS0
     obtain ⟨i, hi, rfl, rfl, HJ, HS, HB⟩ := hrel
     by_cases hlt : i < p.rules.length
     ·have hd0 : decide (i < p.rules.length) = true := by simpa using hlt
      have hnl := HP5.out _ (List.getElem_mem hlt)
      obtain ⟨b, o, G, c, S, c2, rfl, hb, hc0, hc1, hc2, _⟩ := (HR.out _ (box_bel HB)).at_ i hlt
      have hkey := WideMaps.keyOf_string_mk (P := Tryz.prog) (k := 9) Tryz.underlying9 (s := p.rules[i].name) (by unfold maxLen; omega)
      have HB2 := HB.alloc (.cells #[.string p.rules[i].name, .slice G p.rules[i].guard.length c, .slice S p.rules[i].sets.length c2] 89)
      have HS2 := Lib.hid (HS.out.keep ((Bel.refl wr).alloc (.cells #[.string p.rules[i].name, .slice G p.rules[i].guard.length c, .slice S p.rules[i].sets.length c2] 89)))
      obtain ⟨x, hx, hxi⟩ := HS2.out.look strKeyed Tryz.underlying192 Tryz.underlying4 (boolZero _) hkey
      have HXI := Lib.hid hxi
      have hms := HS2.out.lt
      have HKEY := Lib.hid hkey
      clear hxi hkey
      cases hnn : nameF p.rules[i].name with
      | false =>
       have HF : Hid (namedF p = false) := namedF_false2 fun hf => by
        have := ((namesF_iff _).1 hf).1 p.rules[i].name (List.mem_map_of_mem (List.getElem_mem hlt))
        rw [hnn] at this; cases this
       go_wp2_with (go_at_call 144; refine (name_any _ _ (by omega)).mono ?_; rintro e w' ⟨rfl, rfl⟩)
       go_ret
       exact ⟨ret_bool HF.out.symm, box_bel HB2⟩
      | true =>
       cases x with
       | true =>
        have HF : Hid (namedF p = false) := namedF_false2 fun hf => by
         have hm := HXI.out.1 rfl
         rw [show (Lit.string p.rules[i].name.data.toList) = strLit p.rules[i].name from rfl, strLits_mem] at hm
         obtain ⟨j, hj1, hj2, hj3⟩ := mem_take_of hm
         exact notT_nodup hj2 (by simpa using hlt) (by rw [hj3]; simp) ((namesF_iff _).1 hf).2
        go_wp2_with (go_at_call 144; refine (name_any _ _ (by omega)).mono ?_; rintro e w' ⟨rfl, rfl⟩)
        go_ret
        exact ⟨ret_bool HF.out.symm, box_bel HB2⟩
       | false =>
        have HNN := Lib.hid hnn
        have HT : Hid (((p.rules.map Rule.name).take (i + 1)).Nodup) := by
         show List.Nodup _
         refine nodupT_take_succ (by simpa using hlt) HJ.out.2 (fun q hq he => ?_)
         have : (false : Bool) = true := HXI.out.2 (by
          rw [show (Lit.string p.rules[i].name.data.toList) = strLit p.rules[i].name from rfl, strLits_mem, List.mem_take_iff_getElem]
          refine ⟨q, by simp; omega, ?_⟩
          simp at he ⊢
          exact he)
         cases this
        go_wp2_with (first
         | (go_at_call 144; refine (name_any _ _ (by omega)).mono ?_; rintro e w' ⟨rfl, rfl⟩)
         | (at_mapUpdate; refine wpList_putSet _ rfl (.tmp 53) (.tmp 55) (.const (.bool true)) 192 rfl 9 4 strKeyed Tryz.underlying192 Tryz.underlying4 (mb) i _ rfl HS2.out (by unfold maxLen; omega) _ _ rfl rfl HKEY.out trivial ?_; intro w3 hset hgr; have HB3 := HB2.map (by simp <;> omega) hgr; have HS3 := Lib.hid hset; clear hset hgr))
        go_roundg (p.rules.length - (i + 1))
        case rel =>
         refine ⟨i + 1, by omega, rfl, by go_num, ⟨?_, HT.out⟩, ?_, HB3⟩
         ·intro q hq hq'
          rcases Nat.lt_or_ge q i with h | h
          ·exact HJ.out.1 q h hq'
          ·obtain rfl : q = i := by omega
           exact HNN.out
         ·obtain ⟨D, d1, d2, d3⟩ := HS3.out
          refine ⟨D, d1, d2, fun kl => ?_⟩
          obtain ⟨y, hy, hyi⟩ := d3 kl
          refine ⟨y, hy, ?_⟩
          rw [hyi, List.take_succ_eq_append_getElem (by simpa using hlt)]
          simp [strLit, or_comm]
        case measure => omega
     ·have hd0 : decide (i < p.rules.length) = false := by simpa using hlt
      have HE : Hid (namesF (p.rules.map Rule.name) = true) := by
       show namesF (p.rules.map Rule.name) = true
       rw [namesF_iff]
       obtain ⟨a1, a2⟩ := HJ.out
       rw [List.take_of_length_le (by simp; omega)] at a2
       refine ⟨fun s hs => ?_, a2⟩
       obtain ⟨x, hx, rfl⟩ := List.mem_map.1 hs
       obtain ⟨q, hq, rfl⟩ := List.getElem_of_mem hx
       exact a1 q (by omega) hq
      go_wp2_with fail
      go_ret
      refine ⟨ret_bool ?_, box_bel HB⟩
      symm
      unfold namedF
      rw [HNM.out, HE1.out, HE.out]; rfl

end Go.Proofs.YtgemlgpjbclonaaGreatDoor

/- Contract: the program's formed. -/
namespace Go.Proofs.YtgemlgpjbclonaaGreatDoor
open Go.RowKit Go.Maps

theorem nat_beq0 {n : Nat} (h : 1 ≤ n) : (n == 0) = false := by simp; omega
theorem int_beq0 {n : Nat} (h : 1 ≤ n) : ((n : Int) == 0) = false := by simp; omega

def intLit (x : Int) : Lit := .int .i64 x
theorem intLits_mem {x : Int} {l : List Int} : intLit x ∈ l.map intLit ↔ x ∈ l := by
 constructor
 ·intro h
  obtain ⟨y, hy, he⟩ := List.mem_map.1 h
  unfold intLit at he
  injection he with _ he
  subst he; exact hy
 ·exact fun h => List.mem_map_of_mem h
theorem intKeyed : Keyed Tryz.prog 3 := int_keyed Tryz.underlying3

set_option maxRecDepth 100000 in
set_option maxHeartbeats 4000000 in
theorem formed_any (v : Value) (r : Rule) (vars : Nat) (w : World) (h : RuleV w v r) (hvars : vars ≤ 1000) (hL : lightR r = true) :
  Calls Tryz.prog 132 #[v, .int .i64 vars] w fun e w' => e = .returned (.bool (formedF vars r)) ∧ Bel w w' := by
 obtain ⟨G, c, S, c2, rfl, hG, _, _, hS, _, _⟩ := h
 have HG := Lib.hid (fun w' (k : Bel w w') => TermsR.keep hG k); clear hG
 have HS := Lib.hid (fun w' (k : Bel w w') => SetsR.keep hS k); clear hS
 obtain ⟨_, l2, l3, l4⟩ := lightR_parts hL
 have HL4 := Lib.hid l4; clear l4 hL
 have HB := Bel.refl (w.alloc (.cells #[.string r.name, .slice G r.guard.length c, .slice S r.sets.length c2] 89))
 have hmm := @run_makeMap Tryz.prog
 by_cases hn : 1 ≤ r.sets.length ∧ r.sets.length ≤ 6
 ·have hz : ((r.sets.length : Int) == 0) = false := int_beq0 (by omega)
  have hz' : (r.sets.length == 0) = false := nat_beq0 (by omega)
  have hz2 : decide (6 < r.sets.length) = false := by simp; omega
  cases hvg : validF r.guard vars with
  | false =>
   have HF : Hid (formedF vars r = false) := formedF_false fun h => by rw [h.guard] at hvg; cases hvg
   go_enter Tryz.func132, Tryz.ntmps132
   go_wp2_with (go_at_call 147; refine (valid_any _ _ _ r.guard _ _ (HG.out _ (box_bel HB)) (by omega)).mono ?_; rintro e w' ⟨rfl, hb⟩; rw [hvg]; replace HB := HB.trans hb; clear hb)
   go_ret
   exact ⟨ret_bool HF.out.symm, box_bel HB⟩
  | true =>
   have HVG := Lib.hid hvg; clear hvg
   go_enter Tryz.func132, Tryz.ntmps132
   go_wp2_with (go_at_call 147; refine (valid_any _ _ _ r.guard _ _ (HG.out _ (box_bel HB)) (by omega)).mono ?_; rintro e w1 ⟨rfl, hb⟩; rw [HVG.out]; replace HB := HB.trans hb; clear hb; have q1 := box_cell HB 2 rfl; have q2 := box_lt HB)
   clear hz hz' hz2 q1
   have HS0 := Lib.hid (SetR.made Tryz.prog 3 4 w1)
   replace HB := HB.alloc (.map #[] 0)
   obtain ⟨mb, hmb⟩ : ∃ mb, w1.heap.size = mb := ⟨_, rfl⟩
   rw [hmb] at q2
   simp only [hmb] at HS0 ⊢
   clear hmb
   go_loopg [7, 29] r.sets.length (fun m _x z wr => ∃ j : Nat, j ≤ r.sets.length ∧ m = r.sets.length - j ∧ z = .int .i64 j ∧ Hid ((r.sets.take j).all (fun s => decide (0 ≤ s.var ∧ s.var ≤ (vars : Int) - 1) && validF s.value vars) = true ∧ ((r.sets.map SetT.var).take j).Nodup) ∧ Hid (SetR Tryz.prog 3 4 wr mb j (((r.sets.map SetT.var).take j).map intLit)) ∧ Bel (w.alloc (.cells #[.string r.name, .slice G r.guard.length c, .slice S r.sets.length c2] 89)) wr)
   case atStart => exact ⟨0, by omega, rfl, rfl, ⟨rfl, by simp⟩, HS0, HB⟩
   case round =>
    clear HB HS0
    obtain ⟨i, hi, rfl, rfl, HJ, HM, HB⟩ := hrel
    by_cases hlt : i < r.sets.length
    ·have hd0 : decide (i < r.sets.length) = true := by simpa using hlt
     obtain ⟨b, o, R, c', rfl, hb, s1, s2, hTv, _, _⟩ := (HS.out _ (box_bel HB)).at_ i hlt
     have HTv := Lib.hid (fun w' (k : Bel wr w') => TermsR.keep hTv k); clear hTv
     have hlen := HL4.out _ (List.getElem_mem hlt)
     have HB2 := Bel.refl (wr.alloc (.cells #[.int .i64 r.sets[i].var, .slice R r.sets[i].value.length c'] 92))
     by_cases hr : 0 ≤ r.sets[i].var ∧ r.sets[i].var ≤ (vars : Int) - 1
     ·have hin : inB r.sets[i].var 0 ((vars : Int) - 1) = true := inB_true hr.1 hr.2
      have hkey := keyOf_int_mk (P := Tryz.prog) (k := 3) (q := .i64) Tryz.underlying3 (a := r.sets[i].var) (WalkArith.wf_i64 (by omega))
      have HM2 := Lib.hid (HM.out.keep (box_bel HB2))
      obtain ⟨x, hx, hxi⟩ := HM2.out.look intKeyed Tryz.underlying193 Tryz.underlying4 (boolZero _) hkey
      have HXI := Lib.hid hxi
      have HKEY := Lib.hid hkey
      clear hxi hkey
      cases x with
      | true =>
       have HF : Hid (formedF vars r = false) := formedF_false fun hf => by
        have hm := HXI.out.1 rfl
        rw [show (Lit.int .i64 r.sets[i].var) = intLit r.sets[i].var from rfl, intLits_mem] at hm
        obtain ⟨j, hj1, hj2, hj3⟩ := mem_take_of hm
        exact notT_nodup hj2 (by simpa using hlt) (by rw [hj3]; simp) hf.diff
       go_wp2_with (go_at_call 146; refine (within_any _ _ _ _).mono ?_; rintro e w' ⟨rfl, rfl⟩)
       go_ret
       exact ⟨ret_bool HF.out.symm, (box_bel HB).trans (box_bel HB2)⟩
      | false =>
       cases hvs : validF r.sets[i].value vars with
       | false =>
        have HF : Hid (formedF vars r = false) := formedF_false fun h => by have := (h.sets _ (List.getElem_mem hlt)).2; rw [hvs] at this; cases this
        go_wp2_with (first
         | (go_at_call 146; refine (within_any _ _ _ _).mono ?_; rintro e w' ⟨rfl, rfl⟩)
         | (go_at_call 147; refine (valid_any _ _ _ r.sets[i].value _ _ (HTv.out _ (box_bel HB2)) (by omega)).mono ?_; rintro e w' ⟨rfl, hbb⟩; rw [hvs]; replace HB2 := HB2.trans hbb; clear hbb))
        go_ret
        exact ⟨ret_bool HF.out.symm, (box_bel HB).trans (box_bel HB2)⟩
       | true =>
        have HOK := Lib.hid (show (decide (0 ≤ r.sets[i].var ∧ r.sets[i].var ≤ (vars : Int) - 1) && validF r.sets[i].value vars) = true by rw [hvs, decide_eq_true hr]; rfl)
        have HVS := Lib.hid hvs
        have HT : Hid (((r.sets.map SetT.var).take (i + 1)).Nodup) := by
         show List.Nodup _
         refine nodupT_take_succ (by simpa using hlt) HJ.out.2 (fun q hq he => ?_)
         have : (false : Bool) = true := HXI.out.2 (by
          rw [show (Lit.int .i64 r.sets[i].var) = intLit r.sets[i].var from rfl, intLits_mem, List.mem_take_iff_getElem]
          refine ⟨q, by simp; omega, ?_⟩
          simp at he ⊢
          exact he)
         cases this
        clear hvs hr
        go_wp2_with (first
         | (go_at_call 146; refine (within_any _ _ _ _).mono ?_; rintro e w' ⟨rfl, rfl⟩)
         | (go_at_call 147; refine (valid_any _ _ _ r.sets[i].value _ _ (HTv.out _ (box_bel HB2)) (by omega)).mono ?_; rintro e w2 ⟨rfl, hbb⟩; rw [HVS.out]; replace HB2 := HB2.trans hbb; have HM3 := Lib.hid (HM2.out.keep hbb); clear hbb hx; have q1 := box_cell HB2 0 rfl; have q3 := box_lt HB2)
         | (at_mapUpdate; refine wpList_putSet _ rfl (.tmp 52) (.tmp 54) (.const (.bool true)) 193 rfl 3 4 intKeyed Tryz.underlying193 Tryz.underlying4 mb i _ rfl HM3.out (by unfold maxLen; omega) _ _ rfl rfl HKEY.out trivial ?_; intro w3 hset hgr; have HB3 := (HB.trans (box_bel HB2)).map (by simp <;> omega) hgr; have HM4 := Lib.hid hset; clear hset hgr))
        go_roundg (r.sets.length - (i + 1))
        case rel =>
         refine ⟨i + 1, by omega, rfl, by go_num, ⟨all_take_succ hlt HJ.out.1 HOK.out, HT.out⟩, ?_, HB3⟩
         obtain ⟨D, d1, d2, d3⟩ := HM4.out
         refine ⟨D, d1, d2, fun kl => ?_⟩
         obtain ⟨y, hy, hyi⟩ := d3 kl
         refine ⟨y, hy, ?_⟩
         rw [hyi, List.take_succ_eq_append_getElem (by simpa using hlt)]
         simp [intLit, or_comm]
        case measure => omega
     ·have hin : inB r.sets[i].var 0 ((vars : Int) - 1) = false := by
       rw [inB_false_iff]; omega
      have HF : Hid (formedF vars r = false) := formedF_false fun h => hr (h.sets _ (List.getElem_mem hlt)).1
      clear hr
      go_wp2_with (go_at_call 146; refine (within_any _ _ _ _).mono ?_; rintro e w' ⟨rfl, rfl⟩)
      go_ret
      exact ⟨ret_bool HF.out.symm, (box_bel HB).trans (box_bel HB2)⟩
    ·have hd0 : decide (i < r.sets.length) = false := by simpa using hlt
     go_wp2_with fail
     go_ret
     refine ⟨ret_bool ?_, box_bel HB⟩
     symm
     rw [formedF_iff]
     obtain ⟨a1, a2⟩ := HJ.out
     rw [List.take_of_length_le (by omega)] at a1
     rw [List.take_of_length_le (by simp; omega)] at a2
     refine ⟨hn.1, hn.2, HVG.out, fun s hs => ?_, a2⟩
     have := List.all_eq_true.1 a1 s hs
     rw [Bool.and_eq_true] at this
     exact ⟨of_decide_eq_true this.1, this.2⟩
 ·have HF : Hid (formedF vars r = false) := formedF_false fun h => hn ⟨h.pos, h.le⟩
  rcases (show r.sets.length = 0 ∨ 6 < r.sets.length by omega) with h0 | h0
  ·have hz : ((r.sets.length : Int) == 0) = true := by simp [h0]
   have hz' : (r.sets.length == 0) = true := by simp [h0]
   clear hn
   have HH := Lib.hid h0; clear h0
   go_enter Tryz.func132, Tryz.ntmps132
   go_wp2_with fail
   go_ret
   exact ⟨ret_bool HF.out.symm, box_bel HB⟩
  ·have hz : ((r.sets.length : Int) == 0) = false := int_beq0 (by omega)
   have hz' : (r.sets.length == 0) = false := nat_beq0 (by omega)
   have hz2 : decide (6 < r.sets.length) = true := by simpa using h0
   clear hn
   go_enter Tryz.func132, Tryz.ntmps132
   go_wp2_with fail
   go_ret
   exact ⟨ret_bool HF.out.symm, box_bel HB⟩

end Go.Proofs.YtgemlgpjbclonaaGreatDoor

