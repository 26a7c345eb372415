/- Merged of: WTm P11 W11a W11b (see NOTES.md). -/
import Derived.Test.YtgemlgpjbclonaaGreatDoorZ14
import Derived.Test.YtgemlgpjbclonaaGreatDoorZ04
import Derived.Test.YtgemlgpjbclonaaGreatDoorZ07
set_option linter.unusedSimpArgs false
set_option linter.unnecessarySimpa false
set_option linter.unusedVariables false

/- Contracts: the program's Check and Valid of layer 7. -/
namespace Go.Proofs.YtgemlgpjbclonaaGreatDoor
open Go.RowKit

set_option maxRecDepth 100000 in
set_option maxHeartbeats 4000000 in
theorem check_any (v : Value) (p : Prg) (w : World) (h : PrgV w v p) (hL : lightP p = true) :
  Calls Tryz.prog 107 #[v] w fun e w' => e = .returned (.int .i64 (checkF p)) ∧ Bel w w' := by
 have HPV := Lib.hid (fun w' (k : Bel w w') => h.keep k)
 obtain ⟨A, k, A2, k2, rfl, hV, _, _, hR, _, _⟩ := h
 have HV := Lib.hid (fun w' (k : Bel w w') => VarsR.keep hV k); clear hV
 have HR := Lib.hid (fun w' (k : Bel w w') => RulesR.keep hR k); clear hR
 obtain ⟨p1, p2, p3, p4, p5⟩ := lightP_parts hL
 have HP5 := Lib.hid p5
 have HL := Lib.hid hL
 clear p4 p5 hL
 have HB := Bel.refl (w.alloc (.cells #[.string p.name, .slice A p.vars.length k, .slice A2 p.rules.length k2] 25))
 by_cases hn : 1 ≤ p.vars.length ∧ p.vars.length ≤ 6 ∧ p.rules.length ≤ 12
 ·obtain ⟨n1, n2, n3⟩ := hn
  have hz : ((p.vars.length : Int) == 0) = false := int_beq0 n1
  have hz' : (p.vars.length == 0) = false := nat_beq0 n1
  have hz2 : decide (6 < p.vars.length) = false := by simp; omega
  have hz3 : decide (12 < p.rules.length) = false := by simp; omega
  have HC1 : Hid (checkF p = if namedF p = false then 5 else if p.vars.all numbersF = false then 2 else if p.rules.all (formedF p.vars.length) = false then 7 else if p.rules.all (typedF (kindsF p)) = false then 6 else 0) := by
   show checkF p = _
   unfold checkF; rw [if_neg (by omega)]
  cases hnm : namedF p with
  | false =>
   rw [hnm, if_pos rfl] at HC1
   go_enter Tryz.func107, Tryz.ntmps107
   go_wp2_with (go_at_call 130; refine (named_any _ p _ (HPV.out _ (box_bel HB)) HL.out).mono ?_; rintro e w' ⟨rfl, hb⟩; rw [hnm]; replace HB := HB.trans hb; clear hb)
   go_ret
   exact ⟨ret_int HC1.out.symm, box_bel HB⟩
  | true =>
   rw [hnm, if_neg (by decide)] at HC1
   have HNM := Lib.hid hnm; clear hnm
   go_enter Tryz.func107, Tryz.ntmps107
   go_wp2_with (go_at_call 130; refine (named_any _ p _ (HPV.out _ (box_bel HB)) HL.out).mono ?_; rintro e w' ⟨rfl, hb⟩; rw [HNM.out]; replace HB := HB.trans hb; clear hb; have q1 := box_cell HB 1 rfl; have q2 := box_lt HB)
   clear hz hz' hz2 hz3 q1 q2
   go_loopg [4, 32] p.vars.length (fun m _x z wr => ∃ j : Nat, j ≤ p.vars.length ∧ m = p.vars.length - j ∧ z = .int .i64 j ∧ Hid ((p.vars.take j).all numbersF = true) ∧ Bel (w.alloc (.cells #[.string p.name, .slice A p.vars.length k, .slice A2 p.rules.length k2] 25)) wr)
   case atStart => exact ⟨0, by omega, rfl, rfl, rfl, HB⟩
   case round =>
    clear HB
    obtain ⟨i, hi, rfl, rfl, HJ, HB⟩ := hrel
    by_cases hlt : i < p.vars.length
    ·have hd0 : decide (i < p.vars.length) = true := by simpa using hlt
     obtain ⟨b, o, rfl, hb, c0, c1, c2, c3, c4, c5⟩ := (HV.out _ (box_bel HB)).at_ i hlt
     have HB2 := HB.alloc (.cells #[.string p.vars[i].name, .int .i64 p.vars[i].kind, .int .i64 p.vars[i].lo, .int .i64 p.vars[i].hi, .int .i64 p.vars[i].perNode, .int .i64 p.vars[i].perID] 85)
     cases hnn : numbersF p.vars[i] with
     | false =>
      rw [all_false_at hlt hnn, if_pos rfl] at HC1
      go_wp2_with (go_at_call 131; refine (numbers_any p.vars[i] _).mono ?_; rintro e w' ⟨rfl, hbb⟩; rw [hnn]; replace HB2 := HB2.trans hbb; clear hbb)
      go_ret
      exact ⟨ret_int HC1.out.symm, box_bel HB2⟩
     | true =>
      have HN := Lib.hid (all_take_succ hlt HJ.out hnn)
      have HNN := Lib.hid hnn; clear hnn
      go_wp2_with (go_at_call 131; refine (numbers_any p.vars[i] _).mono ?_; rintro e w' ⟨rfl, hbb⟩; rw [HNN.out]; replace HB2 := HB2.trans hbb; clear hbb)
      go_roundg (p.vars.length - (i + 1))
      case rel => exact ⟨i + 1, by omega, rfl, by go_num, HN, HB2⟩
      case measure => omega
    ·have hd0 : decide (i < p.vars.length) = false := by simpa using hlt
     rw [all_of_take (by omega) HJ.out, if_neg (by decide)] at HC1
     have HNA := Lib.hid (kinds_known (all_of_take (by omega) HJ.out))
     have q1 := box_cell HB 2 rfl
     have q2 := box_lt HB
     clear HJ
     go_wp2_with fail
     clear hd0 q1 q2 hi hlt
     go_loopg [6, 43] p.rules.length (fun m _x z wr => ∃ j : Nat, j ≤ p.rules.length ∧ m = p.rules.length - j ∧ z = .int .i64 j ∧ Hid ((p.rules.take j).all (formedF p.vars.length) = true) ∧ Bel (w.alloc (.cells #[.string p.name, .slice A p.vars.length k, .slice A2 p.rules.length k2] 25)) wr)
     case atStart => exact ⟨0, by omega, rfl, rfl, rfl, HB⟩
     case round =>
      clear HB
      obtain ⟨i, hi, rfl, rfl, HJ, HB⟩ := hrel
      have q1 := box_cell HB 1 rfl
      have q2 := box_lt HB
      by_cases hlt : i < p.rules.length
      ·have hd0 : decide (i < p.rules.length) = true := by simpa using hlt
       have HLr := Lib.hid (HP5.out _ (List.getElem_mem hlt))
       obtain ⟨b, o, G, c, S, c2, rfl, hb, c0, c1, c2', hRV⟩ := (HR.out _ (box_bel HB)).at_V i hlt
       have HB2 := HB.alloc (.cells #[.string p.rules[i].name, .slice G p.rules[i].guard.length c, .slice S p.rules[i].sets.length c2] 89)
       have HRV := Lib.hid (hRV.keep ((Bel.refl wr).alloc (.cells #[.string p.rules[i].name, .slice G p.rules[i].guard.length c, .slice S p.rules[i].sets.length c2] 89))); clear hRV
       cases hff : formedF p.vars.length p.rules[i] with
       | false =>
        rw [all_false_at hlt hff, if_pos rfl] at HC1
        go_wp2_with (go_at_call 132; refine (formed_any _ p.rules[i] p.vars.length _ HRV.out (by omega) HLr.out).mono ?_; rintro e w' ⟨rfl, hbb⟩; rw [hff]; replace HB2 := HB2.trans hbb; clear hbb)
        go_ret
        exact ⟨ret_int HC1.out.symm, box_bel HB2⟩
       | true =>
        have HN := Lib.hid (all_take_succ hlt HJ.out hff)
        have HFF := Lib.hid hff; clear hff
        go_wp2_with (go_at_call 132; refine (formed_any _ p.rules[i] p.vars.length _ HRV.out (by omega) HLr.out).mono ?_; rintro e w' ⟨rfl, hbb⟩; rw [HFF.out]; replace HB2 := HB2.trans hbb; clear hbb)
        go_roundg (p.rules.length - (i + 1))
        case rel => exact ⟨i + 1, by omega, rfl, by go_num, HN, HB2⟩
        case measure => omega
      ·have hd0 : decide (i < p.rules.length) = false := by simpa using hlt
       have HALL := Lib.hid (all_of_take (by omega) HJ.out)
       rw [HALL.out, if_neg (by decide)] at HC1
       have q0 := box_cell HB 0 rfl
       have q3 := box_cell HB 2 rfl
       clear HJ
       go_wp2_with (go_at_call 133; refine (kinds_any _ p _ (HPV.out _ (box_bel HB)) (by omega)).mono ?_; rintro e w' ⟨KA, kc, rfl, hK, _, _, hbb⟩; replace HB := HB.trans hbb; clear hbb q0 q1 q3 q2; have q3 := box_cell HB 2 rfl; have q2 := box_lt HB)
       have HK := Lib.hid (fun w2 (k : Bel w' w2) => IntsR.keep hK k); clear hK
       have HW := Bel.refl w'
       clear hd0 q3 q2 hi hlt
       go_loopg [9, 59] p.rules.length (fun m _x z wr => ∃ j : Nat, j ≤ p.rules.length ∧ m = p.rules.length - j ∧ z = .int .i64 j ∧ Hid ((p.rules.take j).all (typedF (kindsF p)) = true) ∧ Bel w' wr)
       case atStart => exact ⟨0, by omega, rfl, rfl, rfl, HW⟩
       case round =>
        clear HW
        obtain ⟨i, hi, rfl, rfl, HJ, HW⟩ := hrel
        by_cases hlt : i < p.rules.length
        ·have hd0 : decide (i < p.rules.length) = true := by simpa using hlt
         have HLr := Lib.hid (HP5.out _ (List.getElem_mem hlt))
         have hfo := (formedF_iff _ _).1 (List.all_eq_true.1 HALL.out _ (List.getElem_mem hlt))
         rw [← kindsF_length p] at hfo
         have HFO := Lib.hid hfo; clear hfo
         obtain ⟨b, o, G, c, S, c2, rfl, hb, c0, c1, c2', hRV⟩ := (HR.out _ ((box_bel HB).trans HW)).at_V i hlt
         have HW2 := HW.alloc (.cells #[.string p.rules[i].name, .slice G p.rules[i].guard.length c, .slice S p.rules[i].sets.length c2] 89)
         have HRV := Lib.hid (hRV.keep ((Bel.refl wr).alloc (.cells #[.string p.rules[i].name, .slice G p.rules[i].guard.length c, .slice S p.rules[i].sets.length c2] 89))); clear hRV
         cases htv : typedF (kindsF p) p.rules[i] with
         | false =>
          rw [all_false_at hlt htv, if_pos rfl] at HC1
          go_wp2_with (go_at_call 134; refine (typed_any _ p.rules[i] _ _ (kindsF p) _ HRV.out (HK.out _ HW2) (by rw [kindsF_length]; exact n2) HNA.out HFO.out HLr.out).mono ?_; rintro e w2 ⟨rfl, hbb⟩; rw [htv]; replace HW2 := HW2.trans hbb; clear hbb)
          go_ret
          exact ⟨ret_int HC1.out.symm, (box_bel HB).trans HW2⟩
         | true =>
          have HN := Lib.hid (all_take_succ hlt HJ.out htv)
          have HTV := Lib.hid htv; clear htv
          go_wp2_with (go_at_call 134; refine (typed_any _ p.rules[i] _ _ (kindsF p) _ HRV.out (HK.out _ HW2) (by rw [kindsF_length]; exact n2) HNA.out HFO.out HLr.out).mono ?_; rintro e w2 ⟨rfl, hbb⟩; rw [HTV.out]; replace HW2 := HW2.trans hbb; clear hbb)
          go_roundg (p.rules.length - (i + 1))
          case rel => exact ⟨i + 1, by omega, rfl, by go_num, HN, HW2⟩
          case measure => omega
        ·have hd0 : decide (i < p.rules.length) = false := by simpa using hlt
         rw [all_of_take (by omega) HJ.out, if_neg (by decide)] at HC1
         go_wp2_with fail
         go_ret
         exact ⟨ret_int HC1.out.symm, (box_bel HB).trans HW⟩
 ·have HF : Hid (checkF p = 3) := by show checkF p = 3; unfold checkF; rw [if_pos hn]
  rcases (show p.vars.length = 0 ∨ 6 < p.vars.length ∨ (1 ≤ p.vars.length ∧ p.vars.length ≤ 6 ∧ 12 < p.rules.length) by omega) with h0 | h0 | ⟨h0, h1, h2⟩
  ·have hz : ((p.vars.length : Int) == 0) = true := by simp [h0]
   have hz' : (p.vars.length == 0) = true := by simp [h0]
   clear hn
   have HH := Lib.hid h0; clear h0
   go_enter Tryz.func107, Tryz.ntmps107
   go_wp2_with fail
   go_ret
   exact ⟨ret_int HF.out.symm, box_bel HB⟩
  ·have hz : ((p.vars.length : Int) == 0) = false := int_beq0 (by omega)
   have hz' : (p.vars.length == 0) = false := nat_beq0 (by omega)
   have hz2 : decide (6 < p.vars.length) = true := by simpa using h0
   clear hn
   go_enter Tryz.func107, Tryz.ntmps107
   go_wp2_with fail
   go_ret
   exact ⟨ret_int HF.out.symm, box_bel HB⟩
  ·have hz : ((p.vars.length : Int) == 0) = false := int_beq0 h0
   have hz' : (p.vars.length == 0) = false := nat_beq0 h0
   have hz2 : decide (6 < p.vars.length) = false := by simp; omega
   have hz3 : decide (12 < p.rules.length) = true := by simpa using h2
   clear hn
   go_enter Tryz.func107, Tryz.ntmps107
   go_wp2_with fail
   go_ret
   exact ⟨ret_int HF.out.symm, box_bel HB⟩

theorem prgValid_any (v : Value) (p : Prg) (w : World) (h : PrgV w v p) (hL : lightP p = true) :
  Calls Tryz.prog 84 #[v] w fun e w' => e = .returned (.bool (decide (checkF p = 0))) ∧ Bel w w' := by
 have HPV := Lib.hid (fun w' (k : Bel w w') => h.keep k)
 obtain ⟨A, k, A2, k2, rfl, _, _, _, _, _, _⟩ := h
 have HB := (Bel.refl w).alloc (.cells #[.string p.name, .slice A p.vars.length k, .slice A2 p.rules.length k2] 25)
 go_enter Tryz.func84, Tryz.ntmps84
 go_wp2_with (go_at_call 107; refine (check_any _ p _ (HPV.out _ HB) hL).mono ?_; rintro e w' ⟨rfl, hb⟩; replace HB := HB.trans hb; clear hb)
 go_ret
 exact ⟨ret_bool (by rw [Bool.eq_iff_iff]; simp), HB⟩

end Go.Proofs.YtgemlgpjbclonaaGreatDoor

/- The plain form of layer 11's operations: numbers of the rule language, unary and binary operations, aggregates. -/
namespace Go.Proofs.YtgemlgpjbclonaaGreatDoor

def satF (a : Int) : Int := max (-1073741824) (min a 1073741824)
def numB (a : Int) : Bool := decide (-1073741824 ≤ a ∧ a ≤ 1073741824)
def Num (a : Int) : Prop := -1073741824 ≤ a ∧ a ≤ 1073741824
def truthI (b : Bool) : Int := if b then 1 else 0
theorem satF_num (a : Int) : Num (satF a) := by unfold Num satF; omega
theorem satF_id {a : Int} (h : Num a) : satF a = a := by unfold Num at h; unfold satF; omega
theorem numB_true {a : Int} (h : Num a) : numB a = true := by unfold numB; unfold Num at h; exact decide_eq_true h
theorem num_of_numB {a : Int} (h : numB a = true) : Num a := by unfold numB at h; unfold Num; exact of_decide_eq_true h
theorem truthI_01 (b : Bool) : truthI b = 0 ∨ truthI b = 1 := by cases b <;> simp [truthI]
theorem truthI_num (b : Bool) : Num (truthI b) := by unfold Num; have := truthI_01 b; omega
theorem satF_truthI (b : Bool) : satF (truthI b) = truthI b := satF_id (truthI_num b)

def unaryF (op a : Int) : Int := if op = 18 then -a else truthI (a == 0)
def unaryR (op a : Int) : Int × Int := if (op ≠ 18 ∧ op ≠ 19) ∨ numB a = false then (0, 2) else (unaryF op a, 0)

def quotF (a b : Int) : Int := if b = 0 then 0 else if a.tmod b ≠ 0 ∧ (decide (a < 0) != decide (b < 0)) = true then a.tdiv b - 1 else a.tdiv b

theorem tdiv_bound (a b : Int) (ha : Num a) : -1073741824 ≤ a.tdiv b ∧ a.tdiv b ≤ 1073741824 := by
 have h := Int.natAbs_tdiv_le_natAbs a b
 unfold Num at ha
 omega
theorem quotF_bound (a b : Int) (ha : Num a) : -1073741825 ≤ quotF a b ∧ quotF a b ≤ 1073741824 := by
 unfold quotF
 split
 ·omega
 ·have := tdiv_bound a b ha
  split <;> omega
theorem mul_bound (a b : Int) (ha : Num a) (hb : -1073741825 ≤ b ∧ b ≤ 1073741825) : -1152921505680588800 ≤ a * b ∧ a * b ≤ 1152921505680588800 := by
 have h : (a * b).natAbs ≤ 1073741824 * 1073741825 := by
  rw [Int.natAbs_mul]
  unfold Num at ha
  exact Nat.mul_le_mul (by omega) (by omega)
 omega

/-- The exact result of a binary operation. -/
def applyF (op a b : Int) : Int :=
 if op = 30 then a * b
 else if op = 31 then quotF a b
 else if op = 32 then (if b = 0 then 0 else a - b * quotF a b)
 else if op = 33 then a + b
 else if op = 34 then a - b
 else if op = 35 then truthI (a == b)
 else if op = 36 then truthI (a != b)
 else if op = 37 then truthI (decide (a < b))
 else if op = 38 then truthI (decide (a ≤ b))
 else if op = 39 then truthI (decide (b < a))
 else if op = 40 then truthI (decide (b ≤ a))
 else if op = 41 then truthI (a != 0 && b != 0)
 else truthI (a != 0 || b != 0)
def binaryF (op a b : Int) : Int := satF (applyF op a b)
def binaryR (op a b : Int) : Int × Int := if op < 30 ∨ 42 < op ∨ numB a = false ∨ numB b = false then (0, 2) else (binaryF op a b, 0)

/- Aggregates. -/
def countF (l : List Int) : Int := (l.filter (fun a => a != 0)).length
def firstGo : List Int → Int → Int
 | [], _ => -1
 | a :: l, i => if a ≠ 0 then i else firstGo l (i + 1)
def minF (l : List Int) : Int := l.foldl min 1073741824
def twoGo : List Int → Int → Int → Int × Int
 | [], g, s => (g, s)
 | a :: l, g, s => if g < a then twoGo l a g else twoGo l g (max s a)
def twoF (l : List Int) : Int × Int := twoGo l (-1073741824) (-1073741824)
def sumF (l : List Int) : Int := l.foldl (· + ·) 0
def cntGe (l : List Int) (k : Int) : Nat := (l.filter (fun x => decide (k ≤ x))).length
def mexGo (l : List Int) : Nat → Int → Int
 | 0, k => k
 | f + 1, k => if k ∈ l then mexGo l f (k + 1) else k
def mexF (l : List Int) : Int := mexGo l (cntGe l 0) 0

def foldF (op : Int) (l : List Int) : Int :=
 if op = 20 then truthI (countF l == l.length)
 else if op = 21 then truthI (decide (0 < countF l))
 else if op = 22 then countF l
 else if op = 23 then firstGo l 0
 else if op = 24 then minF l
 else if op = 25 then (twoF l).1
 else if op = 26 then satF (sumF l)
 else if op = 27 then mexF l
 else if op = 28 then (twoF l).2
 else l.headD 0
theorem countF_cons (a : Int) (l : List Int) : countF (a :: l) = (if a = 0 then 0 else 1) + countF l := by
 unfold countF
 by_cases h : a = 0
 ·simp [h]
 ·simp [h]; omega
theorem countF_le (l : List Int) : 0 ≤ countF l ∧ countF l ≤ l.length := by
 unfold countF
 have := List.length_filter_le (fun a : Int => a != 0) l
 omega

theorem cntGe_lt {l : List Int} {k : Int} (h : k ∈ l) : cntGe l (k + 1) < cntGe l k := by
 unfold cntGe
 induction l with
 | nil => cases h
 | cons x l ih =>
  have hmono : ∀ l : List Int, (l.filter (fun x => decide (k + 1 ≤ x))).length ≤ (l.filter (fun x => decide (k ≤ x))).length := by
   intro l
   induction l with
   | nil => simp
   | cons y l ih =>
    simp only [List.filter_cons]
    by_cases h1 : k + 1 ≤ y <;> by_cases h2 : k ≤ y <;> simp [h1, h2] <;> omega
  rcases List.mem_cons.1 h with e | e
  ·subst e
   have := hmono l
   simp only [List.filter_cons]
   rw [if_neg (by simp; omega), if_pos (by simp)]
   simp; omega
  ·have := ih e
   simp only [List.filter_cons]
   by_cases h1 : k + 1 ≤ x <;> by_cases h2 : k ≤ x <;> simp [h1, h2] <;> omega
theorem cntGe_le (l : List Int) (k : Int) : cntGe l k ≤ l.length := List.length_filter_le _ _

theorem mexGo_eq (l : List Int) : ∀ (f : Nat) (k : Int), cntGe l k ≤ f → k ≤ mexGo l f k ∧ mexGo l f k ≤ k + f ∧ mexGo l f k ∉ l ∧ ∀ j, k ≤ j → j < mexGo l f k → j ∈ l := by
 intro f
 induction f with
 | zero =>
  intro k h
  have hk : k ∉ l := fun hm => by have := cntGe_lt hm; omega
  exact ⟨Int.le_refl _, by simp [mexGo], hk, fun j h1 h2 => by simp [mexGo] at h2; omega⟩
 | succ f ih =>
  intro k h
  simp only [mexGo]
  by_cases hk : k ∈ l
  ·rw [if_pos hk]
   have hc := cntGe_lt hk
   obtain ⟨i1, i2, i3, i4⟩ := ih (k + 1) (by omega)
   refine ⟨by omega, by omega, i3, fun j h1 h2 => ?_⟩
   by_cases e : j = k
   ·subst e; exact hk
   ·exact i4 j (by omega) h2
  ·rw [if_neg hk]
   exact ⟨Int.le_refl _, by omega, hk, fun j h1 h2 => by omega⟩

end Go.Proofs.YtgemlgpjbclonaaGreatDoor

/- Contracts of the small functions of layer 11, of the program and of the reference. -/
namespace Go.Proofs.YtgemlgpjbclonaaGreatDoor
open Go.RowKit

theorem ret_pair {a b : Int} {r : Int × Int} (h : r = (a, b)) : Ending.returned (.tuple #[.int .i64 a, .int .i64 b]) = .returned (.tuple #[.int .i64 r.1, .int .i64 r.2]) := by rw [h]

theorem refNumber_any (a : Int) (w : World) : Calls Tryz.prog 127 #[.int .i64 a] w fun e w' => e = .returned (.bool (numB a)) ∧ w = w' := by
 go_enter Tryz.func127, Tryz.ntmps127
 go_wp2
 all_goals
  go_ret
  refine ⟨ret_bool ?_, rfl⟩
  unfold numB
  rw [Bool.eq_iff_iff]; simp; omega

theorem refSaturate_any (a : Int) (w : World) : Calls Tryz.prog 125 #[.int .i64 a] w fun e w' => e = .returned (.int .i64 (satF a)) ∧ w = w' := by
 go_enter Tryz.func125, Tryz.ntmps125
 go_wp2
 all_goals
  go_ret
  refine ⟨ret_int ?_, rfl⟩
  unfold satF
  omega

theorem saturated_any (a : Int) (w : World) : Calls Tryz.prog 153 #[.int .i64 a] w fun e w' => e = .returned (.int .i64 (satF a)) ∧ w = w' := by
 go_enter Tryz.func153, Tryz.ntmps153
 go_wp2
 all_goals
  go_ret
  refine ⟨ret_int ?_, rfl⟩
  unfold satF
  omega

theorem truth_any (b : Bool) (w : World) : Calls Tryz.prog 150 #[.bool b] w fun e w' => e = .returned (.int .i64 (truthI b)) ∧ w = w' := by
 cases b
 all_goals
  go_enter Tryz.func150, Tryz.ntmps150
  go_wp2
  go_ret
  exact ⟨rfl, rfl⟩

theorem refTruth_any (b : Bool) (w : World) : Calls Tryz.prog 124 #[.bool b] w fun e w' => e = .returned (.int .i64 (truthI b)) ∧ w = w' := by
 cases b
 all_goals
  go_enter Tryz.func124, Tryz.ntmps124
  go_wp2
  go_ret
  exact ⟨rfl, rfl⟩

theorem quotient_any (a b : Int) (w : World) (ha : Num a) (hb : Num b) : Calls Tryz.prog 154 #[.int .i64 a, .int .i64 b] w fun e w' => e = .returned (.int .i64 (quotF a b)) ∧ w = w' := by
 by_cases h0 : b = 0
 ·subst h0
  go_enter Tryz.func154, Tryz.ntmps154
  go_wp2
  go_ret
  exact ⟨rfl, rfl⟩
 ·have hz : (b == 0) = false := by simpa using h0
  have ht := tdiv_bound a b ha
  obtain ⟨ht1, ht2⟩ := ht
  have ha' := ha
  unfold Num at ha hb
  obtain ⟨ha1, ha2⟩ := ha
  obtain ⟨hb1, hb2⟩ := hb
  by_cases hm : a.tmod b = 0
  ·have hmb : (a.tmod b != 0) = false := by simpa using hm
   have HF : Hid (quotF a b = a.tdiv b) := by
    show quotF a b = _
    unfold quotF; rw [if_neg h0, if_neg (by simp [hm])]
   clear hm
   go_enter Tryz.func154, Tryz.ntmps154
   go_wp2
   go_ret
   exact ⟨ret_int HF.out.symm, rfl⟩
  ·have hmb : (a.tmod b != 0) = true := by simpa using hm
   cases hs : (decide (a < 0) != decide (b < 0)) with
   | true =>
    have HF : Hid (quotF a b = a.tdiv b - 1) := by
     show quotF a b = _
     unfold quotF; rw [if_neg h0, if_pos ⟨hm, hs⟩]
    have hs' : (!(decide (a < 0) == decide (b < 0))) = true := hs
    clear hm hs
    go_enter Tryz.func154, Tryz.ntmps154
    go_wp2
    go_ret
    exact ⟨ret_int HF.out.symm, rfl⟩
   | false =>
    have HF : Hid (quotF a b = a.tdiv b) := by
     show quotF a b = _
     unfold quotF; rw [if_neg h0, if_neg (by simp [hs])]
    have hs' : (!(decide (a < 0) == decide (b < 0))) = false := hs
    clear hm hs
    go_enter Tryz.func154, Tryz.ntmps154
    go_wp2
    go_ret
    exact ⟨ret_int HF.out.symm, rfl⟩

theorem refQuotient_any (a b : Int) (w : World) (ha : Num a) (hb : Num b) : Calls Tryz.prog 143 #[.int .i64 a, .int .i64 b] w fun e w' => e = .returned (.int .i64 (quotF a b)) ∧ w = w' := by
 by_cases h0 : b = 0
 ·subst h0
  go_enter Tryz.func143, Tryz.ntmps143
  go_wp2
  go_ret
  exact ⟨rfl, rfl⟩
 ·have hz : (b == 0) = false := by simpa using h0
  have ht := tdiv_bound a b ha
  obtain ⟨ht1, ht2⟩ := ht
  have ha' := ha
  unfold Num at ha hb
  obtain ⟨ha1, ha2⟩ := ha
  obtain ⟨hb1, hb2⟩ := hb
  by_cases hm : a.tmod b = 0
  ·have hmb : (a.tmod b != 0) = false := by simpa using hm
   have HF : Hid (quotF a b = a.tdiv b) := by
    show quotF a b = _
    unfold quotF; rw [if_neg h0, if_neg (by simp [hm])]
   clear hm
   go_enter Tryz.func143, Tryz.ntmps143
   go_wp2
   go_ret
   exact ⟨ret_int HF.out.symm, rfl⟩
  ·have hmb : (a.tmod b != 0) = true := by simpa using hm
   cases hs : (decide (a < 0) != decide (b < 0)) with
   | true =>
    have HF : Hid (quotF a b = a.tdiv b - 1) := by
     show quotF a b = _
     unfold quotF; rw [if_neg h0, if_pos ⟨hm, hs⟩]
    have hs' : (!(decide (a < 0) == decide (b < 0))) = true := hs
    clear hm hs
    go_enter Tryz.func143, Tryz.ntmps143
    go_wp2
    go_ret
    exact ⟨ret_int HF.out.symm, rfl⟩
   | false =>
    have HF : Hid (quotF a b = a.tdiv b) := by
     show quotF a b = _
     unfold quotF; rw [if_neg h0, if_neg (by simp [hs])]
    have hs' : (!(decide (a < 0) == decide (b < 0))) = false := hs
    clear hm hs
    go_enter Tryz.func143, Tryz.ntmps143
    go_wp2
    go_ret
    exact ⟨ret_int HF.out.symm, rfl⟩


theorem unary_any (op a : Int) (w : World) (ha : Num a) : Calls Tryz.prog 136 #[.int .i64 op, .int .i64 a] w fun e w' => e = .returned (.int .i64 (unaryF op a)) ∧ w = w' := by
 unfold Num at ha
 obtain ⟨ha1, ha2⟩ := ha
 by_cases h : op = 18
 ·subst h
  go_enter Tryz.func136, Tryz.ntmps136
  go_wp2
  go_ret
  exact ⟨rfl, rfl⟩
 ·have HF : Hid (unaryF op a = truthI (a == 0)) := by show unaryF op a = _; unfold unaryF; rw [if_neg h]
  have hb : (op == 18) = false := by simpa using h
  clear h
  go_enter Tryz.func136, Tryz.ntmps136
  go_wp2_with (go_at_call 150; refine (truth_any _ _).mono ?_; rintro e w' ⟨rfl, rfl⟩)
  go_ret
  exact ⟨ret_int HF.out.symm, rfl⟩

/-- The comparison that an operation from Eq to Ge stands for. -/
def cmpF (op a b : Int) : Bool :=
 if op = 35 then a == b else if op = 36 then a != b else if op = 37 then decide (a < b) else if op = 38 then decide (a ≤ b) else if op = 39 then decide (b < a) else decide (b ≤ a)
theorem compared_any (op a b : Int) (w : World) : Calls Tryz.prog 155 #[.int .i64 op, .int .i64 a, .int .i64 b] w fun e w' => e = .returned (.bool (cmpF op a b)) ∧ w = w' := by
 go_enter Tryz.func155, Tryz.ntmps155
 go_wp2
 all_goals
  go_ret
  refine ⟨ret_bool ?_, rfl⟩
  simp only [beq_iff_eq, beq_eq_false_iff_ne, ne_eq] at *
  unfold cmpF
  repeat' split
  all_goals first | rfl | omega
theorem applyF_cmp (op a b : Int) (h1 : 35 ≤ op) (h2 : op ≤ 40) : applyF op a b = truthI (cmpF op a b) := by
 have : op = 35 ∨ op = 36 ∨ op = 37 ∨ op = 38 ∨ op = 39 ∨ op = 40 := by omega
 rcases this with h | h | h | h | h | h <;> subst h <;> rfl

set_option maxHeartbeats 1000000 in
theorem binary_any (op a b : Int) (w : World) (h1 : 30 ≤ op) (h2 : op ≤ 42) (ha : Num a) (hb : Num b) : Calls Tryz.prog 138 #[.int .i64 op, .int .i64 a, .int .i64 b] w fun e w' => e = .returned (.int .i64 (binaryF op a b)) ∧ w = w' := by
 have hq := quotF_bound a b ha
 have hm := mul_bound a b ha (by unfold Num at hb; omega)
 have hm2 := mul_bound b (quotF a b) hb (by omega)
 obtain ⟨hq1, hq2⟩ := hq
 obtain ⟨hm1, hm3⟩ := hm
 obtain ⟨hm4, hm5⟩ := hm2
 have HA := Lib.hid ha
 have HB := Lib.hid hb
 unfold Num at ha hb
 obtain ⟨ha1, ha2⟩ := ha
 obtain ⟨hb1, hb2⟩ := hb
 have hcase : op = 30 ∨ op = 31 ∨ op = 32 ∨ op = 33 ∨ op = 34 ∨ (35 ≤ op ∧ op ≤ 40) ∨ op = 41 ∨ op = 42 := by omega
 rcases hcase with h | h | h | h | h | h | h | h
 ·subst h
  go_enter Tryz.func138, Tryz.ntmps138
  go_wp2_with (go_at_call 153; refine (saturated_any _ _).mono ?_; rintro e w' ⟨rfl, rfl⟩)
  go_ret
  exact ⟨rfl, rfl⟩
 ·subst h
  go_enter Tryz.func138, Tryz.ntmps138
  go_wp2_with (first
   | (go_at_call 153; refine (saturated_any _ _).mono ?_; rintro e w' ⟨rfl, rfl⟩)
   | (go_at_call 154; refine (quotient_any _ _ _ HA.out HB.out).mono ?_; rintro e w' ⟨rfl, rfl⟩))
  go_ret
  exact ⟨rfl, rfl⟩
 ·subst h
  by_cases h0 : b = 0
  ·subst h0
   go_enter Tryz.func138, Tryz.ntmps138
   go_wp2
   go_ret
   exact ⟨rfl, rfl⟩
  ·have hz : (b == 0) = false := by simpa using h0
   have HF : Hid (binaryF 32 a b = satF (a - b * quotF a b)) := by
    show binaryF 32 a b = _
    unfold binaryF applyF; simp [h0]
   clear h0
   go_enter Tryz.func138, Tryz.ntmps138
   go_wp2_with (first
    | (go_at_call 153; refine (saturated_any _ _).mono ?_; rintro e w' ⟨rfl, rfl⟩)
    | (go_at_call 154; refine (quotient_any _ _ _ HA.out HB.out).mono ?_; rintro e w' ⟨rfl, rfl⟩))
   go_ret
   exact ⟨ret_int HF.out.symm, rfl⟩
 ·subst h
  go_enter Tryz.func138, Tryz.ntmps138
  go_wp2_with (go_at_call 153; refine (saturated_any _ _).mono ?_; rintro e w' ⟨rfl, rfl⟩)
  go_ret
  exact ⟨rfl, rfl⟩
 ·subst h
  go_enter Tryz.func138, Tryz.ntmps138
  go_wp2_with (go_at_call 153; refine (saturated_any _ _).mono ?_; rintro e w' ⟨rfl, rfl⟩)
  go_ret
  exact ⟨rfl, rfl⟩
 ·have HF : Hid (binaryF op a b = truthI (cmpF op a b)) := by
   show binaryF op a b = _
   unfold binaryF; rw [applyF_cmp op a b h.1 h.2, satF_truthI]
  have e1 : (op == 30) = false := by simp; omega
  have e2 : (op == 31) = false := by simp; omega
  have e3 : (op == 32) = false := by simp; omega
  have e4 : (op == 33) = false := by simp; omega
  have e5 : (op == 34) = false := by simp; omega
  have e6 : (op == 41) = false := by simp; omega
  have e7 : (op == 42) = false := by simp; omega
  go_enter Tryz.func138, Tryz.ntmps138
  go_wp2_with (first
   | (go_at_call 155; refine (compared_any _ _ _ _).mono ?_; rintro e w' ⟨rfl, rfl⟩)
   | (go_at_call 150; refine (truth_any _ _).mono ?_; rintro e w' ⟨rfl, rfl⟩))
  go_ret
  exact ⟨ret_int HF.out.symm, rfl⟩
 ·subst h
  have HF : Hid (binaryF 41 a b = truthI (a != 0 && b != 0)) := by show binaryF 41 a b = _; exact satF_truthI _
  by_cases h0 : a = 0
  ·have hz : (a != 0) = false := by simpa using h0
   rw [hz] at HF
   clear h0
   go_enter Tryz.func138, Tryz.ntmps138
   go_wp2_with (go_at_call 150; refine (truth_any _ _).mono ?_; rintro e w' ⟨rfl, rfl⟩)
   go_ret
   exact ⟨ret_int HF.out.symm, rfl⟩
  ·have hz : (a != 0) = true := by simpa using h0
   rw [hz] at HF
   clear h0
   go_enter Tryz.func138, Tryz.ntmps138
   go_wp2_with (go_at_call 150; refine (truth_any _ _).mono ?_; rintro e w' ⟨rfl, rfl⟩)
   go_ret
   exact ⟨ret_int HF.out.symm, rfl⟩
 ·subst h
  have HF : Hid (binaryF 42 a b = truthI (a != 0 || b != 0)) := by show binaryF 42 a b = _; exact satF_truthI _
  by_cases h0 : a = 0
  ·have hz : (a != 0) = false := by simpa using h0
   rw [hz] at HF
   clear h0
   go_enter Tryz.func138, Tryz.ntmps138
   go_wp2_with (go_at_call 150; refine (truth_any _ _).mono ?_; rintro e w' ⟨rfl, rfl⟩)
   go_ret
   exact ⟨ret_int HF.out.symm, rfl⟩
  ·have hz : (a != 0) = true := by simpa using h0
   rw [hz] at HF
   clear h0
   go_enter Tryz.func138, Tryz.ntmps138
   go_wp2_with (go_at_call 150; refine (truth_any _ _).mono ?_; rintro e w' ⟨rfl, rfl⟩)
   go_ret
   exact ⟨ret_int HF.out.symm, rfl⟩

end Go.Proofs.YtgemlgpjbclonaaGreatDoor

/- Contracts of Unary and Binary of the program and of the reference. -/
namespace Go.Proofs.YtgemlgpjbclonaaGreatDoor
open Go.RowKit



set_option maxHeartbeats 1000000 in
theorem refUnary_any (op a : Int) (w : World) : Calls Tryz.prog 104 #[.int .i64 op, .int .i64 a] w fun e w' => e = .returned (.tuple #[.int .i64 (unaryR op a).1, .int .i64 (unaryR op a).2]) ∧ w = w' := by
 by_cases hop : op ≠ 18 ∧ op ≠ 19
 ·have HF : Hid (unaryR op a = (0, 2)) := by show unaryR op a = _; unfold unaryR; rw [if_pos (.inl hop)]
  have h1 : (op != 18) = true := by simpa using hop.1
  have h2 : (op != 19) = true := by simpa using hop.2
  clear hop
  go_enter Tryz.func104, Tryz.ntmps104
  go_wp2_with fail
  go_ret2
  exact ⟨ret_pair HF.out, rfl⟩
 ·cases hn : numB a with
  | false =>
   have HF : Hid (unaryR op a = (0, 2)) := by show unaryR op a = _; unfold unaryR; rw [if_pos (.inr hn)]
   have hop' : op = 18 ∨ op = 19 := by omega
   clear hop
   rcases hop' with h | h
   all_goals
    subst h
    go_enter Tryz.func104, Tryz.ntmps104
    go_wp2_with (go_at_call 127; refine (refNumber_any _ _).mono ?_; rintro e w' ⟨rfl, rfl⟩; rw [hn])
    go_ret2
    exact ⟨ret_pair HF.out, rfl⟩
  | true =>
   have HF : Hid (unaryR op a = (unaryF op a, 0)) := by show unaryR op a = _; unfold unaryR; rw [if_neg (by rw [hn]; simp; omega)]
   have hop' : op = 18 ∨ op = 19 := by omega
   clear hop
   have HN := num_of_numB hn
   unfold Num at HN
   obtain ⟨hn1, hn2⟩ := HN
   rcases hop' with h | h
   all_goals
    subst h
    go_enter Tryz.func104, Tryz.ntmps104
    go_wp2_with (first
     | (go_at_call 127; refine (refNumber_any _ _).mono ?_; rintro e w' ⟨rfl, rfl⟩; rw [hn])
     | (go_at_call 124; refine (refTruth_any _ _).mono ?_; rintro e w' ⟨rfl, rfl⟩))
    go_ret2
    exact ⟨ret_pair HF.out, rfl⟩

set_option maxHeartbeats 1000000 in
theorem apply_any (op a b : Int) (w : World) (h1 : 30 ≤ op) (h2 : op ≤ 42) (ha : Num a) (hb : Num b) : Calls Tryz.prog 128 #[.int .i64 op, .int .i64 a, .int .i64 b] w fun e w' => e = .returned (.int .i64 (applyF op a b)) ∧ w = w' := by
 have hq := quotF_bound a b ha
 have hm := mul_bound a b ha (by unfold Num at hb; omega)
 have hm2 := mul_bound b (quotF a b) hb (by omega)
 obtain ⟨hq1, hq2⟩ := hq
 obtain ⟨hm1, hm3⟩ := hm
 obtain ⟨hm4, hm5⟩ := hm2
 have HA := Lib.hid ha
 have HB := Lib.hid hb
 unfold Num at ha hb
 obtain ⟨ha1, ha2⟩ := ha
 obtain ⟨hb1, hb2⟩ := hb
 by_cases h32 : op = 32
 ·subst h32
  by_cases h0 : b = 0
  ·subst h0
   go_enter Tryz.func128, Tryz.ntmps128
   go_wp2
   go_ret
   exact ⟨rfl, rfl⟩
  ·have hz : (b == 0) = false := by simpa using h0
   have HF : Hid (applyF 32 a b = (a - b * quotF a b)) := by
    show applyF 32 a b = _
    unfold applyF; simp [h0]
   clear h0
   go_enter Tryz.func128, Tryz.ntmps128
   go_wp2_with (go_at_call 143; refine (refQuotient_any _ _ _ HA.out HB.out).mono ?_; rintro e w' ⟨rfl, rfl⟩)
   go_ret
   exact ⟨ret_int HF.out.symm, rfl⟩
 ·by_cases h4 : 41 ≤ op
  ·have h4' : op = 41 ∨ op = 42 := by omega
   clear h32 h1 h2 h4
   by_cases h0 : a = 0
   ·have hz : (a != 0) = false := by simpa using h0
    rcases h4' with h | h
    ·subst h
     have HF : Hid (applyF 41 a b = truthI false) := by show truthI (a != 0 && b != 0) = _; rw [hz]; rfl
     clear h0
     go_enter Tryz.func128, Tryz.ntmps128
     go_wp2_with (go_at_call 124; refine (refTruth_any _ _).mono ?_; rintro e w' ⟨rfl, rfl⟩)
     go_ret
     exact ⟨ret_int HF.out.symm, rfl⟩
    ·subst h
     have HF : Hid (applyF 42 a b = truthI (b != 0)) := by show truthI (a != 0 || b != 0) = _; rw [hz]; rfl
     clear h0
     go_enter Tryz.func128, Tryz.ntmps128
     go_wp2_with (go_at_call 124; refine (refTruth_any _ _).mono ?_; rintro e w' ⟨rfl, rfl⟩)
     go_ret
     exact ⟨ret_int HF.out.symm, rfl⟩
   ·have hz : (a != 0) = true := by simpa using h0
    rcases h4' with h | h
    ·subst h
     have HF : Hid (applyF 41 a b = truthI (b != 0)) := by show truthI (a != 0 && b != 0) = _; rw [hz]; rfl
     clear h0
     go_enter Tryz.func128, Tryz.ntmps128
     go_wp2_with (go_at_call 124; refine (refTruth_any _ _).mono ?_; rintro e w' ⟨rfl, rfl⟩)
     go_ret
     exact ⟨ret_int HF.out.symm, rfl⟩
    ·subst h
     have HF : Hid (applyF 42 a b = truthI true) := by show truthI (a != 0 || b != 0) = _; rw [hz]; rfl
     clear h0
     go_enter Tryz.func128, Tryz.ntmps128
     go_wp2_with (go_at_call 124; refine (refTruth_any _ _).mono ?_; rintro e w' ⟨rfl, rfl⟩)
     go_ret
     exact ⟨ret_int HF.out.symm, rfl⟩
  ·have hcase : op = 30 ∨ op = 31 ∨ op = 33 ∨ op = 34 ∨ op = 35 ∨ op = 36 ∨ op = 37 ∨ op = 38 ∨ op = 39 ∨ op = 40 := by omega
   clear h1 h2 h32 h4
   rcases hcase with h | h | h | h | h | h | h | h | h | h
   all_goals
    subst h
    go_enter Tryz.func128, Tryz.ntmps128
    go_wp2_with (first
     | (go_at_call 143; refine (refQuotient_any _ _ _ HA.out HB.out).mono ?_; rintro e w' ⟨rfl, rfl⟩)
     | (go_at_call 124; refine (refTruth_any _ _).mono ?_; rintro e w' ⟨rfl, rfl⟩))
    go_ret
    exact ⟨rfl, rfl⟩


set_option maxHeartbeats 1000000 in
theorem refBinary_any (op a b : Int) (w : World) : Calls Tryz.prog 105 #[.int .i64 op, .int .i64 a, .int .i64 b] w fun e w' => e = .returned (.tuple #[.int .i64 (binaryR op a b).1, .int .i64 (binaryR op a b).2]) ∧ w = w' := by
 by_cases h30 : op < 30
 ·have HF : Hid (binaryR op a b = (0, 2)) := by show binaryR op a b = _; unfold binaryR; rw [if_pos (.inl h30)]
  have hd : decide (op < 30) = true := by simpa using h30
  clear h30
  go_enter Tryz.func105, Tryz.ntmps105
  go_wp2_with fail
  go_ret2
  exact ⟨ret_pair HF.out, rfl⟩
 have hd1 : decide (op < 30) = false := by simpa using h30
 by_cases h42 : 42 < op
 ·have HF : Hid (binaryR op a b = (0, 2)) := by show binaryR op a b = _; unfold binaryR; rw [if_pos (.inr (.inl h42))]
  have hd : decide (42 < op) = true := by simpa using h42
  clear h42
  go_enter Tryz.func105, Tryz.ntmps105
  go_wp2_with fail
  go_ret2
  exact ⟨ret_pair HF.out, rfl⟩
 have hd2 : decide (42 < op) = false := by simpa using h42
 cases hna : numB a with
 | false =>
  have HF : Hid (binaryR op a b = (0, 2)) := by show binaryR op a b = _; unfold binaryR; rw [if_pos (.inr (.inr (.inl hna)))]
  clear h30 h42
  go_enter Tryz.func105, Tryz.ntmps105
  go_wp2_with (go_at_call_of 127 a; refine (refNumber_any _ _).mono ?_; rintro e w' ⟨rfl, rfl⟩; rw [hna])
  go_ret2
  exact ⟨ret_pair HF.out, rfl⟩
 | true =>
  cases hnb : numB b with
  | false =>
   have HF : Hid (binaryR op a b = (0, 2)) := by show binaryR op a b = _; unfold binaryR; rw [if_pos (.inr (.inr (.inr hnb)))]
   clear h30 h42
   go_enter Tryz.func105, Tryz.ntmps105
   go_wp2_with (go_at_call 127; refine (refNumber_any _ _).mono ?_; rintro e w' ⟨rfl, rfl⟩; first | rw [hna] | rw [hnb])
   go_ret2
   exact ⟨ret_pair HF.out, rfl⟩
  | true =>
   have HF : Hid (binaryR op a b = (satF (applyF op a b), 0)) := by
    show binaryR op a b = _
    unfold binaryR; rw [if_neg (by rw [hna, hnb]; simp; omega)]; rfl
   have HA := Lib.hid (num_of_numB hna)
   have HB := Lib.hid (num_of_numB hnb)
   have HO : Hid (30 ≤ op ∧ op ≤ 42) := ⟨by omega, by omega⟩
   clear h30 h42
   go_enter Tryz.func105, Tryz.ntmps105
   go_wp2_with (first
    | (go_at_call 127; refine (refNumber_any _ _).mono ?_; rintro e w' ⟨rfl, rfl⟩; first | rw [hna] | rw [hnb])
    | (go_at_call 128; refine (apply_any _ _ _ _ HO.out.1 HO.out.2 HA.out HB.out).mono ?_; rintro e w' ⟨rfl, rfl⟩)
    | (go_at_call 125; refine (refSaturate_any _ _).mono ?_; rintro e w' ⟨rfl, rfl⟩))
   go_ret2
   exact ⟨ret_pair HF.out, rfl⟩

end Go.Proofs.YtgemlgpjbclonaaGreatDoor

