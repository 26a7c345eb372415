/- Merged of: WTg WN WNb WTh (see NOTES.md). -/
import Derived.Test.YtgemlgpjbclonaaGreatDoorZ12
import Derived.Deep.RegionHeld3
import Derived.Test.YtgemlgpjbclonaaGreatDoorZ08
set_option linter.unusedSimpArgs false
set_option linter.unnecessarySimpa false
set_option linter.unusedVariables false

/- Contracts: the reference's Kinds; typed, of the program and of the reference. -/
namespace Go.Proofs.YtgemlgpjbclonaaGreatDoor
open Go.RowKit

theorem Bel.pushB {w wr w' : World} {base : Nat} {e : TypeId} {size : Nat} {v : Value} {n : Nat} {xs : List Value} (h : Bel w wr) (ho : wr.ownsRow base e size v n xs) (hb : w.heap.size ≤ base) (hg : wr.grownBy w' v.ownBlock) : Bel w w' :=
 h.grown hg (fun k hk => Nat.le_trans hb (ho.lt k hk).1)

set_option maxRecDepth 100000 in
set_option maxHeartbeats 2000000 in
theorem refKinds_any (v : Value) (p : Prg) (w : World) (h : PrgV w v p) (hl : p.vars.length ≤ 1000) :
  Calls Tryz.prog 122 #[v] w (RetInts (kindsF p) w) := by
 obtain ⟨A, k, A2, k2, rfl, hV, _, _, _, _, _⟩ := h
 have HV := Lib.hid (fun w' (k : Bel w w') => VarsR.keep hV k); clear hV
 obtain ⟨i0, hi0, hz0, hz1, hz2⟩ := info_parts int_info
 have HN : Hid ((kindsF p).length = p.vars.length) := by show (kindsF p).length = _; simp [kindsF]
 go_enter Tryz.func122, Tryz.ntmps122
 go_wp2
 go_loopg [3, 4] p.vars.length (fun m s z wr => ∃ (j : Nat) (R : Option Addr) (rc : Nat), j ≤ p.vars.length ∧ m = p.vars.length - j ∧ z = .int .i64 j ∧ s = .slice R j rc ∧ Hid (wr.ownsRow (w.heap.size + 1) 3 1 (.slice R j rc) j (((kindsF p).take j).map (Value.int .i64))) ∧ Bel (w.alloc (.cells #[.string p.name, .slice A p.vars.length k, .slice A2 p.rules.length k2] 25)) wr)
 case atStart => exact ⟨0, none, 0, by omega, rfl, rfl, rfl, World.ownsRow_nil _ _ _ _, Bel.refl _⟩
 case round =>
  obtain ⟨j, R, rc, hj, rfl, rfl, rfl, HO, HB⟩ := hrel
  have q1 := box_cell HB 1 rfl
  have q2 := box_lt HB
  by_cases hlt : j < p.vars.length
  ·have hd0 : decide (j < p.vars.length) = true := by simpa using hlt
   obtain ⟨b, o, rfl, hb, v0, v1, v2, v3, v4, v5⟩ := (HV.out _ (box_bel HB)).at_ j hlt
   have HT : Hid (((kindsF p).take (j + 1)).map (Value.int .i64) = ((kindsF p).take j).map (Value.int .i64) ++ [.int .i64 p.vars[j].kind]) := by
    show ((kindsF p).take (j + 1)).map (Value.int .i64) = _
    rw [List.take_succ_eq_append_getElem (by rw [HN.out]; exact hlt), List.map_append]
    simp [kindsF]
   go_wp2_with (at_builtin; refine wpList_push _ rfl (.tmp 12) (.tmp 19) 26 rfl (w.heap.size + 1) 3 i0 (.int .i64 0) 1 8 Tryz.underlying26 hi0 hz0 hz1 hz2 rfl (by decide) R j rc _ (by simp [Act.eval]) (HO.out.alloc _) wr.heap.size #[.int .i64 p.vars[j].kind] 3 (0, 0) (by simp [Act.eval]) (heap_new _ _) rfl (one_int _ _) (by unfold maxLen; omega) (by omega) (by simp; omega) ?_; intro R2 rc2 w2 hown hgr hat; have HB2 := (HB.alloc _).pushB (HO.out.alloc _) (by simp) hgr; have HO2 := Lib.hid hown; clear hown hgr hat)
   go_roundg (p.vars.length - (j + 1))
   case rel =>
    refine ⟨j + 1, R2, rc2, by omega, rfl, by go_num, rfl, ?_, HB2⟩
    show World.ownsRow _ _ _ _ _ _ _
    rw [HT.out]; exact HO2.out
   case measure => omega
  ·obtain rfl : j = p.vars.length := by omega
   have hd0 : decide (p.vars.length < p.vars.length) = false := by simp
   go_wp2_with fail
   go_ret
   have h1 := HO.out
   rw [List.take_of_length_le (by rw [HN.out]; exact Nat.le_refl _)] at h1
   refine ⟨R, rc, by rw [HN.out]; rfl, by rw [HN.out]; exact own_ints h1, by rw [HN.out]; exact (own_cap h1).1, (own_cap h1).2, box_bel HB⟩

def formedF (vars : Nat) (r : Rule) : Bool :=
 decide (1 ≤ r.sets.length ∧ r.sets.length ≤ 6) && validF r.guard vars && r.sets.all (fun s => decide (0 ≤ s.var ∧ s.var ≤ (vars : Int) - 1) && validF s.value vars) && decide ((r.sets.map SetT.var).Nodup)
def typedF (kinds : List Int) (r : Rule) : Bool := (kindF kinds false (treeOf r.guard) == 2) && r.sets.all (fun s => kindF kinds false (treeOf s.value) == kinds.getD s.var.toNat 0)
structure FOK (vars : Nat) (r : Rule) : Prop where
 pos : 1 ≤ r.sets.length
 le : r.sets.length ≤ 6
 guard : validF r.guard vars = true
 sets : ∀ s ∈ r.sets, (0 ≤ s.var ∧ s.var ≤ (vars : Int) - 1) ∧ validF s.value vars = true
 diff : (r.sets.map SetT.var).Nodup
theorem formedF_iff (vars : Nat) (r : Rule) : formedF vars r = true ↔ FOK vars r := by
 unfold formedF
 simp only [Bool.and_eq_true, decide_eq_true_eq, List.all_eq_true]
 constructor
 ·rintro ⟨⟨⟨⟨h1, h2⟩, h3⟩, h4⟩, h5⟩
  exact ⟨h1, h2, h3, h4, h5⟩
 ·rintro ⟨h1, h2, h3, h4, h5⟩
  exact ⟨⟨⟨⟨h1, h2⟩, h3⟩, h4⟩, h5⟩
theorem of_kind {es : List Term} {kinds : List Int} (h6 : kinds.length ≤ 6) (hk : kinds.all knownK = true) (hv : validF es kinds.length = true) : (ofF es kinds false).1 = kindF kinds false (treeOf es) := by
 unfold ofF
 rw [if_neg (by omega), if_neg (by rw [hk]; decide), if_neg (by rw [hv]; decide)]
 split
 ·rename_i h; rw [h]
 ·rfl

set_option maxRecDepth 100000 in
set_option maxHeartbeats 2000000 in
theorem typed_any (v : Value) (r : Rule) (K : Option Addr) (ck : Nat) (kinds : List Int) (w : World) (h : RuleV w v r) (hK : IntsR w K kinds.length kinds) (h6 : kinds.length ≤ 6) (hk : kinds.all knownK = true) (hf : FOK kinds.length r) (hL : lightR r = true) :
  Calls Tryz.prog 134 #[v, .slice K kinds.length ck] w fun e w' => e = .returned (.bool (typedF kinds r)) ∧ Bel w w' := by
 obtain ⟨G, c, S, c2, rfl, hG, _, _, hS, _, _⟩ := h
 have HG := Lib.hid (fun w' (k : Bel w w') => TermsR.keep hG k); clear hG
 have HS := Lib.hid (fun w' (k : Bel w w') => SetsR.keep hS k); clear hS
 have HK := Lib.hid (fun w' (k : Bel w w') => IntsR.keep hK k); clear hK
 obtain ⟨_, l2, l3, l4⟩ := lightR_parts hL
 have HL4 := Lib.hid l4; clear l4
 have HOg := Lib.hid (of_kind h6 hk hf.guard)
 have HFS := Lib.hid hf.sets
 have HKK := Lib.hid hk
 have HB := Bel.refl (w.alloc (.cells #[.string r.name, .slice G r.guard.length c, .slice S r.sets.length c2] 89))
 clear hL hf hk
 by_cases hg : kindF kinds false (treeOf r.guard) = 2
 ·have hgb : (kindF kinds false (treeOf r.guard) != 2) = false := by simp [hg]
  have HGG := Lib.hid hg; clear hg
  go_enter Tryz.func134, Tryz.ntmps134
  go_wp2_with (go_at_call 148; refine (of_any _ _ r.guard _ _ kinds _ _ (HG.out _ (box_bel HB)) (HK.out _ (box_bel HB)) (by omega)).mono ?_; rintro e w' ⟨rfl, hb⟩; rw [HOg.out]; replace HB := HB.trans hb; clear hb; have q1 := box_cell HB 2 rfl; have q2 := box_lt HB)
  clear q1 q2 hgb
  go_loopg [8, 9, 10, 23] r.sets.length (fun m _x _y _u z wr => ∃ j : Nat, j ≤ r.sets.length ∧ m = r.sets.length - j ∧ z = .int .i64 j ∧ Hid ((r.sets.take j).all (fun s => kindF kinds false (treeOf s.value) == kinds.getD s.var.toNat 0) = true) ∧ Bel (w.alloc (.cells #[.string r.name, .slice G r.guard.length c, .slice S r.sets.length c2] 89)) wr)
  case atStart => exact ⟨0, by omega, rfl, rfl, rfl, HB⟩
  case round =>
   clear HB
   obtain ⟨j, hj, rfl, rfl, HJ, HB⟩ := hrel
   by_cases hlt : j < r.sets.length
   ·have hd0 : decide (j < r.sets.length) = true := by simpa using hlt
    obtain ⟨⟨f1, f2⟩, f3⟩ := HFS.out _ (List.getElem_mem hlt)
    have hlen := HL4.out _ (List.getElem_mem hlt)
    have HOs := Lib.hid (of_kind h6 HKK.out f3)
    obtain ⟨a, ha⟩ := Int.eq_ofNat_of_zero_le f1
    have hak : a < kinds.length := by omega
    have HAK : Hid (kinds.getD r.sets[j].var.toNat 0 = kinds[a]) := by show kinds.getD r.sets[j].var.toNat 0 = _; rw [ha, Int.toNat_natCast, getD_eq hak]
    obtain ⟨b, o, R, c', rfl, hb, s1, s2, hTv, _, _⟩ := (HS.out _ (box_bel HB)).at_ j hlt
    rw [ha] at s1
    have HTv := Lib.hid (fun w' (k : Bel wr w') => TermsR.keep hTv k); clear hTv
    have HAE := Lib.hid ha
    clear f1 f2 f3 ha
    have HB2 := Bel.refl (wr.alloc (.cells #[.int .i64 (a : Int), .slice R r.sets[j].value.length c'] 92))
    go_wp2_with fail
    refine (of_any _ _ r.sets[j].value _ _ kinds _ _ (HTv.out _ (box_bel HB2)) (HK.out _ ((box_bel HB).trans (box_bel HB2))) (by omega)).mono ?_
    rintro e w' ⟨rfl, hb⟩
    rw [HOs.out]
    replace HB2 := HB2.trans hb
    clear hb
    have q1 := box_cell HB2 0 rfl
    have q2 := box_lt HB2
    obtain ⟨bk, ok, rfl, hbk, ck1⟩ := (HK.out _ ((box_bel HB).trans (box_bel HB2))).at_ a hak
    by_cases he : kindF kinds false (treeOf r.sets[j].value) = kinds[a]
    ·have heb : (kindF kinds false (treeOf r.sets[j].value) != kinds[a]) = false := by simpa using he
     have HN := Lib.hid (all_take_succ hlt HJ.out (by simp only [HAK.out, he, BEq.rfl]))
     clear he
     go_wp2_with fail
     go_roundg (r.sets.length - (j + 1))
     case rel => exact ⟨j + 1, by omega, rfl, by go_num, HN, HB.trans (box_bel HB2)⟩
     case measure => omega
    ·have heb : (kindF kinds false (treeOf r.sets[j].value) != kinds[a]) = true := by simpa using he
     have HF : Hid (typedF kinds r = false) := by
      show typedF kinds r = false
      unfold typedF
      rw [all_false_at hlt (by rw [HAK.out]; simpa using he)]; simp
     clear he
     go_wp2_with fail
     go_ret
     exact ⟨ret_bool HF.out.symm, (box_bel HB).trans (box_bel HB2)⟩
   ·have hd0 : decide (j < r.sets.length) = false := by simpa using hlt
    have HF : Hid (typedF kinds r = true) := by
     show typedF kinds r = true
     unfold typedF
     rw [all_of_take (by omega) HJ.out, HGG.out]; rfl
    go_wp2_with fail
    go_ret
    exact ⟨ret_bool HF.out.symm, box_bel HB⟩
 ·have hgb : (kindF kinds false (treeOf r.guard) != 2) = true := by simp [hg]
  have HF : Hid (typedF kinds r = false) := by
   show typedF kinds r = false
   unfold typedF
   rw [show (kindF kinds false (treeOf r.guard) == 2) = false by simpa using hg]; rfl
  clear hg
  go_enter Tryz.func134, Tryz.ntmps134
  go_wp2_with (go_at_call 148; refine (of_any _ _ r.guard _ _ kinds _ _ (HG.out _ (box_bel HB)) (HK.out _ (box_bel HB)) (by omega)).mono ?_; rintro e w' ⟨rfl, hb⟩; rw [HOg.out]; replace HB := HB.trans hb; clear hb)
  go_ret
  exact ⟨ret_bool HF.out.symm, box_bel HB⟩

set_option maxRecDepth 100000 in
set_option maxHeartbeats 2000000 in
theorem refTyped_any (v : Value) (r : Rule) (K : Option Addr) (ck : Nat) (kinds : List Int) (w : World) (h : RuleV w v r) (hK : IntsR w K kinds.length kinds) (hf : FOK kinds.length r) (hL : lightR r = true) :
  Calls Tryz.prog 121 #[v, .slice K kinds.length ck] w fun e w' => e = .returned (.bool (typedF kinds r)) ∧ Bel w w' := by
 obtain ⟨G, c, S, c2, rfl, hG, _, _, hS, _, _⟩ := h
 have HG := Lib.hid (fun w' (k : Bel w w') => TermsR.keep hG k); clear hG
 have HS := Lib.hid (fun w' (k : Bel w w') => SetsR.keep hS k); clear hS
 have HK := Lib.hid (fun w' (k : Bel w w') => IntsR.keep hK k); clear hK
 obtain ⟨_, l2, l3, l4⟩ := lightR_parts hL
 have HL4 := Lib.hid l4; clear l4
 obtain ⟨g1, g2, _, g4, _, _⟩ := valid_treeOf hf.guard
 have HGA := Lib.hid (At.whole g1 g2)
 have HG4 := Lib.hid g4
 have HFS := Lib.hid hf.sets
 have HB := Bel.refl (w.alloc (.cells #[.string r.name, .slice G r.guard.length c, .slice S r.sets.length c2] 89))
 clear hL hf g1 g2 g4
 by_cases hg : kindF kinds false (treeOf r.guard) = 2
 ·have hgb : (kindF kinds false (treeOf r.guard) != 2) = false := by simp [hg]
  have HGG := Lib.hid hg; clear hg
  go_enter Tryz.func121, Tryz.ntmps121
  go_wp2_with (go_at_call 142; refine (refKind_any kinds (treeOf r.guard) _ _ _ r.guard _ _ 0 _ HGA.out (HG.out _ (box_bel HB)) (HK.out _ (box_bel HB)) HG4.out (by omega)).mono ?_; rintro e w' ⟨rfl, hb⟩; replace HB := HB.trans hb; clear hb; have q1 := box_cell HB 2 rfl; have q2 := box_lt HB)
  clear q1 q2 hgb
  go_loopg [5] r.sets.length (fun m z wr => ∃ j : Nat, j ≤ r.sets.length ∧ m = r.sets.length - j ∧ z = .int .i64 j ∧ Hid ((r.sets.take j).all (fun s => kindF kinds false (treeOf s.value) == kinds.getD s.var.toNat 0) = true) ∧ Bel (w.alloc (.cells #[.string r.name, .slice G r.guard.length c, .slice S r.sets.length c2] 89)) wr)
  case atStart => exact ⟨0, by omega, rfl, rfl, rfl, HB⟩
  case round =>
   clear HB
   obtain ⟨j, hj, rfl, rfl, HJ, HB⟩ := hrel
   have q1 := box_cell HB 2 rfl
   have q2 := box_lt HB
   by_cases hlt : j < r.sets.length
   ·have hd0 : decide (j < r.sets.length) = true := by simpa using hlt
    obtain ⟨⟨f1, f2⟩, f3⟩ := HFS.out _ (List.getElem_mem hlt)
    have hlen := HL4.out _ (List.getElem_mem hlt)
    obtain ⟨t1, t2, _, t4, _, _⟩ := valid_treeOf f3
    have HTA := Lib.hid (At.whole t1 t2)
    have HT4 := Lib.hid t4
    obtain ⟨a, ha⟩ := Int.eq_ofNat_of_zero_le f1
    have hak : a < kinds.length := by omega
    have HAK : Hid (kinds.getD r.sets[j].var.toNat 0 = kinds[a]) := by show kinds.getD r.sets[j].var.toNat 0 = _; rw [ha, Int.toNat_natCast, getD_eq hak]
    obtain ⟨b, o, R, c', rfl, hb, s1, s2, hTv, _, _⟩ := (HS.out _ (box_bel HB)).at_ j hlt
    rw [ha] at s1
    obtain ⟨bk, ok, rfl, hbk, ck1⟩ := (HK.out _ (box_bel HB)).at_ a hak
    have HTv := Lib.hid (fun w' (k : Bel wr w') => TermsR.keep hTv k); clear hTv
    have hcell := Lib.hid (fun w' (k : Bel wr w') => And.intro ((k.cell q2).trans q1) (And.intro ((k.cell hb).trans s1) (And.intro ((k.cell hbk).trans ck1) (And.intro ((k.cell hb).trans s2) (Nat.lt_of_lt_of_le q2 k.size)))))
    clear f1 f2 f3 ha t1 t2 t4
    have HB2 := Bel.refl wr
    go_wp2_with fail
    replace HB2 := HB2.drew
    go_region_held3 (fun w' => w'.cell? ⟨w.heap.size, 2, none⟩ = some (.slice (some ⟨b, o, none⟩) r.sets.length c2) ∧ w'.cell? ⟨b, o + j * 2, none⟩ = some (.int .i64 (a : Int)) ∧ w'.cell? ⟨bk, ok + a, none⟩ = some (.int .i64 kinds[a]) ∧ w'.cell? ⟨b, o + j * 2 + 1, none⟩ = some (.slice R r.sets[j].value.length c') ∧ w.heap.size < w'.heap.size) (exact hcell.out _ HB2) (first | (go_simp; go_at_call 142; refine (refKind_any kinds (treeOf r.sets[j].value) _ _ _ r.sets[j].value _ _ 0 _ HTA.out (HTv.out _ HB2) (HK.out _ ((box_bel HB).trans HB2)) HT4.out (by omega)).mono ?_; rintro e w' ⟨rfl, hbb⟩; replace HB2 := HB2.trans hbb; clear hbb))
    go_wp2_with fail
    ·have he : (kindF kinds false (treeOf r.sets[j].value) != kinds[a]) = true := by assumption
     have HF : Hid (typedF kinds r = false) := by
      show typedF kinds r = false
      unfold typedF
      rw [all_false_at hlt (by rw [HAK.out]; simpa using he)]; simp
     go_ret
     exact ⟨ret_bool HF.out.symm, (box_bel HB).trans HB2⟩
    ·have he : (kindF kinds false (treeOf r.sets[j].value) != kinds[a]) = false := by assumption
     have HN := Lib.hid (all_take_succ hlt HJ.out (by simp only [HAK.out]; simpa using he))
     go_roundg (r.sets.length - (j + 1))
     case rel => exact ⟨j + 1, by omega, rfl, by go_num, HN, HB.trans HB2⟩
     case measure => omega
   ·have hd0 : decide (j < r.sets.length) = false := by simpa using hlt
    have HF : Hid (typedF kinds r = true) := by
     show typedF kinds r = true
     unfold typedF
     rw [all_of_take (by omega) HJ.out, HGG.out]; rfl
    go_wp2_with fail
    go_ret
    exact ⟨ret_bool HF.out.symm, box_bel HB⟩
 ·have hgb : (kindF kinds false (treeOf r.guard) != 2) = true := by simp [hg]
  have HF : Hid (typedF kinds r = false) := by
   show typedF kinds r = false
   unfold typedF
   rw [show (kindF kinds false (treeOf r.guard) == 2) = false by simpa using hg]; rfl
  clear hg
  go_enter Tryz.func121, Tryz.ntmps121
  go_wp2_with (go_at_call 142; refine (refKind_any kinds (treeOf r.guard) _ _ _ r.guard _ _ 0 _ HGA.out (HG.out _ (box_bel HB)) (HK.out _ (box_bel HB)) HG4.out (by omega)).mono ?_; rintro e w' ⟨rfl, hb⟩; replace HB := HB.trans hb; clear hb)
  go_ret
  exact ⟨ret_bool HF.out.symm, box_bel HB⟩

end Go.Proofs.YtgemlgpjbclonaaGreatDoor

/- Contracts: names. -/
namespace Go.Proofs.YtgemlgpjbclonaaGreatDoor
open Go.RowKit

def letterB (c : UInt8) : Bool := decide ((97 ≤ (c.toNat : Int) ∧ (c.toNat : Int) ≤ 122) ∨ (65 ≤ (c.toNat : Int) ∧ (c.toNat : Int) ≤ 90))
def digitB (c : UInt8) : Bool := decide (48 ≤ (c.toNat : Int) ∧ (c.toNat : Int) ≤ 57)
def inWordB (c : UInt8) : Bool := letterB c || digitB c || decide ((c.toNat : Int) = 95)

theorem letter_any (c : UInt8) (w : World) : Calls Tryz.prog 166 #[.int .u8 (c.toNat : Int)] w fun e w' => e = .returned (.bool (letterB c)) ∧ w = w' := by
 go_enter Tryz.func166, Tryz.ntmps166
 go_wp2
 all_goals (go_ret; refine ⟨ret_bool ?_, rfl⟩; unfold letterB; rw [Bool.eq_iff_iff]; simp) <;> omega
theorem refLetter_any (c : UInt8) (w : World) : Calls Tryz.prog 156 #[.int .u8 (c.toNat : Int)] w fun e w' => e = .returned (.bool (letterB c)) ∧ w = w' := by
 go_enter Tryz.func156, Tryz.ntmps156
 go_wp2
 all_goals (go_ret; refine ⟨ret_bool ?_, rfl⟩; unfold letterB; rw [Bool.eq_iff_iff]; simp) <;> omega
theorem digit_any (c : UInt8) (w : World) : Calls Tryz.prog 181 #[.int .u8 (c.toNat : Int)] w fun e w' => e = .returned (.bool (digitB c)) ∧ w = w' := by
 go_enter Tryz.func181, Tryz.ntmps181
 go_wp2
 all_goals (go_ret; refine ⟨ret_bool ?_, rfl⟩; unfold digitB; rw [Bool.eq_iff_iff]; simp) <;> omega
theorem refDigit_any (c : UInt8) (w : World) : Calls Tryz.prog 179 #[.int .u8 (c.toNat : Int)] w fun e w' => e = .returned (.bool (digitB c)) ∧ w = w' := by
 go_enter Tryz.func179, Tryz.ntmps179
 go_wp2
 all_goals (go_ret; refine ⟨ret_bool ?_, rfl⟩; unfold digitB; rw [Bool.eq_iff_iff]; simp) <;> omega
theorem inWord_any (c : UInt8) (w : World) : Calls Tryz.prog 167 #[.int .u8 (c.toNat : Int)] w fun e w' => e = .returned (.bool (inWordB c)) ∧ w = w' := by
 cases h1 : letterB c <;> cases h2 : digitB c
 all_goals
  have HF := Lib.hid (show inWordB c = (letterB c || digitB c || decide ((c.toNat : Int) = 95)) from rfl)
  rw [h1, h2] at HF
  go_enter Tryz.func167, Tryz.ntmps167
  go_wp2_with (first
   | (go_at_call 166; refine (letter_any _ _).mono ?_; rintro e w' ⟨rfl, rfl⟩)
   | (go_at_call 181; refine (digit_any _ _).mono ?_; rintro e w' ⟨rfl, rfl⟩))
  all_goals (go_ret; refine ⟨ret_bool ?_, rfl⟩; rw [HF.out]; simp; try (rw [Bool.eq_iff_iff]; simp))
theorem refInner_any (c : UInt8) (w : World) : Calls Tryz.prog 157 #[.int .u8 (c.toNat : Int)] w fun e w' => e = .returned (.bool (inWordB c)) ∧ w = w' := by
 cases h1 : letterB c <;> cases h2 : digitB c
 all_goals
  have HF := Lib.hid (show inWordB c = (letterB c || digitB c || decide ((c.toNat : Int) = 95)) from rfl)
  rw [h1, h2] at HF
  go_enter Tryz.func157, Tryz.ntmps157
  go_wp2_with (first
   | (go_at_call 156; refine (refLetter_any _ _).mono ?_; rintro e w' ⟨rfl, rfl⟩)
   | (go_at_call 179; refine (refDigit_any _ _).mono ?_; rintro e w' ⟨rfl, rfl⟩))
  all_goals (go_ret; refine ⟨ret_bool ?_, rfl⟩; rw [HF.out]; simp; try (rw [Bool.eq_iff_iff]; simp))

def wordsL : List (List UInt8) := [[112, 114, 111, 103, 114, 97, 109], [118, 97, 114], [114, 117, 108, 101], [98, 111, 111, 108], [112, 111, 114, 116], [116, 114, 117, 101], [102, 97, 108, 115, 101], [110, 111, 110, 101], [110], [105, 100, 115], [105, 100], [100, 101, 103], [114, 111, 111, 116], [113], [119, 101, 105, 103, 104, 116], [98, 97, 99, 107], [97, 108, 108], [115, 111, 109, 101], [99, 111, 117, 110, 116], [102, 105, 114, 115, 116], [109, 105, 110], [109, 97, 120], [115, 117, 109], [109, 101, 120], [115, 101, 99, 111, 110, 100], [104, 101, 97, 100]]
def reservedB (s : ByteArray) : Bool := wordsL.any fun l => s.toList == l
set_option maxRecDepth 100000 in
set_option maxHeartbeats 2000000 in
theorem reserved_any (s : ByteArray) (w : World) : Calls Tryz.prog 168 #[.string s] w fun e w' => e = .returned (.bool (reservedB s)) ∧ w = w' := by
 have HR : Hid (reservedB s = ((s.toList == [112, 114, 111, 103, 114, 97, 109]) || ((s.toList == [118, 97, 114]) || ((s.toList == [114, 117, 108, 101]) || ((s.toList == [98, 111, 111, 108]) || ((s.toList == [112, 111, 114, 116]) || ((s.toList == [116, 114, 117, 101]) || ((s.toList == [102, 97, 108, 115, 101]) || ((s.toList == [110, 111, 110, 101]) || ((s.toList == [110]) || ((s.toList == [105, 100, 115]) || ((s.toList == [105, 100]) || ((s.toList == [100, 101, 103]) || ((s.toList == [114, 111, 111, 116]) || ((s.toList == [113]) || ((s.toList == [119, 101, 105, 103, 104, 116]) || ((s.toList == [98, 97, 99, 107]) || ((s.toList == [97, 108, 108]) || ((s.toList == [115, 111, 109, 101]) || ((s.toList == [99, 111, 117, 110, 116]) || ((s.toList == [102, 105, 114, 115, 116]) || ((s.toList == [109, 105, 110]) || ((s.toList == [109, 97, 120]) || ((s.toList == [115, 117, 109]) || ((s.toList == [109, 101, 120]) || ((s.toList == [115, 101, 99, 111, 110, 100]) || ((s.toList == [104, 101, 97, 100])))))))))))))))))))))))))))) := by
  show reservedB s = _
  simp only [reservedB, wordsL, List.any_cons, List.any_nil, Bool.or_false]
 obtain ⟨b0, h0⟩ : ∃ b, (s.toList == [112, 114, 111, 103, 114, 97, 109]) = b := ⟨_, rfl⟩
 obtain ⟨b1, h1⟩ : ∃ b, (s.toList == [118, 97, 114]) = b := ⟨_, rfl⟩
 obtain ⟨b2, h2⟩ : ∃ b, (s.toList == [114, 117, 108, 101]) = b := ⟨_, rfl⟩
 obtain ⟨b3, h3⟩ : ∃ b, (s.toList == [98, 111, 111, 108]) = b := ⟨_, rfl⟩
 obtain ⟨b4, h4⟩ : ∃ b, (s.toList == [112, 111, 114, 116]) = b := ⟨_, rfl⟩
 obtain ⟨b5, h5⟩ : ∃ b, (s.toList == [116, 114, 117, 101]) = b := ⟨_, rfl⟩
 obtain ⟨b6, h6⟩ : ∃ b, (s.toList == [102, 97, 108, 115, 101]) = b := ⟨_, rfl⟩
 obtain ⟨b7, h7⟩ : ∃ b, (s.toList == [110, 111, 110, 101]) = b := ⟨_, rfl⟩
 obtain ⟨b8, h8⟩ : ∃ b, (s.toList == [110]) = b := ⟨_, rfl⟩
 obtain ⟨b9, h9⟩ : ∃ b, (s.toList == [105, 100, 115]) = b := ⟨_, rfl⟩
 obtain ⟨b10, h10⟩ : ∃ b, (s.toList == [105, 100]) = b := ⟨_, rfl⟩
 obtain ⟨b11, h11⟩ : ∃ b, (s.toList == [100, 101, 103]) = b := ⟨_, rfl⟩
 obtain ⟨b12, h12⟩ : ∃ b, (s.toList == [114, 111, 111, 116]) = b := ⟨_, rfl⟩
 obtain ⟨b13, h13⟩ : ∃ b, (s.toList == [113]) = b := ⟨_, rfl⟩
 obtain ⟨b14, h14⟩ : ∃ b, (s.toList == [119, 101, 105, 103, 104, 116]) = b := ⟨_, rfl⟩
 obtain ⟨b15, h15⟩ : ∃ b, (s.toList == [98, 97, 99, 107]) = b := ⟨_, rfl⟩
 obtain ⟨b16, h16⟩ : ∃ b, (s.toList == [97, 108, 108]) = b := ⟨_, rfl⟩
 obtain ⟨b17, h17⟩ : ∃ b, (s.toList == [115, 111, 109, 101]) = b := ⟨_, rfl⟩
 obtain ⟨b18, h18⟩ : ∃ b, (s.toList == [99, 111, 117, 110, 116]) = b := ⟨_, rfl⟩
 obtain ⟨b19, h19⟩ : ∃ b, (s.toList == [102, 105, 114, 115, 116]) = b := ⟨_, rfl⟩
 obtain ⟨b20, h20⟩ : ∃ b, (s.toList == [109, 105, 110]) = b := ⟨_, rfl⟩
 obtain ⟨b21, h21⟩ : ∃ b, (s.toList == [109, 97, 120]) = b := ⟨_, rfl⟩
 obtain ⟨b22, h22⟩ : ∃ b, (s.toList == [115, 117, 109]) = b := ⟨_, rfl⟩
 obtain ⟨b23, h23⟩ : ∃ b, (s.toList == [109, 101, 120]) = b := ⟨_, rfl⟩
 obtain ⟨b24, h24⟩ : ∃ b, (s.toList == [115, 101, 99, 111, 110, 100]) = b := ⟨_, rfl⟩
 obtain ⟨b25, h25⟩ : ∃ b, (s.toList == [104, 101, 97, 100]) = b := ⟨_, rfl⟩
 rw [h0, h1, h2, h3, h4, h5, h6, h7, h8, h9, h10, h11, h12, h13, h14, h15, h16, h17, h18, h19, h20, h21, h22, h23, h24, h25] at HR
 go_enter Tryz.func168, Tryz.ntmps168
 cases b0 with
 | true =>
  go_wp2
  go_ret
  exact ⟨ret_bool (by rw [HR.out]; simp), rfl⟩
 | false =>
 cases b1 with
 | true =>
  go_wp2
  go_ret
  exact ⟨ret_bool (by rw [HR.out]; simp), rfl⟩
 | false =>
 cases b2 with
 | true =>
  go_wp2
  go_ret
  exact ⟨ret_bool (by rw [HR.out]; simp), rfl⟩
 | false =>
 cases b3 with
 | true =>
  go_wp2
  go_ret
  exact ⟨ret_bool (by rw [HR.out]; simp), rfl⟩
 | false =>
 cases b4 with
 | true =>
  go_wp2
  go_ret
  exact ⟨ret_bool (by rw [HR.out]; simp), rfl⟩
 | false =>
 cases b5 with
 | true =>
  go_wp2
  go_ret
  exact ⟨ret_bool (by rw [HR.out]; simp), rfl⟩
 | false =>
 cases b6 with
 | true =>
  go_wp2
  go_ret
  exact ⟨ret_bool (by rw [HR.out]; simp), rfl⟩
 | false =>
 cases b7 with
 | true =>
  go_wp2
  go_ret
  exact ⟨ret_bool (by rw [HR.out]; simp), rfl⟩
 | false =>
 cases b8 with
 | true =>
  go_wp2
  go_ret
  exact ⟨ret_bool (by rw [HR.out]; simp), rfl⟩
 | false =>
 cases b9 with
 | true =>
  go_wp2
  go_ret
  exact ⟨ret_bool (by rw [HR.out]; simp), rfl⟩
 | false =>
 cases b10 with
 | true =>
  go_wp2
  go_ret
  exact ⟨ret_bool (by rw [HR.out]; simp), rfl⟩
 | false =>
 cases b11 with
 | true =>
  go_wp2
  go_ret
  exact ⟨ret_bool (by rw [HR.out]; simp), rfl⟩
 | false =>
 cases b12 with
 | true =>
  go_wp2
  go_ret
  exact ⟨ret_bool (by rw [HR.out]; simp), rfl⟩
 | false =>
 cases b13 with
 | true =>
  go_wp2
  go_ret
  exact ⟨ret_bool (by rw [HR.out]; simp), rfl⟩
 | false =>
 cases b14 with
 | true =>
  go_wp2
  go_ret
  exact ⟨ret_bool (by rw [HR.out]; simp), rfl⟩
 | false =>
 cases b15 with
 | true =>
  go_wp2
  go_ret
  exact ⟨ret_bool (by rw [HR.out]; simp), rfl⟩
 | false =>
 cases b16 with
 | true =>
  go_wp2
  go_ret
  exact ⟨ret_bool (by rw [HR.out]; simp), rfl⟩
 | false =>
 cases b17 with
 | true =>
  go_wp2
  go_ret
  exact ⟨ret_bool (by rw [HR.out]; simp), rfl⟩
 | false =>
 cases b18 with
 | true =>
  go_wp2
  go_ret
  exact ⟨ret_bool (by rw [HR.out]; simp), rfl⟩
 | false =>
 cases b19 with
 | true =>
  go_wp2
  go_ret
  exact ⟨ret_bool (by rw [HR.out]; simp), rfl⟩
 | false =>
 cases b20 with
 | true =>
  go_wp2
  go_ret
  exact ⟨ret_bool (by rw [HR.out]; simp), rfl⟩
 | false =>
 cases b21 with
 | true =>
  go_wp2
  go_ret
  exact ⟨ret_bool (by rw [HR.out]; simp), rfl⟩
 | false =>
 cases b22 with
 | true =>
  go_wp2
  go_ret
  exact ⟨ret_bool (by rw [HR.out]; simp), rfl⟩
 | false =>
 cases b23 with
 | true =>
  go_wp2
  go_ret
  exact ⟨ret_bool (by rw [HR.out]; simp), rfl⟩
 | false =>
 cases b24 with
 | true =>
  go_wp2
  go_ret
  exact ⟨ret_bool (by rw [HR.out]; simp), rfl⟩
 | false =>
 cases b25 with
 | true =>
  go_wp2
  go_ret
  exact ⟨ret_bool (by rw [HR.out]; simp), rfl⟩
 | false =>
 go_wp2
 go_ret
 exact ⟨ret_bool (by rw [HR.out]; rfl), rfl⟩
set_option maxRecDepth 100000 in
set_option maxHeartbeats 2000000 in
theorem refReserved_any (s : ByteArray) (w : World) : Calls Tryz.prog 158 #[.string s] w fun e w' => e = .returned (.bool (reservedB s)) ∧ w = w' := by
 have HR : Hid (reservedB s = ((s.toList == [112, 114, 111, 103, 114, 97, 109]) || ((s.toList == [118, 97, 114]) || ((s.toList == [114, 117, 108, 101]) || ((s.toList == [98, 111, 111, 108]) || ((s.toList == [112, 111, 114, 116]) || ((s.toList == [116, 114, 117, 101]) || ((s.toList == [102, 97, 108, 115, 101]) || ((s.toList == [110, 111, 110, 101]) || ((s.toList == [110]) || ((s.toList == [105, 100, 115]) || ((s.toList == [105, 100]) || ((s.toList == [100, 101, 103]) || ((s.toList == [114, 111, 111, 116]) || ((s.toList == [113]) || ((s.toList == [119, 101, 105, 103, 104, 116]) || ((s.toList == [98, 97, 99, 107]) || ((s.toList == [97, 108, 108]) || ((s.toList == [115, 111, 109, 101]) || ((s.toList == [99, 111, 117, 110, 116]) || ((s.toList == [102, 105, 114, 115, 116]) || ((s.toList == [109, 105, 110]) || ((s.toList == [109, 97, 120]) || ((s.toList == [115, 117, 109]) || ((s.toList == [109, 101, 120]) || ((s.toList == [115, 101, 99, 111, 110, 100]) || ((s.toList == [104, 101, 97, 100])))))))))))))))))))))))))))) := by
  show reservedB s = _
  simp only [reservedB, wordsL, List.any_cons, List.any_nil, Bool.or_false]
 obtain ⟨b0, h0⟩ : ∃ b, (s.toList == [112, 114, 111, 103, 114, 97, 109]) = b := ⟨_, rfl⟩
 obtain ⟨b1, h1⟩ : ∃ b, (s.toList == [118, 97, 114]) = b := ⟨_, rfl⟩
 obtain ⟨b2, h2⟩ : ∃ b, (s.toList == [114, 117, 108, 101]) = b := ⟨_, rfl⟩
 obtain ⟨b3, h3⟩ : ∃ b, (s.toList == [98, 111, 111, 108]) = b := ⟨_, rfl⟩
 obtain ⟨b4, h4⟩ : ∃ b, (s.toList == [112, 111, 114, 116]) = b := ⟨_, rfl⟩
 obtain ⟨b5, h5⟩ : ∃ b, (s.toList == [116, 114, 117, 101]) = b := ⟨_, rfl⟩
 obtain ⟨b6, h6⟩ : ∃ b, (s.toList == [102, 97, 108, 115, 101]) = b := ⟨_, rfl⟩
 obtain ⟨b7, h7⟩ : ∃ b, (s.toList == [110, 111, 110, 101]) = b := ⟨_, rfl⟩
 obtain ⟨b8, h8⟩ : ∃ b, (s.toList == [110]) = b := ⟨_, rfl⟩
 obtain ⟨b9, h9⟩ : ∃ b, (s.toList == [105, 100, 115]) = b := ⟨_, rfl⟩
 obtain ⟨b10, h10⟩ : ∃ b, (s.toList == [105, 100]) = b := ⟨_, rfl⟩
 obtain ⟨b11, h11⟩ : ∃ b, (s.toList == [100, 101, 103]) = b := ⟨_, rfl⟩
 obtain ⟨b12, h12⟩ : ∃ b, (s.toList == [114, 111, 111, 116]) = b := ⟨_, rfl⟩
 obtain ⟨b13, h13⟩ : ∃ b, (s.toList == [113]) = b := ⟨_, rfl⟩
 obtain ⟨b14, h14⟩ : ∃ b, (s.toList == [119, 101, 105, 103, 104, 116]) = b := ⟨_, rfl⟩
 obtain ⟨b15, h15⟩ : ∃ b, (s.toList == [98, 97, 99, 107]) = b := ⟨_, rfl⟩
 obtain ⟨b16, h16⟩ : ∃ b, (s.toList == [97, 108, 108]) = b := ⟨_, rfl⟩
 obtain ⟨b17, h17⟩ : ∃ b, (s.toList == [115, 111, 109, 101]) = b := ⟨_, rfl⟩
 obtain ⟨b18, h18⟩ : ∃ b, (s.toList == [99, 111, 117, 110, 116]) = b := ⟨_, rfl⟩
 obtain ⟨b19, h19⟩ : ∃ b, (s.toList == [102, 105, 114, 115, 116]) = b := ⟨_, rfl⟩
 obtain ⟨b20, h20⟩ : ∃ b, (s.toList == [109, 105, 110]) = b := ⟨_, rfl⟩
 obtain ⟨b21, h21⟩ : ∃ b, (s.toList == [109, 97, 120]) = b := ⟨_, rfl⟩
 obtain ⟨b22, h22⟩ : ∃ b, (s.toList == [115, 117, 109]) = b := ⟨_, rfl⟩
 obtain ⟨b23, h23⟩ : ∃ b, (s.toList == [109, 101, 120]) = b := ⟨_, rfl⟩
 obtain ⟨b24, h24⟩ : ∃ b, (s.toList == [115, 101, 99, 111, 110, 100]) = b := ⟨_, rfl⟩
 obtain ⟨b25, h25⟩ : ∃ b, (s.toList == [104, 101, 97, 100]) = b := ⟨_, rfl⟩
 rw [h0, h1, h2, h3, h4, h5, h6, h7, h8, h9, h10, h11, h12, h13, h14, h15, h16, h17, h18, h19, h20, h21, h22, h23, h24, h25] at HR
 go_enter Tryz.func158, Tryz.ntmps158
 cases b0 with
 | true =>
  go_wp2
  go_ret
  exact ⟨ret_bool (by rw [HR.out]; simp), rfl⟩
 | false =>
 cases b1 with
 | true =>
  go_wp2
  go_ret
  exact ⟨ret_bool (by rw [HR.out]; simp), rfl⟩
 | false =>
 cases b2 with
 | true =>
  go_wp2
  go_ret
  exact ⟨ret_bool (by rw [HR.out]; simp), rfl⟩
 | false =>
 cases b3 with
 | true =>
  go_wp2
  go_ret
  exact ⟨ret_bool (by rw [HR.out]; simp), rfl⟩
 | false =>
 cases b4 with
 | true =>
  go_wp2
  go_ret
  exact ⟨ret_bool (by rw [HR.out]; simp), rfl⟩
 | false =>
 cases b5 with
 | true =>
  go_wp2
  go_ret
  exact ⟨ret_bool (by rw [HR.out]; simp), rfl⟩
 | false =>
 cases b6 with
 | true =>
  go_wp2
  go_ret
  exact ⟨ret_bool (by rw [HR.out]; simp), rfl⟩
 | false =>
 cases b7 with
 | true =>
  go_wp2
  go_ret
  exact ⟨ret_bool (by rw [HR.out]; simp), rfl⟩
 | false =>
 cases b8 with
 | true =>
  go_wp2
  go_ret
  exact ⟨ret_bool (by rw [HR.out]; simp), rfl⟩
 | false =>
 cases b9 with
 | true =>
  go_wp2
  go_ret
  exact ⟨ret_bool (by rw [HR.out]; simp), rfl⟩
 | false =>
 cases b10 with
 | true =>
  go_wp2
  go_ret
  exact ⟨ret_bool (by rw [HR.out]; simp), rfl⟩
 | false =>
 cases b11 with
 | true =>
  go_wp2
  go_ret
  exact ⟨ret_bool (by rw [HR.out]; simp), rfl⟩
 | false =>
 cases b12 with
 | true =>
  go_wp2
  go_ret
  exact ⟨ret_bool (by rw [HR.out]; simp), rfl⟩
 | false =>
 cases b13 with
 | true =>
  go_wp2
  go_ret
  exact ⟨ret_bool (by rw [HR.out]; simp), rfl⟩
 | false =>
 cases b14 with
 | true =>
  go_wp2
  go_ret
  exact ⟨ret_bool (by rw [HR.out]; simp), rfl⟩
 | false =>
 cases b15 with
 | true =>
  go_wp2
  go_ret
  exact ⟨ret_bool (by rw [HR.out]; simp), rfl⟩
 | false =>
 cases b16 with
 | true =>
  go_wp2
  go_ret
  exact ⟨ret_bool (by rw [HR.out]; simp), rfl⟩
 | false =>
 cases b17 with
 | true =>
  go_wp2
  go_ret
  exact ⟨ret_bool (by rw [HR.out]; simp), rfl⟩
 | false =>
 cases b18 with
 | true =>
  go_wp2
  go_ret
  exact ⟨ret_bool (by rw [HR.out]; simp), rfl⟩
 | false =>
 cases b19 with
 | true =>
  go_wp2
  go_ret
  exact ⟨ret_bool (by rw [HR.out]; simp), rfl⟩
 | false =>
 cases b20 with
 | true =>
  go_wp2
  go_ret
  exact ⟨ret_bool (by rw [HR.out]; simp), rfl⟩
 | false =>
 cases b21 with
 | true =>
  go_wp2
  go_ret
  exact ⟨ret_bool (by rw [HR.out]; simp), rfl⟩
 | false =>
 cases b22 with
 | true =>
  go_wp2
  go_ret
  exact ⟨ret_bool (by rw [HR.out]; simp), rfl⟩
 | false =>
 cases b23 with
 | true =>
  go_wp2
  go_ret
  exact ⟨ret_bool (by rw [HR.out]; simp), rfl⟩
 | false =>
 cases b24 with
 | true =>
  go_wp2
  go_ret
  exact ⟨ret_bool (by rw [HR.out]; simp), rfl⟩
 | false =>
 cases b25 with
 | true =>
  go_wp2
  go_ret
  exact ⟨ret_bool (by rw [HR.out]; simp), rfl⟩
 | false =>
 go_wp2
 go_ret
 exact ⟨ret_bool (by rw [HR.out]; rfl), rfl⟩

end Go.Proofs.YtgemlgpjbclonaaGreatDoor

/- Contracts: Name, of the program and of the reference. -/
namespace Go.Proofs.YtgemlgpjbclonaaGreatDoor
open Go.RowKit

def nameF (s : ByteArray) : Bool := decide (1 ≤ s.size ∧ s.size ≤ 24) && letterB (s.data.toList.headD 0) && s.data.toList.all inWordB && !reservedB s

theorem head_at (s : ByteArray) (h : 0 < s.size) : s.data.toList.headD 0 = s[0] := by
 have h' : 0 < s.data.toList.length := by simpa using h
 show s.data.toList.headD 0 = s.data.toList[0]
 match hl : s.data.toList, h' with
 | x :: l, _ => rfl
set_option maxRecDepth 100000 in
set_option maxHeartbeats 1000000 in
theorem name_any (s : ByteArray) (w : World) (hs : s.size ≤ 1000000) : Calls Tryz.prog 144 #[.string s] w fun e w' => e = .returned (.bool (nameF s)) ∧ w = w' := by
 by_cases hn : 1 ≤ s.size ∧ s.size ≤ 24
 ·obtain ⟨hn1, hn2⟩ := hn
  have h0 : 0 < s.size := by omega
  have HF : Hid (nameF s = (letterB s[0] && s.data.toList.all inWordB && !reservedB s)) := by
   show nameF s = _
   unfold nameF
   rw [head_at s h0, show decide (1 ≤ s.size ∧ s.size ≤ 24) = true by simp; omega]; simp
  cases hl : letterB s[0] with
  | false =>
   rw [hl] at HF
   go_enter Tryz.func144, Tryz.ntmps144
   go_wp2_with (go_at_call 166; refine (letter_any s[0] _).mono ?_; rintro e w' ⟨rfl, rfl⟩)
   go_ret
   exact ⟨ret_bool (by rw [HF.out]; rfl), rfl⟩
  | true =>
   rw [hl] at HF
   go_enter Tryz.func144, Tryz.ntmps144
   go_wp2_with (go_at_call 166; refine (letter_any s[0] _).mono ?_; rintro e w' ⟨rfl, rfl⟩)
   go_loopg [3, 20] s.size (fun m _x z wr => ∃ j : Nat, j ≤ s.size ∧ m = s.size - j ∧ Hid ((s.data.toList.take j).all inWordB = true) ∧ z = .int .i64 j ∧ w = wr)
   case atStart => exact ⟨0, by omega, rfl, rfl, rfl, rfl⟩
   case round =>
    obtain ⟨j, hj, rfl, HK, rfl, rfl⟩ := hrel
    by_cases hlt : j < s.size
    ·have hd0 : decide (j < s.size) = true := by simpa using hlt
     cases hw : inWordB s[j] with
     | false =>
      have HG := Lib.hid (all_false_at (f := inWordB) (l := s.data.toList) (by simpa using hlt) (show inWordB (s.data.toList[j]'(by simpa using hlt)) = false from hw))
      go_wp2_with (go_at_call 167; refine (inWord_any s[j] _).mono ?_; rintro e w' ⟨rfl, rfl⟩)
      go_ret
      exact ⟨ret_bool (by rw [HF.out, HG.out]; rfl), rfl⟩
     | true =>
      have HG := Lib.hid (all_take_succ (f := inWordB) (l := s.data.toList) (by simpa using hlt) HK.out (show inWordB (s.data.toList[j]'(by simpa using hlt)) = true from hw))
      go_wp2_with (go_at_call 167; refine (inWord_any s[j] _).mono ?_; rintro e w' ⟨rfl, rfl⟩)
      go_roundg (s.size - (j + 1))
      case rel => exact ⟨j + 1, by omega, rfl, HG, by go_num, rfl⟩
      case measure => omega
    ·have hd0 : decide (j < s.size) = false := by simpa using hlt
     have HG := Lib.hid (all_of_take (f := inWordB) (l := s.data.toList) (by simp; omega) HK.out)
     rw [HG.out] at HF
     go_wp2_with (go_at_call 168; refine (reserved_any s _).mono ?_; rintro e w' ⟨rfl, rfl⟩)
     all_goals (go_ret; exact ⟨ret_bool (by rw [HF.out]; simp), rfl⟩)
 ·have HF : Hid (nameF s = false) := by
   show nameF s = false
   unfold nameF
   rw [show decide (1 ≤ s.size ∧ s.size ≤ 24) = false by simpa using hn]; rfl
  rcases (show s.size = 0 ∨ 24 < s.size by omega) with h | h
  ·have h' : s.size < 1 := by omega
   clear hn h
   go_enter Tryz.func144, Tryz.ntmps144
   go_wp2
   go_ret
   exact ⟨ret_bool HF.out.symm, rfl⟩
  ·have h' : 1 ≤ s.size := by omega
   clear hn
   go_enter Tryz.func144, Tryz.ntmps144
   go_wp2
   go_ret
   exact ⟨ret_bool HF.out.symm, rfl⟩

set_option maxRecDepth 100000 in
set_option maxHeartbeats 1000000 in
theorem refName_any (s : ByteArray) (w : World) (hs : s.size ≤ 1000000) : Calls Tryz.prog 139 #[.string s] w fun e w' => e = .returned (.bool (nameF s)) ∧ w = w' := by
 by_cases hn : 1 ≤ s.size ∧ s.size ≤ 24
 ·obtain ⟨hn1, hn2⟩ := hn
  have h0 : 0 < s.size := by omega
  have HF : Hid (nameF s = (letterB s[0] && s.data.toList.all inWordB && !reservedB s)) := by
   show nameF s = _
   unfold nameF
   rw [head_at s h0, show decide (1 ≤ s.size ∧ s.size ≤ 24) = true by simp; omega]; simp
  cases hl : letterB s[0] with
  | false =>
   rw [hl] at HF
   go_enter Tryz.func139, Tryz.ntmps139
   go_wp2_with (go_at_call 156; refine (refLetter_any s[0] _).mono ?_; rintro e w' ⟨rfl, rfl⟩)
   go_ret
   exact ⟨ret_bool (by rw [HF.out]; rfl), rfl⟩
  | true =>
   rw [hl] at HF
   have HS : Hid ((s.data.toList.take 1).all inWordB = true) := by
    have := all_take_succ (f := inWordB) (l := s.data.toList) (k := 0) (by simpa using h0) rfl (by show inWordB s[0] = true; unfold inWordB; rw [hl]; rfl)
    exact this
   go_enter Tryz.func139, Tryz.ntmps139
   go_wp2_with (go_at_call 156; refine (refLetter_any s[0] _).mono ?_; rintro e w' ⟨rfl, rfl⟩)
   go_loopg [3] (s.size - 1) (fun m z wr => ∃ j : Nat, j ≤ s.size ∧ m = s.size - j ∧ Hid ((s.data.toList.take j).all inWordB = true) ∧ z = .int .i64 j ∧ w = wr)
   case atStart => exact ⟨1, by omega, rfl, HS, rfl, rfl⟩
   case round =>
    obtain ⟨j, hj, rfl, HK, rfl, rfl⟩ := hrel
    by_cases hlt : j < s.size
    ·have hd0 : decide (j < s.size) = true := by simpa using hlt
     cases hw : inWordB s[j] with
     | false =>
      have HG := Lib.hid (all_false_at (f := inWordB) (l := s.data.toList) (by simpa using hlt) (show inWordB (s.data.toList[j]'(by simpa using hlt)) = false from hw))
      go_wp2_with (go_at_call 157; refine (refInner_any s[j] _).mono ?_; rintro e w' ⟨rfl, rfl⟩)
      go_ret
      exact ⟨ret_bool (by rw [HF.out, HG.out]; rfl), rfl⟩
     | true =>
      have HG := Lib.hid (all_take_succ (f := inWordB) (l := s.data.toList) (by simpa using hlt) HK.out (show inWordB (s.data.toList[j]'(by simpa using hlt)) = true from hw))
      go_wp2_with (go_at_call 157; refine (refInner_any s[j] _).mono ?_; rintro e w' ⟨rfl, rfl⟩)
      go_roundg (s.size - (j + 1))
      case rel => exact ⟨j + 1, by omega, rfl, HG, by go_num, rfl⟩
      case measure => omega
    ·have hd0 : decide (j < s.size) = false := by simpa using hlt
     have HG := Lib.hid (all_of_take (f := inWordB) (l := s.data.toList) (by simp; omega) HK.out)
     rw [HG.out] at HF
     go_wp2_with (go_at_call 158; refine (refReserved_any s _).mono ?_; rintro e w' ⟨rfl, rfl⟩)
     all_goals (go_ret; exact ⟨ret_bool (by rw [HF.out]; simp), rfl⟩)
 ·have HF : Hid (nameF s = false) := by
   show nameF s = false
   unfold nameF
   rw [show decide (1 ≤ s.size ∧ s.size ≤ 24) = false by simpa using hn]; rfl
  rcases (show s.size = 0 ∨ 24 < s.size by omega) with h | h
  ·have h' : s.size < 1 := by omega
   clear hn h
   go_enter Tryz.func139, Tryz.ntmps139
   go_wp2
   go_ret
   exact ⟨ret_bool HF.out.symm, rfl⟩
  ·have h' : 1 ≤ s.size := by omega
   clear hn
   go_enter Tryz.func139, Tryz.ntmps139
   go_wp2
   go_ret
   exact ⟨ret_bool HF.out.symm, rfl⟩

end Go.Proofs.YtgemlgpjbclonaaGreatDoor

/- Contracts: the reference's formed and named. -/
namespace Go.Proofs.YtgemlgpjbclonaaGreatDoor
open Go.RowKit

theorem formedF_false {vars : Nat} {r : Rule} (h : ¬ FOK vars r) : formedF vars r = false := by
 rw [Bool.eq_false_iff]; intro hb; exact h ((formedF_iff vars r).1 hb)

theorem nodupT_take_succ {α : Type} {l : List α} {k : Nat} (h : k < l.length) (hn : (l.take k).Nodup) (hne : ∀ j (hj : j < k), l[j] ≠ l[k]) : (l.take (k + 1)).Nodup := by
 rw [List.take_succ_eq_append_getElem h, List.nodup_append]
 refine ⟨hn, by simp, ?_⟩
 intro a ha b hb
 simp at hb
 subst hb
 rw [List.mem_take_iff_getElem] at ha
 obtain ⟨j, hj, rfl⟩ := ha
 exact hne j (by omega)
theorem notT_nodup {α : Type} {l : List α} {j k : Nat} (hj : j < k) (hk : k < l.length) (he : l[j] = l[k]) : ¬ l.Nodup := by
 intro hn
 have := (List.nodup_iff_pairwise_ne.1 hn)
 rw [List.pairwise_iff_getElem] at this
 exact this j k (by omega) hk hj he

set_option maxRecDepth 100000 in
set_option maxHeartbeats 2000000 in
theorem refFormed_any (v : Value) (r : Rule) (vars : Nat) (w : World) (h : RuleV w v r) (hvars : vars ≤ 1000) (hL : lightR r = true) :
  Calls Tryz.prog 120 #[v, .int .i64 vars] w fun e w' => e = .returned (.bool (formedF vars r)) ∧ Bel w w' := by
 obtain ⟨G, c, S, c2, rfl, hG, _, _, hS, _, _⟩ := h
 have HG := Lib.hid (fun w' (k : Bel w w') => TermsR.keep hG k); clear hG
 have HS := Lib.hid (fun w' (k : Bel w w') => SetsR.keep hS k); clear hS
 obtain ⟨_, l2, l3, l4⟩ := lightR_parts hL
 have HL4 := Lib.hid l4; clear l4 hL
 have HB := Bel.refl (w.alloc (.cells #[.string r.name, .slice G r.guard.length c, .slice S r.sets.length c2] 89))
 by_cases hn : 1 ≤ r.sets.length ∧ r.sets.length ≤ 6
 ·have hin : inB (r.sets.length : Int) 1 6 = true := inB_true (by omega) (by omega)
  cases hvg : validF r.guard vars with
  | false =>
   have HF : Hid (formedF vars r = false) := formedF_false fun h => by rw [h.guard] at hvg; cases hvg
   go_enter Tryz.func120, Tryz.ntmps120
   go_wp2_with (first
    | (go_at_call 117; refine (in07_any _ _ _ _).mono ?_; rintro e w' ⟨rfl, rfl⟩)
    | (go_at_call 141; refine (refValid_any _ _ _ r.guard _ _ (HG.out _ (box_bel HB)) (by omega)).mono ?_; rintro e w' ⟨rfl, hb⟩; rw [hvg]; replace HB := HB.trans hb; clear hb))
   go_ret
   exact ⟨ret_bool HF.out.symm, box_bel HB⟩
  | true =>
   have HVG := Lib.hid hvg; clear hvg
   go_enter Tryz.func120, Tryz.ntmps120
   go_wp2_with (first
    | (go_at_call 117; refine (in07_any _ _ _ _).mono ?_; rintro e w' ⟨rfl, rfl⟩)
    | (go_at_call 141; refine (refValid_any _ _ _ r.guard _ _ (HG.out _ (box_bel HB)) (by omega)).mono ?_; rintro e w' ⟨rfl, hb⟩; rw [HVG.out]; replace HB := HB.trans hb; clear hb))
   clear hin
   go_loopg [5, 6] r.sets.length (fun m z _y wr => ∃ j : Nat, j ≤ r.sets.length ∧ m = r.sets.length - j ∧ z = .int .i64 j ∧ Hid ((r.sets.take j).all (fun s => decide (0 ≤ s.var ∧ s.var ≤ (vars : Int) - 1) && validF s.value vars) = true ∧ ((r.sets.map SetT.var).take j).Nodup) ∧ Bel (w.alloc (.cells #[.string r.name, .slice G r.guard.length c, .slice S r.sets.length c2] 89)) wr)
   case atStart => exact ⟨0, by omega, rfl, rfl, ⟨rfl, by simp⟩, HB⟩
   case round =>
    clear HB
    obtain ⟨i, hi, rfl, rfl, HJ, HB⟩ := hrel
    have q1 := box_cell HB 2 rfl
    have q2 := box_lt HB
    by_cases hlt : i < r.sets.length
    ·have hd0 : decide (i < r.sets.length) = true := by simpa using hlt
     obtain ⟨b, o, R, c', rfl, hb, s1, s2, hTv, _, _⟩ := (HS.out _ (box_bel HB)).at_ i hlt
     have HTv := Lib.hid hTv; clear hTv
     have hlen := HL4.out _ (List.getElem_mem hlt)
     by_cases hr : 0 ≤ r.sets[i].var ∧ r.sets[i].var ≤ (vars : Int) - 1
     ·have hin : inB r.sets[i].var 0 ((vars : Int) - 1) = true := inB_true hr.1 hr.2
      cases hvs : validF r.sets[i].value vars with
      | false =>
       have HF : Hid (formedF vars r = false) := formedF_false fun h => by have := (h.sets _ (List.getElem_mem hlt)).2; rw [hvs] at this; cases this
       go_wp2_with (first
        | (go_at_call 117; refine (in07_any _ _ _ _).mono ?_; rintro e w' ⟨rfl, rfl⟩)
        | (go_at_call 141; refine (refValid_any _ _ _ r.sets[i].value _ _ HTv.out (by omega)).mono ?_; rintro e w' ⟨rfl, hbb⟩; rw [hvs]; replace HB := HB.trans hbb; clear hbb))
       go_ret
       exact ⟨ret_bool HF.out.symm, box_bel HB⟩
      | true =>
       have HOK := Lib.hid (show (decide (0 ≤ r.sets[i].var ∧ r.sets[i].var ≤ (vars : Int) - 1) && validF r.sets[i].value vars) = true by rw [hvs, decide_eq_true hr]; rfl)
       have HVS := Lib.hid hvs
       clear hvs hr
       go_wp2_with (first
        | (go_at_call 117; refine (in07_any _ _ _ _).mono ?_; rintro e w' ⟨rfl, rfl⟩)
        | (go_at_call 141; refine (refValid_any _ _ _ r.sets[i].value _ _ HTv.out (by omega)).mono ?_; rintro e w' ⟨rfl, hbb⟩; rw [HVS.out]; replace HB := HB.trans hbb; clear hbb hb s1 s2 q1 q2; clear HTv))
       clear hin hd0
       go_loopg [6] i (fun m x ws => ∃ j : Nat, j ≤ i ∧ m = i - j ∧ x = .int .i64 j ∧ Hid (∀ q, (hq : q < j) → (hq' : q < r.sets.length) → r.sets[q].var ≠ r.sets[i].var) ∧ Bel (w.alloc (.cells #[.string r.name, .slice G r.guard.length c, .slice (some ⟨b, o, none⟩) r.sets.length c2] 89)) ws)
       case atStart => exact ⟨0, by omega, rfl, rfl, fun q hq => absurd hq (by omega), HB⟩
       case round =>
        clear HB
        obtain ⟨j, hj, rfl, rfl, HQ, HB⟩ := hrel
        have q1 := box_cell HB 2 rfl
        have q2 := box_lt HB
        by_cases hlt2 : j < i
        ·have hji : j < r.sets.length := by omega
         obtain ⟨b', o', R', c'', e', hb', s1', _, _, _, _⟩ := (HS.out _ (box_bel HB)).at_ j hji
         obtain ⟨rfl, rfl⟩ : b = b' ∧ o = o' := by simpa using e'
         obtain ⟨b', o', R', c'', e', _, s1, _, _, _, _⟩ := (HS.out _ (box_bel HB)).at_ i hlt
         obtain ⟨rfl, rfl⟩ : b = b' ∧ o = o' := by simpa using e'
         clear e'
         have hd : decide (j < i) = true := by simpa using hlt2
         go_wp2
         go_quiet (fail)
         go_wp2
         ·have he : (r.sets[j].var == r.sets[i].var) = true := by assumption
          go_ret
          refine ⟨ret_bool ?_, (box_bel HB).drewN _⟩
          symm
          refine formedF_false fun hf => ?_
          exact notT_nodup hlt2 (by simpa using hlt) (by simpa using he) hf.diff
         ·have he : (r.sets[j].var == r.sets[i].var) = false := by assumption
          go_roundg (i - (j + 1))
          case rel =>
           refine ⟨j + 1, by omega, rfl, by go_num, ?_, HB.drewN _⟩
           intro q hq hq'
           rcases Nat.lt_or_ge q j with h | h
           ·exact HQ.out q h hq'
           ·obtain rfl : q = j := by omega
            simpa using he
          case measure => omega
        ·have hd : decide (j < i) = false := by simpa using hlt2
         go_wp2
         go_roundg (r.sets.length - (i + 1))
         case rel =>
          refine ⟨i + 1, by omega, rfl, by go_num, ⟨all_take_succ hlt HJ.out.1 HOK.out, nodupT_take_succ (by simpa using hlt) HJ.out.2 ?_⟩, HB⟩
          intro q hq
          have := HQ.out q (by omega) (by omega)
          simpa using this
         case measure => omega
     ·have hin : inB r.sets[i].var 0 ((vars : Int) - 1) = false := by
       rw [inB_false_iff]; omega
      have HF : Hid (formedF vars r = false) := formedF_false fun h => hr (h.sets _ (List.getElem_mem hlt)).1
      clear hr
      go_wp2_with (go_at_call 117; refine (in07_any _ _ _ _).mono ?_; rintro e w' ⟨rfl, rfl⟩)
      go_ret
      exact ⟨ret_bool HF.out.symm, box_bel HB⟩
    ·have hd0 : decide (i < r.sets.length) = false := by simpa using hlt
     go_wp2_with fail
     go_ret
     refine ⟨ret_bool ?_, box_bel HB⟩
     symm
     rw [formedF_iff]
     obtain ⟨a1, a2⟩ := HJ.out
     rw [List.take_of_length_le (by omega)] at a1
     rw [List.take_of_length_le (by simp; omega)] at a2
     refine ⟨hn.1, hn.2, HVG.out, fun s hs => ?_, a2⟩
     have := List.all_eq_true.1 a1 s hs
     rw [Bool.and_eq_true] at this
     exact ⟨of_decide_eq_true this.1, this.2⟩
 ·have hin : inB (r.sets.length : Int) 1 6 = false := by rw [inB_false_iff]; omega
  have HF : Hid (formedF vars r = false) := formedF_false fun h => hn ⟨h.pos, h.le⟩
  clear hn
  go_enter Tryz.func120, Tryz.ntmps120
  go_wp2_with (go_at_call 117; refine (in07_any _ _ _ _).mono ?_; rintro e w' ⟨rfl, rfl⟩)
  go_ret
  exact ⟨ret_bool HF.out.symm, box_bel HB⟩

def namesF (l : List ByteArray) : Bool := l.all nameF && decide l.Nodup
def namedF (p : Prg) : Bool := nameF p.name && namesF (p.vars.map Var.name) && namesF (p.rules.map Rule.name)

end Go.Proofs.YtgemlgpjbclonaaGreatDoor

