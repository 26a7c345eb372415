/- Merged of: WTc WTd WTe WTf (see NOTES.md). -/
import Derived.Test.YtgemlgpjbclonaaGreatDoorZ11
import Derived.Test.YtgemlgpjbclonaaGreatDoorZ08
import Derived.Test.YtgemlgpjbclonaaGreatDoorZ09
set_option linter.unusedSimpArgs false
set_option linter.unnecessarySimpa false
set_option linter.unusedVariables false

/- Contracts: read and Of of types. -/
namespace Go.Proofs.YtgemlgpjbclonaaGreatDoor
open Go.RowKit

theorem ret_int2 {k j : IntKind} {a b c d : Int} (h1 : a = c) (h2 : b = d) : Ending.returned (.tuple #[.int k a, .int j b]) = .returned (.tuple #[.int k c, .int j d]) := by rw [h1, h2]

def arr3 (l : List Int) : Array Value := #[.int .i64 (l.getD 0 0), .int .i64 (l.getD 1 0), .int .i64 (l.getD 2 0)]
theorem lens_take_succ (l : List Ex) (j : Nat) (h : j < l.length) : lens (l.take (j + 1)) = lens (l.take j) + l[j].len := by
 unfold lens
 rw [List.take_succ_eq_append_getElem h, List.map_append, List.sum_append]; simp
theorem lens_take_le (l : List Ex) (j : Nat) : lens (l.take j) ≤ lens l := by
 unfold lens
 conv => rhs; rw [← List.take_append_drop j l, List.map_append, List.sum_append]
 omega
theorem arr3_set (l : List Int) (j : Nat) (h : j < 3) (hl : j < l.length) : (arr3 (l.take j)).setIfInBounds j (.int .i64 l[j]) = arr3 (l.take (j + 1)) := by
 rcases (show j = 0 ∨ j = 1 ∨ j = 2 by omega) with rfl | rfl | rfl
 all_goals
  match l, hl with
  | x :: l, hl => first
   | simp [arr3]; done
   | (match l, hl with
    | y :: l, hl => first
     | simp [arr3]; done
     | (match l, hl with
      | z :: l, hl => simp [arr3]))

def ReadOk (kinds : List Int) (x : Ex) : Prop :=
 ∀ (bound : Bool) (A : Option Addr) (c : Nat) (es : List Term) (K : Option Addr) (ck k : Nat) (w : World), x.At es k → TermsR w A es.length es → IntsR w K kinds.length kinds → (∀ t ∈ es, argF t kinds.length = true) → es.length ≤ 1000 →
  Calls Tryz.prog 172 #[.agg #[.slice A es.length c, .slice K kinds.length ck], .int .i64 k, .bool bound] w fun e w' => e = .returned (.tuple #[.int .i64 (kindF kinds bound x), .int .i64 ((k + x.len : Nat) : Int)]) ∧ Bel w w'

set_option maxRecDepth 100000 in
set_option maxHeartbeats 4000000 in
theorem read_any (kinds : List Int) (x : Ex) : ReadOk kinds x := by
 refine Ex.kids_induct (fun x ih => ?_) x
 intro bound A c es K ck k w hat hT hK harg hlen
 have hlt := At.lt hat
 obtain ⟨hh, hkids, hxl⟩ := kids_at hat
 have hxb := At.bound hat
 have har := kids_arity hat.1
 have hkk := kids_kind (kinds := kinds) (bound := bound) hat.1
 obtain ⟨b, o, rfl, hb, c1, c2⟩ := hT.at_ k hlt
 have hhe : es[k] = x.head := by rw [List.getElem?_eq_getElem hlt] at hh; simpa using hh
 rw [hhe] at c1 c2
 have hargt : argF x.head kinds.length = true := by rw [← hhe]; exact harg _ (List.getElem_mem hlt)
 have HT := Lib.hid (fun w' (k : Bel w w') => TermsR.keep hT k); clear hT
 have HK := Lib.hid (fun w' (k : Bel w w') => IntsR.keep hK k); clear hK
 have HA := Lib.hid harg; clear harg
 have HAT := Lib.hid hkids; clear hkids
 have HX := Lib.hid hxl; clear hxl
 have HIH := Lib.hid ih; clear ih
 have HKK := Lib.hid hkk; clear hkk
 have hab := arity_bounds x.head.op
 have h3 := kids_le x
 have HHE := Lib.hid hhe
 clear hh hhe
 by_cases h0 : x.kids.length = 0
 ·-- a leaf
  have har0 : arity x.head.op = 0 := by omega
  obtain ⟨hr1, hr2⟩ := hab.1 har0
  have hkf : kindF kinds bound x = if nearOp x.head.op && !bound then 0 else leafK kinds x.head := by
   cases x with
   | leaf t => rfl
   | un t a => simp [Ex.kids] at h0
   | bin t a b => simp [Ex.kids] at h0
   | tri t a b c => simp [Ex.kids] at h0
  have hx1 : x.len = 1 := by rw [HX.out, List.eq_nil_of_length_eq_zero h0]; rfl
  have HB := (((Bel.refl w).alloc (.cells #[.slice (some ⟨b, o, none⟩) es.length c, .slice K kinds.length ck] 200)).alloc (.cells #[.int .i64 x.head.op, .int .i64 x.head.arg] 110))
  have haz : (arity x.head.op == 0) = true := by simpa using har0
  have HX1 := Lib.hid hx1
  have HKF := Lib.hid hkf
  clear hkf hx1 har har0 hab h0
  cases hn : nearOp x.head.op <;> cases bound
  all_goals
   go_enter Tryz.func172, Tryz.ntmps172
   go_wp2_with (first
    | (go_at_call 173; refine (arity_any _ _).mono ?_; rintro e w' ⟨rfl, rfl⟩)
    | (go_at_call 186; refine (near_any _ _).mono ?_; rintro e w' ⟨rfl, rfl⟩)
    | (go_at_call 187; refine (tleaf_any _ _ _ kinds x.head _ (HK.out _ HB) hargt).mono ?_; rintro e w' ⟨rfl, hbb⟩; replace HB := HB.trans hbb; clear hbb))
   go_ret2
   refine ⟨?_, HB⟩
   rw [HKF.out, hn, HX1.out]
   simp
 ·have hne : x.kids ≠ [] := fun h => h0 (by rw [h]; rfl)
  have hop : 18 ≤ x.head.op ∧ x.head.op ≤ 43 := by omega
  have hpos : (arity x.head.op == 0) = false := by simp; omega
  obtain ⟨hop1, hop2⟩ := hop
  have HAR := Lib.hid har
  have HKF := Lib.hid (HKK.out hne)
  obtain ⟨inner, hin⟩ : ∃ inner, (bound || aggregate x.head.op) = inner := ⟨_, rfl⟩
  rw [hin] at HKF
  have HB := ((((Bel.refl w).alloc (.cells #[.slice (some ⟨b, o, none⟩) es.length c, .slice K kinds.length ck] 200)).alloc (.cells #[.int .i64 x.head.op, .int .i64 x.head.arg] 110)).alloc (.cells (arr3 []) 207))
  have B1 := Lib.hid ((((Blk.new w #[.slice (some ⟨b, o, none⟩) es.length c, .slice K kinds.length ck] 200)).alloc (.cells #[.int .i64 x.head.op, .int .i64 x.head.arg] 110)).alloc (.cells (arr3 []) 207))
  have B2 := Lib.hid ((Blk.new (w.alloc (.cells #[.slice (some ⟨b, o, none⟩) es.length c, .slice K kinds.length ck] 200)) #[.int .i64 x.head.op, .int .i64 x.head.arg] 110).alloc (.cells (arr3 []) 207))
  have B3 := Lib.hid (Blk.new ((w.alloc (.cells #[.slice (some ⟨b, o, none⟩) es.length c, .slice K kinds.length ck] 200)).alloc (.cells #[.int .i64 x.head.op, .int .i64 x.head.arg] 110)) (arr3 []) 207)
  simp only [World.size_alloc] at B2 B3
  rw [har] at hpos
  clear hab HKK har h0
  have HIN : Hid ((bound || aggregate x.head.op) = inner) := hin
  clear hin
  cases bound with
  | true =>
   obtain rfl : inner = true := by have := HIN.out; simpa using this.symm
   clear HIN
   go_enter Tryz.func172, Tryz.ntmps172
   go_wp2_with (first
    | (go_at_call 173; refine (arity_any _ _).mono ?_; rintro e w' ⟨rfl, rfl⟩; rw [HAR.out]))
   go_loopg [7, 11, 44] x.kids.length (fun m nx _y z wr => ∃ j : Nat, j ≤ x.kids.length ∧ m = x.kids.length - j ∧ nx = .int .i64 ((k + 1 + lens (x.kids.take j) : Nat) : Int) ∧ z = .int .i64 j ∧ Bel w wr ∧ Hid (Blk wr w.heap.size #[.slice (some ⟨b, o, none⟩) es.length c, .slice K kinds.length ck] 200 ∧ Blk wr (w.heap.size + 1) #[.int .i64 x.head.op, .int .i64 x.head.arg] 110 ∧ Blk wr (w.heap.size + 1 + 1) (arr3 ((x.kids.map (kindF kinds true)).take j)) 207))
   case atStart => exact ⟨0, by omega, rfl, by simp [lens], rfl, HB, B1.out, B2.out, B3.out⟩
   case round =>
    clear HB B1 B2 B3
    obtain ⟨j, hj, rfl, rfl, rfl, HB, HBL⟩ := hrel
    have hb2 := HBL.out.2.1.lt
    have hb3 := HBL.out.2.2.lt
    by_cases hjl : j < x.kids.length
    ·have hd0 : decide (j < x.kids.length) = true := by simpa using hjl
     have hst := lens_take_succ x.kids j hjl
     have hll := lens_take_le x.kids (j + 1)
     have hxl := HX.out
     have a0 := HBL.out.1.cell 0 rfl
     have a1 := HBL.out.1.cell 1 rfl
     obtain ⟨u, hu⟩ : ∃ u, (arr3 ((x.kids.map (kindF kinds true)).take j))[j]? = some u := ⟨_, Array.getElem?_eq_getElem (by simp [arr3]; omega)⟩
     have hj3 : j < 3 := by omega
     have hl1000 : k + 1 + lens (x.kids.take j) ≤ 1000 := by omega
     have HST := Lib.hid hst
     clear hst hxl hll
     go_wp2_with fail
     refine (HIH.out x.kids[j] (List.getElem_mem hjl) true _ _ es K ck (k + 1 + lens (x.kids.take j)) _ (HAT.out j hjl) (HT.out _ HB) (HK.out _ HB) HA.out hlen).mono ?_
     rintro e w2 ⟨rfl, hbb⟩
     have d1 := HBL.out.1.keep hbb
     have d2 := HBL.out.2.1.keep hbb
     have d3 := HBL.out.2.2.keep hbb
     have s3 := d3.lt
     have e1 := d3.cell j hu
     have e2 := d3.frozen j
     have HD := Lib.hid (And.intro d1 (And.intro d2 d3))
     clear d1 d2 d3 a0 a1
     replace HB := HB.trans hbb
     clear hbb
     go_wp2_with fail
     go_roundg (x.kids.length - (j + 1))
     case rel =>
      refine ⟨j + 1, by omega, rfl, ?_, by go_num, HB.setCell (by simp; omega) _, HD.out.1.other (by simp; omega) _, HD.out.2.1.other (by simp) _, ?_⟩
      ·rw [HST.out]; congr 2; omega
      ·have := HD.out.2.2.set j (.int .i64 (kindF kinds true x.kids[j]))
       have e := arr3_set (x.kids.map (kindF kinds true)) j hj3 (by simpa using hjl)
       simp only [List.getElem_map] at e
       rw [e] at this
       exact this
     case measure => omega
    ·obtain rfl : j = x.kids.length := by omega
     have hd0 : decide (x.kids.length < x.kids.length) = false := by simp
     have a0 := HBL.out.2.1.cell 0 rfl
     have a1 := HBL.out.2.2.cell 0 rfl
     have a2 := HBL.out.2.2.cell 1 rfl
     have a3 := HBL.out.2.2.cell 2 rfl
     rw [List.take_of_length_le (by simp)] at a1 a2 a3
     rw [List.take_of_length_le (Nat.le_refl _)]
     clear HBL hj hjl
     go_wp2_with fail
     refine (result_any x.head.op _ _ _ _ hop1 hop2).mono ?_
     rintro e w2 ⟨rfl, hbb⟩
     replace HB := HB.trans hbb
     go_wp2_with fail
     go_ret2
     refine ⟨ret_int2 ?_ ?_, HB⟩
     ·rw [HKF.out]; simp [List.getD_eq_getElem?_getD]
     ·rw [HX.out]; omega
  | false =>
   have HIN' := Lib.hid (show aggregate x.head.op = inner by have := HIN.out; simpa using this)
   clear HIN
   go_enter Tryz.func172, Tryz.ntmps172
   go_wp2_with (first
    | (go_at_call 173; refine (arity_any _ _).mono ?_; rintro e w' ⟨rfl, rfl⟩; rw [HAR.out])
    | (go_at_call 185; refine (aggregate_any _ _).mono ?_; rintro e w' ⟨rfl, rfl⟩; rw [HIN'.out]))
   go_loopg [7, 11, 44] x.kids.length (fun m nx _y z wr => ∃ j : Nat, j ≤ x.kids.length ∧ m = x.kids.length - j ∧ nx = .int .i64 ((k + 1 + lens (x.kids.take j) : Nat) : Int) ∧ z = .int .i64 j ∧ Bel w wr ∧ Hid (Blk wr w.heap.size #[.slice (some ⟨b, o, none⟩) es.length c, .slice K kinds.length ck] 200 ∧ Blk wr (w.heap.size + 1) #[.int .i64 x.head.op, .int .i64 x.head.arg] 110 ∧ Blk wr (w.heap.size + 1 + 1) (arr3 ((x.kids.map (kindF kinds inner)).take j)) 207))
   case atStart => exact ⟨0, by omega, rfl, by simp [lens], rfl, HB, B1.out, B2.out, B3.out⟩
   case round =>
    clear HB B1 B2 B3
    obtain ⟨j, hj, rfl, rfl, rfl, HB, HBL⟩ := hrel
    have hb2 := HBL.out.2.1.lt
    have hb3 := HBL.out.2.2.lt
    by_cases hjl : j < x.kids.length
    ·have hd0 : decide (j < x.kids.length) = true := by simpa using hjl
     have hst := lens_take_succ x.kids j hjl
     have hll := lens_take_le x.kids (j + 1)
     have hxl := HX.out
     have a0 := HBL.out.1.cell 0 rfl
     have a1 := HBL.out.1.cell 1 rfl
     obtain ⟨u, hu⟩ : ∃ u, (arr3 ((x.kids.map (kindF kinds inner)).take j))[j]? = some u := ⟨_, Array.getElem?_eq_getElem (by simp [arr3]; omega)⟩
     have hj3 : j < 3 := by omega
     have hl1000 : k + 1 + lens (x.kids.take j) ≤ 1000 := by omega
     have HST := Lib.hid hst
     clear hst hxl hll
     go_wp2_with fail
     refine (HIH.out x.kids[j] (List.getElem_mem hjl) inner _ _ es K ck (k + 1 + lens (x.kids.take j)) _ (HAT.out j hjl) (HT.out _ HB) (HK.out _ HB) HA.out hlen).mono ?_
     rintro e w2 ⟨rfl, hbb⟩
     have d1 := HBL.out.1.keep hbb
     have d2 := HBL.out.2.1.keep hbb
     have d3 := HBL.out.2.2.keep hbb
     have s3 := d3.lt
     have e1 := d3.cell j hu
     have e2 := d3.frozen j
     have HD := Lib.hid (And.intro d1 (And.intro d2 d3))
     clear d1 d2 d3 a0 a1
     replace HB := HB.trans hbb
     clear hbb
     go_wp2_with fail
     go_roundg (x.kids.length - (j + 1))
     case rel =>
      refine ⟨j + 1, by omega, rfl, ?_, by go_num, HB.setCell (by simp; omega) _, HD.out.1.other (by simp; omega) _, HD.out.2.1.other (by simp) _, ?_⟩
      ·rw [HST.out]; congr 2; omega
      ·have := HD.out.2.2.set j (.int .i64 (kindF kinds inner x.kids[j]))
       have e := arr3_set (x.kids.map (kindF kinds inner)) j hj3 (by simpa using hjl)
       simp only [List.getElem_map] at e
       rw [e] at this
       exact this
     case measure => omega
    ·obtain rfl : j = x.kids.length := by omega
     have hd0 : decide (x.kids.length < x.kids.length) = false := by simp
     have a0 := HBL.out.2.1.cell 0 rfl
     have a1 := HBL.out.2.2.cell 0 rfl
     have a2 := HBL.out.2.2.cell 1 rfl
     have a3 := HBL.out.2.2.cell 2 rfl
     rw [List.take_of_length_le (by simp)] at a1 a2 a3
     rw [List.take_of_length_le (Nat.le_refl _)]
     clear HBL hj hjl
     go_wp2_with fail
     refine (result_any x.head.op _ _ _ _ hop1 hop2).mono ?_
     rintro e w2 ⟨rfl, hbb⟩
     replace HB := HB.trans hbb
     go_wp2_with fail
     go_ret2
     refine ⟨ret_int2 ?_ ?_, HB⟩
     ·rw [HKF.out]; simp [List.getD_eq_getElem?_getD]
     ·rw [HX.out]; omega

end Go.Proofs.YtgemlgpjbclonaaGreatDoor

/- Contracts: the reference's kind. -/
namespace Go.Proofs.YtgemlgpjbclonaaGreatDoor
open Go.RowKit

def KindOk (kinds : List Int) (x : Ex) : Prop :=
 ∀ (bound : Bool) (A : Option Addr) (c : Nat) (es : List Term) (K : Option Addr) (ck k : Nat) (w : World), x.At es k → TermsR w A es.length es → IntsR w K kinds.length kinds → (∀ t ∈ es, argF t kinds.length = true) → es.length ≤ 1000 →
  Calls Tryz.prog 142 #[.slice A es.length c, .int .i64 k, .slice K kinds.length ck, .bool bound] w fun e w' => e = .returned (.int .i64 (kindF kinds bound x)) ∧ Bel w w'

set_option maxRecDepth 100000 in
set_option maxHeartbeats 4000000 in
theorem refKind_any (kinds : List Int) (x : Ex) : KindOk kinds x := by
 induction x with
 | leaf t =>
  intro bound A c es K ck k w hat hT hK harg hlen
  have hlt := At.lt hat
  obtain ⟨hh, har⟩ := At.leaf hat
  obtain ⟨b, o, rfl, hb, c1, c2⟩ := hT.at_ k hlt
  have hhe : es[k] = t := by rw [List.getElem?_eq_getElem hlt] at hh; simpa using hh
  rw [hhe] at c1 c2
  have hargt : argF t kinds.length = true := by rw [← hhe]; exact harg _ (List.getElem_mem hlt)
  have HK := Lib.hid hK
  have HAR := Lib.hid har
  clear hh hhe harg hK hT har
  go_enter Tryz.func142, Tryz.ntmps142
  go_wp2_with (first
   | (go_at_call 100; refine (refArity_any _ _).mono ?_; rintro e w' ⟨rfl, rfl⟩; rw [HAR.out])
   | (go_at_call 163; refine (refTleaf_any _ _ kinds t bound _ HK.out hargt HAR.out).mono ?_; rintro e w' ⟨rfl, hbb⟩))
  go_ret
  exact ⟨rfl, hbb⟩
 | un t a ih =>
  intro bound A c es K ck k w hat hT hK harg hlen
  have hlt := At.lt hat
  obtain ⟨hh, har, ha⟩ := At.un hat
  have hbd := At.bound ha
  obtain ⟨b, o, rfl, hb, c1, c2⟩ := hT.at_ k hlt
  have hhe : es[k] = t := by rw [List.getElem?_eq_getElem hlt] at hh; simpa using hh
  rw [hhe] at c1 c2
  have HT := Lib.hid hT
  have HK := Lib.hid hK
  have HAR := Lib.hid har
  have HA := Lib.hid harg
  have HIH := Lib.hid ih
  have HATA := Lib.hid ha
  clear hh hhe harg hK hT har ih hat ha
  cases bound with
  | true =>
   have HF : Hid (kindF kinds true (.un t a) = singleK t.op (kindF kinds true a)) := rfl
   go_enter Tryz.func142, Tryz.ntmps142
   go_wp2_with (first
    | (go_at_call 100; refine (refArity_any _ _).mono ?_; rintro e w' ⟨rfl, rfl⟩; rw [HAR.out])
    | (go_at_call 142; refine (HIH.out true _ _ es K ck (k + 1) _ HATA.out HT.out HK.out HA.out hlen).mono ?_; rintro e w' ⟨rfl, hbb⟩)
    | (go_at_call 164; refine (refSingle_any _ _ _).mono ?_; rintro e w' ⟨rfl, rfl⟩))
   go_ret
   exact ⟨ret_int HF.out.symm, hbb⟩
  | false =>
   obtain ⟨inner, hin⟩ : ∃ b, aggregate t.op = b := ⟨_, rfl⟩
   have HF : Hid (kindF kinds false (.un t a) = singleK t.op (kindF kinds inner a)) := by show kindF kinds false (.un t a) = _; simp only [kindF, hin, Bool.false_or]
   have HIN := Lib.hid hin; clear hin
   go_enter Tryz.func142, Tryz.ntmps142
   go_wp2_with (first
    | (go_at_call 100; refine (refArity_any _ _).mono ?_; rintro e w' ⟨rfl, rfl⟩; rw [HAR.out])
    | (go_at_call 102; refine (refAggregate_any _ _).mono ?_; rintro e w' ⟨rfl, rfl⟩; rw [HIN.out])
    | (go_at_call 142; refine (HIH.out inner _ _ es K ck (k + 1) _ HATA.out HT.out HK.out HA.out hlen).mono ?_; rintro e w' ⟨rfl, hbb⟩)
    | (go_at_call 164; refine (refSingle_any _ _ _).mono ?_; rintro e w' ⟨rfl, rfl⟩))
   go_ret
   exact ⟨ret_int HF.out.symm, hbb⟩
 | bin t a b iha ihb =>
  intro bound A c es K ck k w hat hT hK harg hlen
  have hlt := At.lt hat
  obtain ⟨hh, har, ha, hb1⟩ := At.bin hat
  have hbd := At.bound ha
  have hbd2 := At.bound hb1
  have hop := At.operand1 hat hh (by omega) ha
  obtain ⟨hop1, hop2⟩ := (arity_bounds t.op).2.2.1 har
  obtain ⟨b, o, rfl, hb, c1, c2⟩ := hT.at_ k hlt
  have hhe : es[k] = t := by rw [List.getElem?_eq_getElem hlt] at hh; simpa using hh
  rw [hhe] at c1 c2
  have HT := Lib.hid (fun w' (k : Bel w w') => TermsR.keep hT k)
  have HK := Lib.hid (fun w' (k : Bel w w') => IntsR.keep hK k)
  have HAR := Lib.hid har
  have HA := Lib.hid harg
  have HI1 := Lib.hid iha
  have HI2 := Lib.hid ihb
  have HA1 := Lib.hid ha
  have HA2 := Lib.hid hb1
  have HOP := Lib.hid hop
  have HB := Bel.refl w
  clear hh hhe harg hK hT har iha ihb hat ha hb1 hop
  go_enter Tryz.func142, Tryz.ntmps142
  go_wp2_with (first
   | (go_at_call 100; refine (refArity_any _ _).mono ?_; rintro e w' ⟨rfl, rfl⟩; rw [HAR.out])
   | (go_at_call 106; refine (refOperand_any _ _ _ es _ _ _ (HT.out _ HB) (by omega)).mono ?_; rintro e w' ⟨rfl, rfl⟩; rw [HOP.out])
   | (go_at_call 165; refine (refDouble_any _ _ _ _ hop1 hop2).mono ?_; rintro e w' ⟨rfl, rfl⟩))
  refine (HI1.out bound _ _ es K ck (k + 1) _ HA1.out (HT.out _ HB) (HK.out _ HB) HA.out hlen).mono ?_
  rintro e w2 ⟨rfl, hbb⟩
  replace HB := HB.trans hbb
  clear hbb
  go_wp2_with (first
   | (go_at_call 100; refine (refArity_any _ _).mono ?_; rintro e w' ⟨rfl, rfl⟩; rw [HAR.out])
   | (go_at_call 106; refine (refOperand_any _ _ _ es _ _ _ (HT.out _ HB) (by omega)).mono ?_; rintro e w' ⟨rfl, rfl⟩; rw [HOP.out])
   | (go_at_call 165; refine (refDouble_any _ _ _ _ hop1 hop2).mono ?_; rintro e w' ⟨rfl, rfl⟩))
  refine (HI2.out bound _ _ es K ck (k + 1 + _) _ HA2.out (HT.out _ HB) (HK.out _ HB) HA.out hlen).mono ?_
  rintro e w3 ⟨rfl, hbb⟩
  replace HB := HB.trans hbb
  clear hbb
  go_wp2_with (first
   | (go_at_call 100; refine (refArity_any _ _).mono ?_; rintro e w' ⟨rfl, rfl⟩; rw [HAR.out])
   | (go_at_call 106; refine (refOperand_any _ _ _ es _ _ _ (HT.out _ HB) (by omega)).mono ?_; rintro e w' ⟨rfl, rfl⟩; rw [HOP.out])
   | (go_at_call 165; refine (refDouble_any _ _ _ _ hop1 hop2).mono ?_; rintro e w' ⟨rfl, rfl⟩))
  go_ret
  exact ⟨rfl, HB⟩
 | tri t a b d iha ihb ihc =>
  intro bound A c es K ck k w hat hT hK harg hlen
  have hlt := At.lt hat
  obtain ⟨hh, har, ha, hb1, hc1⟩ := At.tri hat
  have hbd := At.bound ha
  have hbd2 := At.bound hb1
  have hbd3 := At.bound hc1
  have hop := At.operand1 hat hh (by omega) ha
  have hopp := At.operand2 hat hh (by omega) ha hb1
  obtain ⟨b', o, rfl, hb, c1, c2⟩ := hT.at_ k hlt
  have hhe : es[k] = t := by rw [List.getElem?_eq_getElem hlt] at hh; simpa using hh
  rw [hhe] at c1 c2
  have HT := Lib.hid (fun w' (k : Bel w w') => TermsR.keep hT k)
  have HK := Lib.hid (fun w' (k : Bel w w') => IntsR.keep hK k)
  have HAR := Lib.hid har
  have HA := Lib.hid harg
  have HI1 := Lib.hid iha
  have HI2 := Lib.hid ihb
  have HI3 := Lib.hid ihc
  have HA1 := Lib.hid ha
  have HA2 := Lib.hid hb1
  have HA3 := Lib.hid hc1
  have HOP := Lib.hid hop
  have HOP2 := Lib.hid hopp
  have HB := Bel.refl w
  have HF : Hid (kindF kinds bound (.tri t a b d) = ifK (kindF kinds bound a == 2 && kindF kinds bound b == kindF kinds bound d) (kindF kinds bound b)) := rfl
  clear hh hhe harg hK hT har iha ihb ihc hat ha hb1 hc1 hop hopp
  go_enter Tryz.func142, Tryz.ntmps142
  go_wp2_with (first
   | (go_at_call 100; refine (refArity_any _ _).mono ?_; rintro e w' ⟨rfl, rfl⟩; rw [HAR.out])
   | (go_at_call 106; refine (refOperand_any _ _ _ es _ _ _ (HT.out _ HB) (by omega)).mono ?_; rintro e w' ⟨rfl, rfl⟩; first | rw [HOP.out] | rw [HOP2.out]))
  refine (HI1.out bound _ _ es K ck (k + 1) _ HA1.out (HT.out _ HB) (HK.out _ HB) HA.out hlen).mono ?_
  rintro e w2 ⟨rfl, hbb⟩
  replace HB := HB.trans hbb
  clear hbb
  go_wp2_with (first
   | (go_at_call 100; refine (refArity_any _ _).mono ?_; rintro e w' ⟨rfl, rfl⟩; rw [HAR.out])
   | (go_at_call 106; refine (refOperand_any _ _ _ es _ _ _ (HT.out _ HB) (by omega)).mono ?_; rintro e w' ⟨rfl, rfl⟩; first | rw [HOP.out] | rw [HOP2.out]))
  refine (HI2.out bound _ _ es K ck (k + 1 + _) _ HA2.out (HT.out _ HB) (HK.out _ HB) HA.out hlen).mono ?_
  rintro e w3 ⟨rfl, hbb⟩
  replace HB := HB.trans hbb
  clear hbb
  go_wp2_with (first
   | (go_at_call 100; refine (refArity_any _ _).mono ?_; rintro e w' ⟨rfl, rfl⟩; rw [HAR.out])
   | (go_at_call 106; refine (refOperand_any _ _ _ es _ _ _ (HT.out _ HB) (by omega)).mono ?_; rintro e w' ⟨rfl, rfl⟩; first | rw [HOP.out] | rw [HOP2.out]))
  refine (HI3.out bound _ _ es K ck (k + 1 + _ + _) _ HA3.out (HT.out _ HB) (HK.out _ HB) HA.out hlen).mono ?_
  rintro e w4 ⟨rfl, hbb⟩
  replace HB := HB.trans hbb
  clear hbb
  go_wp2_with (first
   | (go_at_call 100; refine (refArity_any _ _).mono ?_; rintro e w' ⟨rfl, rfl⟩; rw [HAR.out])
   | (go_at_call 106; refine (refOperand_any _ _ _ es _ _ _ (HT.out _ HB) (by omega)).mono ?_; rintro e w' ⟨rfl, rfl⟩; first | rw [HOP.out] | rw [HOP2.out]))
  all_goals (try simp only [beq_iff_eq, beq_eq_false_iff_ne, bne_iff_ne, bne_eq_false_iff_eq] at *)
  all_goals (go_ret; refine ⟨ret_int ?_, HB⟩; rw [HF.out]; unfold ifK; simp_all)

end Go.Proofs.YtgemlgpjbclonaaGreatDoor

/- Contracts: Of and numbers, of the program and of the reference. -/
namespace Go.Proofs.YtgemlgpjbclonaaGreatDoor
open Go.RowKit

theorem inB_false_iff {v lo hi : Int} : inB v lo hi = false ↔ v < lo ∨ hi < v := by unfold inB; simp; omega

set_option maxRecDepth 100000 in
set_option maxHeartbeats 2000000 in
theorem of_any (A : Option Addr) (c : Nat) (es : List Term) (K : Option Addr) (ck : Nat) (kinds : List Int) (bound : Bool) (w : World) (hT : TermsR w A es.length es) (hK : IntsR w K kinds.length kinds) (hlen : es.length ≤ 1000) :
  Calls Tryz.prog 148 #[.slice A es.length c, .slice K kinds.length ck, .bool bound] w fun e w' => e = .returned (.tuple #[.int .i64 (ofF es kinds bound).1, .int .i64 (ofF es kinds bound).2]) ∧ Bel w w' := by
 have HT := Lib.hid (fun w' (k : Bel w w') => TermsR.keep hT k); clear hT
 have HK := Lib.hid (fun w' (k : Bel w w') => IntsR.keep hK k); clear hK
 by_cases h6 : 6 < kinds.length
 ·have HF : Hid (ofF es kinds bound = (0, 7)) := by show ofF es kinds bound = _; unfold ofF; rw [if_pos h6]
  have hd : decide (6 < kinds.length) = true := by simpa using h6
  go_enter Tryz.func148, Tryz.ntmps148
  go_wp2_with fail
  go_ret2
  rw [HF.out]
  exact ⟨rfl, Bel.refl _⟩
 ·have hd : decide (6 < kinds.length) = false := by simpa using h6
  have h6' : kinds.length ≤ 6 := by omega
  go_enter Tryz.func148, Tryz.ntmps148
  go_wp2_with fail
  clear hd
  go_loopg [9, 18] kinds.length (fun m _x z wr => ∃ j : Nat, j ≤ kinds.length ∧ m = kinds.length - j ∧ Hid ((kinds.take j).all knownK = true) ∧ z = .int .i64 j ∧ w = wr)
  case atStart => exact ⟨0, by omega, rfl, rfl, rfl, rfl⟩
  case round =>
   obtain ⟨j, hj, rfl, HJ, rfl, rfl⟩ := hrel
   by_cases hlt : j < kinds.length
   ·have hd0 : decide (j < kinds.length) = true := by simpa using hlt
    obtain ⟨b, o, rfl, hb, hc⟩ := (HK.out _ (Bel.refl _)).at_ j hlt
    cases hk : knownK kinds[j] with
    | false =>
     have HF : Hid (ofF es kinds bound = (0, 7)) := by show ofF es kinds bound = _; unfold ofF; rw [if_neg h6, if_pos (all_false_at hlt hk)]
     go_wp2_with (go_at_call 145; refine (possible_any _ _).mono ?_; rintro e w' ⟨rfl, rfl⟩)
     go_ret2
     rw [HF.out]
     exact ⟨rfl, Bel.refl _⟩
    | true =>
     have HN := Lib.hid (all_take_succ hlt HJ.out hk)
     go_wp2_with (go_at_call 145; refine (possible_any _ _).mono ?_; rintro e w' ⟨rfl, rfl⟩)
     go_roundg (kinds.length - (j + 1))
     case rel => exact ⟨j + 1, by omega, rfl, HN, by go_num, rfl⟩
     case measure => omega
   ·have hd0 : decide (j < kinds.length) = false := by simpa using hlt
    have HA := Lib.hid (all_of_take (by omega) HJ.out)
    clear HJ hlt
    have HB := Bel.refl w
    cases hv : validF es kinds.length with
    | false =>
     have HF : Hid (ofF es kinds bound = (0, 7)) := by show ofF es kinds bound = _; unfold ofF; rw [if_neg h6, if_neg (by rw [HA.out]; decide), if_pos hv]
     go_wp2_with (go_at_call 147; refine (valid_any _ _ _ es _ _ (HT.out _ HB) (by omega)).mono ?_; rintro e w' ⟨rfl, hbb⟩; replace HB := HB.trans hbb; clear hbb; rw [hv])
     go_ret2
     rw [HF.out]
     exact ⟨rfl, HB⟩
    | true =>
     obtain ⟨v1, v2, v3, v4, _, _⟩ := valid_treeOf hv
     have HV4 := Lib.hid v4
     have HAT := Lib.hid (At.whole v1 v2)
     have HVV := Lib.hid hv
     have HF : Hid (ofF es kinds bound = if kindF kinds bound (treeOf es) = 0 then (0, 6) else (kindF kinds bound (treeOf es), 0)) := by
      show ofF es kinds bound = _
      unfold ofF; rw [if_neg h6, if_neg (by rw [HA.out]; decide), if_neg (by rw [hv]; decide)]
     clear v1 v2 v3 v4 hv h6
     go_wp2_with (first
      | (go_at_call 147; refine (valid_any _ _ _ es _ _ (HT.out _ HB) (by omega)).mono ?_; rintro e w' ⟨rfl, hbb⟩; replace HB := HB.trans hbb; clear hbb; rw [HVV.out])
      | (go_at_call 172; replace HB := HB.alloc (.cells #[.slice A es.length c, .slice K kinds.length ck] 200); refine (read_any kinds (treeOf es) bound _ _ es K ck 0 _ HAT.out (HT.out _ HB) (HK.out _ HB) HV4.out hlen).mono ?_; rintro e w' ⟨rfl, hbb⟩; replace HB := HB.trans hbb; clear hbb))
     all_goals (try simp only [beq_iff_eq, beq_eq_false_iff_ne] at *)
     all_goals (go_ret2; refine ⟨?_, HB⟩; rw [HF.out]; simp_all)


def numbersF (x : Var) : Bool :=
 decide ((x.kind ≠ 1 ∧ (x.kind = 2 ∨ x.kind = 3) ∧ x.lo = 0 ∧ x.hi = 0 ∧ x.perNode = 0 ∧ x.perID = 0)
  ∨ (x.kind = 1 ∧ (0 ≤ x.lo ∧ x.lo ≤ 4096) ∧ (0 ≤ x.perNode ∧ x.perNode ≤ 255) ∧ (0 ≤ x.perID ∧ x.perID ≤ 255) ∧ (x.perNode = 0 ∨ x.perID = 0) ∧ -4096 ≤ x.hi ∧ x.hi ≤ 4096 ∧ (x.perNode ≠ 0 ∨ x.perID ≠ 0 ∨ 0 ≤ x.hi)))

/-- A variable by value. -/
def varV (x : Var) : Value := .agg #[.string x.name, .int .i64 x.kind, .int .i64 x.lo, .int .i64 x.hi, .int .i64 x.perNode, .int .i64 x.perID]

set_option maxRecDepth 100000 in
set_option maxHeartbeats 2000000 in
theorem numbers_any (x : Var) (w : World) : Calls Tryz.prog 131 #[varV x] w fun e w' => e = .returned (.bool (numbersF x)) ∧ Bel w w' := by
 obtain ⟨name, kind, lo, hi, pn, pi⟩ := x
 unfold varV
 dsimp only
 have HF : Hid (numbersF ⟨name, kind, lo, hi, pn, pi⟩ = true ↔ _) := (decide_eq_true_iff)
 dsimp only at HF
 by_cases hk : kind = 1
 ·subst hk
  have hp : knownK 1 = true := rfl
  go_enter Tryz.func131, Tryz.ntmps131
  go_wp2_with (first
   | (go_at_call 145; refine (possible_any _ _).mono ?_; rintro e w' ⟨rfl, rfl⟩; rw [hp])
   | (go_at_call 146; refine (within_any _ _ _ _).mono ?_; rintro e w' ⟨rfl, rfl⟩))
  all_goals (try simp only [beq_iff_eq, beq_eq_false_iff_ne, bne_iff_ne, bne_eq_false_iff_eq, inB_iff, inB_false_iff, Bool.not_eq_true', Bool.not_eq_eq_eq_not, Bool.not_true, Bool.not_false] at *)
  all_goals (go_ret; refine ⟨ret_bool ?_, (Bel.refl _).alloc _⟩; rw [Bool.eq_iff_iff, HF.out]; simp only [inB_iff, Bool.false_eq_true, false_iff, true_and]; omega)
 ·have hne : (kind != 1) = true := by simpa using hk
  cases hkk : knownK kind with
  | false =>
   have hk2 : ¬ (kind = 1 ∨ kind = 2 ∨ kind = 3) := by
    intro h; unfold knownK at hkk; simp at hkk; omega
   go_enter Tryz.func131, Tryz.ntmps131
   go_wp2_with (go_at_call 145; refine (possible_any _ _).mono ?_; rintro e w' ⟨rfl, rfl⟩; rw [hkk])
   go_ret
   refine ⟨ret_bool ?_, (Bel.refl _).alloc _⟩
   symm
   rw [Bool.eq_false_iff, ne_eq, HF.out]
   omega
  | true =>
   have hk2 : kind = 2 ∨ kind = 3 := by
    unfold knownK at hkk; simp at hkk; omega
   have HK2 := Lib.hid hk2
   clear hk2
   go_enter Tryz.func131, Tryz.ntmps131
   go_wp2_with (go_at_call 145; refine (possible_any _ _).mono ?_; rintro e w' ⟨rfl, rfl⟩; rw [hkk])
   all_goals
    have hk2 := HK2.out
    go_ret
    refine ⟨ret_bool ?_, (Bel.refl _).alloc _⟩
    rw [Bool.eq_iff_iff, HF.out]
    simp only [beq_iff_eq, Bool.false_eq_true, false_iff]
    omega

set_option maxRecDepth 100000 in
set_option maxHeartbeats 2000000 in
theorem refNumbers_any (x : Var) (w : World) : Calls Tryz.prog 119 #[varV x] w fun e w' => e = .returned (.bool (numbersF x)) ∧ Bel w w' := by
 obtain ⟨name, kind, lo, hi, pn, pi⟩ := x
 unfold varV
 dsimp only
 have HF : Hid (numbersF ⟨name, kind, lo, hi, pn, pi⟩ = true ↔ _) := (decide_eq_true_iff)
 dsimp only at HF
 by_cases hk : kind = 1
 ·subst hk
  go_enter Tryz.func119, Tryz.ntmps119
  go_wp2_with (go_at_call 117; refine (in07_any _ _ _ _).mono ?_; rintro e w' ⟨rfl, rfl⟩)
  all_goals (try simp only [beq_iff_eq, beq_eq_false_iff_ne, bne_iff_ne, bne_eq_false_iff_eq, inB_iff, inB_false_iff, Bool.not_eq_true', Bool.not_eq_eq_eq_not, Bool.not_true, Bool.not_false] at *)
  all_goals (go_ret; refine ⟨ret_bool ?_, (Bel.refl _).alloc _⟩; rw [Bool.eq_iff_iff, HF.out]; simp only [inB_iff, Bool.false_eq_true, false_iff, true_and]; omega)
 ·have hne : (kind != 1) = true := by simpa using hk
  cases hkk : knownK kind with
  | false =>
   have hk2 : ¬ (kind = 1 ∨ kind = 2 ∨ kind = 3) := by
    intro h; unfold knownK at hkk; simp at hkk; omega
   go_enter Tryz.func119, Tryz.ntmps119
   go_wp2_with (go_at_call 140; refine (refKnown_any _ _).mono ?_; rintro e w' ⟨rfl, rfl⟩; rw [hkk])
   go_ret
   refine ⟨ret_bool ?_, (Bel.refl _).alloc _⟩
   symm
   rw [Bool.eq_false_iff, ne_eq, HF.out]
   omega
  | true =>
   have hk2 : kind = 2 ∨ kind = 3 := by
    unfold knownK at hkk; simp at hkk; omega
   have HK2 := Lib.hid hk2
   clear hk2
   go_enter Tryz.func119, Tryz.ntmps119
   go_wp2_with (go_at_call 140; refine (refKnown_any _ _).mono ?_; rintro e w' ⟨rfl, rfl⟩; rw [hkk])
   all_goals
    have hk2 := HK2.out
    go_ret
    refine ⟨ret_bool ?_, (Bel.refl _).alloc _⟩
    rw [Bool.eq_iff_iff, HF.out]
    simp only [beq_iff_eq, Bool.false_eq_true, false_iff]
    omega

end Go.Proofs.YtgemlgpjbclonaaGreatDoor

/- Contracts: Kinds, typed, of the program and of the reference. -/
namespace Go.Proofs.YtgemlgpjbclonaaGreatDoor
open Go.RowKit

def RetInts (l : List Int) (w : World) (e : Ending) (w' : World) : Prop := ∃ A c, e = .returned (.slice A l.length c) ∧ IntsR w' A l.length l ∧ l.length ≤ c ∧ c ≤ maxLen ∧ Bel w w'

def fillP (l : List Int) (k : Nat) : List Int := l.take k ++ List.replicate (l.length - k) 0
theorem own_base {w : World} {base : Nat} {e : TypeId} {size g n c : Nat} {xs : List Value} (h : w.ownsRow base e size (.slice (some ⟨g, 0, none⟩) n c) n xs) : base ≤ g ∧ g < w.heap.size := by
 rcases h.2 with ⟨hv, _⟩ | ⟨g', cap, cur, hv, hb, hg, _⟩
 ·cases hv
 ·injection hv with hA; injection hA with hA; injection hA with hA; subst hA; exact ⟨hb, lt_of_block hg⟩
theorem fillP_zero (l : List Int) : fillP l 0 = List.replicate l.length 0 := by simp [fillP]
theorem fillP_full (l : List Int) (k : Nat) (h : l.length ≤ k) : fillP l k = l := by simp [fillP, List.take_of_length_le h, show l.length - k = 0 by omega]
theorem fillP_get (l : List Int) (k : Nat) (h : k < l.length) : (fillP l k)[k]? = some 0 := by
 unfold fillP
 rw [List.getElem?_append_right (by simp; omega)]
 rw [List.length_take, Nat.min_eq_left (Nat.le_of_lt h), Nat.sub_self, List.getElem?_replicate, if_pos (by omega)]
theorem fillP_succ (l : List Int) (k : Nat) (h : k < l.length) : (fillP l k).set k l[k] = fillP l (k + 1) := by
 unfold fillP
 rw [List.set_append_right _ _ (by simp; omega), List.length_take, Nat.min_eq_left (Nat.le_of_lt h), Nat.sub_self, show l.length - k = (l.length - (k + 1)) + 1 by omega, List.replicate_succ, List.set_cons_zero]
 conv => rhs; rw [List.take_succ_eq_append_getElem h, List.append_assoc]
 rfl

set_option maxRecDepth 100000 in
set_option maxHeartbeats 2000000 in
theorem kinds_any (v : Value) (p : Prg) (w : World) (h : PrgV w v p) (hl : p.vars.length ≤ 1000) :
  Calls Tryz.prog 133 #[v] w (RetInts (kindsF p) w) := by
 obtain ⟨A, k, A2, k2, rfl, hV, _, _, _, _, _⟩ := h
 have HV := Lib.hid (fun w' (k : Bel w w') => VarsR.keep hV k); clear hV
 obtain ⟨i0, hi0, hz0, hz1, hz2⟩ := info_parts int_info
 have HN : Hid ((kindsF p).length = p.vars.length) := by show (kindsF p).length = _; simp [kindsF]
 have HB0 := (Bel.refl w).alloc (.cells #[.string p.name, .slice A p.vars.length k, .slice A2 p.rules.length k2] 25)
 go_enter Tryz.func133, Tryz.ntmps133
 go_wp2_with (at_make; refine wpList_make _ rfl 26 (.tmp 8) (.tmp 8) rfl (w.heap.size + 1) 3 i0 (.int .i64 0) 1 Tryz.underlying26 hi0 hz0 hz1 .i64 .i64 p.vars.length rfl rfl (by rw [hz2]; omega) (by unfold maxLen; omega) (by simp) ?_; intro g w2 hown hb2; have q1 := box_cell hb2 1 rfl; have q2 := box_lt hb2; have HB := HB0.trans hb2; rw [made_one _ rfl] at hown; have HO := Lib.hid hown; have HK2 := Lib.hid hb2; clear hown hb2 HB0)
 have hg := own_base HO.out
 have H0 : Hid (w2.ownsRow (w.heap.size + 1) 3 1 (.slice (some ⟨g, 0, none⟩) p.vars.length p.vars.length) p.vars.length ((fillP (kindsF p) 0).map (Value.int .i64))) := by
  show World.ownsRow _ _ _ _ _ _ _
  rw [fillP_zero, HN.out, List.map_replicate]; exact HO.out
 clear HO
 go_loopg [4, 5, 13] p.vars.length (fun m _x _y z wr => ∃ j : Nat, j ≤ p.vars.length ∧ m = p.vars.length - j ∧ z = .int .i64 j ∧ Hid (wr.ownsRow (w.heap.size + 1) 3 1 (.slice (some ⟨g, 0, none⟩) p.vars.length p.vars.length) p.vars.length ((fillP (kindsF p) j).map (Value.int .i64))) ∧ Bel w wr)
 case atStart => exact ⟨0, by omega, rfl, rfl, H0, HB⟩
 case round =>
  clear HB H0 HK2 q1 q2
  obtain ⟨j, hj, rfl, rfl, HO, HB⟩ := hrel
  by_cases hlt : j < p.vars.length
  ·have hd0 : decide (j < p.vars.length) = true := by simpa using hlt
   obtain ⟨b, o, rfl, hb, v0, v1, v2, v3, v4, v5⟩ := (HV.out _ HB).at_ j hlt
   obtain ⟨g', e', _, hgl, y1, y2⟩ := own_at HO.out (j := j) (u := .int .i64 0) (by rw [List.getElem?_map, fillP_get _ _ (by rw [HN.out]; exact hlt)]; rfl)
   obtain rfl : g = g' := by simpa using e'
   have hst := (HO.out.stored j (.int .i64 p.vars[j].kind)).1.alloc (.cells #[.string p.vars[j].name, .int .i64 p.vars[j].kind, .int .i64 p.vars[j].lo, .int .i64 p.vars[j].hi, .int .i64 p.vars[j].perNode, .int .i64 p.vars[j].perID] 85)
   rw [← List.map_set, show p.vars[j].kind = (kindsF p)[j]'(by rw [HN.out]; exact hlt) by simp [kindsF], fillP_succ _ _ (by rw [HN.out]; exact hlt)] at hst
   have HST := Lib.hid hst
   have HKE := Lib.hid (show (kindsF p)[j]'(by rw [HN.out]; exact hlt) = p.vars[j].kind by simp [kindsF])
   have hne : wr.heap.size ≠ g := by omega
   clear hst e'
   go_wp2_with fail
   go_roundg (p.vars.length - (j + 1))
   case rel => exact ⟨j + 1, by omega, rfl, by go_num, by rw [HKE.out] at HST; exact HST, (HB.setCell (by simp; omega) _).alloc _⟩
   case measure => omega
  ·have hd0 : decide (j < p.vars.length) = false := by simpa using hlt
   go_wp2_with fail
   go_ret
   have h1 := HO.out
   rw [fillP_full _ _ (by rw [HN.out]; omega)] at h1
   refine ⟨some ⟨g, 0, none⟩, p.vars.length, by rw [HN.out]; rfl, by rw [HN.out]; exact own_ints h1, by rw [HN.out]; exact Nat.le_refl _, by unfold maxLen; omega, HB⟩

end Go.Proofs.YtgemlgpjbclonaaGreatDoor

