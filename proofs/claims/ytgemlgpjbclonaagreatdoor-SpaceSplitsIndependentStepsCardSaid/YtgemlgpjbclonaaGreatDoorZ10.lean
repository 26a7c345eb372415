/- Merged of: W05b W05c W05d W05e (see NOTES.md). -/
import Derived.Test.YtgemlgpjbclonaaGreatDoorZ07
set_option linter.unusedSimpArgs false
set_option linter.unnecessarySimpa false
set_option linter.unusedVariables false

/- Contracts of Operand, of the program and of the reference. -/
namespace Go.Proofs.YtgemlgpjbclonaaGreatDoor
open Go.RowKit


set_option maxHeartbeats 400000 in
theorem refOperand_any (A : Option Addr) (n c : Nat) (es : List Term) (p k : Int) (w : World) (h : TermsR w A n es) (hl : n ≤ 1000000) :
  Calls Tryz.prog 106 #[.slice A n c, .int .i64 p, .int .i64 k] w fun e w' => e = .returned (.int .i64 (operandF es p k)) ∧ w = w' := by
 obtain rfl := h.1
 have H := Lib.hid h; clear h
 have hle := endF_le es p
 by_cases hp : endF es p < 0
 ·have hfin : operandF es p k = -1 := by unfold operandF; rw [if_pos (.inl hp)]
  have HF := Lib.hid hfin; clear hfin hle
  have hd : decide (endF es p < 0) = true := by simpa using hp
  go_enter Tryz.func106, Tryz.ntmps106
  go_wp2_with (go_at_call 129; refine (refEnd_any _ _ _ es _ _ H.out hl).mono ?_; rintro e w' ⟨rfl, rfl⟩)
  go_ret
  exact ⟨ret_int HF.out.symm, rfl⟩
 ·have hd : decide (endF es p < 0) = false := by simpa using hp
  have h1 : 0 ≤ p := by omega
  have h2 : p < es.length := by omega
  clear hle
  obtain ⟨q, rfl⟩ := Int.eq_ofNat_of_zero_le h1
  have hq : q < es.length := by omega
  obtain ⟨b, o, rfl, hb, hc1, hc2⟩ := H.out.at_ q hq
  have hop := opAt_get hq
  by_cases hk : k < 0
  ·have hfin : operandF es q k = -1 := by unfold operandF; rw [if_pos (.inr (.inl hk))]
   have HF := Lib.hid hfin; clear hfin hop
   have hd2 : decide (k < 0) = true := by simpa using hk
   go_enter Tryz.func106, Tryz.ntmps106
   go_wp2_with (go_at_call 129; refine (refEnd_any _ _ _ es _ _ H.out hl).mono ?_; rintro e w' ⟨rfl, rfl⟩)
   go_ret
   exact ⟨ret_int HF.out.symm, rfl⟩
  ·have hd2 : decide (k < 0) = false := by simpa using hk
   by_cases ha : arity es[q].op ≤ k
   ·have hfin : operandF es q k = -1 := by unfold operandF; rw [if_pos (.inr (.inr (by rw [hop]; exact ha)))]
    have HF := Lib.hid hfin; clear hfin hop
    have hd3 : decide (arity es[q].op ≤ k) = true := by simpa using ha
    go_enter Tryz.func106, Tryz.ntmps106
    go_wp2_with (first
     | (go_at_call 129; refine (refEnd_any _ _ _ es _ _ H.out hl).mono ?_; rintro e w' ⟨rfl, rfl⟩)
     | (go_at_call 100; refine (refArity_any _ _).mono ?_; rintro e w' ⟨rfl, rfl⟩))
    go_ret
    exact ⟨ret_int HF.out.symm, rfl⟩
   ·have hd3 : decide (arity es[q].op ≤ k) = false := by simpa using ha
    have hfin : operandF es q k = iterEnd es k.toNat (q + 1) := by unfold operandF; rw [if_neg (by rw [hop]; omega)]
    have hk3 : k ≤ 3 := by have := arity_le es[q].op; omega
    have hk0 : 0 ≤ k := by omega
    obtain ⟨kk, rfl⟩ := Int.eq_ofNat_of_zero_le hk0
    rw [Int.toNat_natCast] at hfin
    have HF := Lib.hid hfin; clear hfin hop
    go_enter Tryz.func106, Tryz.ntmps106
    go_wp2_with (first
     | (go_at_call 129; refine (refEnd_any _ _ _ es _ _ H.out hl).mono ?_; rintro e w' ⟨rfl, rfl⟩)
     | (go_at_call 100; refine (refArity_any _ _).mono ?_; rintro e w' ⟨rfl, rfl⟩))
    go_loopg [7, 8] kk (fun g a m wr => ∃ (i : Nat) (z : Int), i + g = kk ∧ Hid (iterEnd es g z = iterEnd es kk (q + 1)) ∧ a = .int .i64 z ∧ m = .int .i64 i ∧ w = wr)
    case atStart => exact ⟨0, q + 1, by omega, rfl, rfl, rfl, rfl⟩
    case round =>
     obtain ⟨i, z, hi, HK, rfl, rfl, rfl⟩ := hrel
     by_cases hlt : i < kk
     ·go_wp2_with (go_at_call 129; refine (refEnd_any _ _ _ es _ _ H.out hl).mono ?_; rintro e w' ⟨rfl, rfl⟩)
      obtain ⟨g', rfl⟩ : ∃ g', gk = g' + 1 := ⟨gk - 1, by omega⟩
      go_roundg g'
      case rel => exact ⟨i + 1, endF es z, by omega, HK, rfl, by go_num, rfl⟩
      case measure => omega
     ·go_wp2
      go_ret
      obtain rfl : gk = 0 := by omega
      exact ⟨ret_int (by rw [HF.out, ← HK.out]; rfl), rfl⟩

end Go.Proofs.YtgemlgpjbclonaaGreatDoor

/- Contracts of argument, one, the numbers' closures and levels. -/
namespace Go.Proofs.YtgemlgpjbclonaaGreatDoor
open Go.RowKit

theorem argument_any (t : Term) (vars : Int) (w : World) :
  Calls Tryz.prog 169 #[.agg #[.int .i64 t.op, .int .i64 t.arg], .int .i64 vars] w fun e w' => e = .returned (.bool (argF t vars)) ∧ Bel w w' := by
 obtain ⟨op, arg⟩ := t
 go_enter Tryz.func169, Tryz.ntmps169
 go_wp2
 all_goals
  go_ret
  refine ⟨ret_bool ?_, (Bel.refl _).alloc _⟩
  simp only [beq_iff_eq, beq_eq_false_iff_ne, ne_eq] at *
  unfold argF
  rw [Bool.eq_iff_iff]
  simp only []
  repeat' split
  all_goals first | omega | (simp; done) | (simp; omega)

theorem refArgument_any (t : Term) (vars : Int) (w : World) :
  Calls Tryz.prog 162 #[.agg #[.int .i64 t.op, .int .i64 t.arg], .int .i64 vars] w fun e w' => e = .returned (.bool (argF t vars)) ∧ Bel w w' := by
 obtain ⟨op, arg⟩ := t
 go_enter Tryz.func162, Tryz.ntmps162
 go_wp2
 all_goals
  go_ret
  refine ⟨ret_bool ?_, (Bel.refl _).alloc _⟩
  simp only [beq_iff_eq, beq_eq_false_iff_ne, ne_eq] at *
  unfold argF
  rw [Bool.eq_iff_iff]
  simp only []
  repeat' split
  all_goals first | omega | (simp; done) | (simp; omega)

theorem one_any (A : Option Addr) (n c : Nat) (es : List Term) (w : World) (h : TermsR w A n es) (hl : n ≤ 1000000) :
  Calls Tryz.prog 159 #[.slice A n c] w fun e w' => e = .returned (.bool (oneF es)) ∧ w = w' := by
 obtain rfl := h.1
 have H := Lib.hid h; clear h
 by_cases h0 : 0 < es.length
 ·have hfin : oneF es = (endF es 0 == es.length) := by unfold oneF; rw [Bool.eq_iff_iff]; simp; omega
  have HF := Lib.hid hfin; clear hfin
  go_enter Tryz.func159, Tryz.ntmps159
  go_wp2_with (go_at_call 129; refine (refEnd_any _ _ _ es _ _ H.out hl).mono ?_; rintro e w' ⟨rfl, rfl⟩)
  go_ret
  exact ⟨ret_bool HF.out.symm, rfl⟩
 ·have hfin : oneF es = false := by unfold oneF; simp; omega
  have HF := Lib.hid hfin; clear hfin
  have hd : decide (0 < es.length) = false := by simpa using h0
  go_enter Tryz.func159, Tryz.ntmps159
  go_wp2
  go_ret
  exact ⟨ret_bool HF.out.symm, rfl⟩

theorem depthNum_any (op g : Int) (w : World) (h0 : 0 ≤ g) (h1 : g ≤ 1000000) :
  Calls Tryz.prog 183 #[.int .i64 op, .int .i64 g] w fun e w' => e = .returned (.int .i64 (depthNum op g)) ∧ w = w' := by
 go_enter Tryz.func183, Tryz.ntmps183
 go_wp2
 go_ret
 exact ⟨rfl, rfl⟩

theorem nestNum_any (op g : Int) (w : World) (h0 : 0 ≤ g) (h1 : g ≤ 1000000) :
  Calls Tryz.prog 184 #[.int .i64 op, .int .i64 g] w fun e w' => e = .returned (.int .i64 (nestNum op g)) ∧ w = w' := by
 unfold nestNum
 cases ha : aggregate op with
 | true =>
  go_enter Tryz.func184, Tryz.ntmps184
  go_wp2_with (go_at_call 185; refine (aggregate_any _ _).mono ?_; rintro e w' ⟨rfl, rfl⟩)
  go_ret
  exact ⟨rfl, rfl⟩
 | false =>
  go_enter Tryz.func184, Tryz.ntmps184
  go_wp2_with (go_at_call 185; refine (aggregate_any _ _).mono ?_; rintro e w' ⟨rfl, rfl⟩)
  go_ret
  exact ⟨rfl, rfl⟩

end Go.Proofs.YtgemlgpjbclonaaGreatDoor

/- The contract of levels. -/
namespace Go.Proofs.YtgemlgpjbclonaaGreatDoor
open Go.RowKit

theorem int_info : (Tryz.prog.info? 3).map (fun i => (i.zero, i.size, i.bytes)) = some (some (.int .i64 0), 1, 8) := by kernel_rfl

set_option maxRecDepth 100000 in
set_option maxHeartbeats 400000 in
theorem levels_any (f : FuncId) (num : Int → Int → Int) (hf : ∀ op g w, 0 ≤ g → g ≤ 1000000 → Calls Tryz.prog f #[.int .i64 op, .int .i64 g] w fun e w' => e = .returned (.int .i64 (num op g)) ∧ w = w')
  (hcall : ∀ a b w, (callFunc f #[a, b]).run Tryz.prog w = .ok (.enter f #[a, b]) w)
  (hn : ∀ op g, 0 ≤ g → 0 ≤ num op g ∧ num op g ≤ g + 1)
  (A : Option Addr) (n c : Nat) (es : List Term) (w : World) (h : TermsR w A n es) (hl : n ≤ 1000000) :
  Calls Tryz.prog 182 #[.slice A n c, .func (.func f) #[] #[]] w fun e w' => e = .returned (.tuple #[.int .i64 (levelsF num es), .bool (endF es 0 == es.length)]) ∧ Bel w w' := by
 obtain rfl := h.1
 have H := Lib.hid h; clear h
 have HF := Lib.hid hf; clear hf
 have HN := Lib.hid hn; clear hn
 by_cases he : endF es 0 = es.length
 ·have hfin : levelsF num es = (lev num es).headD 0 := by unfold levelsF; rw [if_pos he]
  have HFin := Lib.hid hfin; clear hfin
  have HFull := Lib.hid (full_of_end he)
  have hpos : 0 < es.length := by have := endF_le es 0; omega
  have hd : (endF es 0 != es.length) = false := by simpa using he
  have HE := Lib.hid he; clear he
  obtain ⟨i0, hi0, hz0, hzz, hz2'⟩ := info_parts int_info
  go_enter Tryz.func182, Tryz.ntmps182
  go_wp2_with (go_at_call 151; refine (end_any _ _ _ es _ _ H.out hl).mono ?_; rintro e w' ⟨rfl, rfl⟩)
  go_loopg [6, 7] es.length (fun g sv iv wr => ∃ (S : Option Addr) (sc : Nat) (st : List Int), g ≤ es.length ∧ Hid (lev num (es.drop g) = st) ∧ iv = .int .i64 ((g : Int) - 1) ∧ sv = .slice S st.length sc ∧ Hid (wr.ownsRow w.heap.size 3 1 (.slice S st.length sc) st.length (st.map (Value.int .i64))) ∧ Bel w wr)
  case atStart => exact ⟨none, 0, [], Nat.le_refl _, by show lev num (es.drop es.length) = []; simp [lev], rfl, rfl, World.ownsRow_nil _ _ _ _, Bel.refl _⟩
  case round =>
   obtain ⟨S, sc, st, hg, HST, rfl, rfl, HO, hbel⟩ := hrel
   rcases Nat.eq_zero_or_pos gk with h0 | h0
   ·subst h0
    have hlen := HFull.out.lev_length num
    have hst := HST.out
    rw [List.drop_zero] at hst
    rw [hst] at hlen
    obtain ⟨x, rfl⟩ : ∃ x, st = [x] := List.length_eq_one_iff.1 (by omega)
    obtain ⟨g, rfl, _, _, hcell, _⟩ := own_at HO.out (j := 0) (u := .int .i64 x) rfl
    have Hst := Lib.hid hst; clear hst hlen
    go_wp2
    go_ret2
    refine ⟨?_, hbel⟩
    rw [HFin.out, Hst.out, HE.out]
    simp
   ·obtain ⟨i, rfl⟩ : ∃ i, gk = i + 1 := ⟨gk - 1, by omega⟩
    have hi : i < es.length := by omega
    obtain ⟨b, o, rfl, hb, hc1, hc2⟩ := (H.out.keep hbel).at_ i hi
    obtain ⟨ha1, ha2⟩ := lev_at num HFull.out hi
    obtain ⟨hb1, hb2⟩ := lev_bound num HN.out (es.drop (i + 1))
    rw [List.length_drop] at hb1
    rw [HST.out] at ha2 hb1 hb2
    obtain ⟨a, ha⟩ := Int.eq_ofNat_of_zero_le ha1
    obtain ⟨hcap1, hcap2⟩ := own_cap HO.out
    have hr1 : a ≤ st.length := by omega
    obtain ⟨r, hr⟩ : ∃ r : Nat, (st.length : Int) - a = r := ⟨st.length - a, by omega⟩
    have hr2 : r ≤ st.length := by omega
    have hst2 : st.length ≤ 1000000 := by omega
    obtain ⟨A2, hcut, hA2⟩ := run_cut (P := Tryz.prog) Tryz.underlying26 hi0 hzz S st.length sc r hr2 hcap1
    have hup := run_upto (P := Tryz.prog) Tryz.underlying26 hi0 S st.length sc r (by omega)
    have HA2 := Lib.hid (hA2 IntAt wr st (own_ints HO.out)); clear hA2
    have HB := Lib.hid hb2; clear hb2
    have hG1 := gmax_nonneg (st.drop r)
    have hG2 := gmax_le (st.drop r) 1000000 (by omega) (fun x hx => by have := HB.out x (List.mem_of_mem_drop hx); rw [List.length_drop] at this; omega)
    generalize hG : gmax (st.drop r) = G at *
    have HL : Hid (lev num (es.drop i) = st.take r ++ [num es[i].op G]) := by
     show lev num (es.drop i) = st.take r ++ [num es[i].op G]
     rw [List.drop_eq_getElem_cons hi]
     simp only [lev]
     rw [HST.out, ha, show st.length - Int.toNat (a : Int) = r by omega, hG]
    have HG := Lib.hid hG; clear hG
    clear ha1 ha2
    go_wp2_with (first
     | (go_at_call 173; refine (arity_any _ _).mono ?_; rintro e w' ⟨rfl, rfl⟩))
    go_loopg [9, 37] (st.length - r) (fun g gr iv wi => ∃ (k : Nat) (z : Int), k + g = st.length - r ∧ 0 ≤ z ∧ z ≤ 1000000 ∧ Hid ((st.drop (r + k)).foldl max z = G) ∧ gr = .int .i64 z ∧ iv = .int .i64 k ∧ wr = wi)
    case atStart => exact ⟨0, 0, by omega, by omega, by omega, HG, rfl, rfl, rfl⟩
    case round =>
     obtain ⟨k, z, hk, hz1, hz2, HK, rfl, rfl, rfl⟩ := hrel
     by_cases hlt : k < st.length - r
     ·have hkl : k < (st.drop r).length := by rw [List.length_drop]; omega
      obtain ⟨b2, o2, rfl, hb2, hc3⟩ := IntsR.at_ HA2.out k hkl
      have hx : st.drop (r + k) = (st.drop r)[k] :: st.drop (r + (k + 1)) := by rw [← List.drop_drop, List.drop_eq_getElem_cons hkl, List.drop_drop]
      have hxb := HB.out (st.drop r)[k] (List.mem_of_mem_drop (List.getElem_mem _))
      rw [List.length_drop] at hxb
      generalize (st.drop r)[k] = x at *
      have hx1 : 0 ≤ x := hxb.1
      have hx2 : x ≤ 1000000 := by omega
      have HX := Lib.hid hx; clear hx hxb
      go_wp2
      all_goals
       go_roundg (gk - 1)
       case rel => exact ⟨k + 1, _, by omega, by omega, by omega, by
        have hm := HK.out
        rw [HX.out, List.foldl_cons] at hm
        first
         | (rw [Int.max_eq_left (by assumption)] at hm; exact hm)
         | (rw [Int.max_eq_right (by omega)] at hm; exact hm), rfl, by go_num, rfl⟩
       case measure => omega
     ·obtain rfl : z = G := by
       have hm := HK.out
       rw [List.drop_eq_nil_of_le (by omega)] at hm
       exact hm
      go_wp2
      go_region_law (first
       | (refine step_push _ rfl (.tmp 47) (.tmp 56) 26 rfl w.heap.size 3 i0 (.int .i64 0) 1 8 Tryz.underlying26 hi0 hz0 hzz hz2' rfl (by decide) S r sc ((st.map (Value.int .i64)).take (r * 1)) (by simp [Act.eval]) ((own_take HO.out r hr2).alloc _).drew wr.heap.size #[.int .i64 (num es[i].op z)] 3 (0, 0) (by simp [Act.eval]) (heap_new_drew _ _) rfl (one_int _ _) (by unfold maxLen; omega) (by omega) (by have := hbel.size; simp; omega) ?_; intro S' sc' w2 hown2 hgr2 hat2)
       | (go_simp; refine (HF.out _ _ _ hz1 hz2).mono ?_; rintro e w' ⟨rfl, rfl⟩))
      go_wp2
      go_roundg i
      case rel => exact ⟨S', sc', st.take r ++ [num es[i].op z], by omega, HL, rfl, by simp [Nat.min_eq_left hr2], by
       show World.ownsRow _ _ _ _ _ _ _
       simpa [Nat.min_eq_left hr2, List.map_take] using hown2, (hbel.alloc _).drew.push ((own_take HO.out r hr2).alloc _).drew hgr2⟩
      case measure => omega
 ·have hfin : levelsF num es = 0 := by unfold levelsF; rw [if_neg he]
  have HFin := Lib.hid hfin; clear hfin
  have hd : (endF es 0 != es.length) = true := by simpa using he
  have Hd2 : Hid ((endF es 0 == (es.length : Int)) = false) := by show (endF es 0 == (es.length : Int)) = false; simpa using he
  clear he
  go_enter Tryz.func182, Tryz.ntmps182
  go_wp2_with (go_at_call 151; refine (end_any _ _ _ es _ _ H.out hl).mono ?_; rintro e w' ⟨rfl, rfl⟩)
  go_ret2
  refine ⟨?_, Bel.refl _⟩
  rw [HFin.out, Hd2.out]; rfl

end Go.Proofs.YtgemlgpjbclonaaGreatDoor

/- Contracts of Depth, Nest and Valid of the program. -/
namespace Go.Proofs.YtgemlgpjbclonaaGreatDoor
open Go.RowKit

theorem depth_any (A : Option Addr) (n c : Nat) (es : List Term) (w : World) (h : TermsR w A n es) (hl : n ≤ 1000000) :
  Calls Tryz.prog 170 #[.slice A n c] w fun e w' => e = .returned (.int .i64 (depthF es)) ∧ Bel w w' := by
 have H := Lib.hid h; clear h
 go_enter Tryz.func170, Tryz.ntmps170
 go_wp2_with (go_at_call 182; refine (levels_any 183 depthNum (fun op g w h0 h1 => depthNum_any op g w h0 h1) (fun _ _ _ => by kernel_rfl) depthNum_ok _ _ _ es _ H.out hl).mono ?_; rintro e w1 ⟨rfl, hb⟩)
 go_ret
 exact ⟨rfl, hb⟩

theorem nest_any (A : Option Addr) (n c : Nat) (es : List Term) (w : World) (h : TermsR w A n es) (hl : n ≤ 1000000) :
  Calls Tryz.prog 171 #[.slice A n c] w fun e w' => e = .returned (.int .i64 (nestF es)) ∧ Bel w w' := by
 have H := Lib.hid h; clear h
 go_enter Tryz.func171, Tryz.ntmps171
 go_wp2_with (go_at_call 182; refine (levels_any 184 nestNum (fun op g w h0 h1 => nestNum_any op g w h0 h1) (fun _ _ _ => by kernel_rfl) nestNum_ok _ _ _ es _ H.out hl).mono ?_; rintro e w1 ⟨rfl, hb⟩)
 go_ret
 exact ⟨rfl, hb⟩

set_option maxHeartbeats 400000 in
theorem valid_any (A : Option Addr) (n c : Nat) (es : List Term) (vars : Int) (w : World) (h : TermsR w A n es) (hl : n ≤ 1000000) :
  Calls Tryz.prog 147 #[.slice A n c, .int .i64 vars] w fun e w' => e = .returned (.bool (validF es vars)) ∧ Bel w w' := by
 obtain rfl := h.1
 have H := Lib.hid h; clear h
 by_cases h200 : 200 < es.length
 ·have HF : Hid (validF es vars = false) := by
   show validF es vars = false
   unfold validF
   rw [show decide (es.length ≤ 200) = false by simp; omega]; rfl
  have hd : decide (200 < es.length) = true := by simpa using h200
  go_enter Tryz.func147, Tryz.ntmps147
  go_wp2
  go_ret
  exact ⟨ret_bool HF.out.symm, Bel.refl _⟩
 ·have hd : decide (200 < es.length) = false := by simpa using h200
  by_cases he : endF es 0 = es.length
  ·have hd2 : (endF es 0 != (es.length : Int)) = false := by simpa using he
   have HF : Hid (validF es vars = (es.all (argF · vars) && decide (depthF es ≤ 24) && decide (nestF es ≤ 2))) := by
    show validF es vars = _
    unfold validF
    rw [show decide (es.length ≤ 200) = true by simp; omega, show (endF es 0 == (es.length : Int)) = true by simpa using he]
    rfl
   clear he
   go_enter Tryz.func147, Tryz.ntmps147
   go_wp2_with (go_at_call 151; refine (end_any _ _ _ es _ _ H.out hl).mono ?_; rintro e w' ⟨rfl, rfl⟩)
   go_loopg [19] es.length (fun g iv wr => ∃ k : Nat, k + g = es.length ∧ iv = .int .i64 k ∧ Hid (es.all (argF · vars) = (es.drop k).all (argF · vars)) ∧ Bel w wr)
   case atStart => exact ⟨0, by omega, rfl, rfl, Bel.refl _⟩
   case round =>
    obtain ⟨k, hk, rfl, HK, hbel⟩ := hrel
    by_cases hlt : k < es.length
    ·obtain ⟨b, o, rfl, hb, hc1, hc2⟩ := (H.out.keep hbel).at_ k hlt
     have hstep : Hid ((es.drop k).all (argF · vars) = (argF es[k] vars && (es.drop (k + 1)).all (argF · vars))) := by
      show (es.drop k).all (argF · vars) = _
      rw [List.drop_eq_getElem_cons hlt]; rfl
     cases harg : argF es[k] vars with
     | true =>
      go_wp2_with (go_at_call 169; refine (argument_any es[k] _ _).mono ?_; rintro e w2 ⟨rfl, hb2⟩; rw [harg])
      go_roundg (gk - 1)
      case rel => exact ⟨k + 1, by omega, by go_num, by show _ = _; rw [HK.out, hstep.out, harg]; rfl, (hbel.alloc _).trans hb2⟩
      case measure => omega
     | false =>
      go_wp2_with (go_at_call 169; refine (argument_any es[k] _ _).mono ?_; rintro e w2 ⟨rfl, hb2⟩; rw [harg])
      go_ret
      refine ⟨ret_bool ?_, (hbel.alloc _).trans hb2⟩
      rw [HF.out, HK.out, hstep.out, harg]; rfl
    ·have HF2 : Hid (validF es vars = (decide (depthF es ≤ 24) && decide (nestF es ≤ 2))) := by
      show validF es vars = _
      rw [HF.out, HK.out, List.drop_eq_nil_of_le (by omega)]; rfl
     clear HF
     by_cases h24 : depthF es ≤ 24
     ·go_wp2_with (first
       | (go_at_call 170; refine (depth_any _ _ _ es _ (H.out.keep hbel) hl).mono ?_; rintro e w2 ⟨rfl, hb2⟩)
       | (go_at_call 171; refine (nest_any _ _ _ es _ (H.out.keep (hbel.trans hb2)) hl).mono ?_; rintro e w3 ⟨rfl, hb3⟩))
      go_ret
      refine ⟨ret_bool ?_, (hbel.trans hb2).trans hb3⟩
      rw [HF2.out, show decide (depthF es ≤ 24) = true by simpa using h24]; rfl
     ·have hd3 : decide (depthF es ≤ 24) = false := by simpa using h24
      go_wp2_with (go_at_call 170; refine (depth_any _ _ _ es _ (H.out.keep hbel) hl).mono ?_; rintro e w2 ⟨rfl, hb2⟩)
      go_ret
      refine ⟨ret_bool ?_, hbel.trans hb2⟩
      rw [HF2.out, hd3]; rfl
  ·have hd2 : (endF es 0 != (es.length : Int)) = true := by simpa using he
   have HF : Hid (validF es vars = false) := by
    show validF es vars = false
    unfold validF
    rw [show (endF es 0 == (es.length : Int)) = false by simpa using he]; simp
   clear he
   go_enter Tryz.func147, Tryz.ntmps147
   go_wp2_with (go_at_call 151; refine (end_any _ _ _ es _ _ H.out hl).mono ?_; rintro e w' ⟨rfl, rfl⟩)
   go_ret
   exact ⟨ret_bool HF.out.symm, Bel.refl _⟩
end Go.Proofs.YtgemlgpjbclonaaGreatDoor

