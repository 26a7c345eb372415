/- Contracts of the small functions of the reference's Verify. -/
import Derived.Test.YtnhhedecaejgcaaP12r
import Derived.Test.YtnhhedecaejgcaaBlk
import Derived.Test.YtnhhedecaejgcaaW12b
namespace Go.Proofs.Ytnhhedecaejgcaa
open Go.RowKit

theorem refIn_any (v lo hi : Int) (w : World) : Calls Try.prog 60 #[.int .i64 v, .int .i64 lo, .int .i64 hi] w fun e w' => e = .returned (.bool (decide (lo ≤ v ∧ v ≤ hi))) ∧ w = w' := by
  go_enter Try.func60, Try.ntmps60
  go_wp2
  all_goals
    go_ret
    refine ⟨ret_bool ?_, rfl⟩
    rw [Bool.eq_iff_iff]; simp; omega

set_option maxHeartbeats 1000000 in
theorem refNear_any (x : Term) (w : World) : Calls Try.prog 51 #[.agg #[.int .i64 x.op, .int .i64 x.arg]] w fun e w' => e = .returned (.bool (nearI x)) ∧ Bel w w' := by
  obtain ⟨op, arg⟩ := x
  go_enter Try.func51, Try.ntmps51
  go_wp2_with (go_at_call 60; refine (refIn_any _ _ _ _).mono ?_; rintro e w' ⟨rfl, rfl⟩)
  all_goals
    go_ret
    refine ⟨ret_bool ?_, (Bel.refl _).alloc _⟩
    (try simp only [beq_iff_eq, beq_eq_false_iff_ne, ne_eq] at *)
    unfold nearI
    rw [Bool.eq_iff_iff]
    simp [*]

set_option maxHeartbeats 2000000 in
theorem permitted_any (x : Term) (vars : Int) (w : World) : Calls Try.prog 50 #[.agg #[.int .i64 x.op, .int .i64 x.arg], .int .i64 vars] w fun e w' => e = .returned (.bool (permF x vars)) ∧ Bel w w' := by
  obtain ⟨op, arg⟩ := x
  go_enter Try.func50, Try.ntmps50
  go_wp2_with (first
    | (go_at_call 60; refine (refIn_any _ _ _ _).mono ?_; rintro e w' ⟨rfl, rfl⟩)
    | (go_at_call 18; refine (refAggregate_any _ _).mono ?_; rintro e w' ⟨rfl, rfl⟩))
  all_goals
    go_ret
    refine ⟨ret_bool ?_, (Bel.refl _).alloc _⟩
    (try simp only [beq_iff_eq, beq_eq_false_iff_ne, ne_eq] at *)
    unfold permF
    simp [*]
  all_goals first | omega | (rw [Bool.eq_iff_iff]; simp; omega)

theorem wants_any (op : Int) (w : World) : Calls Try.prog 52 #[.int .i64 op] w fun e w' => e = .returned (.int .i64 (wantsF op)) ∧ w = w' := by
  go_enter Try.func52, Try.ntmps52
  go_wp2
  all_goals
    go_ret
    refine ⟨ret_int ?_, rfl⟩
    (try simp only [beq_iff_eq, beq_eq_false_iff_ne, ne_eq] at *)
    unfold wantsF
    simp [*]

theorem lastP_get {op : List Int} (h : 0 < op.length) : op[op.length - 1]? = some (lastP op) := by
  unfold lastP
  rw [← List.getLast?_eq_getElem?]
  cases op with
  | nil => simp at h
  | cons x l => rfl

set_option maxRecDepth 100000 in
set_option maxHeartbeats 2000000 in
theorem refLoop_any (L : Option Addr) (n c : Nat) (l : List Term) (i : Nat) (O : Option Addr) (m oc : Nat) (op : List Int) (w : World) (h : TermsR w L n l) (hO : IntsR w O m op) (hn : n ≤ 1000000) (hi : i < n) (ho : ∀ e ∈ op, 0 ≤ e ∧ e < l.length) (hm : m ≤ 1000000) :
    Calls Try.prog 53 #[.slice L n c, .int .i64 i, .slice O m oc] w fun e w' => e = .returned (.bool (loopRF l i op)) ∧ w = w' := by
  obtain rfl := h.1
  obtain rfl := hO.1
  obtain ⟨b, o, rfl, hb, k1, k2⟩ := h.at_ i hi
  have HI := Lib.hid (insAt_get hi)
  have HO := Lib.hid ho; clear ho
  have H := Lib.hid h; clear h
  have H2 := Lib.hid hO; clear hO
  have HF : Hid (loopRF l i op = (decide ((i : Int) < l[i].arg) && decide (l[i].arg < l.length) && decide ((insAt l l[i].arg).op = 10) && decide (op.length ≠ 2) && (op.isEmpty || decide (l[i].arg < (insAt l (lastP op)).arg)))) := by
    show loopRF l i op = _
    unfold loopRF; rw [HI.out]
  generalize l[i].arg = a at *
  by_cases h1 : a ≤ (i : Int)
  · have hd1 : decide (a ≤ (i : Int)) = true := by simpa using h1
    go_enter Try.func53, Try.ntmps53
    go_wp2
    go_ret
    refine ⟨ret_bool ?_, rfl⟩
    rw [HF.out, show decide ((i : Int) < a) = false by simp; omega]; rfl
  have hd1 : decide (a ≤ (i : Int)) = false := by simpa using h1
  by_cases h2 : (l.length : Int) ≤ a
  · have hd2 : decide ((l.length : Int) ≤ a) = true := by simpa using h2
    go_enter Try.func53, Try.ntmps53
    go_wp2
    go_ret
    refine ⟨ret_bool ?_, rfl⟩
    rw [HF.out, show decide (a < (l.length : Int)) = false by simp; omega]; simp
  have hd2 : decide ((l.length : Int) ≤ a) = false := by simpa using h2
  obtain ⟨k, rfl⟩ := Int.eq_ofNat_of_zero_le (show 0 ≤ a by omega)
  have hk : k < l.length := by omega
  obtain ⟨b', o', e', _, q1, q2⟩ := H.out.at_ k hk
  obtain ⟨rfl, rfl⟩ : b = b' ∧ o = o' := by simpa using e'
  clear e'
  have HIk := Lib.hid (insAt_get hk)
  have hd1' : decide (k ≤ i) = false := by simp; omega
  have hd2' : decide (l.length ≤ k) = false := by simp; omega
  by_cases h10 : l[k].op = 10
  · have h10b : (l[k].op != 10) = false := by simp [h10]
    by_cases h3 : op.length = 2
    · have hd3 : ((op.length : Int) == 2) = true := by simp; omega
      go_enter Try.func53, Try.ntmps53
      go_wp2
      go_ret
      refine ⟨ret_bool ?_, rfl⟩
      rw [HF.out, show decide (op.length ≠ 2) = false by simpa using h3]; simp
    have hd3 : ((op.length : Int) == 2) = false := by rw [beq_eq_false_iff_ne]; omega
    have HF2 : Hid (loopRF l i op = (op.isEmpty || decide ((k : Int) < (insAt l (lastP op)).arg))) := by
      show loopRF l i op = _
      rw [HF.out, HIk.out, show decide ((i : Int) < (k : Int)) = true by simp; omega, show decide ((k : Int) < (l.length : Int)) = true by simp; omega, show decide (l[k].op = 10) = true by simpa using h10, show decide (op.length ≠ 2) = true by simpa using h3]
      rfl
    clear HF h1 h2 h3 h10
    rcases Nat.eq_zero_or_pos op.length with h0 | h0
    · obtain rfl : op = [] := List.eq_nil_of_length_eq_zero h0
      clear h0
      go_enter Try.func53, Try.ntmps53
      go_wp2
      go_ret
      exact ⟨ret_bool HF2.out.symm, rfl⟩
    · have hlast := lastP_get h0
      obtain ⟨he0, he1⟩ := HO.out (lastP op) (by have := (List.getElem?_eq_some_iff.1 hlast).2; rw [← this]; exact List.getElem_mem _)
      obtain ⟨m, hm'⟩ : ∃ m, op.length = m + 1 := ⟨op.length - 1, by omega⟩
      obtain ⟨pb, po, rfl, hpb, hpc⟩ := IntsR.at_ H2.out (op.length - 1) (by omega)
      rw [show op[op.length - 1] = lastP op from (List.getElem?_eq_some_iff.1 hlast).2] at hpc
      obtain ⟨z, hz⟩ := Int.eq_ofNat_of_zero_le he0
      rw [hz] at hpc
      have hzl : z < l.length := by omega
      obtain ⟨b', o', e', _, r1, r2⟩ := H.out.at_ z hzl
      obtain ⟨rfl, rfl⟩ : b = b' ∧ o = o' := by simpa using e'
      have HZ : Hid ((insAt l (lastP op)).arg = l[z].arg) := by show (insAt l (lastP op)).arg = _; rw [hz, insAt_get hzl]
      have hemp : Hid (op.isEmpty = false) := by show op.isEmpty = false; cases op with | nil => simp at h0 | cons => rfl
      rw [hm'] at hpc hm hd3 ⊢
      simp only [Nat.add_sub_cancel] at hpc
      clear hlast e' he0 he1 h0 hz
      have hd5 : ((m : Int) + 1 == 0) = false := by rw [beq_eq_false_iff_ne]; omega
      go_enter Try.func53, Try.ntmps53
      go_wp2
      go_ret
      refine ⟨ret_bool ?_, rfl⟩
      rw [HF2.out, hemp.out, HZ.out]; rfl
  · have h10b : (l[k].op != 10) = true := by simp [h10]
    go_enter Try.func53, Try.ntmps53
    go_wp2
    go_ret
    refine ⟨ret_bool ?_, rfl⟩
    rw [HF.out, HIk.out, show decide (l[k].op = 10) = false by simpa using h10]; simp

/-- The last open loop, and where it ends. -/
theorem last_facts {w : World} {O : Option Addr} {op : List Int} {l : List Term} (hO : IntsR w O op.length op) (ho : ∀ e ∈ op, 0 ≤ e ∧ e < l.length) (h0 : 0 < op.length) :
    ∃ (m z pb po : Nat), op.length = m + 1 ∧ O = some ⟨pb, po, none⟩ ∧ pb < w.heap.size ∧ w.cell? ⟨pb, po + m, none⟩ = some (.int .i64 (z : Int)) ∧ lastP op = (z : Int) ∧ z < l.length ∧ op.isEmpty = false := by
  have hlast := lastP_get h0
  obtain ⟨he0, he1⟩ := ho (lastP op) (by have := (List.getElem?_eq_some_iff.1 hlast).2; rw [← this]; exact List.getElem_mem _)
  obtain ⟨m, hm'⟩ : ∃ m, op.length = m + 1 := ⟨op.length - 1, by omega⟩
  obtain ⟨pb, po, rfl, hpb, hpc⟩ := IntsR.at_ hO (op.length - 1) (by omega)
  rw [show op[op.length - 1] = lastP op from (List.getElem?_eq_some_iff.1 hlast).2] at hpc
  obtain ⟨z, hz⟩ := Int.eq_ofNat_of_zero_le he0
  refine ⟨m, z, pb, po, hm', rfl, hpb, ?_, hz, by omega, by cases op with | nil => simp at h0 | cons => rfl⟩
  rw [hz, show op.length - 1 = m by omega] at hpc
  exact hpc

set_option maxRecDepth 100000 in
set_option maxHeartbeats 2000000 in
theorem refJump_any (L : Option Addr) (n c : Nat) (l : List Term) (i : Nat) (O : Option Addr) (m oc : Nat) (op : List Int) (w : World) (h : TermsR w L n l) (hO : IntsR w O m op) (hn : n ≤ 1000000) (hi : i < n) (ho : ∀ e ∈ op, 0 ≤ e ∧ e < l.length) (hm : m ≤ 1000000) :
    Calls Try.prog 54 #[.slice L n c, .int .i64 i, .slice O m oc] w fun e w' => e = .returned (.bool (jumpRF l i op)) ∧ w = w' := by
  obtain rfl := h.1
  obtain rfl := hO.1
  obtain ⟨b, o, rfl, hb, k1, k2⟩ := h.at_ i hi
  have HI := Lib.hid (insAt_get hi)
  have H := Lib.hid h; clear h
  have HF : Hid (jumpRF l i op = (decide ((i : Int) < l[i].arg) && decide (l[i].arg ≤ l.length) && (op.isEmpty || decide (l[i].arg ≤ (insAt l (lastP op)).arg)) && clearF l i l[i].arg)) := by
    show jumpRF l i op = _
    unfold jumpRF; rw [HI.out]
  generalize l[i].arg = a at *
  by_cases h1 : a ≤ (i : Int)
  · have hd1 : decide (a ≤ (i : Int)) = true := by simpa using h1
    clear hO ho
    go_enter Try.func54, Try.ntmps54
    go_wp2
    go_ret
    refine ⟨ret_bool ?_, rfl⟩
    rw [HF.out, show decide ((i : Int) < a) = false by simp; omega]; rfl
  have hd1 : decide (a ≤ (i : Int)) = false := by simpa using h1
  by_cases h2 : (l.length : Int) < a
  · have hd2 : decide ((l.length : Int) < a) = true := by simpa using h2
    clear hO ho
    go_enter Try.func54, Try.ntmps54
    go_wp2
    go_ret
    refine ⟨ret_bool ?_, rfl⟩
    rw [HF.out, show decide (a ≤ (l.length : Int)) = false by simp; omega]; simp
  have hd2 : decide ((l.length : Int) < a) = false := by simpa using h2
  obtain ⟨k, rfl⟩ := Int.eq_ofNat_of_zero_le (show 0 ≤ a by omega)
  have hkl : k ≤ l.length := by omega
  have hik : i < k := by omega
  have hd1' : decide (k ≤ i) = false := by simp; omega
  have hd2' : decide (l.length < k) = false := by simp; omega
  have hlenq := Lib.hid (show ((l.drop (i + 1)).take (k - (i + 1))).length = k - (i + 1) by rw [List.length_take, List.length_drop]; omega)
  have HC : Hid (clearF l i (k : Int) = ((l.drop (i + 1)).take (k - (i + 1))).all fun y => !(decide (y.op = 9) && decide ((k : Int) ≤ y.arg))) := by
    show clearF l i (k : Int) = _
    unfold clearF
    rw [show ((i : Int) + 1).toNat = i + 1 by omega, show ((k : Int) - ((i : Int) + 1)).toNat = k - (i + 1) by omega]
  have hfin : ∀ (hex : jumpRF l i op = clearF l i (k : Int)), Hid (jumpRF l i op = ((l.drop (i + 1)).take (k - (i + 1))).all fun y => !(decide (y.op = 9) && decide ((k : Int) ≤ y.arg))) := fun hex => by
    show jumpRF l i op = _
    rw [hex, HC.out]
  have Hqi : Hid (∀ j (hj : j < k - (i + 1)), ∃ t, ((l.drop (i + 1)).take (k - (i + 1)))[j]? = some t ∧ w.cell? ⟨b, o + (i + 1 + j) * 2, none⟩ = some (.int .i64 t.op) ∧ w.cell? ⟨b, o + (i + 1 + j) * 2 + 1, none⟩ = some (.int .i64 t.arg)) := by
    intro j hj
    have hjl : i + 1 + j < l.length := by omega
    obtain ⟨b', o', e', _, q1, q2⟩ := H.out.at_ (i + 1 + j) hjl
    obtain ⟨rfl, rfl⟩ : b = b' ∧ o = o' := by simpa using e'
    refine ⟨l[i + 1 + j], ?_, q1, q2⟩
    rw [List.getElem?_take, if_pos hj, List.getElem?_drop, List.getElem?_eq_getElem hjl]
  generalize hq : (l.drop (i + 1)).take (k - (i + 1)) = q at *
  have Hq := Lib.hid hq; clear hq
  have HFin := Lib.hid hfin; clear hfin
  rcases Nat.eq_zero_or_pos op.length with h0 | h0
  · obtain rfl : op = [] := List.eq_nil_of_length_eq_zero h0
    have HJ := HFin.out (by rw [HF.out, show decide ((i : Int) < (k : Int)) = true by simp; omega, show decide ((k : Int) ≤ (l.length : Int)) = true by simp; omega]; rfl)
    clear h0 hO ho HF h1 h2
    go_enter Try.func54, Try.ntmps54
    go_wp2
    go_loopg [8] (k - (i + 1)) (fun g iv wr => ∃ j : Nat, j + g = k - (i + 1) ∧ iv = .int .i64 ((i + 1 + j : Nat) : Int) ∧ Hid (jumpRF l i [] = (q.drop j).all fun y => !(decide (y.op = 9) && decide ((k : Int) ≤ y.arg))) ∧ w = wr)
    case atStart => exact ⟨0, by omega, rfl, HJ, rfl⟩
    case round =>
      obtain ⟨j, hj, rfl, HK, rfl⟩ := hrel
      by_cases hlt : j < k - (i + 1)
      · obtain ⟨t, ht, q1, q2⟩ := Hqi.out j hlt
        have HKs : Hid (((q.drop j).all fun y => !(decide (y.op = 9) && decide ((k : Int) ≤ y.arg))) = ((!(decide (t.op = 9) && decide ((k : Int) ≤ t.arg))) && (q.drop (j + 1)).all fun y => !(decide (y.op = 9) && decide ((k : Int) ≤ y.arg)))) := by
          show (q.drop j).all _ = _
          obtain ⟨hjq, rfl⟩ := List.getElem?_eq_some_iff.1 ht
          rw [List.drop_eq_getElem_cons hjq]; rfl
        have hin : i + 1 + j < l.length := by omega
        clear ht
        by_cases h9 : t.op = 9
        · have h9b : (t.op == 9) = true := by simpa using h9
          by_cases hge : (k : Int) ≤ t.arg
          · have hgb : decide ((k : Int) ≤ t.arg) = true := by simpa using hge
            go_wp2_with fail
            go_ret
            refine ⟨ret_bool ?_, rfl⟩
            rw [HK.out, HKs.out, hgb, show decide (t.op = 9) = true by simpa using h9]; rfl
          · have hgb : decide ((k : Int) ≤ t.arg) = false := by simpa using hge
            go_wp2_with fail
            go_roundg (gk - 1)
            case rel => exact ⟨j + 1, by omega, by go_num, by show jumpRF l i [] = _; rw [HK.out, HKs.out, hgb]; simp, rfl⟩
            case measure => omega
        · have h9b : (t.op == 9) = false := by simpa using h9
          go_wp2_with fail
          go_roundg (gk - 1)
          case rel => exact ⟨j + 1, by omega, by go_num, by show jumpRF l i [] = _; rw [HK.out, HKs.out, show decide (t.op = 9) = false by simpa using h9]; simp, rfl⟩
          case measure => omega
      · go_wp2_with fail
        go_ret
        refine ⟨ret_bool ?_, rfl⟩
        rw [HK.out, List.drop_eq_nil_of_le (by rw [hlenq.out]; omega)]; rfl
  · obtain ⟨m', z, pb, po, hm', rfl, hpb, hpc, hz, hzl, hemp⟩ := last_facts hO ho h0
    obtain ⟨b', o', e', _, r1, r2⟩ := H.out.at_ z hzl
    obtain ⟨rfl, rfl⟩ : b = b' ∧ o = o' := by simpa using e'
    have HZ : Hid ((insAt l (lastP op)).arg = l[z].arg) := by show (insAt l (lastP op)).arg = _; rw [hz, insAt_get hzl]
    have Hemp := Lib.hid hemp
    rw [hm'] at hm ⊢
    have hd5 : decide (0 < (m' : Int) + 1) = true := by simp <;> omega
    by_cases h3 : l[z].arg < (k : Int)
    · have hd3 : decide (l[z].arg < (k : Int)) = true := by simpa using h3
      have HE : Hid (jumpRF l i op = false) := by
        show jumpRF l i op = false
        rw [HF.out, Hemp.out, HZ.out, show decide ((k : Int) ≤ l[z].arg) = false by simp; omega]; simp
      clear e' h0 hz hO ho hm' hemp
      go_enter Try.func54, Try.ntmps54
      go_wp2
      go_ret
      exact ⟨ret_bool HE.out.symm, rfl⟩
    · have hd3 : decide (l[z].arg < (k : Int)) = false := by simpa using h3
      have HJ := HFin.out (by rw [HF.out, Hemp.out, HZ.out, show decide ((i : Int) < (k : Int)) = true by simp; omega, show decide ((k : Int) ≤ (l.length : Int)) = true by simp; omega, show decide ((k : Int) ≤ l[z].arg) = true by simp; omega]; rfl)
      clear e' h0 hz hO ho hm' hemp HF h1 h2 h3
      go_enter Try.func54, Try.ntmps54
      go_wp2
      go_loopg [8] (k - (i + 1)) (fun g iv wr => ∃ j : Nat, j + g = k - (i + 1) ∧ iv = .int .i64 ((i + 1 + j : Nat) : Int) ∧ Hid (jumpRF l i op = (q.drop j).all fun y => !(decide (y.op = 9) && decide ((k : Int) ≤ y.arg))) ∧ w = wr)
      case atStart => exact ⟨0, by omega, rfl, HJ, rfl⟩
      case round =>
        obtain ⟨j, hj, rfl, HK, rfl⟩ := hrel
        by_cases hlt : j < k - (i + 1)
        · obtain ⟨t, ht, q1, q2⟩ := Hqi.out j hlt
          have HKs : Hid (((q.drop j).all fun y => !(decide (y.op = 9) && decide ((k : Int) ≤ y.arg))) = ((!(decide (t.op = 9) && decide ((k : Int) ≤ t.arg))) && (q.drop (j + 1)).all fun y => !(decide (y.op = 9) && decide ((k : Int) ≤ y.arg)))) := by
            show (q.drop j).all _ = _
            obtain ⟨hjq, rfl⟩ := List.getElem?_eq_some_iff.1 ht
            rw [List.drop_eq_getElem_cons hjq]; rfl
          have hin : i + 1 + j < l.length := by omega
          clear ht
          by_cases h9 : t.op = 9
          · have h9b : (t.op == 9) = true := by simpa using h9
            by_cases hge : (k : Int) ≤ t.arg
            · have hgb : decide ((k : Int) ≤ t.arg) = true := by simpa using hge
              go_wp2_with fail
              go_ret
              refine ⟨ret_bool ?_, rfl⟩
              rw [HK.out, HKs.out, hgb, show decide (t.op = 9) = true by simpa using h9]; rfl
            · have hgb : decide ((k : Int) ≤ t.arg) = false := by simpa using hge
              go_wp2_with fail
              go_roundg (gk - 1)
              case rel => exact ⟨j + 1, by omega, by go_num, by show jumpRF l i op = _; rw [HK.out, HKs.out, hgb]; simp, rfl⟩
              case measure => omega
          · have h9b : (t.op == 9) = false := by simpa using h9
            go_wp2_with fail
            go_roundg (gk - 1)
            case rel => exact ⟨j + 1, by omega, by go_num, by show jumpRF l i op = _; rw [HK.out, HKs.out, show decide (t.op = 9) = false by simpa using h9]; simp, rfl⟩
            case measure => omega
        · go_wp2_with fail
          go_ret
          refine ⟨ret_bool ?_, rfl⟩
          rw [HK.out, List.drop_eq_nil_of_le (by rw [hlenq.out]; omega)]; rfl

end Go.Proofs.Ytnhhedecaejgcaa
