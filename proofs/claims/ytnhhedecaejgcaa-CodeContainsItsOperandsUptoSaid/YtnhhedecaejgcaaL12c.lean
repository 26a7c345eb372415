/- The walk of CodeContainsItsOperands. -/
import Derived.Test.YtnhhedecaejgcaaW12l
import Derived.Test.YtnhhedecaejgcaaP12o
namespace Go.Proofs.Ytnhhedecaejgcaa
open Go.RowKit

theorem term_info : (Try.prog.info? 37).map (fun i => (i.zero, i.size, i.bytes)) = some (some (.agg #[.int .i64 0, .int .i64 0]), 2, 16) := by kernel_rfl

def movP (d : Int) (is : List Term) (k : Nat) : List Term := (is.take k).map (movT d) ++ is.drop k
theorem movP_zero (d : Int) (is : List Term) : movP d is 0 = is := by simp [movP]
theorem movP_full (d : Int) (is : List Term) (k : Nat) (h : is.length ≤ k) : movP d is k = is.map (movT d) := by simp [movP, List.take_of_length_le h, List.drop_eq_nil_of_le h]
theorem movP_length (d : Int) (is : List Term) (k : Nat) : (movP d is k).length = is.length := by simp [movP]; omega
theorem movP_get (d : Int) (is : List Term) (k : Nat) (h : k < is.length) : (movP d is k)[k]? = some is[k] := by
  unfold movP
  rw [List.getElem?_append_right (by simp; omega)]
  simp [Nat.min_eq_left (Nat.le_of_lt h), h]
theorem movP_succ (d : Int) (is : List Term) (k : Nat) (h : k < is.length) : movP d is (k + 1) = (movP d is k).set k (movT d is[k]) := by
  unfold movP
  rw [List.set_append_right _ _ (by simp; omega), List.length_map, List.length_take, Nat.min_eq_left (Nat.le_of_lt h), Nat.sub_self, List.drop_eq_getElem_cons h, List.set_cons_zero, List.take_add_one, List.getElem?_eq_getElem h, List.map_append]
  simp

set_option maxRecDepth 100000 in
set_option maxHeartbeats 2000000 in
theorem moved_any (L : Option Addr) (n c : Nat) (is : List Term) (d : Nat) (w : World) (h : TermsR w L n is) (hl : n ≤ 100000) (hd : d ≤ 100000) (har : ∀ t ∈ is, -1073741824 ≤ t.arg ∧ t.arg ≤ 1073741824) :
    Calls Try.prog 19 #[.slice L n c, .int .i64 d] w (RetInstrs (is.map (movT d)) w) := by
  obtain rfl := h.1
  have H := Lib.hid h; clear h
  have HAR := Lib.hid har; clear har
  obtain ⟨i0, hi0, hz0, hz1, hz2⟩ := info_parts instr_info
  go_enter Try.func19, Try.ntmps19
  go_wp2_with (at_builtin; refine wpList_extend _ rfl (.const (.slice none 0 0)) (.tmp 7) 25 rfl w.heap.size 40 i0 (.agg #[.int .i64 0, .int .i64 0]) 2 16 Try.underlying25 hi0 hz0 hz1 hz2 rfl (by decide) none 0 0 [] (by simp [Act.eval]) (World.ownsRow_nil _ _ _ _) L is.length c (is.flatMap termCells) (by simp [Act.eval]) H.out.cells (termCells_one _) (by unfold maxLen; omega) (by omega) (Nat.le_refl _) ?_; intro R rc w1 hown hgr hat; have hb1 := (Bel.refl w).push (World.ownsRow_nil w w.heap.size 40 2) hgr; rw [Nat.zero_add, List.nil_append] at hown; rw [Nat.zero_add]; replace hown := Lib.hid hown; clear hgr hat)
  go_loopg [6] is.length (fun g iv wr => ∃ k : Nat, k + g = is.length ∧ iv = .int .i64 k ∧ Hid (wr.ownsRow w.heap.size 40 2 (.slice R is.length rc) is.length ((movP d is k).flatMap termCells)) ∧ Bel w wr)
  case atStart => exact ⟨0, by omega, rfl, by rw [movP_zero]; exact hown, hb1⟩
  case round =>
    clear hown hb1
    obtain ⟨k, hk, rfl, HO, hb⟩ := hrel
    by_cases hlt : k < is.length
    · obtain ⟨ha0, ha1⟩ := HAR.out is[k] (List.getElem_mem _)
      obtain ⟨e1, e2⟩ := termCells_at _ k _ (movP_get d is k hlt)
      obtain ⟨g, rfl, hg0, hgl, y1, y2⟩ := own_at HO.out e1
      obtain ⟨g', eg, _, _, y3, y4⟩ := own_at HO.out e2
      obtain rfl : g = g' := by simpa using eg
      have hst := (HO.out.stored (k * 2 + 1) (.int .i64 (is[k].arg + d))).1
      rw [termCells_set _ k _ (by rw [movP_length]; exact hlt)] at hst
      have hgk : (movP d is k)[k]'(by rw [movP_length]; exact hlt) = is[k] := by
        have := movP_get d is k hlt
        rw [List.getElem?_eq_getElem (by rw [movP_length]; exact hlt)] at this
        injection this
      rw [hgk] at hst
      have HS := Lib.hid (movP_succ d is k hlt)
      have HM : Hid (movT d is[k] = if is[k].op = 7 ∨ is[k].op = 8 ∨ is[k].op = 9 then ⟨is[k].op, is[k].arg + d⟩ else is[k]) := rfl
      have HGK := Lib.hid hgk
      replace hst := Lib.hid hst
      clear e1 e2 eg hgk
      generalize gt : is[k] = t at *
      have Gt := Lib.hid gt; clear gt
      obtain ⟨q, rfl⟩ : ∃ q, gk = q + 1 := ⟨gk - 1, by omega⟩
      by_cases hm : t.op = 7 ∨ t.op = 8 ∨ t.op = 9
      · have HF : Hid (movP d is (k + 1) = (movP d is k).set k ⟨t.op, t.arg + d⟩) := by show movP d is (k + 1) = _; rw [HS.out, HM.out, if_pos hm]
        have hcase : (t.op == 7) = true ∨ ((t.op == 7) = false ∧ (t.op == 8) = true) ∨ ((t.op == 7) = false ∧ (t.op == 8) = false ∧ (t.op == 9) = true) := by
          simp; omega
        clear hm
        rcases hcase with o1 | ⟨o1, o2⟩ | ⟨o1, o2, o3⟩
        all_goals
          go_wp2_with fail
          go_roundg q
          case rel => exact ⟨k + 1, by omega, by go_num, by rw [HF.out]; exact hst, hb.setCell hg0 _⟩
          case measure => omega
      · have HF : Hid (movP d is (k + 1) = movP d is k) := by
          show movP d is (k + 1) = _
          rw [HS.out, HM.out, if_neg hm, ← HGK.out]
          exact List.set_getElem_self _
        have o1 : (t.op == 7) = false := by simp; omega
        have o2 : (t.op == 8) = false := by simp; omega
        have o3 : (t.op == 9) = false := by simp; omega
        clear hm
        go_wp2_with fail
        go_roundg q
        case rel => exact ⟨k + 1, by omega, by go_num, by rw [HF.out]; exact HO, hb⟩
        case measure => omega
    · obtain rfl : k = is.length := by omega
      go_wp2_with fail
      go_ret
      refine ⟨R, rc, by rw [List.length_map]; rfl, ?_, hb⟩
      have := HO.out
      rw [movP_full _ _ _ (Nat.le_refl _)] at this
      rw [List.length_map]; exact this

end Go.Proofs.Ytnhhedecaejgcaa
