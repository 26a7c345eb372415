/- Contracts of eachAllowed, nextAllowed and jumpAllowed. -/
import Derived.Test.YtnhhedecaejgcaaW12d
import Derived.Test.YtnhhedecaejgcaaW12b
namespace Go.Proofs.Ytnhhedecaejgcaa
open Go.RowKit

theorem run_loop1 (x y z : Int) (w : World) : (Instr.field 78 (.agg #[.int .i64 x, .int .i64 y, .int .i64 z]) 1).run Try.prog w = .ok (.int .i64 y) w := by kernel_rfl
theorem run_loop2 (x y z : Int) (w : World) : (Instr.field 78 (.agg #[.int .i64 x, .int .i64 y, .int .i64 z]) 2).run Try.prog w = .ok (.int .i64 z) w := by kernel_rfl

set_option maxRecDepth 100000 in
set_option maxHeartbeats 4000000 in
theorem eachAllowed_any {w0 : World} {B : Nat} {w : World} {L : Option Addr} {n c : Nat} {v : Int} {H : Option Addr} {hc : Nat} {hs : List Int} {O : Option Addr} {oc : Nat} {tr : List Tr} {most : Int} {l : List Term} (h : VerSt w0 B w L n c v H hc hs O oc tr most) (hT : TermsR w0 L n l) (hn : n ≤ 1000000) (i : Nat) (x : Term) :
    Calls Try.prog 46 #[.pointer (some ⟨B, 0, none⟩), .int .i64 i, .agg #[.int .i64 x.op, .int .i64 x.arg]] w fun e w' => e = .returned (.bool (eachF l tr i x)) ∧ Bel w w' := by
  obtain rfl := hT.1
  obtain ⟨op, arg⟩ := x
  have hlt := h.blk.lt
  have c24 := h.blk.cell 24 (v := .slice O tr.length oc) rfl
  have c0 := h.blk.cell 0 (v := .slice L l.length c) rfl
  have HT := Lib.hid (hT.keep h.bel); clear hT
  have HS := Lib.hid h; clear h
  by_cases h9 : op = 9
  · subst h9
    have HF : Hid (eachF l tr i ⟨9, arg⟩ = (decide ((i : Int) < arg) && decide (arg < l.length) && decide ((insAt l arg).op = 10) && decide (tr.length < 2) && decide (arg < (innerF tr l.length).2.1))) := by
      show eachF l tr i ⟨9, arg⟩ = _
      simp [eachF]
    by_cases h1 : arg ≤ (i : Int)
    · have hd1 : decide (arg ≤ (i : Int)) = true := by simpa using h1
      go_enter Try.func46, Try.ntmps46
      go_wp2
      go_quiet (fail)
      go_wp2
      go_ret
      refine ⟨ret_bool ?_, ((Bel.refl _).alloc _).drewN _⟩
      rw [HF.out, show decide ((i : Int) < arg) = false by simp; omega]; rfl
    · have hd1 : decide (arg ≤ (i : Int)) = false := by simpa using h1
      by_cases h2 : (l.length : Int) ≤ arg
      · have hd2 : decide ((l.length : Int) ≤ arg) = true := by simpa using h2
        go_enter Try.func46, Try.ntmps46
        go_wp2
        go_quiet (fail)
        go_wp2
        go_ret
        refine ⟨ret_bool ?_, ((Bel.refl _).alloc _).drewN _⟩
        rw [HF.out, show decide (arg < (l.length : Int)) = false by simp; omega]; simp
      · have hd2 : decide ((l.length : Int) ≤ arg) = false := by simpa using h2
        obtain ⟨a, rfl⟩ := Int.eq_ofNat_of_zero_le (show 0 ≤ arg by omega)
        have ha : a < l.length := by omega
        have hia : i < a := by omega
        obtain ⟨b, o, rfl, hb, k1, k2⟩ := HT.out.at_ a ha
        have HI := Lib.hid (insAt_get ha)
        have hd2' : decide (l.length ≤ a) = false := by simp; omega
        have hd1' : decide (a ≤ i) = false := by simp; omega
        by_cases h10 : l[a].op = 10
        · have h10b : (l[a].op != 10) = false := by simp [h10]
          have HF2 : Hid (eachF l tr i ⟨9, (a : Int)⟩ = (decide (tr.length < 2) && decide ((a : Int) < (innerF tr l.length).2.1))) := by
            show eachF l tr i ⟨9, (a : Int)⟩ = _
            rw [HF.out, HI.out, show decide ((i : Int) < (a : Int)) = true by simp; omega, show decide ((a : Int) < (l.length : Int)) = true by simp; omega, show decide (l[a].op = 10) = true by simpa using h10]
            simp
          clear HF HI h10 h1 h2
          by_cases h2 : tr.length < 2
          · have hd3 : decide ((tr.length : Int) < 2) = true := by simp; omega
            have HF3 : Hid (eachF l tr i ⟨9, (a : Int)⟩ = decide ((a : Int) < (innerF tr l.length).2.1)) := by
              show eachF l tr i ⟨9, (a : Int)⟩ = _
              rw [HF2.out, show decide (tr.length < 2) = true by simpa using h2]; rfl
            clear h2 HF2
            go_enter Try.func46, Try.ntmps46
            go_wp2
            go_quiet (fail)
            go_wp2
            have rf := run_loop1
            go_region_with (go_at_call 58; refine (innermost_any (HS.out.keep (((Bel.refl w).alloc (.cells #[.int .i64 9, .int .i64 (a : Int)] 40)).drewN _))).mono ?_; rintro e w2 ⟨rfl, hb2⟩; have q1 := hb2.cell (b := w.heap.size) (o := 1) (by simp); have q2 := hb2.size)
            all_goals
              go_wp2
              go_ret
              refine ⟨ret_bool ?_, (((Bel.refl _).alloc _).drewN _).trans hb2⟩
              rw [HF3.out]
          · have hd3 : decide ((tr.length : Int) < 2) = false := by simp; omega
            go_enter Try.func46, Try.ntmps46
            go_wp2
            go_quiet (fail)
            go_wp2
            go_quiet (fail)
            go_wp2
            go_ret
            refine ⟨ret_bool ?_, (((Bel.refl _).alloc _).drewN _).drewN _⟩
            rw [HF2.out, show decide (tr.length < 2) = false by simpa using h2]; rfl
        · have h10b : (l[a].op != 10) = true := by simp [h10]
          go_enter Try.func46, Try.ntmps46
          go_wp2
          go_quiet (fail)
          go_wp2
          go_ret
          refine ⟨ret_bool ?_, ((Bel.refl _).alloc _).drewN _⟩
          rw [HF.out, HI.out, show decide (l[a].op = 10) = false by simpa using h10]; simp
  · have hne : (op != 9) = true := by simpa using h9
    go_enter Try.func46, Try.ntmps46
    go_wp2
    go_ret
    exact ⟨ret_bool (by simp [eachF, h9]), (Bel.refl _).alloc _⟩

set_option maxRecDepth 100000 in
set_option maxHeartbeats 4000000 in
theorem nextAllowed_any {w0 : World} {B : Nat} {w : World} {L : Option Addr} {n c : Nat} {v : Int} {H : Option Addr} {hc : Nat} {hs : List Int} {O : Option Addr} {oc : Nat} {tr : List Tr} {most : Int} {l : List Term} (h : VerSt w0 B w L n c v H hc hs O oc tr most) (hn : l.length = n) (i : Int) (x : Term) (y : Int) (h0 : 0 ≤ (innerF tr n).2.2) (h1 : (innerF tr n).2.2 ≤ 1000000) :
    Calls Try.prog 47 #[.pointer (some ⟨B, 0, none⟩), .int .i64 i, .agg #[.int .i64 x.op, .int .i64 x.arg], .int .i64 y] w fun e w' => e = .returned (.bool (nextF l tr i x y)) ∧ Bel w w' := by
  obtain rfl := hn
  obtain ⟨op, arg⟩ := x
  have HS := Lib.hid (fun w' (k : Bel w w') => h.keep k); clear h
  by_cases h9 : op = 10
  · subst h9
    have HF : Hid (nextF l tr i ⟨10, arg⟩ y = (decide ((innerF tr l.length).2.1 = i) && decide (y = (innerF tr l.length).2.2 + 1))) := by
      show nextF l tr i ⟨10, arg⟩ y = _
      simp [nextF]
    have HB := Bel.refl w
    have rf := run_loop1
    have rf2 := run_loop2
    by_cases e : (innerF tr l.length).2.1 = i
    · have hd : ((innerF tr l.length).2.1 == i) = true := by simpa using e
      have E := Lib.hid e; clear e
      go_enter Try.func47, Try.ntmps47
      go_wp2_with fail
      refine (innermost_any (HS.out _ (HB.alloc _))).mono ?_
      rintro e w2 ⟨rfl, hb2⟩
      replace HB := (HB.alloc _).trans hb2
      clear hb2
      go_wp2_with fail
      refine (innermost_any (HS.out _ HB)).mono ?_
      rintro e w3 ⟨rfl, hb3⟩
      replace HB := HB.trans hb3
      clear hb3
      go_wp2_with fail
      go_ret
      refine ⟨ret_bool ?_, HB⟩
      rw [HF.out, E.out, Bool.eq_iff_iff]; simp
    · have hd : ((innerF tr l.length).2.1 == i) = false := by simpa using e
      have E := Lib.hid e; clear e
      go_enter Try.func47, Try.ntmps47
      go_wp2_with fail
      refine (innermost_any (HS.out _ (HB.alloc _))).mono ?_
      rintro e w2 ⟨rfl, hb2⟩
      replace HB := (HB.alloc _).trans hb2
      clear hb2
      go_wp2_with fail
      go_ret
      refine ⟨ret_bool ?_, HB⟩
      rw [HF.out, show decide ((innerF tr l.length).2.1 = i) = false by simpa using E.out]; rfl
  · have hne : (op != 10) = true := by simpa using h9
    go_enter Try.func47, Try.ntmps47
    go_wp2
    go_ret
    exact ⟨ret_bool (by simp [nextF, h9]), (Bel.refl _).alloc _⟩

end Go.Proofs.Ytnhhedecaejgcaa
