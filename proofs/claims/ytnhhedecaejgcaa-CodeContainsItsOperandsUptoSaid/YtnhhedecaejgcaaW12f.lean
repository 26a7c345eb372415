/- The contract of jumpAllowed. -/
import Derived.Test.YtnhhedecaejgcaaW12e
namespace Go.Proofs.Ytnhhedecaejgcaa
open Go.RowKit

set_option maxRecDepth 100000 in
set_option maxHeartbeats 4000000 in
theorem jumpAllowed_any {w0 : World} {B : Nat} {w : World} {L : Option Addr} {n c : Nat} {v : Int} {H : Option Addr} {hc : Nat} {hs : List Int} {O : Option Addr} {oc : Nat} {tr : List Tr} {most : Int} {l : List Term} (h : VerSt w0 B w L n c v H hc hs O oc tr most) (hT : TermsR w0 L n l) (hn : n ≤ 1000000) (hcap : n ≤ c) (i : Nat) (x : Term) (hin : (innerF tr n).2.1 ≤ n) :
    Calls Try.prog 48 #[.pointer (some ⟨B, 0, none⟩), .int .i64 i, .agg #[.int .i64 x.op, .int .i64 x.arg]] w fun e w' => e = .returned (.bool (jumpF l tr i x)) ∧ Bel w w' := by
  obtain rfl := hT.1
  obtain ⟨op, arg⟩ := x
  have hlt := h.blk.lt
  have c0 := h.blk.cell 0 (v := .slice L l.length c) rfl
  have HT := Lib.hid (fun w' (k : Bel w w') => hT.keep (h.bel.trans k)); clear hT
  have HS := Lib.hid h; clear h
  by_cases h78 : op = 7 ∨ op = 8
  · have e7 : (op != 7) = true → (op != 8) = false := by intro h; simp at h ⊢; omega
    have HE7 := Lib.hid e7; clear e7
    have HF : Hid (jumpF l tr i ⟨op, arg⟩ = (decide ((i : Int) < arg) && decide (arg ≤ (innerF tr l.length).2.1) && clearF l i arg)) := by
      show jumpF l tr i ⟨op, arg⟩ = _
      have : decide (op ≠ 7 ∧ op ≠ 8) = false := by simp; omega
      simp only [jumpF, this, Bool.false_or]
    by_cases h1 : arg ≤ (i : Int)
    · have hd1 : decide (arg ≤ (i : Int)) = true := by simpa using h1
      have HF2 : Hid (jumpF l tr i ⟨op, arg⟩ = false) := by
        show jumpF l tr i ⟨op, arg⟩ = _
        rw [HF.out, show decide ((i : Int) < arg) = false by simp; omega]; rfl
      rcases h78 with rfl | rfl
      all_goals
        go_enter Try.func48, Try.ntmps48
        go_wp2
        go_quiet (fail)
        go_wp2
        go_ret
        exact ⟨ret_bool HF2.out.symm, ((Bel.refl _).alloc _).drewN _⟩
    · have hd1 : decide (arg ≤ (i : Int)) = false := by simpa using h1
      obtain ⟨a, rfl⟩ := Int.eq_ofNat_of_zero_le (show 0 ≤ arg by omega)
      have hia : i < a := by omega
      have hd1' : decide (a ≤ i) = false := by simp; omega
      obtain ⟨I, hI⟩ : ∃ I, (innerF tr l.length).2.1 = I := ⟨_, rfl⟩
      rw [hI] at hin
      have rf := run_loop1
      obtain ⟨wb, hwb⟩ : ∃ wb, wb = w.alloc (.cells #[.int .i64 op, .int .i64 (a : Int)] 40) := ⟨_, rfl⟩
      have hbb : Bel w wb := by rw [hwb]; exact (Bel.refl w).alloc _
      have HBlk : Hid (Blk wb w.heap.size #[.int .i64 op, .int .i64 (a : Int)] 40) := by show Blk wb _ _ _; rw [hwb]; exact Blk.new _ _ _
      by_cases h2 : I < (a : Int)
      · have hd2 : decide (I < (a : Int)) = true := by simpa using h2
        have HF2 : Hid (jumpF l tr i ⟨op, (a : Int)⟩ = false) := by
          show jumpF l tr i ⟨op, (a : Int)⟩ = _
          rw [HF.out, hI, show decide ((a : Int) ≤ I) = false by simp; omega]; simp
        clear h1 h2
        have HI := Lib.hid hI; clear hI
        rcases h78 with rfl | rfl
        all_goals
          go_enter Try.func48, Try.ntmps48
          go_wp2
          go_region_with (go_at_call 58; refine (innermost_any (HS.out.keep (((Bel.refl w).alloc _).drew))).mono ?_; rintro e w2 ⟨rfl, hb2⟩; rw [HI.out]; have q1 := hb2.cell (b := w.heap.size) (o := 1) (by simp); have q2 := hb2.size)
          all_goals
            go_wp2
            go_ret
            exact ⟨ret_bool HF2.out.symm, (((Bel.refl _).alloc _).drew).trans hb2⟩
      · have hd2 : decide (I < (a : Int)) = false := by simpa using h2
        have hal : a ≤ l.length := by omega
        have HF2 : Hid (jumpF l tr i ⟨op, (a : Int)⟩ = clearF l i (a : Int)) := by
          show jumpF l tr i ⟨op, (a : Int)⟩ = _
          rw [HF.out, hI, show decide ((i : Int) < (a : Int)) = true by simp; omega, show decide ((a : Int) ≤ I) = true by simp; omega]; rfl
        obtain ⟨i0, hi0, hz0, hz1, hz2⟩ := info_parts instr_info
        obtain ⟨A2, hsub, hA2⟩ := run_sub (P := Try.prog) Try.underlying25 hi0 hz1 L l.length c (i + 1) a (by omega) hal hcap
        have HA2 := Lib.hid (fun w' (k : Bel w w') => hA2 TermAt w' l (HT.out w' k)); clear hA2
        clear h1 h2 hz0 hz1 hz2
        have HI := Lib.hid hI; clear hI
        have hw1 : IntKind.i64.wrap ((i : Int) + 1) = (i : Int) + 1 := by rw [IntWalk.i64_in _ (by omega)]
        replace hsub : ∀ w : World, (Instr.slice 25 (.slice L l.length c) (some (.int .i64 ((i : Int) + 1))) (some (.int .i64 (a : Int))) none).run Try.prog w = .ok (.slice A2 (a - (i + 1)) (c - (i + 1))) w := fun w => hsub .i64 .i64 w
        have HC : Hid (clearF l i (a : Int) = ((l.drop (i + 1)).take (a - (i + 1))).all fun y => !(decide (y.op = 9) && decide ((a : Int) ≤ y.arg))) := by
          show clearF l i (a : Int) = _
          unfold clearF
          rw [show ((i : Int) + 1).toNat = i + 1 by omega, show ((a : Int) - ((i : Int) + 1)).toNat = a - (i + 1) by omega]
        have hlen := Lib.hid (show ((l.drop (i + 1)).take (a - (i + 1))).length = a - (i + 1) by rw [List.length_take, List.length_drop]; omega)
        generalize hq : (l.drop (i + 1)).take (a - (i + 1)) = q at *
        have Hq := Lib.hid hq; clear hq
        rcases h78 with rfl | rfl
        all_goals
          go_enter Try.func48, Try.ntmps48
          go_upto_region 3 with fail
          go_cut [28] (fun s wc => s = .bool false ∧ Bel wb wc)
          case first =>
            go_region_with (go_at_call 58; refine (innermost_any (HS.out.keep (((Bel.refl w).alloc _).drew))).mono ?_; rintro e w2 ⟨rfl, hb2⟩; rw [HI.out]; have q1 := hb2.cell (b := w.heap.size) (o := 1) (by simp); have q2 := hb2.size)
            all_goals
              go_wp2_with fail
              go_meet
              exact ⟨rfl, by rw [hwb]; exact ((Bel.refl _).drew).trans hb2⟩
          case rest =>
            obtain ⟨rfl, hbc⟩ := hcut
            have hbw := hbb.trans hbc
            have y0 := (HBlk.out.keep hbc).cell 0 rfl
            have y1 := (HBlk.out.keep hbc).cell 1 rfl
            have y2 := (HBlk.out.keep hbc).lt
            have c0' := (hbw.cell (o := 0) hlt).trans c0
            have hltc : B < wc.heap.size := Nat.lt_of_lt_of_le hlt hbw.size
            go_wp2_with fail
            go_quiet (fail)
            clear hsub hw1
            go_wp2_with fail
            go_loopg [39] (a - (i + 1)) (fun g iv wr => ∃ k : Nat, k + g = a - (i + 1) ∧ iv = .int .i64 k ∧ Hid (clearF l i (a : Int) = (q.drop k).all fun y => !(decide (y.op = 9) && decide ((a : Int) ≤ y.arg))) ∧ Bel wb wr)
            case atStart => exact ⟨0, by omega, rfl, HC, hbc.drewN _⟩
            case round =>
              clear y0 y1 y2 c0' hltc hbw hbc
              obtain ⟨k, hk, rfl, HK, hbr⟩ := hrel
              by_cases hkl : k < a - (i + 1)
              · have hkq : k < q.length := by rw [hlen.out]; exact hkl
                obtain ⟨b, o, rfl, hb, k1, k2⟩ := TermsR.at_ (HA2.out wr (hbb.trans hbr)) k hkq
                have y0 := (HBlk.out.keep hbr).cell 0 rfl
                have y1 := (HBlk.out.keep hbr).cell 1 rfl
                have y2 := (HBlk.out.keep hbr).lt
                have HKs : Hid (((q.drop k).all fun y => !(decide (y.op = 9) && decide ((a : Int) ≤ y.arg))) = ((!(decide (q[k].op = 9) && decide ((a : Int) ≤ q[k].arg))) && (q.drop (k + 1)).all fun y => !(decide (y.op = 9) && decide ((a : Int) ≤ y.arg)))) := by
                  show (q.drop k).all _ = _
                  rw [List.drop_eq_getElem_cons hkq]; rfl
                by_cases h9 : q[k].op = 9
                · have h9b : (q[k].op == 9) = true := by simpa using h9
                  by_cases hge : (a : Int) ≤ q[k].arg
                  · have hgb : decide ((a : Int) ≤ q[k].arg) = true := by simpa using hge
                    go_wp2_with fail
                    go_ret
                    refine ⟨ret_bool ?_, (hbb.trans hbr).alloc _⟩
                    rw [HF2.out, HK.out, HKs.out, hgb, show decide (q[k].op = 9) = true by simpa using h9]; rfl
                  · have hgb : decide ((a : Int) ≤ q[k].arg) = false := by simpa using hge
                    go_wp2_with fail
                    go_roundg (gk - 1)
                    case rel => exact ⟨k + 1, by omega, by go_num, by show clearF l i (a : Int) = _; rw [HK.out, HKs.out, hgb]; simp, hbr.alloc _⟩
                    case measure => omega
                · have h9b : (q[k].op == 9) = false := by simpa using h9
                  go_wp2_with fail
                  go_roundg (gk - 1)
                  case rel => exact ⟨k + 1, by omega, by go_num, by show clearF l i (a : Int) = _; rw [HK.out, HKs.out, show decide (q[k].op = 9) = false by simpa using h9]; simp, hbr.alloc _⟩
                  case measure => omega
              · go_wp2_with fail
                go_ret
                refine ⟨ret_bool ?_, hbb.trans hbr⟩
                rw [HF2.out, HK.out, List.drop_eq_nil_of_le (by rw [hlen.out]; omega)]; rfl
  · have e7 : (op != 7) = true := by simp; omega
    have e8 : (op != 8) = true := by simp; omega
    go_enter Try.func48, Try.ntmps48
    go_wp2
    go_ret
    refine ⟨ret_bool ?_, (Bel.refl _).alloc _⟩
    have : decide (op ≠ 7 ∧ op ≠ 8) = true := by simp; omega
    simp only [jumpF, this, Bool.true_or]

end Go.Proofs.Ytnhhedecaejgcaa
