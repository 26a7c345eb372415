/- Merged of: W12f W12g W12h W12i (see NOTES.md). -/
import Derived.Test.YtaifafljakojnaaGreatZ24
import Derived.Test.YtaifafljakojnaaGreatZ07
set_option linter.unusedSimpArgs false
set_option linter.unnecessarySimpa false
set_option linter.unusedVariables false

/- The contract of jumpAllowed. -/
namespace Go.Proofs.YtaifafljakojnaaGreat
open Go.RowKit

set_option maxRecDepth 100000 in
set_option maxHeartbeats 4000000 in
theorem jumpAllowed_any {w0 : World} {B : Nat} {w : World} {L : Option Addr} {n c : Nat} {v : Int} {H : Option Addr} {hc : Nat} {hs : List Int} {O : Option Addr} {oc : Nat} {tr : List Tr} {most : Int} {l : List Term} (h : VerSt w0 B w L n c v H hc hs O oc tr most) (hT : TermsR w0 L n l) (hn : n ≤ 1000000) (hcap : n ≤ c) (i : Nat) (x : Term) (hin : (innerF tr n).2.1 ≤ n) :
    Calls Tryz.prog 84 #[.pointer (some ⟨B, 0, none⟩), .int .i64 i, .agg #[.int .i64 x.op, .int .i64 x.arg]] w fun e w' => e = .returned (.bool (jumpF l tr i x)) ∧ Bel w w' := by
  obtain rfl := hT.1
  obtain ⟨op, arg⟩ := x
  have hlt := h.blk.lt
  have c0 := h.blk.cell 0 (v := .slice L l.length c) rfl
  have HT := Lib.hid (fun w' (k : Bel w w') => hT.keep (h.bel.trans k)); clear hT
  have HS := Lib.hid h; clear h
  by_cases h78 : op = 7 ∨ op = 8
  · have e7 : (op != 7) = true → (op != 8) = false := by intro h; simp at h ⊢; omega
    have HE7 := Lib.hid e7; clear e7
    have HF : Hid (jumpF l tr i ⟨op, arg⟩ = (decide ((i : Int) < arg) && decide (arg ≤ (innerF tr l.length).2.1) && clearF l i arg)) := by
      show jumpF l tr i ⟨op, arg⟩ = _
      have : decide (op ≠ 7 ∧ op ≠ 8) = false := by simp; omega
      simp only [jumpF, this, Bool.false_or]
    by_cases h1 : arg ≤ (i : Int)
    · have hd1 : decide (arg ≤ (i : Int)) = true := by simpa using h1
      have HF2 : Hid (jumpF l tr i ⟨op, arg⟩ = false) := by
        show jumpF l tr i ⟨op, arg⟩ = _
        rw [HF.out, show decide ((i : Int) < arg) = false by simp; omega]; rfl
      rcases h78 with rfl | rfl
      all_goals
        go_enter Tryz.func84, Tryz.ntmps84
        go_wp2
        go_quiet (fail)
        go_wp2
        go_ret
        exact ⟨ret_bool HF2.out.symm, ((Bel.refl _).alloc _).drewN _⟩
    · have hd1 : decide (arg ≤ (i : Int)) = false := by simpa using h1
      obtain ⟨a, rfl⟩ := Int.eq_ofNat_of_zero_le (show 0 ≤ arg by omega)
      have hia : i < a := by omega
      have hd1' : decide (a ≤ i) = false := by simp; omega
      obtain ⟨I, hI⟩ : ∃ I, (innerF tr l.length).2.1 = I := ⟨_, rfl⟩
      rw [hI] at hin
      have rf := run_loop1
      obtain ⟨wb, hwb⟩ : ∃ wb, wb = w.alloc (.cells #[.int .i64 op, .int .i64 (a : Int)] 43) := ⟨_, rfl⟩
      have hbb : Bel w wb := by rw [hwb]; exact (Bel.refl w).alloc _
      have HBlk : Hid (Blk wb w.heap.size #[.int .i64 op, .int .i64 (a : Int)] 43) := by show Blk wb _ _ _; rw [hwb]; exact Blk.new _ _ _
      by_cases h2 : I < (a : Int)
      · have hd2 : decide (I < (a : Int)) = true := by simpa using h2
        have HF2 : Hid (jumpF l tr i ⟨op, (a : Int)⟩ = false) := by
          show jumpF l tr i ⟨op, (a : Int)⟩ = _
          rw [HF.out, hI, show decide ((a : Int) ≤ I) = false by simp; omega]; simp
        clear h1 h2
        have HI := Lib.hid hI; clear hI
        rcases h78 with rfl | rfl
        all_goals
          go_enter Tryz.func84, Tryz.ntmps84
          go_wp2
          go_region_with (go_at_call 122; refine (innermost_any (HS.out.keep (((Bel.refl w).alloc _).drew))).mono ?_; rintro e w2 ⟨rfl, hb2⟩; rw [HI.out]; have q1 := hb2.cell (b := w.heap.size) (o := 1) (by simp); have q2 := hb2.size)
          all_goals
            go_wp2
            go_ret
            exact ⟨ret_bool HF2.out.symm, (((Bel.refl _).alloc _).drew).trans hb2⟩
      · have hd2 : decide (I < (a : Int)) = false := by simpa using h2
        have hal : a ≤ l.length := by omega
        have HF2 : Hid (jumpF l tr i ⟨op, (a : Int)⟩ = clearF l i (a : Int)) := by
          show jumpF l tr i ⟨op, (a : Int)⟩ = _
          rw [HF.out, hI, show decide ((i : Int) < (a : Int)) = true by simp; omega, show decide ((a : Int) ≤ I) = true by simp; omega]; rfl
        obtain ⟨i0, hi0, hz0, hz1, hz2⟩ := info_parts instr_info
        obtain ⟨A2, hsub, hA2⟩ := run_sub (P := Tryz.prog) Tryz.underlying22 hi0 hz1 L l.length c (i + 1) a (by omega) hal hcap
        have HA2 := Lib.hid (fun w' (k : Bel w w') => hA2 TermAt w' l (HT.out w' k)); clear hA2
        clear h1 h2 hz0 hz1 hz2
        have HI := Lib.hid hI; clear hI
        have hw1 : IntKind.i64.wrap ((i : Int) + 1) = (i : Int) + 1 := by rw [IntWalk.i64_in _ (by omega)]
        replace hsub : ∀ w : World, (Instr.slice 22 (.slice L l.length c) (some (.int .i64 ((i : Int) + 1))) (some (.int .i64 (a : Int))) none).run Tryz.prog w = .ok (.slice A2 (a - (i + 1)) (c - (i + 1))) w := fun w => hsub .i64 .i64 w
        have HC : Hid (clearF l i (a : Int) = ((l.drop (i + 1)).take (a - (i + 1))).all fun y => !(decide (y.op = 9) && decide ((a : Int) ≤ y.arg))) := by
          show clearF l i (a : Int) = _
          unfold clearF
          rw [show ((i : Int) + 1).toNat = i + 1 by omega, show ((a : Int) - ((i : Int) + 1)).toNat = a - (i + 1) by omega]
        have hlen := Lib.hid (show ((l.drop (i + 1)).take (a - (i + 1))).length = a - (i + 1) by rw [List.length_take, List.length_drop]; omega)
        generalize hq : (l.drop (i + 1)).take (a - (i + 1)) = q at *
        have Hq := Lib.hid hq; clear hq
        rcases h78 with rfl | rfl
        all_goals
          go_enter Tryz.func84, Tryz.ntmps84
          go_upto_region 3 with fail
          go_cut [28] (fun s wc => s = .bool false ∧ Bel wb wc)
          case first =>
            go_region_with (go_at_call 122; refine (innermost_any (HS.out.keep (((Bel.refl w).alloc _).drew))).mono ?_; rintro e w2 ⟨rfl, hb2⟩; rw [HI.out]; have q1 := hb2.cell (b := w.heap.size) (o := 1) (by simp); have q2 := hb2.size)
            all_goals
              go_wp2_with fail
              go_meet
              exact ⟨rfl, by rw [hwb]; exact ((Bel.refl _).drew).trans hb2⟩
          case rest =>
            obtain ⟨rfl, hbc⟩ := hcut
            have hbw := hbb.trans hbc
            have y0 := (HBlk.out.keep hbc).cell 0 rfl
            have y1 := (HBlk.out.keep hbc).cell 1 rfl
            have y2 := (HBlk.out.keep hbc).lt
            have c0' := (hbw.cell (o := 0) hlt).trans c0
            have hltc : B < wc.heap.size := Nat.lt_of_lt_of_le hlt hbw.size
            go_wp2_with fail
            go_quiet (fail)
            clear hsub hw1
            go_wp2_with fail
            go_loopg [39] (a - (i + 1)) (fun g iv wr => ∃ k : Nat, k + g = a - (i + 1) ∧ iv = .int .i64 k ∧ Hid (clearF l i (a : Int) = (q.drop k).all fun y => !(decide (y.op = 9) && decide ((a : Int) ≤ y.arg))) ∧ Bel wb wr)
            case atStart => exact ⟨0, by omega, rfl, HC, hbc.drewN _⟩
            case round =>
              clear y0 y1 y2 c0' hltc hbw hbc
              obtain ⟨k, hk, rfl, HK, hbr⟩ := hrel
              by_cases hkl : k < a - (i + 1)
              · have hkq : k < q.length := by rw [hlen.out]; exact hkl
                obtain ⟨b, o, rfl, hb, k1, k2⟩ := TermsR.at_ (HA2.out wr (hbb.trans hbr)) k hkq
                have y0 := (HBlk.out.keep hbr).cell 0 rfl
                have y1 := (HBlk.out.keep hbr).cell 1 rfl
                have y2 := (HBlk.out.keep hbr).lt
                have HKs : Hid (((q.drop k).all fun y => !(decide (y.op = 9) && decide ((a : Int) ≤ y.arg))) = ((!(decide (q[k].op = 9) && decide ((a : Int) ≤ q[k].arg))) && (q.drop (k + 1)).all fun y => !(decide (y.op = 9) && decide ((a : Int) ≤ y.arg)))) := by
                  show (q.drop k).all _ = _
                  rw [List.drop_eq_getElem_cons hkq]; rfl
                by_cases h9 : q[k].op = 9
                · have h9b : (q[k].op == 9) = true := by simpa using h9
                  by_cases hge : (a : Int) ≤ q[k].arg
                  · have hgb : decide ((a : Int) ≤ q[k].arg) = true := by simpa using hge
                    go_wp2_with fail
                    go_ret
                    refine ⟨ret_bool ?_, (hbb.trans hbr).alloc _⟩
                    rw [HF2.out, HK.out, HKs.out, hgb, show decide (q[k].op = 9) = true by simpa using h9]; rfl
                  · have hgb : decide ((a : Int) ≤ q[k].arg) = false := by simpa using hge
                    go_wp2_with fail
                    go_roundg (gk - 1)
                    case rel => exact ⟨k + 1, by omega, by go_num, by show clearF l i (a : Int) = _; rw [HK.out, HKs.out, hgb]; simp, hbr.alloc _⟩
                    case measure => omega
                · have h9b : (q[k].op == 9) = false := by simpa using h9
                  go_wp2_with fail
                  go_roundg (gk - 1)
                  case rel => exact ⟨k + 1, by omega, by go_num, by show clearF l i (a : Int) = _; rw [HK.out, HKs.out, show decide (q[k].op = 9) = false by simpa using h9]; simp, hbr.alloc _⟩
                  case measure => omega
              · go_wp2_with fail
                go_ret
                refine ⟨ret_bool ?_, hbb.trans hbr⟩
                rw [HF2.out, HK.out, List.drop_eq_nil_of_le (by rw [hlen.out]; omega)]; rfl
  · have e7 : (op != 7) = true := by simp; omega
    have e8 : (op != 8) = true := by simp; omega
    go_enter Tryz.func84, Tryz.ntmps84
    go_wp2
    go_ret
    refine ⟨ret_bool ?_, (Bel.refl _).alloc _⟩
    have : decide (op ≠ 7 ∧ op ≠ 8) = true := by simp; omega
    simp only [jumpF, this, Bool.true_or]

end Go.Proofs.YtaifafljakojnaaGreat

/- The contract of give. -/
namespace Go.Proofs.YtaifafljakojnaaGreat
open Go.RowKit

def VerFr : World → World → Prop := TFrame [92, 3, 153]

section
variable {w0 : World} {B : Nat} {w : World} {L : Option Addr} {n c : Nat} {v : Int} {H : Option Addr} {hc : Nat} {hs : List Int} {O : Option Addr} {oc : Nat} {tr : List Tr} {most : Int}

theorem VerSt.alloc (h : VerSt w0 B w L n c v H hc hs O oc tr most) (o : Obj) : VerSt w0 B (w.alloc o) L n c v H hc hs O oc tr most := h.keep ((Bel.refl w).alloc o)
theorem VerSt.drewN (h : VerSt w0 B w L n c v H hc hs O oc tr most) (k : Nat) : VerSt w0 B (w.drewN k) L n c v H hc hs O oc tr most := h.keep ((Bel.refl w).drewN k)
theorem VerSt.drew (h : VerSt w0 B w L n c v H hc hs O oc tr most) : VerSt w0 B w.drew L n c v H hc hs O oc tr most := h.keep (Bel.refl w).drew

theorem VerSt.setH {g : Nat} (h : VerSt w0 B w L n c v (some ⟨g, 0, none⟩) hc hs O oc tr most) (p : Nat) (x : Int) :
    VerSt w0 B (w.setCell ⟨g, p, none⟩ (.int .i64 x)) L n c v (some ⟨g, 0, none⟩) hc (hs.set p x) O oc tr most ∧ VerFr w (w.setCell ⟨g, p, none⟩ (.int .i64 x)) := by
  have hne : B ≠ g := fun e => h.blk.apart h.ints (by decide) (by rw [e]; rfl)
  obtain ⟨cs, hg⟩ := own_blk h.ints
  have hs1 := (h.ints.stored p (.int .i64 x)).1
  refine ⟨⟨h.base, ?_, ?_, ?_, h.bel.setCell (h.ints.lt g rfl).1 _⟩, (TFrame.refl _ _).set hg (by decide) _ _⟩
  · rw [List.length_set]; exact h.blk.other hne _
  · rw [List.length_set, List.map_set]; exact hs1
  · exact ownsRow_setCell_other h.loops (a := ⟨g, p, none⟩) (by
      rcases own_other h.ints h.loops (by decide) with e | e
      · rw [e]; simp
      · simpa [Value.ownBlock] using e) _

theorem VerSt.setM (h : VerSt w0 B w L n c v H hc hs O oc tr most) (x : Int) :
    VerSt w0 B (w.setCell ⟨B, 25, none⟩ (.int .i64 x)) L n c v H hc hs O oc tr x ∧ VerFr w (w.setCell ⟨B, 25, none⟩ (.int .i64 x)) := by
  refine ⟨⟨h.base, h.blk.set 25 _, ?_, ?_, h.bel.setCell h.base _⟩, (TFrame.refl _ _).set h.blk (by decide) _ _⟩
  · exact ownsRow_setCell_other h.ints (a := ⟨B, 25, none⟩) (fun e => h.blk.apart h.ints (by decide) e.symm) _
  · exact ownsRow_setCell_other h.loops (a := ⟨B, 25, none⟩) (fun e => h.blk.apart h.loops (by decide) e.symm) _

theorem VerSt.int_at (h : VerSt w0 B w L n c v H hc hs O oc tr most) (p : Nat) (hp : p < hs.length) :
    ∃ g, H = some ⟨g, 0, none⟩ ∧ g < w.heap.size ∧ w.cell? ⟨g, p, none⟩ = some (.int .i64 hs[p]) ∧ w.frozen? ⟨g, p, none⟩ = false ∧ g ≠ B := by
  obtain ⟨g, h1, _, h3, h4, h5⟩ := own_at h.ints (j := p) (u := .int .i64 hs[p]) (by simp [hp])
  subst h1
  exact ⟨g, rfl, h3, h4, h5, fun e => h.blk.apart h.ints (by decide) (by rw [e]; rfl)⟩

def RetGive (w0 : World) (B : Nat) (w : World) (L : Option Addr) (n c : Nat) (v : Int) (H : Option Addr) (hc : Nat) (hs : List Int) (O : Option Addr) (oc : Nat) (tr : List Tr) (most : Int) (gs : List Term) (e : Ending) (w' : World) : Prop :=
  e = .returned (.int .i64 (giveR hs most gs).2) ∧ Bel w0 w' ∧ VerFr w w' ∧ ∀ hs' m', (giveR hs most gs).1 = some (hs', m') → VerSt w0 B w' L n c v H hc hs' O oc tr m'

theorem giveF_length {hs hs' : List Int} {gs : List Term} (h : giveF hs gs = some hs') : hs'.length = hs.length := by
  induction gs generalizing hs with
  | nil => simp [giveF] at h; rw [h]
  | cons g gs ih =>
    simp only [giveF] at h
    split at h
    · cases h
    · have := ih h
      simpa using this
end

set_option maxRecDepth 100000 in
set_option maxHeartbeats 4000000 in
theorem give_any {w0 : World} {B : Nat} {w : World} {L : Option Addr} {n c : Nat} {v : Int} {H : Option Addr} {hc : Nat} {hs : List Int} {O : Option Addr} {oc : Nat} {tr : List Tr} {most : Int} (h : VerSt w0 B w L n c v H hc hs O oc tr most)
    (G gc : Nat) (gs : List Term) (hG : Blk w G (gs.flatMap termCells).toArray 87) (hgl : gs.length ≤ 10) (hin : ∀ g ∈ gs, 0 ≤ g.op ∧ g.op < hs.length) (hn : hs.length ≤ 1000000) :
    Calls Tryz.prog 123 #[.pointer (some ⟨B, 0, none⟩), .slice (some ⟨G, 0, none⟩) gs.length gc] w (RetGive w0 B w L n c v H hc hs O oc tr most gs) := by
  have HS := Lib.hid h; clear h
  have HG := Lib.hid hG; clear hG
  have HI := Lib.hid hin; clear hin
  have Hn := Lib.hid hn; clear hn
  go_enter Tryz.func123, Tryz.ntmps123
  go_wp2
  go_loopg [12] gs.length (fun g iv wr => ∃ (k : Nat) (hk : List Int), k + g = gs.length ∧ iv = .int .i64 k ∧ Hid (giveF hk (gs.drop k) = giveF hs gs) ∧ Hid (hk.length = hs.length) ∧ Hid (VerSt w0 B wr L n c v H hc hk O oc tr most) ∧ Hid (VerFr w wr))
  case atStart => exact ⟨0, hs, by omega, rfl, rfl, rfl, HS, TFrame.refl _ _⟩
  case round =>
    obtain ⟨k, hk, hkg, rfl, HK, HL, HV, HR⟩ := hrel
    by_cases hlt : k < gs.length
    · obtain ⟨hi1, hi2⟩ := HI.out gs[k] (List.getElem_mem _)
      obtain ⟨p, hp⟩ := Int.eq_ofNat_of_zero_le hi1
      have hpl : p < hk.length := by rw [HL.out]; omega
      have hk6 : hk.length ≤ 1000000 := by rw [HL.out]; exact Hn.out
      obtain ⟨b', o', e1, hb, k1, k2⟩ := TermsR.at_ (terms_of_block (HG.out.of_frame HR.out (by decide))) k hlt
      injection e1 with e1
      injection e1 with e1 e2
      subst e1; subst e2
      rw [Nat.zero_add] at k1 k2
      rw [hp] at k1
      have x23 := HV.out.blk.cell 23 (v := .slice H hk.length hc) rfl
      have hBl := HV.out.blk.lt
      obtain ⟨gH, rfl, hgl', q1, q2, q3⟩ := HV.out.int_at p hpl
      have HIg : Hid (ig hk gs[k].op = hk[p]) := by show ig hk gs[k].op = hk[p]; rw [hp]; exact ig_get hpl
      have HP := Lib.hid hp; clear hp hi1 hi2
      have HKs : Hid (giveF hk (gs.drop k) = if 0 ≤ hk[p] ∧ hk[p] ≠ gs[k].arg then none else giveF (hk.set p gs[k].arg) (gs.drop (k + 1))) := by
        show giveF hk (gs.drop k) = _
        rw [List.drop_eq_getElem_cons hlt]
        simp only [giveF]
        rw [HIg.out, HP.out, Int.toNat_natCast]
      generalize hk[p] = x at *
      generalize gs[k].arg = y at *
      by_cases hx0 : 0 ≤ x
      · have hx0b : decide (0 ≤ x) = true := by simpa using hx0
        by_cases hxy : x = y
        · have hxb : (x != y) = false := by simpa using hxy
          go_wp2_with fail
          go_quiet (fail)
          go_wp2_with fail
          go_region
          all_goals
            go_wp2_with fail
            go_roundg (gk - 1)
            case rel =>
              obtain ⟨s1, s2⟩ := ((HV.out.alloc (.cells #[.int .i64 (p : Int), .int .i64 y] 87)).drewN nq).setH p y
              refine ⟨k + 1, hk.set p y, by omega, by go_num, ?_, ?_, s1.drew, ?_⟩
              · show giveF (hk.set p y) (gs.drop (k + 1)) = giveF hs gs
                rw [← HK.out, HKs.out, if_neg (fun h => h.2 hxy)]
              · show (hk.set p y).length = hs.length; rw [List.length_set]; exact HL.out
              · exact (HR.out.trans ((TFrame.of_bel (((Bel.refl wr).alloc _).drewN _)).trans s2)).drew
            case measure => omega
        · have hxb : (x != y) = true := by simpa using hxy
          have HF : Hid (giveR hs most gs = (none, 7)) := by
            show giveR hs most gs = (none, 7)
            unfold giveR
            rw [← HK.out, HKs.out, if_pos ⟨hx0, hxy⟩]
          go_wp2_with fail
          go_quiet (fail)
          go_wp2_with fail
          go_ret
          refine ⟨by rw [HF.out]; rfl, (HV.out.bel.alloc _).drewN _, HR.out.trans (TFrame.of_bel (((Bel.refl wr).alloc _).drewN _)), fun hs' m' h => ?_⟩
          rw [HF.out] at h; cases h
      · have hx0b : decide (0 ≤ x) = false := by simpa using hx0
        go_wp2_with fail
        go_quiet (fail)
        go_wp2_with fail
        go_region
        all_goals
          go_wp2_with fail
          go_roundg (gk - 1)
          case rel =>
            obtain ⟨s1, s2⟩ := ((HV.out.alloc (.cells #[.int .i64 (p : Int), .int .i64 y] 87)).drewN nq).setH p y
            refine ⟨k + 1, hk.set p y, by omega, by go_num, ?_, ?_, s1.drew, ?_⟩
            · show giveF (hk.set p y) (gs.drop (k + 1)) = giveF hs gs
              rw [← HK.out, HKs.out, if_neg (by rintro ⟨h, _⟩; omega)]
            · show (hk.set p y).length = hs.length; rw [List.length_set]; exact HL.out
            · exact (HR.out.trans ((TFrame.of_bel (((Bel.refl wr).alloc _).drewN _)).trans s2)).drew
          case measure => omega
    · have HF1 : Hid (giveF hs gs = some hk) := by
        show giveF hs gs = some hk
        rw [← HK.out, List.drop_eq_nil_of_le (by omega)]; rfl
      clear HK
      obtain ⟨wq, hwq⟩ : ∃ wq : World, wq = wr := ⟨_, rfl⟩
      subst hwq
      go_wp2_with fail
      go_loopg [44] gs.length (fun g iv wr => ∃ (k : Nat) (mk : Int), k + g = gs.length ∧ iv = .int .i64 k ∧ Hid (mostF mk (gs.drop k) = mostF most gs) ∧ Hid (VerSt w0 B wr L n c v H hc hk O oc tr mk) ∧ Hid (VerFr w wr))
      case atStart => exact ⟨0, most, by omega, rfl, rfl, HV, HR⟩
      case round =>
        clear HR HV hlt hkg
        obtain ⟨k2, mk, hkg, rfl, HK, HV, HR⟩ := hrel
        by_cases hlt : k2 < gs.length
        · obtain ⟨b', o', e1, hb, k1, k2'⟩ := TermsR.at_ (terms_of_block (HG.out.of_frame HR.out (by decide))) k2 hlt
          injection e1 with e1
          injection e1 with e1 e2
          subst e1; subst e2
          rw [Nat.zero_add] at k1 k2'
          have x25 := HV.out.blk.cell 25 (v := .int .i64 mk) rfl
          have f25 := HV.out.blk.frozen 25
          have hBl := HV.out.blk.lt
          have HKs : Hid (mostF mk (gs.drop k2) = if 64 < gs[k2].arg then none else mostF (max mk gs[k2].arg) (gs.drop (k2 + 1))) := by
            show mostF mk (gs.drop k2) = _
            rw [List.drop_eq_getElem_cons hlt]; rfl
          generalize gs[k2].arg = y at *
          generalize gs[k2].op = u at *
          by_cases h64 : 64 < y
          · have h64b : decide (64 < y) = true := by simpa using h64
            have HF : Hid (giveR hs most gs = (none, 3)) := by
              show giveR hs most gs = (none, 3)
              unfold giveR
              rw [HF1.out, ← HK.out, HKs.out, if_pos h64]
            go_wp2_with fail
            go_ret
            refine ⟨by rw [HF.out]; rfl, HV.out.bel.alloc _, HR.out.trans (TFrame.of_bel ((Bel.refl wr).alloc _)), fun hs' m' h => ?_⟩
            rw [HF.out] at h; cases h
          · have h64b : decide (64 < y) = false := by simpa using h64
            have hfin : ∀ z, z = max mk y → (∃ (k' : Nat) (mk' : Int), k' + (gk - 1) = gs.length ∧ Value.int .i64 ((k2 : Int) + 1) = .int .i64 k' ∧ Hid (mostF mk' (gs.drop k') = mostF most gs) ∧ Hid (VerSt w0 B (((wr.setCell ⟨B, 25, none⟩ (.int .i64 z)).alloc (.cells #[.int .i64 u, .int .i64 y] 87)).drew) L n c v H hc hk O oc tr mk') ∧ Hid (VerFr w (((wr.setCell ⟨B, 25, none⟩ (.int .i64 z)).alloc (.cells #[.int .i64 u, .int .i64 y] 87)).drew))) := by
              rintro z rfl
              obtain ⟨s1, s2⟩ := HV.out.setM (max mk y)
              refine ⟨k2 + 1, max mk y, by omega, by go_num, ?_, (s1.alloc _).drew, ?_⟩
              · show mostF (max mk y) (gs.drop (k2 + 1)) = mostF most gs
                rw [← HK.out, HKs.out, if_neg h64]
              · exact ((HR.out.trans s2).alloc _).drew
            have HFin := Lib.hid hfin; clear hfin
            go_wp2_with fail
            go_region
            all_goals go_wp2_with fail
            all_goals
              go_roundg (gk - 1)
              case rel => first | exact HFin.out y (by rw [Int.max_eq_right (by omega)]) | exact HFin.out mk (by rw [Int.max_eq_left (by omega)])
              case measure => omega
        · have HF : Hid (giveR hs most gs = (some (hk, mk), 0)) := by
            show giveR hs most gs = (some (hk, mk), 0)
            unfold giveR
            rw [HF1.out, ← HK.out, List.drop_eq_nil_of_le (by omega)]; rfl
          go_wp2_with fail
          go_ret
          refine ⟨by rw [HF.out]; rfl, HV.out.bel, HR.out, fun hs' m' h => ?_⟩
          rw [HF.out] at h
          injection h with h
          injection h with h1 h2
          subst h1; subst h2
          exact HV.out

end Go.Proofs.YtaifafljakojnaaGreat

/- The contract of effect. -/
namespace Go.Proofs.YtaifafljakojnaaGreat
open Go.RowKit

def RetEff (w0 : World) (B : Nat) (w : World) (L : Option Addr) (n c : Nat) (v : Int) (H : Option Addr) (hc : Nat) (hs : List Int) (most : Int) (gs : List Term) (tr' : List Tr) (e : Ending) (w' : World) : Prop :=
  e = .returned (.int .i64 (giveR hs most gs).2) ∧ Bel w0 w' ∧ VerFr w w' ∧ ∀ hs' m', (giveR hs most gs).1 = some (hs', m') → ∃ O oc, VerSt w0 B w' L n c v H hc hs' O oc tr' m'

theorem RetGive.eff {w0 : World} {B : Nat} {w w1 : World} {L : Option Addr} {n c : Nat} {v : Int} {H : Option Addr} {hc : Nat} {hs : List Int} {O : Option Addr} {oc : Nat} {tr : List Tr} {most : Int} {gs : List Term} {e : Ending} {w' : World}
    (h : RetGive w0 B w1 L n c v H hc hs O oc tr most gs e w') (hf : VerFr w w1) : RetEff w0 B w L n c v H hc hs most gs tr e w' :=
  ⟨h.1, h.2.1, hf.trans h.2.2.1, fun hs' m' hh => ⟨O, oc, h.2.2.2 hs' m' hh⟩⟩

theorem blk_two (w : World) (o : Obj) (cs : Array Value) (t : TypeId) : Blk ((w.alloc o).alloc (.cells cs t)) (w.heap.size + 1) cs t := by
  have := Blk.new (w.alloc o) cs t
  simpa using this

theorem blk_at {w : World} {b b' : Nat} {cs : Array Value} {t : TypeId} (e : b = b') (h : Blk w b cs t) : Blk w b' cs t := e ▸ h

section
variable {w0 : World} {B : Nat} {w : World} {L : Option Addr} {n c : Nat} {v : Int} {H : Option Addr} {hc : Nat} {hs : List Int} {O : Option Addr} {oc : Nat} {tr : List Tr} {most : Int}

theorem VerSt.push {w2 : World} {O' : Option Addr} {oc' : Nat} {t : Tr} (h : VerSt w0 B w L n c v H hc hs O oc tr most)
    (ho : w2.ownsRow w0.heap.size 153 3 (.slice O' (tr.length + 1) oc') (tr.length + 1) (tr.flatMap trCells ++ trCells t)) (hg : w.grownBy w2 (Value.slice O tr.length oc).ownBlock) :
    Blk w2 B (verCells (.slice L n c) v (.slice H hs.length hc) (.slice O tr.length oc) most) 92 ∧ VerSt w0 B (w2.setCell ⟨B, 24, none⟩ (.slice O' (tr.length + 1) oc')) L n c v H hc hs O' oc' (tr ++ [t]) most ∧ VerFr w (w2.setCell ⟨B, 24, none⟩ (.slice O' (tr.length + 1) oc')) := by
  have hB := h.blk.grown hg (h.blk.apart h.loops (by decide))
  have hI := h.ints.kept hg (own_other h.loops h.ints (by decide))
  have e : (tr ++ [t]).length = tr.length + 1 := by simp
  refine ⟨hB, ⟨h.base, ?_, ?_, ?_, (h.bel.push h.loops hg).setCell h.base _⟩, ?_⟩
  · rw [e]; exact hB.set 24 _
  · exact ownsRow_setCell_other hI (a := ⟨B, 24, none⟩) (fun e => hB.apart hI (by decide) e.symm) _
  · rw [e]
    have := ownsRow_setCell_other ho (a := ⟨B, 24, none⟩) (fun e => hB.apart ho (by decide) e.symm) (.slice O' (tr.length + 1) oc')
    simpa using this
  · exact ((TFrame.refl _ _).grown h.loops (by decide) hg).set hB (by decide) _ _

theorem VerSt.pop (h : VerSt w0 B w L n c v H hc hs O oc tr most) :
    VerSt w0 B (w.setCell ⟨B, 24, none⟩ (.slice O (tr.length - 1) oc)) L n c v H hc hs O oc tr.dropLast most ∧ VerFr w (w.setCell ⟨B, 24, none⟩ (.slice O (tr.length - 1) oc)) := by
  have e : tr.dropLast.length = tr.length - 1 := by simp
  refine ⟨⟨h.base, ?_, ?_, ?_, h.bel.setCell h.base _⟩, (TFrame.refl _ _).set h.blk (by decide) _ _⟩
  · rw [e]; exact h.blk.set 24 _
  · exact ownsRow_setCell_other h.ints (a := ⟨B, 24, none⟩) (fun e => h.blk.apart h.ints (by decide) e.symm) _
  · rw [e]
    have h1 := own_take h.loops (tr.length - 1) (by omega)
    have h2 : (tr.flatMap trCells).take ((tr.length - 1) * 3) = tr.dropLast.flatMap trCells := by
      rcases List.eq_nil_or_concat tr with rfl | ⟨l, t, rfl⟩
      · rfl
      · simp only [List.concat_eq_append, List.length_append, List.length_singleton, Nat.add_sub_cancel, List.dropLast_concat, List.flatMap_append]
        rw [List.take_append_of_le_length (by rw [trCells_length]; omega), List.take_of_length_le (by rw [trCells_length]; omega)]
    rw [h2] at h1
    exact ownsRow_setCell_other h1 (a := ⟨B, 24, none⟩) (fun e => h.blk.apart h1 (by decide) e.symm) _
end

set_option maxRecDepth 100000 in
set_option maxHeartbeats 4000000 in
theorem effect_o1 {w0 : World} {B : Nat} {w : World} {L : Option Addr} {n c : Nat} {v : Int} {H : Option Addr} {hc : Nat} {hs : List Int} {O : Option Addr} {oc : Nat} {tr : List Tr} {most : Int} (h : VerSt w0 B w L n c v H hc hs O oc tr most)
    (i : Nat) (op arg y : Int) (hn : hs.length ≤ 1000000) (hi : i + 1 < hs.length) (hy0 : -10 ≤ y) (hy1 : y ≤ 1000000) (hop : op = 1) :
    Calls Tryz.prog 85 #[.pointer (some ⟨B, 0, none⟩), .int .i64 i, .agg #[.int .i64 op, .int .i64 arg], .int .i64 y] w (RetEff w0 B w L n c v H hc hs most (giftsF ⟨op, arg⟩ i y) (trNext ⟨op, arg⟩ i y tr)) := by
  obtain rfl : op = 1 := hop
  have eg : giftsF ⟨1, arg⟩ i y = [⟨(i : Int) + 1, y + 1⟩] := by simp [giftsF]
  have et : trNext ⟨1, arg⟩ i y tr = tr := by simp [trNext]
  rw [eg, et]; clear eg et
  have HS := Lib.hid h; clear h
  have HR : Hid (∀ g ∈ [(⟨(i : Int) + 1, y + 1⟩ : Term)], 0 ≤ g.op ∧ g.op < (hs.length : Int)) := by
    show ∀ g ∈ [(⟨(i : Int) + 1, y + 1⟩ : Term)], 0 ≤ g.op ∧ g.op < (hs.length : Int)
    intro g hg
    simp at hg
    subst hg; simp; omega
  go_enter Tryz.func85, Tryz.ntmps85
  go_wp2_with fail
  all_goals
    refine (give_any ((HS.out.alloc _).alloc _) (w.heap.size + 1) _ [(⟨(i : Int) + 1, y + 1⟩ : Term)] (blk_two w _ #[.int .i64 ((i : Int) + 1), .int .i64 (y + 1)] 87) (by simp) HR.out hn).mono ?_
    intro e w2 hret
    obtain ⟨z, rfl⟩ : ∃ z : Int, e = .returned (.int .i64 z) := ⟨_, hret.1⟩
    have HQ := Lib.hid (hret.eff (TFrame.of_bel (((Bel.refl w).alloc _).alloc _))); clear hret
    go_wp2_with fail
    go_ret
    exact HQ.out

set_option maxRecDepth 100000 in
set_option maxHeartbeats 4000000 in
theorem effect_o2 {w0 : World} {B : Nat} {w : World} {L : Option Addr} {n c : Nat} {v : Int} {H : Option Addr} {hc : Nat} {hs : List Int} {O : Option Addr} {oc : Nat} {tr : List Tr} {most : Int} (h : VerSt w0 B w L n c v H hc hs O oc tr most)
    (i : Nat) (op arg y : Int) (hn : hs.length ≤ 1000000) (hi : i + 1 < hs.length) (hy0 : -10 ≤ y) (hy1 : y ≤ 1000000) (hop : op = 2) :
    Calls Tryz.prog 85 #[.pointer (some ⟨B, 0, none⟩), .int .i64 i, .agg #[.int .i64 op, .int .i64 arg], .int .i64 y] w (RetEff w0 B w L n c v H hc hs most (giftsF ⟨op, arg⟩ i y) (trNext ⟨op, arg⟩ i y tr)) := by
  obtain rfl : op = 2 := hop
  have eg : giftsF ⟨2, arg⟩ i y = [⟨(i : Int) + 1, y + 1⟩] := by simp [giftsF]
  have et : trNext ⟨2, arg⟩ i y tr = tr := by simp [trNext]
  rw [eg, et]; clear eg et
  have HS := Lib.hid h; clear h
  have HR : Hid (∀ g ∈ [(⟨(i : Int) + 1, y + 1⟩ : Term)], 0 ≤ g.op ∧ g.op < (hs.length : Int)) := by
    show ∀ g ∈ [(⟨(i : Int) + 1, y + 1⟩ : Term)], 0 ≤ g.op ∧ g.op < (hs.length : Int)
    intro g hg
    simp at hg
    subst hg; simp; omega
  go_enter Tryz.func85, Tryz.ntmps85
  go_wp2_with fail
  all_goals
    refine (give_any ((HS.out.alloc _).alloc _) (w.heap.size + 1) _ [(⟨(i : Int) + 1, y + 1⟩ : Term)] (blk_two w _ #[.int .i64 ((i : Int) + 1), .int .i64 (y + 1)] 87) (by simp) HR.out hn).mono ?_
    intro e w2 hret
    obtain ⟨z, rfl⟩ : ∃ z : Int, e = .returned (.int .i64 z) := ⟨_, hret.1⟩
    have HQ := Lib.hid (hret.eff (TFrame.of_bel (((Bel.refl w).alloc _).alloc _))); clear hret
    go_wp2_with fail
    go_ret
    exact HQ.out

set_option maxRecDepth 100000 in
set_option maxHeartbeats 4000000 in
theorem effect_o3 {w0 : World} {B : Nat} {w : World} {L : Option Addr} {n c : Nat} {v : Int} {H : Option Addr} {hc : Nat} {hs : List Int} {O : Option Addr} {oc : Nat} {tr : List Tr} {most : Int} (h : VerSt w0 B w L n c v H hc hs O oc tr most)
    (i : Nat) (op arg y : Int) (hn : hs.length ≤ 1000000) (hi : i + 1 < hs.length) (hy0 : -10 ≤ y) (hy1 : y ≤ 1000000) (hop : op = 3) :
    Calls Tryz.prog 85 #[.pointer (some ⟨B, 0, none⟩), .int .i64 i, .agg #[.int .i64 op, .int .i64 arg], .int .i64 y] w (RetEff w0 B w L n c v H hc hs most (giftsF ⟨op, arg⟩ i y) (trNext ⟨op, arg⟩ i y tr)) := by
  obtain rfl : op = 3 := hop
  have eg : giftsF ⟨3, arg⟩ i y = [⟨(i : Int) + 1, y + 1⟩] := by simp [giftsF]
  have et : trNext ⟨3, arg⟩ i y tr = tr := by simp [trNext]
  rw [eg, et]; clear eg et
  have HS := Lib.hid h; clear h
  have HR : Hid (∀ g ∈ [(⟨(i : Int) + 1, y + 1⟩ : Term)], 0 ≤ g.op ∧ g.op < (hs.length : Int)) := by
    show ∀ g ∈ [(⟨(i : Int) + 1, y + 1⟩ : Term)], 0 ≤ g.op ∧ g.op < (hs.length : Int)
    intro g hg
    simp at hg
    subst hg; simp; omega
  go_enter Tryz.func85, Tryz.ntmps85
  go_wp2_with fail
  all_goals
    refine (give_any ((HS.out.alloc _).alloc _) (w.heap.size + 1) _ [(⟨(i : Int) + 1, y + 1⟩ : Term)] (blk_two w _ #[.int .i64 ((i : Int) + 1), .int .i64 (y + 1)] 87) (by simp) HR.out hn).mono ?_
    intro e w2 hret
    obtain ⟨z, rfl⟩ : ∃ z : Int, e = .returned (.int .i64 z) := ⟨_, hret.1⟩
    have HQ := Lib.hid (hret.eff (TFrame.of_bel (((Bel.refl w).alloc _).alloc _))); clear hret
    go_wp2_with fail
    go_ret
    exact HQ.out

set_option maxRecDepth 100000 in
set_option maxHeartbeats 4000000 in
theorem effect_o4 {w0 : World} {B : Nat} {w : World} {L : Option Addr} {n c : Nat} {v : Int} {H : Option Addr} {hc : Nat} {hs : List Int} {O : Option Addr} {oc : Nat} {tr : List Tr} {most : Int} (h : VerSt w0 B w L n c v H hc hs O oc tr most)
    (i : Nat) (op arg y : Int) (hn : hs.length ≤ 1000000) (hi : i + 1 < hs.length) (hy0 : -10 ≤ y) (hy1 : y ≤ 1000000) (hop : op = 4) :
    Calls Tryz.prog 85 #[.pointer (some ⟨B, 0, none⟩), .int .i64 i, .agg #[.int .i64 op, .int .i64 arg], .int .i64 y] w (RetEff w0 B w L n c v H hc hs most (giftsF ⟨op, arg⟩ i y) (trNext ⟨op, arg⟩ i y tr)) := by
  obtain rfl : op = 4 := hop
  have eg : giftsF ⟨4, arg⟩ i y = [⟨(i : Int) + 1, y + 1⟩] := by simp [giftsF]
  have et : trNext ⟨4, arg⟩ i y tr = tr := by simp [trNext]
  rw [eg, et]; clear eg et
  have HS := Lib.hid h; clear h
  have HR : Hid (∀ g ∈ [(⟨(i : Int) + 1, y + 1⟩ : Term)], 0 ≤ g.op ∧ g.op < (hs.length : Int)) := by
    show ∀ g ∈ [(⟨(i : Int) + 1, y + 1⟩ : Term)], 0 ≤ g.op ∧ g.op < (hs.length : Int)
    intro g hg
    simp at hg
    subst hg; simp; omega
  go_enter Tryz.func85, Tryz.ntmps85
  go_wp2_with fail
  all_goals
    refine (give_any ((HS.out.alloc _).alloc _) (w.heap.size + 1) _ [(⟨(i : Int) + 1, y + 1⟩ : Term)] (blk_two w _ #[.int .i64 ((i : Int) + 1), .int .i64 (y + 1)] 87) (by simp) HR.out hn).mono ?_
    intro e w2 hret
    obtain ⟨z, rfl⟩ : ∃ z : Int, e = .returned (.int .i64 z) := ⟨_, hret.1⟩
    have HQ := Lib.hid (hret.eff (TFrame.of_bel (((Bel.refl w).alloc _).alloc _))); clear hret
    go_wp2_with fail
    go_ret
    exact HQ.out

set_option maxRecDepth 100000 in
set_option maxHeartbeats 4000000 in
theorem effect_o5 {w0 : World} {B : Nat} {w : World} {L : Option Addr} {n c : Nat} {v : Int} {H : Option Addr} {hc : Nat} {hs : List Int} {O : Option Addr} {oc : Nat} {tr : List Tr} {most : Int} (h : VerSt w0 B w L n c v H hc hs O oc tr most)
    (i : Nat) (op arg y : Int) (hn : hs.length ≤ 1000000) (hi : i + 1 < hs.length) (_hy0 : -10 ≤ y) (_hy1 : y ≤ 1000000) (hop : op = 5) :
    Calls Tryz.prog 85 #[.pointer (some ⟨B, 0, none⟩), .int .i64 i, .agg #[.int .i64 op, .int .i64 arg], .int .i64 y] w (RetEff w0 B w L n c v H hc hs most (giftsF ⟨op, arg⟩ i y) (trNext ⟨op, arg⟩ i y tr)) := by
  obtain rfl : op = 5 := hop
  have eg : giftsF ⟨5, arg⟩ i y = [⟨(i : Int) + 1, y⟩] := by simp [giftsF]
  have et : trNext ⟨5, arg⟩ i y tr = tr := by simp [trNext]
  rw [eg, et]; clear eg et
  have HS := Lib.hid h; clear h
  have HR : Hid (∀ g ∈ [(⟨(i : Int) + 1, y⟩ : Term)], 0 ≤ g.op ∧ g.op < (hs.length : Int)) := by
    show ∀ g ∈ [(⟨(i : Int) + 1, y⟩ : Term)], 0 ≤ g.op ∧ g.op < (hs.length : Int)
    intro g hg
    simp at hg
    subst hg; simp; omega
  go_enter Tryz.func85, Tryz.ntmps85
  go_wp2_with fail
  all_goals
    refine (give_any ((HS.out.alloc _).alloc _) (w.heap.size + 1) _ [(⟨(i : Int) + 1, y⟩ : Term)] (blk_two w _ #[.int .i64 ((i : Int) + 1), .int .i64 (y)] 87) (by simp) HR.out hn).mono ?_
    intro e w2 hret
    obtain ⟨z, rfl⟩ : ∃ z : Int, e = .returned (.int .i64 z) := ⟨_, hret.1⟩
    have HQ := Lib.hid (hret.eff (TFrame.of_bel (((Bel.refl w).alloc _).alloc _))); clear hret
    go_wp2_with fail
    go_ret
    exact HQ.out

set_option maxRecDepth 100000 in
set_option maxHeartbeats 4000000 in
theorem effect_o6 {w0 : World} {B : Nat} {w : World} {L : Option Addr} {n c : Nat} {v : Int} {H : Option Addr} {hc : Nat} {hs : List Int} {O : Option Addr} {oc : Nat} {tr : List Tr} {most : Int} (h : VerSt w0 B w L n c v H hc hs O oc tr most)
    (i : Nat) (op arg y : Int) (hn : hs.length ≤ 1000000) (hi : i + 1 < hs.length) (hy0 : -10 ≤ y) (hy1 : y ≤ 1000000) (hop : op = 6) :
    Calls Tryz.prog 85 #[.pointer (some ⟨B, 0, none⟩), .int .i64 i, .agg #[.int .i64 op, .int .i64 arg], .int .i64 y] w (RetEff w0 B w L n c v H hc hs most (giftsF ⟨op, arg⟩ i y) (trNext ⟨op, arg⟩ i y tr)) := by
  obtain rfl : op = 6 := hop
  have eg : giftsF ⟨6, arg⟩ i y = [⟨(i : Int) + 1, y - 1⟩] := by simp [giftsF]
  have et : trNext ⟨6, arg⟩ i y tr = tr := by simp [trNext]
  rw [eg, et]; clear eg et
  have HS := Lib.hid h; clear h
  have HR : Hid (∀ g ∈ [(⟨(i : Int) + 1, y - 1⟩ : Term)], 0 ≤ g.op ∧ g.op < (hs.length : Int)) := by
    show ∀ g ∈ [(⟨(i : Int) + 1, y - 1⟩ : Term)], 0 ≤ g.op ∧ g.op < (hs.length : Int)
    intro g hg
    simp at hg
    subst hg; simp; omega
  go_enter Tryz.func85, Tryz.ntmps85
  go_wp2_with fail
  all_goals
    refine (give_any ((HS.out.alloc _).alloc _) (w.heap.size + 1) _ [(⟨(i : Int) + 1, y - 1⟩ : Term)] (blk_two w _ #[.int .i64 ((i : Int) + 1), .int .i64 (y - 1)] 87) (by simp) HR.out hn).mono ?_
    intro e w2 hret
    obtain ⟨z, rfl⟩ : ∃ z : Int, e = .returned (.int .i64 z) := ⟨_, hret.1⟩
    have HQ := Lib.hid (hret.eff (TFrame.of_bel (((Bel.refl w).alloc _).alloc _))); clear hret
    go_wp2_with fail
    go_ret
    exact HQ.out

set_option maxRecDepth 100000 in
set_option maxHeartbeats 4000000 in
theorem effect_o7 {w0 : World} {B : Nat} {w : World} {L : Option Addr} {n c : Nat} {v : Int} {H : Option Addr} {hc : Nat} {hs : List Int} {O : Option Addr} {oc : Nat} {tr : List Tr} {most : Int} (h : VerSt w0 B w L n c v H hc hs O oc tr most)
    (i : Nat) (op arg y : Int) (hn : hs.length ≤ 1000000) (hi : i + 1 < hs.length) (hy0 : -10 ≤ y) (hy1 : y ≤ 1000000) (hop : op = 7) (ha0 : 0 ≤ arg) (ha1 : arg < hs.length) :
    Calls Tryz.prog 85 #[.pointer (some ⟨B, 0, none⟩), .int .i64 i, .agg #[.int .i64 op, .int .i64 arg], .int .i64 y] w (RetEff w0 B w L n c v H hc hs most (giftsF ⟨op, arg⟩ i y) (trNext ⟨op, arg⟩ i y tr)) := by
  obtain rfl : op = 7 := hop
  have eg : giftsF ⟨7, arg⟩ i y = [⟨(i : Int) + 1, y - 1⟩, ⟨arg, y - 1⟩] := by simp [giftsF]
  have et : trNext ⟨7, arg⟩ i y tr = tr := by simp [trNext]
  rw [eg, et]; clear eg et
  have HS := Lib.hid h; clear h
  have HR : Hid (∀ g ∈ [(⟨(i : Int) + 1, y - 1⟩ : Term), (⟨arg, y - 1⟩ : Term)], 0 ≤ g.op ∧ g.op < (hs.length : Int)) := by
    show ∀ g ∈ [(⟨(i : Int) + 1, y - 1⟩ : Term), (⟨arg, y - 1⟩ : Term)], 0 ≤ g.op ∧ g.op < (hs.length : Int)
    intro g hg
    simp at hg
    rcases hg with rfl | rfl <;> simp <;> omega
  go_enter Tryz.func85, Tryz.ntmps85
  go_wp2_with fail
  all_goals
    refine (give_any ((HS.out.alloc _).alloc _) (w.heap.size + 1) _ [(⟨(i : Int) + 1, y - 1⟩ : Term), (⟨arg, y - 1⟩ : Term)] (blk_two w _ #[.int .i64 ((i : Int) + 1), .int .i64 (y - 1), .int .i64 (arg), .int .i64 (y - 1)] 87) (by simp) HR.out hn).mono ?_
    intro e w2 hret
    obtain ⟨z, rfl⟩ : ∃ z : Int, e = .returned (.int .i64 z) := ⟨_, hret.1⟩
    have HQ := Lib.hid (hret.eff (TFrame.of_bel (((Bel.refl w).alloc _).alloc _))); clear hret
    go_wp2_with fail
    go_ret
    exact HQ.out

set_option maxRecDepth 100000 in
set_option maxHeartbeats 4000000 in
theorem effect_o8 {w0 : World} {B : Nat} {w : World} {L : Option Addr} {n c : Nat} {v : Int} {H : Option Addr} {hc : Nat} {hs : List Int} {O : Option Addr} {oc : Nat} {tr : List Tr} {most : Int} (h : VerSt w0 B w L n c v H hc hs O oc tr most)
    (i : Nat) (op arg y : Int) (hn : hs.length ≤ 1000000) (_hi : i + 1 < hs.length) (_hy0 : -10 ≤ y) (_hy1 : y ≤ 1000000) (hop : op = 8) (ha0 : 0 ≤ arg) (ha1 : arg < hs.length) :
    Calls Tryz.prog 85 #[.pointer (some ⟨B, 0, none⟩), .int .i64 i, .agg #[.int .i64 op, .int .i64 arg], .int .i64 y] w (RetEff w0 B w L n c v H hc hs most (giftsF ⟨op, arg⟩ i y) (trNext ⟨op, arg⟩ i y tr)) := by
  obtain rfl : op = 8 := hop
  have eg : giftsF ⟨8, arg⟩ i y = [⟨arg, y⟩] := by simp [giftsF]
  have et : trNext ⟨8, arg⟩ i y tr = tr := by simp [trNext]
  rw [eg, et]; clear eg et
  have HS := Lib.hid h; clear h
  have HR : Hid (∀ g ∈ [(⟨arg, y⟩ : Term)], 0 ≤ g.op ∧ g.op < (hs.length : Int)) := by
    show ∀ g ∈ [(⟨arg, y⟩ : Term)], 0 ≤ g.op ∧ g.op < (hs.length : Int)
    intro g hg
    simp at hg
    subst hg; simp; omega
  go_enter Tryz.func85, Tryz.ntmps85
  go_wp2_with fail
  all_goals
    refine (give_any ((HS.out.alloc _).alloc _) (w.heap.size + 1) _ [(⟨arg, y⟩ : Term)] (blk_two w _ #[.int .i64 (arg), .int .i64 (y)] 87) (by simp) HR.out hn).mono ?_
    intro e w2 hret
    obtain ⟨z, rfl⟩ : ∃ z : Int, e = .returned (.int .i64 z) := ⟨_, hret.1⟩
    have HQ := Lib.hid (hret.eff (TFrame.of_bel (((Bel.refl w).alloc _).alloc _))); clear hret
    go_wp2_with fail
    go_ret
    exact HQ.out

set_option maxRecDepth 100000 in
set_option maxHeartbeats 4000000 in
theorem effect_o9 {w0 : World} {B : Nat} {w : World} {L : Option Addr} {n c : Nat} {v : Int} {H : Option Addr} {hc : Nat} {hs : List Int} {O : Option Addr} {oc : Nat} {tr : List Tr} {most : Int} (h : VerSt w0 B w L n c v H hc hs O oc tr most)
    (i : Nat) (op arg y : Int) (hn : hs.length ≤ 1000000) (hi : i + 1 < hs.length) (hy0 : -10 ≤ y) (hy1 : y ≤ 1000000) (hop : op = 9) (ha0 : 0 ≤ arg) (ha1 : arg + 1 < hs.length) (htr : tr.length ≤ 100) :
    Calls Tryz.prog 85 #[.pointer (some ⟨B, 0, none⟩), .int .i64 i, .agg #[.int .i64 op, .int .i64 arg], .int .i64 y] w (RetEff w0 B w L n c v H hc hs most (giftsF ⟨op, arg⟩ i y) (trNext ⟨op, arg⟩ i y tr)) := by
  obtain rfl : op = 9 := hop
  have eg : giftsF ⟨9, arg⟩ i y = [⟨(i : Int) + 1, y⟩, ⟨arg + 1, y + 1⟩] := by simp [giftsF]
  have et : trNext ⟨9, arg⟩ i y tr = tr ++ [((i : Int), arg, y)] := by simp [trNext]
  rw [eg, et]; clear eg et
  have c24 := h.blk.cell 24 (v := .slice O tr.length oc) rfl
  have f24 := h.blk.frozen 24
  have hlt := h.blk.lt
  have hbs := h.bel.size
  obtain ⟨i0, hi0, hz0, hz1, hz2⟩ := info_parts loop_info
  have HS := Lib.hid h; clear h
  have HR : Hid (∀ g ∈ [(⟨(i : Int) + 1, y⟩ : Term), ⟨arg + 1, y + 1⟩], 0 ≤ g.op ∧ g.op < (hs.length : Int)) := by
    show ∀ g ∈ [(⟨(i : Int) + 1, y⟩ : Term), ⟨arg + 1, y + 1⟩], 0 ≤ g.op ∧ g.op < (hs.length : Int)
    intro g hg
    simp at hg
    rcases hg with rfl | rfl <;> simp <;> omega
  obtain ⟨wb, hwb⟩ : ∃ wb, wb = w.alloc (.cells #[.int .i64 9, .int .i64 arg] 43) := ⟨_, rfl⟩
  have HSb : Hid (VerSt w0 B wb L n c v H hc hs O oc tr most) := by show VerSt w0 B wb _ _ _ _ _ _ _ _ _ _ _; rw [hwb]; exact HS.out.alloc _
  have HFb : Hid (VerFr w wb) := by show VerFr w wb; rw [hwb]; exact TFrame.of_bel ((Bel.refl w).alloc _)
  have HKb : Hid (Blk wb w.heap.size #[.int .i64 9, .int .i64 arg] 43) := by show Blk wb _ _ _; rw [hwb]; exact Blk.new _ _ _
  go_enter Tryz.func85, Tryz.ntmps85
  go_upto_region 14 with fail
  rw [← hwb]
  have zb := HSb.out.bel.size
  have zl := HSb.out.blk.lt
  have z24 := HSb.out.blk.cell 24 (v := .slice O tr.length oc) rfl
  have zf := HSb.out.blk.frozen 24
  have y1 := HKb.out.cell 1 rfl
  have yl := HKb.out.lt
  clear c24 f24 hlt hbs hwb
  go_cut [] (fun wc => ∃ O' oc', Hid (VerSt w0 B wc L n c v H hc hs O' oc' (tr ++ [((i : Int), arg, y)]) most) ∧ Hid (VerFr wb wc))
  case first =>
    go_region_law (first
      | (refine step_push _ rfl (.tmp 64) (.tmp 70) 90 rfl w0.heap.size 153 i0 (.agg #[.int .i64 0, .int .i64 0, .int .i64 0]) 3 24 Tryz.underlying90 hi0 hz0 hz1 hz2 rfl (by decide) O tr.length oc (tr.flatMap trCells) (by simp [Act.eval]) (HSb.out.loops.alloc _).drew wb.heap.size #[.int .i64 i, .int .i64 arg, .int .i64 y] 153 (0, 0) (by simp [Act.eval]) (heap_new_drew _ _) rfl (by simp [Value.oneCell']) (by unfold maxLen; omega) (by omega) (by simp; omega) ?_; intro O' oc' w2 hown2 hgr2 hat2; obtain ⟨hB2, HS2, HF2⟩ := VerSt.push (t := ((i : Int), arg, y)) (HSb.out.alloc _).drew hown2 hgr2; have z25 := hB2.cell 24 rfl; have zg := hB2.frozen 24; have zh := hB2.lt; replace HS2 := Lib.hid HS2; replace HF2 := Lib.hid HF2; clear hown2 hgr2 hat2 hB2))
    all_goals
      go_wp2_with fail
      go_meet
      exact ⟨O', oc', HS2.out, (TFrame.of_bel (((Bel.refl wb).alloc _).drew)).trans HF2.out⟩
  case rest =>
    obtain ⟨O', oc', HSc, HFc⟩ := hcut
    have HKc := Lib.hid (HKb.out.of_frame HFc.out (by decide))
    have y1c := HKc.out.cell 1 rfl
    have ylc := HKc.out.lt
    clear y1 yl zb zl z24 zf
    go_wp2_with fail
    refine (give_any (HSc.out.alloc _) wc.heap.size _ [(⟨(i : Int) + 1, y⟩ : Term), ⟨arg + 1, y + 1⟩] (Blk.new wc #[.int .i64 ((i : Int) + 1), .int .i64 y, .int .i64 (arg + 1), .int .i64 (y + 1)] 87) (by simp) HR.out hn).mono ?_
    intro e w2 hret
    obtain ⟨z, rfl⟩ : ∃ z : Int, e = .returned (.int .i64 z) := ⟨_, hret.1⟩
    have HQ := Lib.hid (hret.eff (w := w) ((HFb.out.trans HFc.out).alloc _)); clear hret
    go_wp2_with fail
    go_ret
    exact HQ.out

set_option maxRecDepth 100000 in
set_option maxHeartbeats 4000000 in
theorem effect_o10 {w0 : World} {B : Nat} {w : World} {L : Option Addr} {n c : Nat} {v : Int} {H : Option Addr} {hc : Nat} {hs : List Int} {O : Option Addr} {oc : Nat} {tr : List Tr} {most : Int} (h : VerSt w0 B w L n c v H hc hs O oc tr most)
    (i : Nat) (op arg y : Int) (hn : hs.length ≤ 1000000) (hi : i + 1 < hs.length) (_hy0 : -10 ≤ y) (_hy1 : y ≤ 1000000) (hop : op = 10) (htr : 1 ≤ tr.length) (htr2 : tr.length ≤ 100) :
    Calls Tryz.prog 85 #[.pointer (some ⟨B, 0, none⟩), .int .i64 i, .agg #[.int .i64 op, .int .i64 arg], .int .i64 y] w (RetEff w0 B w L n c v H hc hs most (giftsF ⟨op, arg⟩ i y) (trNext ⟨op, arg⟩ i y tr)) := by
  obtain rfl : op = 10 := hop
  have eg : giftsF ⟨10, arg⟩ i y = [⟨(i : Int) + 1, y⟩] := by simp [giftsF]
  have et : trNext ⟨10, arg⟩ i y tr = tr.dropLast := by simp [trNext]
  rw [eg, et]; clear eg et
  obtain ⟨m, hm⟩ : ∃ m, tr.length = m + 1 := ⟨tr.length - 1, by omega⟩
  have c24 := h.blk.cell 24 (v := .slice O tr.length oc) rfl
  have f24 := h.blk.frozen 24
  have hlt := h.blk.lt
  have hcap := (own_cap h.loops).1
  rw [hm] at c24 hcap
  obtain ⟨i0, hi0, hz0, hz1, hz2⟩ := info_parts loop_info
  have hu := run_upto (P := Tryz.prog) Tryz.underlying90 hi0 O (m + 1) oc m (by omega)
  have HS := Lib.hid h; clear h
  have HR : Hid (∀ g ∈ [(⟨(i : Int) + 1, y⟩ : Term)], 0 ≤ g.op ∧ g.op < (hs.length : Int)) := by
    show ∀ g ∈ [(⟨(i : Int) + 1, y⟩ : Term)], 0 ≤ g.op ∧ g.op < (hs.length : Int)
    intro g hg
    simp at hg
    subst hg; simp; omega
  obtain ⟨wb, hwb⟩ : ∃ wb, wb = w.alloc (.cells #[.int .i64 10, .int .i64 arg] 43) := ⟨_, rfl⟩
  have HSb : Hid (VerSt w0 B wb L n c v H hc hs O oc tr most) := by show VerSt w0 B wb _ _ _ _ _ _ _ _ _ _ _; rw [hwb]; exact HS.out.alloc _
  have HFb : Hid (VerFr w wb) := by show VerFr w wb; rw [hwb]; exact TFrame.of_bel ((Bel.refl w).alloc _)
  have Hm := Lib.hid hm
  have hm2 : m ≤ 100 := by omega
  have hw1 : IntKind.i64.wrap ((m : Int) + 1 - 1) = m := by rw [IntWalk.i64_in _ (by omega)]; omega
  clear hm htr htr2 hz0 hz1 hz2
  go_enter Tryz.func85, Tryz.ntmps85
  go_upto_region 17 with fail
  rw [← hwb]
  have zl := HSb.out.blk.lt
  have z24 := HSb.out.blk.cell 24 (v := .slice O tr.length oc) rfl
  have zf := HSb.out.blk.frozen 24
  rw [Hm.out] at z24
  clear c24 f24 hlt hwb
  have HP := HSb.out.pop
  rw [show tr.length - 1 = m by rw [Hm.out]; rfl] at HP
  replace HP := Lib.hid HP
  go_region
  all_goals
    go_wp2_with fail
    refine (give_any (HP.out.1.drew.alloc _) wb.heap.size _ [(⟨(i : Int) + 1, y⟩ : Term)] (blk_at (by simp) (Blk.new _ #[.int .i64 ((i : Int) + 1), .int .i64 y] 87)) (by simp) HR.out hn).mono ?_
    intro e w2 hret
    obtain ⟨z, rfl⟩ : ∃ z : Int, e = .returned (.int .i64 z) := ⟨_, hret.1⟩
    have HQ := Lib.hid (hret.eff (w := w) ((HFb.out.trans HP.out.2.drew).alloc _)); clear hret
    go_wp2_with fail
    go_ret
    exact HQ.out

end Go.Proofs.YtaifafljakojnaaGreat

/- The contract of examine. -/
namespace Go.Proofs.YtaifafljakojnaaGreat
open Go.RowKit

theorem effect_any {w0 : World} {B : Nat} {w : World} {L : Option Addr} {n c : Nat} {v : Int} {H : Option Addr} {hc : Nat} {hs : List Int} {O : Option Addr} {oc : Nat} {tr : List Tr} {most : Int} (h : VerSt w0 B w L n c v H hc hs O oc tr most)
    (i : Nat) (op arg y : Int) (hn : hs.length ≤ 1000000) (hi : i + 1 < hs.length) (hy0 : -10 ≤ y) (hy1 : y ≤ 1000000) (htr : tr.length ≤ 100) (h1 : 1 ≤ op) (h2 : op ≤ 10) (h78 : op = 7 ∨ op = 8 → 0 ≤ arg ∧ arg < hs.length) (h9 : op = 9 → 0 ≤ arg ∧ arg + 1 < hs.length) (h10 : op = 10 → 1 ≤ tr.length) :
    Calls Tryz.prog 85 #[.pointer (some ⟨B, 0, none⟩), .int .i64 i, .agg #[.int .i64 op, .int .i64 arg], .int .i64 y] w (RetEff w0 B w L n c v H hc hs most (giftsF ⟨op, arg⟩ i y) (trNext ⟨op, arg⟩ i y tr)) := by
  rcases (show op = 1 ∨ op = 2 ∨ op = 3 ∨ op = 4 ∨ op = 5 ∨ op = 6 ∨ op = 7 ∨ op = 8 ∨ op = 9 ∨ op = 10 by omega) with e | e | e | e | e | e | e | e | e | e
  · exact effect_o1 h i op arg y hn hi hy0 hy1 e
  · exact effect_o2 h i op arg y hn hi hy0 hy1 e
  · exact effect_o3 h i op arg y hn hi hy0 hy1 e
  · exact effect_o4 h i op arg y hn hi hy0 hy1 e
  · exact effect_o5 h i op arg y hn hi hy0 hy1 e
  · exact effect_o6 h i op arg y hn hi hy0 hy1 e
  · exact effect_o7 h i op arg y hn hi hy0 hy1 e (h78 (.inl e)).1 (h78 (.inl e)).2
  · exact effect_o8 h i op arg y hn hi hy0 hy1 e (h78 (.inr e)).1 (h78 (.inr e)).2
  · exact effect_o9 h i op arg y hn hi hy0 hy1 e (h9 e).1 (h9 e).2 htr
  · exact effect_o10 h i op arg y hn hi hy0 hy1 e (h10 e) htr

def RetExam (w0 : World) (B : Nat) (L : Option Addr) (n c : Nat) (v : Int) (H : Option Addr) (hc : Nat) (r : Option (List Int × List Tr × Int) × Int) (e : Ending) (w' : World) : Prop :=
  e = .returned (.int .i64 r.2) ∧ Bel w0 w' ∧ ∀ hs' tr' m', r.1 = some (hs', tr', m') → ∃ O oc, VerSt w0 B w' L n c v H hc hs' O oc tr' m'

theorem RetEff.exam {w0 : World} {B : Nat} {w : World} {L : Option Addr} {n c : Nat} {v : Int} {H : Option Addr} {hc : Nat} {hs : List Int} {tr : List Tr} {most : Int} {l : List Term} {i : Nat} {x : Term} {y : Int} {e : Ending} {w' : World}
    (h : RetEff w0 B w L n c v H hc hs most (giftsF x i y) (trNext x i y tr) e w') (hx : insAt l i = x) (hy : ig hs i = y) (hck : checksF l v tr i x y = true) : RetExam w0 B L n c v H hc (stepP l v i hs tr most) e w' := by
  have e1 : stepP l v i hs tr most = match giveR hs most (giftsF x i y) with
    | (some (hs', m), _) => (some (hs', trNext x i y tr, m), 0)
    | (none, e) => (none, e) := by
    unfold stepP
    rw [hx, hy, if_neg (by rw [hck]; simp)]
    rcases giveR hs most (giftsF x i y) with ⟨_ | ⟨hs1, m1⟩, e2⟩ <;> rfl
  obtain ⟨h1, h2, _, h4⟩ := h
  rw [e1]
  unfold RetExam
  have hz : ∀ r, (giveR hs most (giftsF x i y)).1 = some r → (giveR hs most (giftsF x i y)).2 = 0 := by
    intro r hr
    unfold giveR at hr ⊢
    split at hr
    · cases hr
    · rename_i hs' hg
      split at hr
      · cases hr
      · rename_i m hm
        rfl
  rcases hg : giveR hs most (giftsF x i y) with ⟨_ | ⟨hs1, m1⟩, e2⟩
  · rw [hg] at h1 h4
    exact ⟨h1, h2, fun hs' tr' m' hh => by cases hh⟩
  · have := hz (hs1, m1) (by rw [hg])
    rw [hg] at h1 h4 this
    simp at this
    subst this
    refine ⟨h1, h2, fun hs' tr' m' hh => ?_⟩
    simp at hh
    obtain ⟨rfl, rfl, rfl⟩ := hh
    exact h4 _ _ rfl

theorem exam_bad {w0 : World} {B : Nat} {L : Option Addr} {n c : Nat} {v : Int} {H : Option Addr} {hc : Nat} {hs : List Int} {tr : List Tr} {most : Int} {l : List Term} {i : Nat} {x : Term} {y : Int} {w' : World}
    (hx : insAt l i = x) (hy : ig hs i = y) (hck : checksF l v tr i x y = false) (hb : Bel w0 w') : RetExam w0 B L n c v H hc (stepP l v i hs tr most) (.returned (.int .i64 7)) w' := by
  have e1 : stepP l v i hs tr most = (none, 7) := by
    unfold stepP
    rw [hx, hy, if_pos hck]
  rw [e1]
  exact ⟨rfl, hb, fun _ _ _ hh => by cases hh⟩

set_option maxRecDepth 100000 in
set_option maxHeartbeats 8000000 in
theorem examine_any {w0 : World} {B : Nat} {w : World} {L : Option Addr} {n c : Nat} {v : Int} {H : Option Addr} {hc : Nat} {hs : List Int} {O : Option Addr} {oc : Nat} {tr : List Tr} {most : Int} {l : List Term} (h : VerSt w0 B w L n c v H hc hs O oc tr most)
    (hT : TermsR w0 L n l) (hn : n ≤ 100000) (hcap : n ≤ c) (i : Nat) (hi : i < n) (hlen : hs.length = n + 1) (hy0 : -10 ≤ ig hs i) (hy1 : ig hs i ≤ 1000000) (htr : tr.length ≤ 100)
    (hI1 : (innerF tr n).2.1 ≤ n) (hI2 : 0 ≤ (innerF tr n).2.2) (hI3 : (innerF tr n).2.2 ≤ 1000000) :
    Calls Tryz.prog 38 #[.pointer (some ⟨B, 0, none⟩), .int .i64 i] w (RetExam w0 B L n c v H hc (stepP l v i hs tr most)) := by
  obtain rfl := hT.1
  have hil : i < hs.length := by omega
  obtain ⟨b, o, rfl, hb, k1, k2⟩ := TermsR.at_ (hT.keep h.bel) i hi
  obtain ⟨gH, rfl, hgl, q1, q2, q3⟩ := h.int_at i hil
  have hxi := insAt_get hi
  have hyi := ig_get hil
  rw [hyi] at hy0 hy1
  have c0 := h.blk.cell 0 (v := .slice (some ⟨b, o, none⟩) l.length c) rfl
  have c23 := h.blk.cell 23 (v := .slice (some ⟨gH, 0, none⟩) hs.length hc) rfl
  have hBl := h.blk.lt
  generalize hs[i] = y at *
  generalize l[i] = x at *
  obtain ⟨op, arg⟩ := x
  simp only [] at k1 k2
  have HX := Lib.hid hxi
  have HY := Lib.hid hyi
  have HT := Lib.hid hT
  have HS := Lib.hid h
  have Hlen := Lib.hid hlen
  have HI1 := Lib.hid hI1
  have HI2 := Lib.hid hI2
  have HI3 := Lib.hid hI3
  clear hT h hxi hyi hlen hI1 hI2 hI3
  go_enter Tryz.func38, Tryz.ntmps38
  go_upto_region 1 with fail
  go_cut [5, 6] (fun pv yv wc => ∃ g : Nat, pv = .pointer (some ⟨g, 0, none⟩) ∧ yv = .int .i64 y ∧ Hid (Blk wc g #[.int .i64 op, .int .i64 arg] 43) ∧ Hid (VerSt w0 B wc (some ⟨b, o, none⟩) l.length c v (some ⟨gH, 0, none⟩) hc hs O oc tr most))
  case first =>
    go_region
    all_goals
      go_wp2_with fail
      go_meet
      exact ⟨w.heap.size, rfl, rfl, (Blk.new _ _ _).drew, (HS.out.alloc _).drew⟩
  case rest =>
    clear k1 k2 q1 q2 q3 c0 c23 hBl hb hgl
    obtain ⟨g, rfl, rfl, HK, HVc⟩ := hcut
    have HV := Lib.hid (fun w' (k : Bel wc w') => HVc.out.keep k)
    have HB := Bel.refl wc
    have p0 := HK.out.cell 0 rfl
    have p1 := HK.out.cell 1 rfl
    have p2 := HK.out.lt
    have p3 := HVc.out.blk.lt
    have p4 := HVc.out.blk.cell 24 (v := .slice O tr.length oc) rfl
    have hl6 : l.length ≤ 1000000 := by omega
    have HF : Hid (∀ w', Bel wc w' → checksF l v tr i ⟨op, arg⟩ y = false → RetExam w0 B (some ⟨b, o, none⟩) l.length c v (some ⟨gH, 0, none⟩) hc (stepP l v i hs tr most) (.returned (.int .i64 7)) w') :=
      fun w' k hck => exam_bad HX.out HY.out hck (HVc.out.bel.trans k)
    by_cases a1 : y < 0
    · have a1b : decide (y < 0) = true := by simpa using a1
      have HC : checksF l v tr i ⟨op, arg⟩ y = false := by unfold checksF; rw [show decide (0 ≤ y) = false by simpa using a1]; rfl
      replace HC := Lib.hid HC
      go_wp2_with fail
      go_ret
      exact HF.out _ HB HC.out
    have a1b : decide (y < 0) = false := by simpa using a1
    have a1c : decide (0 ≤ y) = true := by simpa using a1
    cases ck : knownF ⟨op, arg⟩ v with
    | false =>
      have HC : Hid (checksF l v tr i ⟨op, arg⟩ y = false) := by show checksF l v tr i ⟨op, arg⟩ y = false; unfold checksF; rw [ck]; simp
      clear a1c
      go_wp2_with (first
        | (go_at_call 80; refine (known_any B _ v _ _ _ ⟨op, arg⟩ _ (HV.out _ HB).blk).mono ?_; rintro e w' ⟨rfl, hb'⟩; rw [ck]; replace HB := HB.trans hb'; clear hb'; have p0 := (HK.out.keep HB).cell 0 rfl; have p1 := (HK.out.keep HB).cell 1 rfl; have p2 := (HK.out.keep HB).lt; have p3 := (HV.out _ HB).blk.lt; have p4 := (HV.out _ HB).blk.cell 24 (v := .slice O tr.length oc) rfl))
      go_ret
      exact HF.out _ HB HC.out
    | true =>
    have hop : 1 ≤ op ∧ op ≤ 10 := by
      unfold knownF at ck
      simp only [Bool.and_eq_true, decide_eq_true_eq] at ck
      exact ck.1.1.1
    obtain ⟨hop1, hop2⟩ := hop
    by_cases a3 : (needsF ⟨op, arg⟩ && tr.isEmpty) = true
    · have HC : Hid (checksF l v tr i ⟨op, arg⟩ y = false) := by show checksF l v tr i ⟨op, arg⟩ y = false; unfold checksF; rw [a3]; simp
      rw [Bool.and_eq_true] at a3
      obtain ⟨cn, a4⟩ := a3
      have a5 : ((tr.length : Int) == 0) = true := by simpa using a4
      clear a4 a1c
      go_wp2_with (first
        | (go_at_call 80; refine (known_any B _ v _ _ _ ⟨op, arg⟩ _ (HV.out _ HB).blk).mono ?_; rintro e w' ⟨rfl, hb'⟩; rw [ck]; replace HB := HB.trans hb'; clear hb'; have p0 := (HK.out.keep HB).cell 0 rfl; have p1 := (HK.out.keep HB).cell 1 rfl; have p2 := (HK.out.keep HB).lt; have p3 := (HV.out _ HB).blk.lt; have p4 := (HV.out _ HB).blk.cell 24 (v := .slice O tr.length oc) rfl)
        | (go_at_call 81; refine (needsLoop_any _ ⟨op, arg⟩ _).mono ?_; rintro e w' ⟨rfl, hb'⟩; rw [cn]; replace HB := HB.trans hb'; clear hb'; have p0 := (HK.out.keep HB).cell 0 rfl; have p1 := (HK.out.keep HB).cell 1 rfl; have p2 := (HK.out.keep HB).lt; have p3 := (HV.out _ HB).blk.lt; have p4 := (HV.out _ HB).blk.cell 24 (v := .slice O tr.length oc) rfl))
      go_ret
      exact HF.out _ HB HC.out
    rw [Bool.not_eq_true] at a3
    have A3 := Lib.hid a3; clear a3
    have a6 : needsF ⟨op, arg⟩ = true → ((tr.length : Int) == 0) = false := by
      intro hh
      have := A3.out
      rw [hh, Bool.true_and] at this
      cases tr with
      | nil => simp at this
      | cons => simp; omega
    have A6 := Lib.hid a6; clear a6
    by_cases a7 : y < wantsF op
    · have HC : Hid (checksF l v tr i ⟨op, arg⟩ y = false) := by show checksF l v tr i ⟨op, arg⟩ y = false; unfold checksF; rw [show decide (wantsF op ≤ y) = false by simpa using a7]; simp
      have hcase : ((op = 5 ∨ op = 7) ∧ y < 1) ∨ (op = 6 ∧ y < 2) := by
        unfold wantsF at a7
        split at a7
        · left; exact ⟨by assumption, by omega⟩
        · split at a7
          · right; exact ⟨by assumption, by omega⟩
          · omega
      clear a7 a1c
      cases cn : needsF ⟨op, arg⟩ with
      | false =>
        rcases hcase with ⟨rfl | rfl, a9⟩ | ⟨rfl, a9⟩
        · go_wp2_with (first
            | (go_at_call 80; refine (known_any B _ v _ _ _ ⟨5, arg⟩ _ (HV.out _ HB).blk).mono ?_; rintro e w' ⟨rfl, hb'⟩; rw [ck]; replace HB := HB.trans hb'; clear hb'; have p0 := (HK.out.keep HB).cell 0 rfl; have p1 := (HK.out.keep HB).cell 1 rfl; have p2 := (HK.out.keep HB).lt; have p3 := (HV.out _ HB).blk.lt; have p4 := (HV.out _ HB).blk.cell 24 (v := .slice O tr.length oc) rfl)
            | (go_at_call 81; refine (needsLoop_any _ ⟨5, arg⟩ _).mono ?_; rintro e w' ⟨rfl, hb'⟩; rw [cn]; replace HB := HB.trans hb'; clear hb'; have p0 := (HK.out.keep HB).cell 0 rfl; have p1 := (HK.out.keep HB).cell 1 rfl; have p2 := (HK.out.keep HB).lt; have p3 := (HV.out _ HB).blk.lt; have p4 := (HV.out _ HB).blk.cell 24 (v := .slice O tr.length oc) rfl))
          go_ret
          exact HF.out _ HB HC.out
        · go_wp2_with (first
            | (go_at_call 80; refine (known_any B _ v _ _ _ ⟨7, arg⟩ _ (HV.out _ HB).blk).mono ?_; rintro e w' ⟨rfl, hb'⟩; rw [ck]; replace HB := HB.trans hb'; clear hb'; have p0 := (HK.out.keep HB).cell 0 rfl; have p1 := (HK.out.keep HB).cell 1 rfl; have p2 := (HK.out.keep HB).lt; have p3 := (HV.out _ HB).blk.lt; have p4 := (HV.out _ HB).blk.cell 24 (v := .slice O tr.length oc) rfl)
            | (go_at_call 81; refine (needsLoop_any _ ⟨7, arg⟩ _).mono ?_; rintro e w' ⟨rfl, hb'⟩; rw [cn]; replace HB := HB.trans hb'; clear hb'; have p0 := (HK.out.keep HB).cell 0 rfl; have p1 := (HK.out.keep HB).cell 1 rfl; have p2 := (HK.out.keep HB).lt; have p3 := (HV.out _ HB).blk.lt; have p4 := (HV.out _ HB).blk.cell 24 (v := .slice O tr.length oc) rfl))
          go_ret
          exact HF.out _ HB HC.out
        · go_wp2_with (first
            | (go_at_call 80; refine (known_any B _ v _ _ _ ⟨6, arg⟩ _ (HV.out _ HB).blk).mono ?_; rintro e w' ⟨rfl, hb'⟩; rw [ck]; replace HB := HB.trans hb'; clear hb'; have p0 := (HK.out.keep HB).cell 0 rfl; have p1 := (HK.out.keep HB).cell 1 rfl; have p2 := (HK.out.keep HB).lt; have p3 := (HV.out _ HB).blk.lt; have p4 := (HV.out _ HB).blk.cell 24 (v := .slice O tr.length oc) rfl)
            | (go_at_call 81; refine (needsLoop_any _ ⟨6, arg⟩ _).mono ?_; rintro e w' ⟨rfl, hb'⟩; rw [cn]; replace HB := HB.trans hb'; clear hb'; have p0 := (HK.out.keep HB).cell 0 rfl; have p1 := (HK.out.keep HB).cell 1 rfl; have p2 := (HK.out.keep HB).lt; have p3 := (HV.out _ HB).blk.lt; have p4 := (HV.out _ HB).blk.cell 24 (v := .slice O tr.length oc) rfl))
          go_ret
          exact HF.out _ HB HC.out
      | true =>
        have a8 := A6.out cn
        rcases hcase with ⟨rfl | rfl, a9⟩ | ⟨rfl, a9⟩
        · go_wp2_with (first
            | (go_at_call 80; refine (known_any B _ v _ _ _ ⟨5, arg⟩ _ (HV.out _ HB).blk).mono ?_; rintro e w' ⟨rfl, hb'⟩; rw [ck]; replace HB := HB.trans hb'; clear hb'; have p0 := (HK.out.keep HB).cell 0 rfl; have p1 := (HK.out.keep HB).cell 1 rfl; have p2 := (HK.out.keep HB).lt; have p3 := (HV.out _ HB).blk.lt; have p4 := (HV.out _ HB).blk.cell 24 (v := .slice O tr.length oc) rfl)
            | (go_at_call 81; refine (needsLoop_any _ ⟨5, arg⟩ _).mono ?_; rintro e w' ⟨rfl, hb'⟩; rw [cn]; replace HB := HB.trans hb'; clear hb'; have p0 := (HK.out.keep HB).cell 0 rfl; have p1 := (HK.out.keep HB).cell 1 rfl; have p2 := (HK.out.keep HB).lt; have p3 := (HV.out _ HB).blk.lt; have p4 := (HV.out _ HB).blk.cell 24 (v := .slice O tr.length oc) rfl))
          go_ret
          exact HF.out _ HB HC.out
        · go_wp2_with (first
            | (go_at_call 80; refine (known_any B _ v _ _ _ ⟨7, arg⟩ _ (HV.out _ HB).blk).mono ?_; rintro e w' ⟨rfl, hb'⟩; rw [ck]; replace HB := HB.trans hb'; clear hb'; have p0 := (HK.out.keep HB).cell 0 rfl; have p1 := (HK.out.keep HB).cell 1 rfl; have p2 := (HK.out.keep HB).lt; have p3 := (HV.out _ HB).blk.lt; have p4 := (HV.out _ HB).blk.cell 24 (v := .slice O tr.length oc) rfl)
            | (go_at_call 81; refine (needsLoop_any _ ⟨7, arg⟩ _).mono ?_; rintro e w' ⟨rfl, hb'⟩; rw [cn]; replace HB := HB.trans hb'; clear hb'; have p0 := (HK.out.keep HB).cell 0 rfl; have p1 := (HK.out.keep HB).cell 1 rfl; have p2 := (HK.out.keep HB).lt; have p3 := (HV.out _ HB).blk.lt; have p4 := (HV.out _ HB).blk.cell 24 (v := .slice O tr.length oc) rfl))
          go_ret
          exact HF.out _ HB HC.out
        · go_wp2_with (first
            | (go_at_call 80; refine (known_any B _ v _ _ _ ⟨6, arg⟩ _ (HV.out _ HB).blk).mono ?_; rintro e w' ⟨rfl, hb'⟩; rw [ck]; replace HB := HB.trans hb'; clear hb'; have p0 := (HK.out.keep HB).cell 0 rfl; have p1 := (HK.out.keep HB).cell 1 rfl; have p2 := (HK.out.keep HB).lt; have p3 := (HV.out _ HB).blk.lt; have p4 := (HV.out _ HB).blk.cell 24 (v := .slice O tr.length oc) rfl)
            | (go_at_call 81; refine (needsLoop_any _ ⟨6, arg⟩ _).mono ?_; rintro e w' ⟨rfl, hb'⟩; rw [cn]; replace HB := HB.trans hb'; clear hb'; have p0 := (HK.out.keep HB).cell 0 rfl; have p1 := (HK.out.keep HB).cell 1 rfl; have p2 := (HK.out.keep HB).lt; have p3 := (HV.out _ HB).blk.lt; have p4 := (HV.out _ HB).blk.cell 24 (v := .slice O tr.length oc) rfl))
          go_ret
          exact HF.out _ HB HC.out
    have a7b : Hid (decide (wantsF op ≤ y) = true) := by show decide (wantsF op ≤ y) = true; simpa using a7
    have w57 : op = 5 ∨ op = 7 → decide (y < 1) = false := by
      intro hh; unfold wantsF at a7; rw [if_pos hh] at a7; simpa using a7
    have w6 : op = 6 → decide (y < 2) = false := by
      intro hh; unfold wantsF at a7; rw [if_neg (by omega), if_pos hh] at a7; simpa using a7
    have W57 := Lib.hid w57
    have W6 := Lib.hid w6
    clear w57 w6 a7
    cases ce : eachF l tr i ⟨op, arg⟩ with
    | false =>
      have HC : Hid (checksF l v tr i ⟨op, arg⟩ y = false) := by show checksF l v tr i ⟨op, arg⟩ y = false; unfold checksF; rw [ce]; simp
      obtain rfl : op = 9 := by
        unfold eachF at ce
        rw [Bool.or_eq_false_iff] at ce
        simpa using ce.1
      have cn : needsF ⟨9, arg⟩ = false := by simp [needsF]
      go_wp2_with (first
        | (go_at_call 80; refine (known_any B _ v _ _ _ ⟨9, arg⟩ _ (HV.out _ HB).blk).mono ?_; rintro e w' ⟨rfl, hb'⟩; rw [ck]; replace HB := HB.trans hb'; clear hb'; have p0 := (HK.out.keep HB).cell 0 rfl; have p1 := (HK.out.keep HB).cell 1 rfl; have p2 := (HK.out.keep HB).lt; have p3 := (HV.out _ HB).blk.lt; have p4 := (HV.out _ HB).blk.cell 24 (v := .slice O tr.length oc) rfl)
        | (go_at_call 81; refine (needsLoop_any _ ⟨9, arg⟩ _).mono ?_; rintro e w' ⟨rfl, hb'⟩; rw [cn]; replace HB := HB.trans hb'; clear hb'; have p0 := (HK.out.keep HB).cell 0 rfl; have p1 := (HK.out.keep HB).cell 1 rfl; have p2 := (HK.out.keep HB).lt; have p3 := (HV.out _ HB).blk.lt; have p4 := (HV.out _ HB).blk.cell 24 (v := .slice O tr.length oc) rfl)
        | (go_at_call 82; refine (eachAllowed_any (HV.out _ HB) HT.out hl6 i ⟨9, arg⟩).mono ?_; rintro e w' ⟨rfl, hb'⟩; rw [ce]; replace HB := HB.trans hb'; clear hb'; have p0 := (HK.out.keep HB).cell 0 rfl; have p1 := (HK.out.keep HB).cell 1 rfl; have p2 := (HK.out.keep HB).lt; have p3 := (HV.out _ HB).blk.lt; have p4 := (HV.out _ HB).blk.cell 24 (v := .slice O tr.length oc) rfl))
      go_ret
      exact HF.out _ HB HC.out
    | true =>
    cases cx : nextF l tr i ⟨op, arg⟩ y with
    | false =>
      have HC : Hid (checksF l v tr i ⟨op, arg⟩ y = false) := by show checksF l v tr i ⟨op, arg⟩ y = false; unfold checksF; rw [cx]; simp
      obtain rfl : op = 10 := by
        unfold nextF at cx
        rw [Bool.or_eq_false_iff] at cx
        simpa using cx.1
      have cn : needsF ⟨10, arg⟩ = false := by simp [needsF]
      go_wp2_with (first
        | (go_at_call 80; refine (known_any B _ v _ _ _ ⟨10, arg⟩ _ (HV.out _ HB).blk).mono ?_; rintro e w' ⟨rfl, hb'⟩; rw [ck]; replace HB := HB.trans hb'; clear hb'; have p0 := (HK.out.keep HB).cell 0 rfl; have p1 := (HK.out.keep HB).cell 1 rfl; have p2 := (HK.out.keep HB).lt; have p3 := (HV.out _ HB).blk.lt; have p4 := (HV.out _ HB).blk.cell 24 (v := .slice O tr.length oc) rfl)
        | (go_at_call 81; refine (needsLoop_any _ ⟨10, arg⟩ _).mono ?_; rintro e w' ⟨rfl, hb'⟩; rw [cn]; replace HB := HB.trans hb'; clear hb'; have p0 := (HK.out.keep HB).cell 0 rfl; have p1 := (HK.out.keep HB).cell 1 rfl; have p2 := (HK.out.keep HB).lt; have p3 := (HV.out _ HB).blk.lt; have p4 := (HV.out _ HB).blk.cell 24 (v := .slice O tr.length oc) rfl)
        | (go_at_call 82; refine (eachAllowed_any (HV.out _ HB) HT.out hl6 i ⟨10, arg⟩).mono ?_; rintro e w' ⟨rfl, hb'⟩; rw [ce]; replace HB := HB.trans hb'; clear hb'; have p0 := (HK.out.keep HB).cell 0 rfl; have p1 := (HK.out.keep HB).cell 1 rfl; have p2 := (HK.out.keep HB).lt; have p3 := (HV.out _ HB).blk.lt; have p4 := (HV.out _ HB).blk.cell 24 (v := .slice O tr.length oc) rfl)
        | (go_at_call 83; refine (nextAllowed_any (l := l) (HV.out _ HB) rfl i ⟨10, arg⟩ _ HI2.out HI3.out).mono ?_; rintro e w' ⟨rfl, hb'⟩; rw [cx]; replace HB := HB.trans hb'; clear hb'; have p0 := (HK.out.keep HB).cell 0 rfl; have p1 := (HK.out.keep HB).cell 1 rfl; have p2 := (HK.out.keep HB).lt; have p3 := (HV.out _ HB).blk.lt; have p4 := (HV.out _ HB).blk.cell 24 (v := .slice O tr.length oc) rfl))
      go_ret
      exact HF.out _ HB HC.out
    | true =>
    cases cj : jumpF l tr i ⟨op, arg⟩ with
    | false =>
      have HC : Hid (checksF l v tr i ⟨op, arg⟩ y = false) := by show checksF l v tr i ⟨op, arg⟩ y = false; unfold checksF; rw [cj]; simp
      have hop : op = 7 ∨ op = 8 := by
        unfold jumpF at cj
        rw [Bool.or_eq_false_iff] at cj
        have := cj.1
        simp at this
        omega
      rcases hop with rfl | rfl
      · have w1 := W57.out (.inr rfl)
        have cn : needsF ⟨7, arg⟩ = false := by simp [needsF]
        go_wp2_with (first
          | (go_at_call 80; refine (known_any B _ v _ _ _ ⟨7, arg⟩ _ (HV.out _ HB).blk).mono ?_; rintro e w' ⟨rfl, hb'⟩; rw [ck]; replace HB := HB.trans hb'; clear hb'; have p0 := (HK.out.keep HB).cell 0 rfl; have p1 := (HK.out.keep HB).cell 1 rfl; have p2 := (HK.out.keep HB).lt; have p3 := (HV.out _ HB).blk.lt; have p4 := (HV.out _ HB).blk.cell 24 (v := .slice O tr.length oc) rfl)
          | (go_at_call 81; refine (needsLoop_any _ ⟨7, arg⟩ _).mono ?_; rintro e w' ⟨rfl, hb'⟩; rw [cn]; replace HB := HB.trans hb'; clear hb'; have p0 := (HK.out.keep HB).cell 0 rfl; have p1 := (HK.out.keep HB).cell 1 rfl; have p2 := (HK.out.keep HB).lt; have p3 := (HV.out _ HB).blk.lt; have p4 := (HV.out _ HB).blk.cell 24 (v := .slice O tr.length oc) rfl)
          | (go_at_call 82; refine (eachAllowed_any (HV.out _ HB) HT.out hl6 i ⟨7, arg⟩).mono ?_; rintro e w' ⟨rfl, hb'⟩; rw [ce]; replace HB := HB.trans hb'; clear hb'; have p0 := (HK.out.keep HB).cell 0 rfl; have p1 := (HK.out.keep HB).cell 1 rfl; have p2 := (HK.out.keep HB).lt; have p3 := (HV.out _ HB).blk.lt; have p4 := (HV.out _ HB).blk.cell 24 (v := .slice O tr.length oc) rfl)
          | (go_at_call 83; refine (nextAllowed_any (l := l) (HV.out _ HB) rfl i ⟨7, arg⟩ _ HI2.out HI3.out).mono ?_; rintro e w' ⟨rfl, hb'⟩; rw [cx]; replace HB := HB.trans hb'; clear hb'; have p0 := (HK.out.keep HB).cell 0 rfl; have p1 := (HK.out.keep HB).cell 1 rfl; have p2 := (HK.out.keep HB).lt; have p3 := (HV.out _ HB).blk.lt; have p4 := (HV.out _ HB).blk.cell 24 (v := .slice O tr.length oc) rfl)
          | (go_at_call 84; refine (jumpAllowed_any (HV.out _ HB) HT.out hl6 hcap i ⟨7, arg⟩ HI1.out).mono ?_; rintro e w' ⟨rfl, hb'⟩; rw [cj]; replace HB := HB.trans hb'; clear hb'; have p0 := (HK.out.keep HB).cell 0 rfl; have p1 := (HK.out.keep HB).cell 1 rfl; have p2 := (HK.out.keep HB).lt; have p3 := (HV.out _ HB).blk.lt; have p4 := (HV.out _ HB).blk.cell 24 (v := .slice O tr.length oc) rfl))
        go_ret
        exact HF.out _ HB HC.out
      · have cn : needsF ⟨8, arg⟩ = false := by simp [needsF]
        go_wp2_with (first
          | (go_at_call 80; refine (known_any B _ v _ _ _ ⟨8, arg⟩ _ (HV.out _ HB).blk).mono ?_; rintro e w' ⟨rfl, hb'⟩; rw [ck]; replace HB := HB.trans hb'; clear hb'; have p0 := (HK.out.keep HB).cell 0 rfl; have p1 := (HK.out.keep HB).cell 1 rfl; have p2 := (HK.out.keep HB).lt; have p3 := (HV.out _ HB).blk.lt; have p4 := (HV.out _ HB).blk.cell 24 (v := .slice O tr.length oc) rfl)
          | (go_at_call 81; refine (needsLoop_any _ ⟨8, arg⟩ _).mono ?_; rintro e w' ⟨rfl, hb'⟩; rw [cn]; replace HB := HB.trans hb'; clear hb'; have p0 := (HK.out.keep HB).cell 0 rfl; have p1 := (HK.out.keep HB).cell 1 rfl; have p2 := (HK.out.keep HB).lt; have p3 := (HV.out _ HB).blk.lt; have p4 := (HV.out _ HB).blk.cell 24 (v := .slice O tr.length oc) rfl)
          | (go_at_call 82; refine (eachAllowed_any (HV.out _ HB) HT.out hl6 i ⟨8, arg⟩).mono ?_; rintro e w' ⟨rfl, hb'⟩; rw [ce]; replace HB := HB.trans hb'; clear hb'; have p0 := (HK.out.keep HB).cell 0 rfl; have p1 := (HK.out.keep HB).cell 1 rfl; have p2 := (HK.out.keep HB).lt; have p3 := (HV.out _ HB).blk.lt; have p4 := (HV.out _ HB).blk.cell 24 (v := .slice O tr.length oc) rfl)
          | (go_at_call 83; refine (nextAllowed_any (l := l) (HV.out _ HB) rfl i ⟨8, arg⟩ _ HI2.out HI3.out).mono ?_; rintro e w' ⟨rfl, hb'⟩; rw [cx]; replace HB := HB.trans hb'; clear hb'; have p0 := (HK.out.keep HB).cell 0 rfl; have p1 := (HK.out.keep HB).cell 1 rfl; have p2 := (HK.out.keep HB).lt; have p3 := (HV.out _ HB).blk.lt; have p4 := (HV.out _ HB).blk.cell 24 (v := .slice O tr.length oc) rfl)
          | (go_at_call 84; refine (jumpAllowed_any (HV.out _ HB) HT.out hl6 hcap i ⟨8, arg⟩ HI1.out).mono ?_; rintro e w' ⟨rfl, hb'⟩; rw [cj]; replace HB := HB.trans hb'; clear hb'; have p0 := (HK.out.keep HB).cell 0 rfl; have p1 := (HK.out.keep HB).cell 1 rfl; have p2 := (HK.out.keep HB).lt; have p3 := (HV.out _ HB).blk.lt; have p4 := (HV.out _ HB).blk.cell 24 (v := .slice O tr.length oc) rfl))
        go_ret
        exact HF.out _ HB HC.out
    | true =>
    have HC : checksF l v tr i ⟨op, arg⟩ y = true := by
      unfold checksF
      simp only []
      rw [a1c, ck, A3.out, a7b.out, ce, cx, cj]; rfl
    replace HC := Lib.hid HC
    have E78 : Hid (op = 7 ∨ op = 8 → 0 ≤ arg ∧ arg < hs.length) := by
      intro hh
      have hh2 : decide (op ≠ 7 ∧ op ≠ 8) = false := by simp; omega
      unfold jumpF at cj
      simp only [hh2, Bool.false_or, Bool.and_eq_true, decide_eq_true_eq] at cj
      have := HI1.out
      rw [Hlen.out]
      omega
    have E9 : Hid (op = 9 → 0 ≤ arg ∧ arg + 1 < hs.length) := by
      intro hh
      have hh2 : decide (op ≠ 9) = false := by simp [hh]
      unfold eachF at ce
      simp only [hh2, Bool.false_or, Bool.and_eq_true, decide_eq_true_eq] at ce
      rw [Hlen.out]
      omega
    have E10 : Hid (op = 10 → 1 ≤ tr.length) := by
      intro hh
      have hh2 : decide (op ≠ 10) = false := by simp [hh]
      unfold nextF at cx
      simp only [hh2, Bool.false_or, Bool.and_eq_true, decide_eq_true_eq] at cx
      cases tr with
      | nil => rw [innerF_nil] at cx; simp at cx; omega
      | cons => simp
    clear a1c A3 a7b
    by_cases o57 : op = 5 ∨ op = 7
    · have w1 := W57.out o57
      rcases o57 with rfl | rfl
      · have cn : needsF ⟨5, arg⟩ = false := by simp [needsF]
        go_wp2_with (first
          | (go_at_call 80; refine (known_any B _ v _ _ _ ⟨5, arg⟩ _ (HV.out _ HB).blk).mono ?_; rintro e w' ⟨rfl, hb'⟩; rw [ck]; replace HB := HB.trans hb'; clear hb'; have p0 := (HK.out.keep HB).cell 0 rfl; have p1 := (HK.out.keep HB).cell 1 rfl; have p2 := (HK.out.keep HB).lt; have p3 := (HV.out _ HB).blk.lt; have p4 := (HV.out _ HB).blk.cell 24 (v := .slice O tr.length oc) rfl)
          | (go_at_call 81; refine (needsLoop_any _ ⟨5, arg⟩ _).mono ?_; rintro e w' ⟨rfl, hb'⟩; rw [cn]; replace HB := HB.trans hb'; clear hb'; have p0 := (HK.out.keep HB).cell 0 rfl; have p1 := (HK.out.keep HB).cell 1 rfl; have p2 := (HK.out.keep HB).lt; have p3 := (HV.out _ HB).blk.lt; have p4 := (HV.out _ HB).blk.cell 24 (v := .slice O tr.length oc) rfl)
          | (go_at_call 82; refine (eachAllowed_any (HV.out _ HB) HT.out hl6 i ⟨5, arg⟩).mono ?_; rintro e w' ⟨rfl, hb'⟩; rw [ce]; replace HB := HB.trans hb'; clear hb'; have p0 := (HK.out.keep HB).cell 0 rfl; have p1 := (HK.out.keep HB).cell 1 rfl; have p2 := (HK.out.keep HB).lt; have p3 := (HV.out _ HB).blk.lt; have p4 := (HV.out _ HB).blk.cell 24 (v := .slice O tr.length oc) rfl)
          | (go_at_call 83; refine (nextAllowed_any (l := l) (HV.out _ HB) rfl i ⟨5, arg⟩ _ HI2.out HI3.out).mono ?_; rintro e w' ⟨rfl, hb'⟩; rw [cx]; replace HB := HB.trans hb'; clear hb'; have p0 := (HK.out.keep HB).cell 0 rfl; have p1 := (HK.out.keep HB).cell 1 rfl; have p2 := (HK.out.keep HB).lt; have p3 := (HV.out _ HB).blk.lt; have p4 := (HV.out _ HB).blk.cell 24 (v := .slice O tr.length oc) rfl)
          | (go_at_call 84; refine (jumpAllowed_any (HV.out _ HB) HT.out hl6 hcap i ⟨5, arg⟩ HI1.out).mono ?_; rintro e w' ⟨rfl, hb'⟩; rw [cj]; replace HB := HB.trans hb'; clear hb'; have p0 := (HK.out.keep HB).cell 0 rfl; have p1 := (HK.out.keep HB).cell 1 rfl; have p2 := (HK.out.keep HB).lt; have p3 := (HV.out _ HB).blk.lt; have p4 := (HV.out _ HB).blk.cell 24 (v := .slice O tr.length oc) rfl))
        refine (effect_any (HV.out _ HB) i 5 arg y (by rw [Hlen.out]; omega) (by rw [Hlen.out]; omega) hy0 hy1 htr (by omega) (by omega) (fun h => E78.out (by first | exact h | simp)) (fun h => E9.out (by first | exact h | simp)) (fun h => E10.out (by first | exact h | simp))).mono ?_
        intro e w2 hret
        obtain ⟨z, rfl⟩ : ∃ z : Int, e = .returned (.int .i64 z) := ⟨_, hret.1⟩
        have HQ := Lib.hid (hret.exam HX.out HY.out HC.out); clear hret
        go_wp2_with fail
        go_ret
        exact HQ.out
      · have cn : needsF ⟨7, arg⟩ = false := by simp [needsF]
        go_wp2_with (first
          | (go_at_call 80; refine (known_any B _ v _ _ _ ⟨7, arg⟩ _ (HV.out _ HB).blk).mono ?_; rintro e w' ⟨rfl, hb'⟩; rw [ck]; replace HB := HB.trans hb'; clear hb'; have p0 := (HK.out.keep HB).cell 0 rfl; have p1 := (HK.out.keep HB).cell 1 rfl; have p2 := (HK.out.keep HB).lt; have p3 := (HV.out _ HB).blk.lt; have p4 := (HV.out _ HB).blk.cell 24 (v := .slice O tr.length oc) rfl)
          | (go_at_call 81; refine (needsLoop_any _ ⟨7, arg⟩ _).mono ?_; rintro e w' ⟨rfl, hb'⟩; rw [cn]; replace HB := HB.trans hb'; clear hb'; have p0 := (HK.out.keep HB).cell 0 rfl; have p1 := (HK.out.keep HB).cell 1 rfl; have p2 := (HK.out.keep HB).lt; have p3 := (HV.out _ HB).blk.lt; have p4 := (HV.out _ HB).blk.cell 24 (v := .slice O tr.length oc) rfl)
          | (go_at_call 82; refine (eachAllowed_any (HV.out _ HB) HT.out hl6 i ⟨7, arg⟩).mono ?_; rintro e w' ⟨rfl, hb'⟩; rw [ce]; replace HB := HB.trans hb'; clear hb'; have p0 := (HK.out.keep HB).cell 0 rfl; have p1 := (HK.out.keep HB).cell 1 rfl; have p2 := (HK.out.keep HB).lt; have p3 := (HV.out _ HB).blk.lt; have p4 := (HV.out _ HB).blk.cell 24 (v := .slice O tr.length oc) rfl)
          | (go_at_call 83; refine (nextAllowed_any (l := l) (HV.out _ HB) rfl i ⟨7, arg⟩ _ HI2.out HI3.out).mono ?_; rintro e w' ⟨rfl, hb'⟩; rw [cx]; replace HB := HB.trans hb'; clear hb'; have p0 := (HK.out.keep HB).cell 0 rfl; have p1 := (HK.out.keep HB).cell 1 rfl; have p2 := (HK.out.keep HB).lt; have p3 := (HV.out _ HB).blk.lt; have p4 := (HV.out _ HB).blk.cell 24 (v := .slice O tr.length oc) rfl)
          | (go_at_call 84; refine (jumpAllowed_any (HV.out _ HB) HT.out hl6 hcap i ⟨7, arg⟩ HI1.out).mono ?_; rintro e w' ⟨rfl, hb'⟩; rw [cj]; replace HB := HB.trans hb'; clear hb'; have p0 := (HK.out.keep HB).cell 0 rfl; have p1 := (HK.out.keep HB).cell 1 rfl; have p2 := (HK.out.keep HB).lt; have p3 := (HV.out _ HB).blk.lt; have p4 := (HV.out _ HB).blk.cell 24 (v := .slice O tr.length oc) rfl))
        refine (effect_any (HV.out _ HB) i 7 arg y (by rw [Hlen.out]; omega) (by rw [Hlen.out]; omega) hy0 hy1 htr (by omega) (by omega) (fun h => E78.out (by first | exact h | simp)) (fun h => E9.out (by first | exact h | simp)) (fun h => E10.out (by first | exact h | simp))).mono ?_
        intro e w2 hret
        obtain ⟨z, rfl⟩ : ∃ z : Int, e = .returned (.int .i64 z) := ⟨_, hret.1⟩
        have HQ := Lib.hid (hret.exam HX.out HY.out HC.out); clear hret
        go_wp2_with fail
        go_ret
        exact HQ.out
    · have o5 : (op == 5) = false := by simp; omega
      have o7 : (op == 7) = false := by simp; omega
      by_cases o6 : op = 6
      · have w1 := W6.out o6
        subst o6
        have cn : needsF ⟨6, arg⟩ = false := by simp [needsF]
        go_wp2_with (first
          | (go_at_call 80; refine (known_any B _ v _ _ _ ⟨6, arg⟩ _ (HV.out _ HB).blk).mono ?_; rintro e w' ⟨rfl, hb'⟩; rw [ck]; replace HB := HB.trans hb'; clear hb'; have p0 := (HK.out.keep HB).cell 0 rfl; have p1 := (HK.out.keep HB).cell 1 rfl; have p2 := (HK.out.keep HB).lt; have p3 := (HV.out _ HB).blk.lt; have p4 := (HV.out _ HB).blk.cell 24 (v := .slice O tr.length oc) rfl)
          | (go_at_call 81; refine (needsLoop_any _ ⟨6, arg⟩ _).mono ?_; rintro e w' ⟨rfl, hb'⟩; rw [cn]; replace HB := HB.trans hb'; clear hb'; have p0 := (HK.out.keep HB).cell 0 rfl; have p1 := (HK.out.keep HB).cell 1 rfl; have p2 := (HK.out.keep HB).lt; have p3 := (HV.out _ HB).blk.lt; have p4 := (HV.out _ HB).blk.cell 24 (v := .slice O tr.length oc) rfl)
          | (go_at_call 82; refine (eachAllowed_any (HV.out _ HB) HT.out hl6 i ⟨6, arg⟩).mono ?_; rintro e w' ⟨rfl, hb'⟩; rw [ce]; replace HB := HB.trans hb'; clear hb'; have p0 := (HK.out.keep HB).cell 0 rfl; have p1 := (HK.out.keep HB).cell 1 rfl; have p2 := (HK.out.keep HB).lt; have p3 := (HV.out _ HB).blk.lt; have p4 := (HV.out _ HB).blk.cell 24 (v := .slice O tr.length oc) rfl)
          | (go_at_call 83; refine (nextAllowed_any (l := l) (HV.out _ HB) rfl i ⟨6, arg⟩ _ HI2.out HI3.out).mono ?_; rintro e w' ⟨rfl, hb'⟩; rw [cx]; replace HB := HB.trans hb'; clear hb'; have p0 := (HK.out.keep HB).cell 0 rfl; have p1 := (HK.out.keep HB).cell 1 rfl; have p2 := (HK.out.keep HB).lt; have p3 := (HV.out _ HB).blk.lt; have p4 := (HV.out _ HB).blk.cell 24 (v := .slice O tr.length oc) rfl)
          | (go_at_call 84; refine (jumpAllowed_any (HV.out _ HB) HT.out hl6 hcap i ⟨6, arg⟩ HI1.out).mono ?_; rintro e w' ⟨rfl, hb'⟩; rw [cj]; replace HB := HB.trans hb'; clear hb'; have p0 := (HK.out.keep HB).cell 0 rfl; have p1 := (HK.out.keep HB).cell 1 rfl; have p2 := (HK.out.keep HB).lt; have p3 := (HV.out _ HB).blk.lt; have p4 := (HV.out _ HB).blk.cell 24 (v := .slice O tr.length oc) rfl))
        refine (effect_any (HV.out _ HB) i 6 arg y (by rw [Hlen.out]; omega) (by rw [Hlen.out]; omega) hy0 hy1 htr (by omega) (by omega) (fun h => E78.out (by first | exact h | simp)) (fun h => E9.out (by first | exact h | simp)) (fun h => E10.out (by first | exact h | simp))).mono ?_
        intro e w2 hret
        obtain ⟨z, rfl⟩ : ∃ z : Int, e = .returned (.int .i64 z) := ⟨_, hret.1⟩
        have HQ := Lib.hid (hret.exam HX.out HY.out HC.out); clear hret
        go_wp2_with fail
        go_ret
        exact HQ.out
      · have o6' : (op == 6) = false := by simpa using o6
        cases cn : needsF ⟨op, arg⟩ with
        | false =>
          go_wp2_with (first
            | (go_at_call 80; refine (known_any B _ v _ _ _ ⟨op, arg⟩ _ (HV.out _ HB).blk).mono ?_; rintro e w' ⟨rfl, hb'⟩; rw [ck]; replace HB := HB.trans hb'; clear hb'; have p0 := (HK.out.keep HB).cell 0 rfl; have p1 := (HK.out.keep HB).cell 1 rfl; have p2 := (HK.out.keep HB).lt; have p3 := (HV.out _ HB).blk.lt; have p4 := (HV.out _ HB).blk.cell 24 (v := .slice O tr.length oc) rfl)
            | (go_at_call 81; refine (needsLoop_any _ ⟨op, arg⟩ _).mono ?_; rintro e w' ⟨rfl, hb'⟩; rw [cn]; replace HB := HB.trans hb'; clear hb'; have p0 := (HK.out.keep HB).cell 0 rfl; have p1 := (HK.out.keep HB).cell 1 rfl; have p2 := (HK.out.keep HB).lt; have p3 := (HV.out _ HB).blk.lt; have p4 := (HV.out _ HB).blk.cell 24 (v := .slice O tr.length oc) rfl)
            | (go_at_call 82; refine (eachAllowed_any (HV.out _ HB) HT.out hl6 i ⟨op, arg⟩).mono ?_; rintro e w' ⟨rfl, hb'⟩; rw [ce]; replace HB := HB.trans hb'; clear hb'; have p0 := (HK.out.keep HB).cell 0 rfl; have p1 := (HK.out.keep HB).cell 1 rfl; have p2 := (HK.out.keep HB).lt; have p3 := (HV.out _ HB).blk.lt; have p4 := (HV.out _ HB).blk.cell 24 (v := .slice O tr.length oc) rfl)
            | (go_at_call 83; refine (nextAllowed_any (l := l) (HV.out _ HB) rfl i ⟨op, arg⟩ _ HI2.out HI3.out).mono ?_; rintro e w' ⟨rfl, hb'⟩; rw [cx]; replace HB := HB.trans hb'; clear hb'; have p0 := (HK.out.keep HB).cell 0 rfl; have p1 := (HK.out.keep HB).cell 1 rfl; have p2 := (HK.out.keep HB).lt; have p3 := (HV.out _ HB).blk.lt; have p4 := (HV.out _ HB).blk.cell 24 (v := .slice O tr.length oc) rfl)
            | (go_at_call 84; refine (jumpAllowed_any (HV.out _ HB) HT.out hl6 hcap i ⟨op, arg⟩ HI1.out).mono ?_; rintro e w' ⟨rfl, hb'⟩; rw [cj]; replace HB := HB.trans hb'; clear hb'; have p0 := (HK.out.keep HB).cell 0 rfl; have p1 := (HK.out.keep HB).cell 1 rfl; have p2 := (HK.out.keep HB).lt; have p3 := (HV.out _ HB).blk.lt; have p4 := (HV.out _ HB).blk.cell 24 (v := .slice O tr.length oc) rfl))
          refine (effect_any (HV.out _ HB) i op arg y (by rw [Hlen.out]; omega) (by rw [Hlen.out]; omega) hy0 hy1 htr (by omega) (by omega) (fun h => E78.out (by first | exact h | simp)) (fun h => E9.out (by first | exact h | simp)) (fun h => E10.out (by first | exact h | simp))).mono ?_
          intro e w2 hret
          obtain ⟨z, rfl⟩ : ∃ z : Int, e = .returned (.int .i64 z) := ⟨_, hret.1⟩
          have HQ := Lib.hid (hret.exam HX.out HY.out HC.out); clear hret
          go_wp2_with fail
          go_ret
          exact HQ.out
        | true =>
          have a8 := A6.out cn
          go_wp2_with (first
            | (go_at_call 80; refine (known_any B _ v _ _ _ ⟨op, arg⟩ _ (HV.out _ HB).blk).mono ?_; rintro e w' ⟨rfl, hb'⟩; rw [ck]; replace HB := HB.trans hb'; clear hb'; have p0 := (HK.out.keep HB).cell 0 rfl; have p1 := (HK.out.keep HB).cell 1 rfl; have p2 := (HK.out.keep HB).lt; have p3 := (HV.out _ HB).blk.lt; have p4 := (HV.out _ HB).blk.cell 24 (v := .slice O tr.length oc) rfl)
            | (go_at_call 81; refine (needsLoop_any _ ⟨op, arg⟩ _).mono ?_; rintro e w' ⟨rfl, hb'⟩; rw [cn]; replace HB := HB.trans hb'; clear hb'; have p0 := (HK.out.keep HB).cell 0 rfl; have p1 := (HK.out.keep HB).cell 1 rfl; have p2 := (HK.out.keep HB).lt; have p3 := (HV.out _ HB).blk.lt; have p4 := (HV.out _ HB).blk.cell 24 (v := .slice O tr.length oc) rfl)
            | (go_at_call 82; refine (eachAllowed_any (HV.out _ HB) HT.out hl6 i ⟨op, arg⟩).mono ?_; rintro e w' ⟨rfl, hb'⟩; rw [ce]; replace HB := HB.trans hb'; clear hb'; have p0 := (HK.out.keep HB).cell 0 rfl; have p1 := (HK.out.keep HB).cell 1 rfl; have p2 := (HK.out.keep HB).lt; have p3 := (HV.out _ HB).blk.lt; have p4 := (HV.out _ HB).blk.cell 24 (v := .slice O tr.length oc) rfl)
            | (go_at_call 83; refine (nextAllowed_any (l := l) (HV.out _ HB) rfl i ⟨op, arg⟩ _ HI2.out HI3.out).mono ?_; rintro e w' ⟨rfl, hb'⟩; rw [cx]; replace HB := HB.trans hb'; clear hb'; have p0 := (HK.out.keep HB).cell 0 rfl; have p1 := (HK.out.keep HB).cell 1 rfl; have p2 := (HK.out.keep HB).lt; have p3 := (HV.out _ HB).blk.lt; have p4 := (HV.out _ HB).blk.cell 24 (v := .slice O tr.length oc) rfl)
            | (go_at_call 84; refine (jumpAllowed_any (HV.out _ HB) HT.out hl6 hcap i ⟨op, arg⟩ HI1.out).mono ?_; rintro e w' ⟨rfl, hb'⟩; rw [cj]; replace HB := HB.trans hb'; clear hb'; have p0 := (HK.out.keep HB).cell 0 rfl; have p1 := (HK.out.keep HB).cell 1 rfl; have p2 := (HK.out.keep HB).lt; have p3 := (HV.out _ HB).blk.lt; have p4 := (HV.out _ HB).blk.cell 24 (v := .slice O tr.length oc) rfl))
          refine (effect_any (HV.out _ HB) i op arg y (by rw [Hlen.out]; omega) (by rw [Hlen.out]; omega) hy0 hy1 htr (by omega) (by omega) (fun h => E78.out (by first | exact h | simp)) (fun h => E9.out (by first | exact h | simp)) (fun h => E10.out (by first | exact h | simp))).mono ?_
          intro e w2 hret
          obtain ⟨z, rfl⟩ : ∃ z : Int, e = .returned (.int .i64 z) := ⟨_, hret.1⟩
          have HQ := Lib.hid (hret.exam HX.out HY.out HC.out); clear hret
          go_wp2_with fail
          go_ret
          exact HQ.out

end Go.Proofs.YtaifafljakojnaaGreat

