/- The contract of give. -/
import Derived.Test.YtnhhedecaejgcaaW12f
import Derived.Test.YtnhhedecaejgcaaW05f
namespace Go.Proofs.Ytnhhedecaejgcaa
open Go.RowKit

def VerFr : World → World → Prop := TFrame [55, 3, 78]

section
variable {w0 : World} {B : Nat} {w : World} {L : Option Addr} {n c : Nat} {v : Int} {H : Option Addr} {hc : Nat} {hs : List Int} {O : Option Addr} {oc : Nat} {tr : List Tr} {most : Int}

theorem VerSt.alloc (h : VerSt w0 B w L n c v H hc hs O oc tr most) (o : Obj) : VerSt w0 B (w.alloc o) L n c v H hc hs O oc tr most := h.keep ((Bel.refl w).alloc o)
theorem VerSt.drewN (h : VerSt w0 B w L n c v H hc hs O oc tr most) (k : Nat) : VerSt w0 B (w.drewN k) L n c v H hc hs O oc tr most := h.keep ((Bel.refl w).drewN k)
theorem VerSt.drew (h : VerSt w0 B w L n c v H hc hs O oc tr most) : VerSt w0 B w.drew L n c v H hc hs O oc tr most := h.keep (Bel.refl w).drew

theorem VerSt.setH {g : Nat} (h : VerSt w0 B w L n c v (some ⟨g, 0, none⟩) hc hs O oc tr most) (p : Nat) (x : Int) :
    VerSt w0 B (w.setCell ⟨g, p, none⟩ (.int .i64 x)) L n c v (some ⟨g, 0, none⟩) hc (hs.set p x) O oc tr most ∧ VerFr w (w.setCell ⟨g, p, none⟩ (.int .i64 x)) := by
  have hne : B ≠ g := fun e => h.blk.apart h.ints (by decide) (by rw [e]; rfl)
  obtain ⟨cs, hg⟩ := own_blk h.ints
  have hs1 := (h.ints.stored p (.int .i64 x)).1
  refine ⟨⟨h.base, ?_, ?_, ?_, h.bel.setCell (h.ints.lt g rfl).1 _⟩, (TFrame.refl _ _).set hg (by decide) _ _⟩
  · rw [List.length_set]; exact h.blk.other hne _
  · rw [List.length_set, List.map_set]; exact hs1
  · exact ownsRow_setCell_other h.loops (a := ⟨g, p, none⟩) (by
      rcases own_other h.ints h.loops (by decide) with e | e
      · rw [e]; simp
      · simpa [Value.ownBlock] using e) _

theorem VerSt.setM (h : VerSt w0 B w L n c v H hc hs O oc tr most) (x : Int) :
    VerSt w0 B (w.setCell ⟨B, 25, none⟩ (.int .i64 x)) L n c v H hc hs O oc tr x ∧ VerFr w (w.setCell ⟨B, 25, none⟩ (.int .i64 x)) := by
  refine ⟨⟨h.base, h.blk.set 25 _, ?_, ?_, h.bel.setCell h.base _⟩, (TFrame.refl _ _).set h.blk (by decide) _ _⟩
  · exact ownsRow_setCell_other h.ints (a := ⟨B, 25, none⟩) (fun e => h.blk.apart h.ints (by decide) e.symm) _
  · exact ownsRow_setCell_other h.loops (a := ⟨B, 25, none⟩) (fun e => h.blk.apart h.loops (by decide) e.symm) _

theorem VerSt.int_at (h : VerSt w0 B w L n c v H hc hs O oc tr most) (p : Nat) (hp : p < hs.length) :
    ∃ g, H = some ⟨g, 0, none⟩ ∧ g < w.heap.size ∧ w.cell? ⟨g, p, none⟩ = some (.int .i64 hs[p]) ∧ w.frozen? ⟨g, p, none⟩ = false ∧ g ≠ B := by
  obtain ⟨g, h1, _, h3, h4, h5⟩ := own_at h.ints (j := p) (u := .int .i64 hs[p]) (by simp [hp])
  subst h1
  exact ⟨g, rfl, h3, h4, h5, fun e => h.blk.apart h.ints (by decide) (by rw [e]; rfl)⟩

def RetGive (w0 : World) (B : Nat) (w : World) (L : Option Addr) (n c : Nat) (v : Int) (H : Option Addr) (hc : Nat) (hs : List Int) (O : Option Addr) (oc : Nat) (tr : List Tr) (most : Int) (gs : List Term) (e : Ending) (w' : World) : Prop :=
  e = .returned (.int .i64 (giveR hs most gs).2) ∧ Bel w0 w' ∧ VerFr w w' ∧ ∀ hs' m', (giveR hs most gs).1 = some (hs', m') → VerSt w0 B w' L n c v H hc hs' O oc tr m'

theorem giveF_length {hs hs' : List Int} {gs : List Term} (h : giveF hs gs = some hs') : hs'.length = hs.length := by
  induction gs generalizing hs with
  | nil => simp [giveF] at h; rw [h]
  | cons g gs ih =>
    simp only [giveF] at h
    split at h
    · cases h
    · have := ih h
      simpa using this
end

set_option maxRecDepth 100000 in
set_option maxHeartbeats 4000000 in
theorem give_any {w0 : World} {B : Nat} {w : World} {L : Option Addr} {n c : Nat} {v : Int} {H : Option Addr} {hc : Nat} {hs : List Int} {O : Option Addr} {oc : Nat} {tr : List Tr} {most : Int} (h : VerSt w0 B w L n c v H hc hs O oc tr most)
    (G gc : Nat) (gs : List Term) (hG : Blk w G (gs.flatMap termCells).toArray 49) (hgl : gs.length ≤ 10) (hin : ∀ g ∈ gs, 0 ≤ g.op ∧ g.op < hs.length) (hn : hs.length ≤ 1000000) :
    Calls Try.prog 59 #[.pointer (some ⟨B, 0, none⟩), .slice (some ⟨G, 0, none⟩) gs.length gc] w (RetGive w0 B w L n c v H hc hs O oc tr most gs) := by
  have HS := Lib.hid h; clear h
  have HG := Lib.hid hG; clear hG
  have HI := Lib.hid hin; clear hin
  have Hn := Lib.hid hn; clear hn
  go_enter Try.func59, Try.ntmps59
  go_wp2
  go_loopg [12] gs.length (fun g iv wr => ∃ (k : Nat) (hk : List Int), k + g = gs.length ∧ iv = .int .i64 k ∧ Hid (giveF hk (gs.drop k) = giveF hs gs) ∧ Hid (hk.length = hs.length) ∧ Hid (VerSt w0 B wr L n c v H hc hk O oc tr most) ∧ Hid (VerFr w wr))
  case atStart => exact ⟨0, hs, by omega, rfl, rfl, rfl, HS, TFrame.refl _ _⟩
  case round =>
    obtain ⟨k, hk, hkg, rfl, HK, HL, HV, HR⟩ := hrel
    by_cases hlt : k < gs.length
    · obtain ⟨hi1, hi2⟩ := HI.out gs[k] (List.getElem_mem _)
      obtain ⟨p, hp⟩ := Int.eq_ofNat_of_zero_le hi1
      have hpl : p < hk.length := by rw [HL.out]; omega
      have hk6 : hk.length ≤ 1000000 := by rw [HL.out]; exact Hn.out
      obtain ⟨b', o', e1, hb, k1, k2⟩ := TermsR.at_ (terms_of_block (HG.out.of_frame HR.out (by decide))) k hlt
      injection e1 with e1
      injection e1 with e1 e2
      subst e1; subst e2
      rw [Nat.zero_add] at k1 k2
      rw [hp] at k1
      have x23 := HV.out.blk.cell 23 (v := .slice H hk.length hc) rfl
      have hBl := HV.out.blk.lt
      obtain ⟨gH, rfl, hgl', q1, q2, q3⟩ := HV.out.int_at p hpl
      have HIg : Hid (ig hk gs[k].op = hk[p]) := by show ig hk gs[k].op = hk[p]; rw [hp]; exact ig_get hpl
      have HP := Lib.hid hp; clear hp hi1 hi2
      have HKs : Hid (giveF hk (gs.drop k) = if 0 ≤ hk[p] ∧ hk[p] ≠ gs[k].arg then none else giveF (hk.set p gs[k].arg) (gs.drop (k + 1))) := by
        show giveF hk (gs.drop k) = _
        rw [List.drop_eq_getElem_cons hlt]
        simp only [giveF]
        rw [HIg.out, HP.out, Int.toNat_natCast]
      generalize hk[p] = x at *
      generalize gs[k].arg = y at *
      by_cases hx0 : 0 ≤ x
      · have hx0b : decide (0 ≤ x) = true := by simpa using hx0
        by_cases hxy : x = y
        · have hxb : (x != y) = false := by simpa using hxy
          go_wp2_with fail
          go_quiet (fail)
          go_wp2_with fail
          go_region
          all_goals
            go_wp2_with fail
            go_roundg (gk - 1)
            case rel =>
              obtain ⟨s1, s2⟩ := ((HV.out.alloc (.cells #[.int .i64 (p : Int), .int .i64 y] 49)).drewN nq).setH p y
              refine ⟨k + 1, hk.set p y, by omega, by go_num, ?_, ?_, s1.drew, ?_⟩
              · show giveF (hk.set p y) (gs.drop (k + 1)) = giveF hs gs
                rw [← HK.out, HKs.out, if_neg (fun h => h.2 hxy)]
              · show (hk.set p y).length = hs.length; rw [List.length_set]; exact HL.out
              · exact (HR.out.trans ((TFrame.of_bel (((Bel.refl wr).alloc _).drewN _)).trans s2)).drew
            case measure => omega
        · have hxb : (x != y) = true := by simpa using hxy
          have HF : Hid (giveR hs most gs = (none, 7)) := by
            show giveR hs most gs = (none, 7)
            unfold giveR
            rw [← HK.out, HKs.out, if_pos ⟨hx0, hxy⟩]
          go_wp2_with fail
          go_quiet (fail)
          go_wp2_with fail
          go_ret
          refine ⟨by rw [HF.out]; rfl, (HV.out.bel.alloc _).drewN _, HR.out.trans (TFrame.of_bel (((Bel.refl wr).alloc _).drewN _)), fun hs' m' h => ?_⟩
          rw [HF.out] at h; cases h
      · have hx0b : decide (0 ≤ x) = false := by simpa using hx0
        go_wp2_with fail
        go_quiet (fail)
        go_wp2_with fail
        go_region
        all_goals
          go_wp2_with fail
          go_roundg (gk - 1)
          case rel =>
            obtain ⟨s1, s2⟩ := ((HV.out.alloc (.cells #[.int .i64 (p : Int), .int .i64 y] 49)).drewN nq).setH p y
            refine ⟨k + 1, hk.set p y, by omega, by go_num, ?_, ?_, s1.drew, ?_⟩
            · show giveF (hk.set p y) (gs.drop (k + 1)) = giveF hs gs
              rw [← HK.out, HKs.out, if_neg (by rintro ⟨h, _⟩; omega)]
            · show (hk.set p y).length = hs.length; rw [List.length_set]; exact HL.out
            · exact (HR.out.trans ((TFrame.of_bel (((Bel.refl wr).alloc _).drewN _)).trans s2)).drew
          case measure => omega
    · have HF1 : Hid (giveF hs gs = some hk) := by
        show giveF hs gs = some hk
        rw [← HK.out, List.drop_eq_nil_of_le (by omega)]; rfl
      clear HK
      obtain ⟨wq, hwq⟩ : ∃ wq : World, wq = wr := ⟨_, rfl⟩
      subst hwq
      go_wp2_with fail
      go_loopg [44] gs.length (fun g iv wr => ∃ (k : Nat) (mk : Int), k + g = gs.length ∧ iv = .int .i64 k ∧ Hid (mostF mk (gs.drop k) = mostF most gs) ∧ Hid (VerSt w0 B wr L n c v H hc hk O oc tr mk) ∧ Hid (VerFr w wr))
      case atStart => exact ⟨0, most, by omega, rfl, rfl, HV, HR⟩
      case round =>
        clear HR HV hlt hkg
        obtain ⟨k2, mk, hkg, rfl, HK, HV, HR⟩ := hrel
        by_cases hlt : k2 < gs.length
        · obtain ⟨b', o', e1, hb, k1, k2'⟩ := TermsR.at_ (terms_of_block (HG.out.of_frame HR.out (by decide))) k2 hlt
          injection e1 with e1
          injection e1 with e1 e2
          subst e1; subst e2
          rw [Nat.zero_add] at k1 k2'
          have x25 := HV.out.blk.cell 25 (v := .int .i64 mk) rfl
          have f25 := HV.out.blk.frozen 25
          have hBl := HV.out.blk.lt
          have HKs : Hid (mostF mk (gs.drop k2) = if 64 < gs[k2].arg then none else mostF (max mk gs[k2].arg) (gs.drop (k2 + 1))) := by
            show mostF mk (gs.drop k2) = _
            rw [List.drop_eq_getElem_cons hlt]; rfl
          generalize gs[k2].arg = y at *
          generalize gs[k2].op = u at *
          by_cases h64 : 64 < y
          · have h64b : decide (64 < y) = true := by simpa using h64
            have HF : Hid (giveR hs most gs = (none, 3)) := by
              show giveR hs most gs = (none, 3)
              unfold giveR
              rw [HF1.out, ← HK.out, HKs.out, if_pos h64]
            go_wp2_with fail
            go_ret
            refine ⟨by rw [HF.out]; rfl, HV.out.bel.alloc _, HR.out.trans (TFrame.of_bel ((Bel.refl wr).alloc _)), fun hs' m' h => ?_⟩
            rw [HF.out] at h; cases h
          · have h64b : decide (64 < y) = false := by simpa using h64
            have hfin : ∀ z, z = max mk y → (∃ (k' : Nat) (mk' : Int), k' + (gk - 1) = gs.length ∧ Value.int .i64 ((k2 : Int) + 1) = .int .i64 k' ∧ Hid (mostF mk' (gs.drop k') = mostF most gs) ∧ Hid (VerSt w0 B (((wr.setCell ⟨B, 25, none⟩ (.int .i64 z)).alloc (.cells #[.int .i64 u, .int .i64 y] 49)).drew) L n c v H hc hk O oc tr mk') ∧ Hid (VerFr w (((wr.setCell ⟨B, 25, none⟩ (.int .i64 z)).alloc (.cells #[.int .i64 u, .int .i64 y] 49)).drew))) := by
              rintro z rfl
              obtain ⟨s1, s2⟩ := HV.out.setM (max mk y)
              refine ⟨k2 + 1, max mk y, by omega, by go_num, ?_, (s1.alloc _).drew, ?_⟩
              · show mostF (max mk y) (gs.drop (k2 + 1)) = mostF most gs
                rw [← HK.out, HKs.out, if_neg h64]
              · exact ((HR.out.trans s2).alloc _).drew
            have HFin := Lib.hid hfin; clear hfin
            go_wp2_with fail
            go_region
            all_goals go_wp2_with fail
            all_goals
              go_roundg (gk - 1)
              case rel => first | exact HFin.out y (by rw [Int.max_eq_right (by omega)]) | exact HFin.out mk (by rw [Int.max_eq_left (by omega)])
              case measure => omega
        · have HF : Hid (giveR hs most gs = (some (hk, mk), 0)) := by
            show giveR hs most gs = (some (hk, mk), 0)
            unfold giveR
            rw [HF1.out, ← HK.out, List.drop_eq_nil_of_le (by omega)]; rfl
          go_wp2_with fail
          go_ret
          refine ⟨by rw [HF.out]; rfl, HV.out.bel, HR.out, fun hs' m' h => ?_⟩
          rw [HF.out] at h
          injection h with h
          injection h with h1 h2
          subst h1; subst h2
          exact HV.out

end Go.Proofs.Ytnhhedecaejgcaa
