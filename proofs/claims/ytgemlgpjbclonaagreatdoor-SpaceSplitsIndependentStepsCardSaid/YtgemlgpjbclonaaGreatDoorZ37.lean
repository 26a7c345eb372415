/- Merged of: WVm (see NOTES.md). -/
import Derived.Test.YtgemlgpjbclonaaGreatDoorZ35
set_option linter.unusedSimpArgs false
set_option linter.unnecessarySimpa false
set_option linter.unusedVariables false

/- Contracts: whether there is a small transition system; where the arc of a set leads. -/
namespace Go.Proofs.YtgemlgpjbclonaaGreatDoor
open Go.RowKit

def fairS (p : Prg) (g : Graph) (kind : Int) : Spc × Bool := if (smallP p g 200 && decide (g.ports.length ≤ 5)) = true then ((buildF p g kind).1, (buildF p g kind).2 == 0) else (⟨[], []⟩, false)
def RetFair (r : Spc × Bool) (w : World) (e : Ending) (w' : World) : Prop := ∃ v, e = .returned (.tuple #[v, .bool r.2]) ∧ (∃ A c B d, v = .agg #[.slice A r.1.enabled.length c, .slice B r.1.arcs.length d]) ∧ Bel w w'
/-- What a small transition system is. -/
theorem fairS_yes {p : Prg} {g : Graph} {kind : Int} (h : (fairS p g kind).2 = true) : lightP p = true ∧ lightG g = true ∧ kindB kind = true ∧ g.ports.length ≤ 5 ∧ ∃ n : Nat, n ≤ 200 ∧ totalF p g = ((n : Int), 0) ∧ fitsF p g = 0 ∧ sizeF p g = (n : Int) ∧ 1 ≤ n ∧ buildF p g kind = (⟨esF p g n, lsF p g kind n⟩, 0) := by
 unfold fairS at h
 by_cases hs : (smallP p g 200 && decide (g.ports.length ≤ 5)) = true
 ·rw [if_pos hs] at h
  rw [Bool.and_eq_true, decide_eq_true_iff] at hs
  obtain ⟨hs, h5⟩ := hs
  obtain ⟨hL, hG, hsz, _⟩ := smallP_parts hs
  have h0 : (buildF p g kind).2 = 0 := by simpa using h
  obtain ⟨x, hx⟩ : ∃ x, totalF p g = x := ⟨_, rfl⟩
  obtain ⟨n0, e0⟩ := x
  unfold buildF at h0 ⊢
  rw [hx] at h0 hsz ⊢
  have he : e0 = 0 := by
   by_cases h1 : e0 = 0
   ·exact h1
   ·by_cases h3 : e0 = 3
    ·subst h3
     cases hk : kindB kind with
     | true => rw [hk] at h0; simp at h0
     | false => rw [hk] at h0; simp at h0
    ·rw [if_pos ⟨h1, h3⟩] at h0
     exact h0
  subst he
  have hk : kindB kind = true := by
   cases hk : kindB kind with
   | true => rfl
   | false => rw [hk] at h0; simp at h0
  obtain ⟨hf, hn⟩ := total_ok hx.symm
  have hp := size_pos hf
  have h2 := hsz rfl
  obtain ⟨n, hn2⟩ := Int.eq_ofNat_of_zero_le (show 0 ≤ sizeF p g by omega)
  refine ⟨hL, hG, hk, h5, n, by omega, by rw [hn, hn2], hf, hn2, by omega, ?_⟩
  rw [hk]
  simp [space_eq p g kind hn2]
 ·rw [if_neg hs] at h; cases h

set_option maxRecDepth 100000 in
set_option maxHeartbeats 2000000 in
theorem fair18_any (v1 : Value) (p : Prg) (v2 : Value) (g : Graph) (kind : Int) (w : World) (h : PrgV w v1 p) (h2 : GraphV w v2 g) :
  Calls Tryz.prog 18 #[v1, v2, .int .i64 kind] w (RetFair (fairS p g kind) w) := by
 have HPV := Lib.hid (fun w' (k : Bel w w') => h.keep k)
 have HGV := Lib.hid (fun w' (k : Bel w w') => h2.keep k)
 obtain ⟨A1, k1, A2, k2, rfl, _, _, _, _, _, _⟩ := h
 obtain ⟨A3, k3, A4, k4, rfl, _, _, _, _, _, _⟩ := h2
 have HW := Bel.refl ((w.alloc (.cells #[.string p.name, .slice A1 p.vars.length k1, .slice A2 p.rules.length k2] 25)).alloc (.cells #[.slice A3 g.ids.length k3, .slice A4 g.ports.length k4] 29))
 have HF : Hid (fairS p g kind = if (smallP p g 200 && decide (g.ports.length ≤ 5)) = true then ((buildF p g kind).1, (buildF p g kind).2 == 0) else (⟨[], []⟩, false)) := rfl
 have HX0 : Bel w (((w.alloc (.cells #[.string p.name, .slice A1 p.vars.length k1, .slice A2 p.rules.length k2] 25)).alloc (.cells #[.slice A3 g.ids.length k3, .slice A4 g.ports.length k4] 29)).alloc (.cells #[.slice none 0 0, .slice none 0 0] 35)) := (box2_bel HW).alloc _
 have HSB : Hid (Blk (((w.alloc (.cells #[.string p.name, .slice A1 p.vars.length k1, .slice A2 p.rules.length k2] 25)).alloc (.cells #[.slice A3 g.ids.length k3, .slice A4 g.ports.length k4] 29)).alloc (.cells #[.slice none 0 0, .slice none 0 0] 35)) (w.heap.size + 1 + 1) #[.slice none 0 0, .slice none 0 0] 35) := by
  have := Blk.new ((w.alloc (.cells #[.string p.name, .slice A1 p.vars.length k1, .slice A2 p.rules.length k2] 25)).alloc (.cells #[.slice A3 g.ids.length k3, .slice A4 g.ports.length k4] 29)) #[.slice none 0 0, .slice none 0 0] 35
  rw [World.size_alloc, World.size_alloc] at this
  exact this
 replace HW := HW.alloc (.cells #[.slice none 0 0, .slice none 0 0] 35)
 have HNO : Hid (∀ wr : World, Bel w wr → RetFair (⟨[], []⟩, false) w (.returned (.tuple #[.agg #[.slice none 0 0, .slice none 0 0], .bool false])) wr) := fun wr hb => ⟨_, rfl, ⟨none, 0, none, 0, rfl⟩, hb⟩
 cases hs : smallP p g 200 with
 | false =>
  rw [hs] at HF
  go_enter Tryz.func18, Tryz.ntmps18
  go_wp2_with (go_at_call 9; refine (small_any _ p _ g 200 _ (HPV.out _ (box2_bel HW)) (HGV.out _ (box2_bel HW))).mono ?_; rintro e wc ⟨rfl, hb⟩; rw [hs]; have HX := HX0.trans hb; have HB := Blk.keep HSB.out hb; have z0 := HB.cell 0 (v := .slice none 0 0) rfl; have z1 := HB.cell 1 (v := .slice none 0 0) rfl; have f0 := HB.frozen 0; have f1 := HB.frozen 1; have lb := HB.lt; have HBC := Lib.hid HB; clear HB; replace HW := HW.trans hb; clear hb; (try clear p0 p1 p2 g0 g1 gsz); obtain ⟨p0, p1, p2, g0, g1, gsz⟩ := pgbox HW)
  have zz := (Blk.set (Blk.set HBC.out 0 (.slice none 0 0)) 1 (.slice none 0 0))
  have y0 := Blk.cell zz 0 (v := .slice none 0 0) (by rfl)
  have y1 := Blk.cell zz 1 (v := .slice none 0 0) (by rfl)
  refine bodyPost_ret (v := .tuple #[.agg #[.slice none 0 0, .slice none 0 0], .bool false]) (by simp [results, Tryz.results18, go_sem, y0, y1]; try go_simp) rfl ?_
  rw [HF.out]
  exact HNO.out _ ((HX.setCell (by simp; omega) _).setCell (by simp; omega) _)
 | true =>
  have HSM := Lib.hid hs
  obtain ⟨hL, hG, hsz, _⟩ := smallP_parts hs
  rw [hs] at HF
  by_cases h5 : g.ports.length ≤ 5
  ·rw [decide_eq_true h5] at HF
   have HL := Lib.hid hL
   have HGL := Lib.hid hG
   have HFW : Hid ((totalF p g).2 = 0 → sizeF p g ≤ 200 ∧ g.ports.length ≤ 5) := fun h => ⟨hsz h, h5⟩
   have d5 : decide (5 < g.ports.length) = false := by simp; omega
   have d5I : decide ((5 : Int) < (g.ports.length : Int)) = false := by simp; omega
   obtain ⟨bd, hbd0⟩ : ∃ bd, buildF p g kind = bd := ⟨_, rfl⟩
   obtain ⟨s, ee⟩ := bd
   rw [hbd0] at HF
   have HBF := Lib.hid hbd0
   have HEQ : Hid ((ee == 0) = (ee == 0)) := rfl
   clear hs hL hG hsz h5 hbd0
   go_enter Tryz.func18, Tryz.ntmps18
   go_wp2_with (first
    | (go_at_call 9; refine (small_any _ p _ g 200 _ (HPV.out _ (box2_bel HW)) (HGV.out _ (box2_bel HW))).mono ?_; rintro e wc ⟨rfl, hb⟩; rw [HSM.out]; have HX := HX0.trans hb; have HB := Lib.hid (Blk.keep HSB.out hb); replace HW := HW.trans hb; clear hb; (try clear p0 p1 p2 g0 g1 gsz); obtain ⟨p0, p1, p2, g0, g1, gsz⟩ := pgbox HW)
    | (go_at_call 12; have hbd := refBuild_any _ p _ g kind _ (HPV.out _ (box2_bel HW)) (HGV.out _ (box2_bel HW)) HL.out HGL.out HFW.out; rw [HBF.out] at hbd; refine hbd.mono ?_; rintro e w' ⟨v, rfl, hS, hb⟩; obtain ⟨AE, cE, AA, cA, rfl, _⟩ := (id hS : SpaceV _ _ _); have HX2 := HX.trans hb; have HBC := Lib.hid ((Blk.keep HB.out hb).alloc (.cells #[.slice AE s.enabled.length cE, .slice AA s.arcs.length cA] 35)); have HBN := Blk.new w' #[.slice AE s.enabled.length cE, .slice AA s.arcs.length cA] 35; have n0 := HBN.cell 0 (v := .slice AE s.enabled.length cE) rfl; have n1 := HBN.cell 1 (v := .slice AA s.arcs.length cA) rfl; have nl := HBN.lt; have z0 := HBC.out.cell 0 (v := .slice none 0 0) rfl; have z1 := HBC.out.cell 1 (v := .slice none 0 0) rfl; have f0 := HBC.out.frozen 0; have f1 := HBC.out.frozen 1; have lb := HBC.out.lt; clear hS HBN; replace HW := HW.trans hb; clear hb; (try clear p0 p1 p2 g0 g1 gsz); obtain ⟨p0, p1, p2, g0, g1, gsz⟩ := pgbox HW))
   have zz := (Blk.set (Blk.set HBC.out 0 (.slice AE s.enabled.length cE)) 1 (.slice AA s.arcs.length cA))
   have y0 := Blk.cell zz 0 (v := .slice AE s.enabled.length cE) (by rfl)
   have y1 := Blk.cell zz 1 (v := .slice AA s.arcs.length cA) (by rfl)
   have HX3 := HX2.alloc (.cells #[.slice AE s.enabled.length cE, .slice AA s.arcs.length cA] 35)
   refine bodyPost_ret (v := .tuple #[.agg #[.slice AE s.enabled.length cE, .slice AA s.arcs.length cA], .bool (ee == 0)]) (by simp [results, Tryz.results18, go_sem, y0, y1]; try go_simp) rfl ?_
   rw [HF.out]
   exact ⟨_, rfl, ⟨AE, cE, AA, cA, rfl⟩, (HX3.setCell (by simp; omega) _).setCell (by simp; omega) _⟩
  ·rw [decide_eq_false h5] at HF
   have d5 : decide (5 < g.ports.length) = true := by simp; omega
   have d5I : decide ((5 : Int) < (g.ports.length : Int)) = true := by simp; omega
   go_enter Tryz.func18, Tryz.ntmps18
   go_wp2_with (go_at_call 9; refine (small_any _ p _ g 200 _ (HPV.out _ (box2_bel HW)) (HGV.out _ (box2_bel HW))).mono ?_; rintro e wc ⟨rfl, hb⟩; rw [hs]; have HX := HX0.trans hb; have HB := Blk.keep HSB.out hb; have z0 := HB.cell 0 (v := .slice none 0 0) rfl; have z1 := HB.cell 1 (v := .slice none 0 0) rfl; have f0 := HB.frozen 0; have f1 := HB.frozen 1; have lb := HB.lt; have HBC := Lib.hid HB; clear HB; replace HW := HW.trans hb; clear hb; (try clear p0 p1 p2 g0 g1 gsz); obtain ⟨p0, p1, p2, g0, g1, gsz⟩ := pgbox HW)
   have zz := (Blk.set (Blk.set HBC.out 0 (.slice none 0 0)) 1 (.slice none 0 0))
   have y0 := Blk.cell zz 0 (v := .slice none 0 0) (by rfl)
   have y1 := Blk.cell zz 1 (v := .slice none 0 0) (by rfl)
   refine bodyPost_ret (v := .tuple #[.agg #[.slice none 0 0, .slice none 0 0], .bool false]) (by simp [results, Tryz.results18, go_sem, y0, y1]; try go_simp) rfl ?_
   rw [HF.out]
   exact HNO.out _ ((HX.setCell (by simp; omega) _).setCell (by simp; omega) _)

set_option maxRecDepth 100000 in
set_option maxHeartbeats 1000000 in
theorem target_any (v : Value) (s : Spc) (k S : Nat) (w : World) (h : SpaceV w v s) (hk : k < s.arcs.length) (hl : s.arcs[k].length ≤ 1000000) :
  Calls Tryz.prog 29 #[v, .int .i64 (k : Int), .int .u32 (S : Int)] w fun e w' => e = .returned (.int .i64 (firstT s.arcs[k] S)) ∧ Bel w w' := by
 obtain ⟨AE, cE, AA, cA, rfl, _, hA, _, _, _, _⟩ := h
 have HW := Bel.refl (w.alloc (.cells #[.slice AE s.enabled.length cE, .slice AA s.arcs.length cA] 35))
 obtain ⟨bA, oA, R, rc, rfl, hbA, k1, hR, _, _⟩ := hA.at_ k hk
 have HR := Lib.hid (fun w' (k : Bel w w') => hR.keep k)
 have K1 := Lib.hid k1
 clear hA hR k1
 generalize s.arcs[k] = l at *
 have HK := Lib.hid hk
 have hkI : (k : Int) < (s.arcs.length : Int) := by omega
 go_enter Tryz.func29, Tryz.ntmps29
 go_wp2_with fail
 go_loopg [7] l.length (fun m z wr => ∃ i : Nat, i ≤ l.length ∧ m = l.length - i ∧ z = .int .i64 (i : Int) ∧ Hid (firstT (l.drop i) S = firstT l S) ∧ Bel (w.alloc (.cells #[.slice AE s.enabled.length cE, .slice (some ⟨bA, oA, none⟩) s.arcs.length cA] 35)) wr)
 case atStart => exact ⟨0, by omega, rfl, rfl, rfl, HW⟩
 case round =>
  clear HW
  obtain ⟨i, hi, rfl, rfl, HQ, HW⟩ := hrel
  have q1 := box_cell HW 1 (v := .slice (some ⟨bA, oA, none⟩) s.arcs.length cA) rfl
  have ql := box_lt HW
  have x1 := ((box_bel HW).cell hbA).trans K1.out
  have xl := Nat.lt_of_lt_of_le hbA (box_bel HW).size
  by_cases hlt : i < l.length
  ·have hd0 : decide (i < l.length) = true := by simpa using hlt
   obtain ⟨b, o, rfl, hbl, c0, c1⟩ := (HR.out _ (box_bel HW)).at_ i hlt
   rw [List.drop_eq_getElem_cons hlt] at HQ
   obtain ⟨x, hx⟩ : ∃ x, l[i] = x := ⟨_, rfl⟩
   rw [hx] at c0 c1 HQ
   clear hx
   obtain ⟨T, U⟩ := x
   dsimp only at c0 c1
   by_cases he : T = S
   ·subst he
    have HFT : Hid (firstT l T = U) := by show _ = _; rw [← HQ.out]; simp [firstT]
    have e1 : ((T : Int) == (T : Int)) = true := by simp
    go_wp2_with fail
    go_ret
    exact ⟨ret_int HFT.out.symm, box_bel HW⟩
   ·have HFT : Hid (firstT (l.drop (i + 1)) S = firstT l S) := by show _ = _; rw [← HQ.out]; simp [firstT, he]
    have e1 : ((T : Int) == (S : Int)) = false := by simp; omega
    have e2 : (T == S) = false := by simp; omega
    clear he
    go_wp2_with fail
    go_roundg (l.length - (i + 1))
    case rel => exact ⟨i + 1, by omega, rfl, by go_num, HFT, HW⟩
    case measure => omega
  ·have hd0 : decide (i < l.length) = false := by simpa using hlt
   obtain rfl : i = l.length := by omega
   rw [List.drop_length] at HQ
   go_wp2_with fail
   go_ret
   exact ⟨ret_int (by rw [← HQ.out]; rfl), box_bel HW⟩

end Go.Proofs.YtgemlgpjbclonaaGreatDoor

