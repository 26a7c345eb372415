/- Merged of: WSl (see NOTES.md). -/
import Derived.Test.YtibfjhhadbkkgaaGreatZ23
set_option linter.unusedSimpArgs false
set_option linter.unnecessarySimpa false
set_option linter.unusedVariables false

/- Contracts: the reference's there and Clamp, where the program fits. -/
namespace Go.Proofs.YtibfjhhadbkkgaaGreat
open Go.RowKit

set_option maxRecDepth 100000 in
set_option maxHeartbeats 2000000 in
theorem refThere_any (v1 : Value) (p : Prg) (v2 : Value) (g : Graph) (i q : Nat) (w : World) (h : PrgV w v1 p) (h2 : GraphV w v2 g) (hf : fitsF p g = 0) (hi : i < g.ports.length) (hq : q < p.vars.length) (hL : lightP p = true) (hG : lightG g = true) :
    Calls Tryz.prog 76 #[v1, v2, .int .i64 i, .int .i64 q] w fun e w' => e = .returned (.bool true) ∧ Bel w w' := by
  have HPV := Lib.hid (fun w' (k : Bel w w') => h.keep k)
  have HGV := Lib.hid (fun w' (k : Bel w w') => h2.keep k)
  obtain ⟨A1, k1, A2, k2, rfl, _, _, _, _, _, _⟩ := h
  obtain ⟨A3, k3, A4, k4, rfl, _, _, _, _, _, _⟩ := h2
  have HW := Bel.refl ((w.alloc (.cells #[.string p.name, .slice A1 p.vars.length k1, .slice A2 p.rules.length k2] 25)).alloc (.cells #[.slice A3 g.ids.length k3, .slice A4 g.ports.length k4] 29))
  have HF := Lib.hid hf
  have HL := Lib.hid hL
  have HGL := Lib.hid hG
  have hg30 := (lightG_parts hG).2.1
  have hv10 := (lightP_parts hL).2.1
  have h1 : inB (i : Int) 0 ((g.ports.length : Int) - 1) = true := inB_iff.2 (by omega)
  have h2 : inB (q : Int) 0 ((p.vars.length : Int) - 1) = true := inB_iff.2 (by omega)
  have hp : 0 < g.ports.length := by omega
  have hv : 0 < p.vars.length := by omega
  clear hf hL hG hi hq
  go_enter Tryz.func76, Tryz.ntmps76
  go_wp2_with (first
    | (go_at_call 81; refine (refFits_any _ p _ g _ (HPV.out _ (box2_bel HW)) (HGV.out _ (box2_bel HW)) HL.out HGL.out).mono ?_; rintro e w' ⟨rfl, hb⟩; rw [HF.out]; replace HW := HW.trans hb; clear hb; (try clear p0 p1 p2 g0 g1 gsz); obtain ⟨p0, p1, p2, g0, g1, gsz⟩ := pgbox HW)
    | (go_at_call 69; refine (in01_any _ _ _ _).mono ?_; rintro e w' ⟨rfl, rfl⟩; first | rw [h1] | rw [h2]))
  go_ret
  exact ⟨rfl, box2_bel HW⟩
set_option maxRecDepth 100000 in
set_option maxHeartbeats 2000000 in
theorem refClamp_any (v1 : Value) (p : Prg) (v2 : Value) (g : Graph) (i q : Nat) (x : Int) (w : World) (h : PrgV w v1 p) (h2 : GraphV w v2 g) (hf : fitsF p g = 0) (hi : i < g.ports.length) (hq : q < p.vars.length) (hL : lightP p = true) (hG : lightG g = true) :
    Calls Tryz.prog 41 #[v1, v2, .int .i64 i, .int .i64 q, .int .i64 x] w fun e w' => e = .returned (.int .i64 (bringF p.vars[q].kind (boundsF p.vars[q] g i) x)) ∧ Bel w w' := by
  have HPV := Lib.hid (fun w' (k : Bel w w') => h.keep k)
  have HGV := Lib.hid (fun w' (k : Bel w w') => h2.keep k)
  obtain ⟨A1, k1, A2, k2, rfl, _, _, _, _, _, _⟩ := h
  obtain ⟨A3, k3, A4, k4, rfl, _, _, _, _, _, _⟩ := h2
  have HW := Bel.refl ((w.alloc (.cells #[.string p.name, .slice A1 p.vars.length k1, .slice A2 p.rules.length k2] 25)).alloc (.cells #[.slice A3 g.ids.length k3, .slice A4 g.ports.length k4] 29))
  have HF := Lib.hid hf
  have HL := Lib.hid hL
  have HGL := Lib.hid hG
  clear hf hL hG
  go_enter Tryz.func41, Tryz.ntmps41
  go_wp2_with (first
    | (go_at_call 76; refine (refThere_any _ p _ g i q _ (HPV.out _ (box2_bel HW)) (HGV.out _ (box2_bel HW)) HF.out hi hq HL.out HGL.out).mono ?_; rintro e w' ⟨rfl, hb⟩; replace HW := HW.trans hb; clear hb; (try clear p0 p1 p2 g0 g1 gsz); obtain ⟨p0, p1, p2, g0, g1, gsz⟩ := pgbox HW)
    | (go_at_call 77; refine (refBring_any _ p _ g i q _ _ (HPV.out _ (box2_bel HW)) (HGV.out _ (box2_bel HW)) HF.out hi hq HGL.out).mono ?_; rintro e w' ⟨rfl, hb⟩; replace HW := HW.trans hb; clear hb; (try clear p0 p1 p2 g0 g1 gsz); obtain ⟨p0, p1, p2, g0, g1, gsz⟩ := pgbox HW))
  go_ret
  exact ⟨rfl, box2_bel HW⟩
theorem set_of {p : Prg} (hc : checkF p = 0) {r : Rule} (hr : r ∈ p.rules) {s : SetT} (hs : s ∈ r.sets) : (ofF s.value (kindsF p) false).2 = 0 := by
  obtain ⟨h1, _, h3, _, _, h6, h7⟩ := check_numbers hc
  obtain ⟨hv, hval⟩ := (h6 r hr).sets s hs
  have hk := kinds_known h1
  unfold ofF
  rw [kindsF_length, if_neg (by omega), hk, if_neg (by decide), hval, if_neg (by decide)]
  have h8 := h7 r hr
  unfold typedF at h8
  simp only [Bool.and_eq_true, List.all_eq_true, beq_iff_eq] at h8
  rw [h8.2 s hs]
  obtain ⟨x, hx⟩ := Int.eq_ofNat_of_zero_le hv.1
  have hkx := List.all_eq_true.1 hk _ (List.getElem_mem (show x < (kindsF p).length by rw [kindsF_length]; omega))
  rw [hx, Int.toNat_natCast, getD_eq (by rw [kindsF_length]; omega)]
  unfold knownK at hkx
  simp at hkx
  rw [if_neg (by omega)]
theorem valueF_set {p : Prg} {g : Graph} {c : Config} {q : Nat} (hm : memF p g c = 0) (hq : q < c.length) {r : Rule} (hr : r ∈ p.rules) {s : SetT} (hs : s ∈ r.sets) : valueF p g c (q : Int) s.value = (evalF g c q (-1) (treeOf s.value), 0) := by
  unfold valueF
  rw [if_neg (by simpa using hm), if_neg (by omega), set_of (fits_zero (mem_zero hm).1).1 hr hs, if_neg (by simp), Int.toNat_natCast]

end Go.Proofs.YtibfjhhadbkkgaaGreat

