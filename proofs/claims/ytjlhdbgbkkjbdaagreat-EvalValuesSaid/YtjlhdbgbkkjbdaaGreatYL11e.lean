/- Merged of: L11e (see NOTES.md). -/
import Derived.Test.YtjlhdbgbkkjbdaaGreatZ18
set_option linter.unusedSimpArgs false
set_option linter.unnecessarySimpa false
set_option linter.unusedVariables false

/- The walk of EvalValues. -/
namespace Go.Proofs.YtjlhdbgbkkjbdaaGreat
open Go.RowKit

set_option maxRecDepth 100000 in
set_option maxHeartbeats 2000000 in
theorem evalValues_walk (v1 : Value) (p : Prg) (v2 : Value) (g : Graph) (v3 : Value) (c : Config) (v : Int) (A : Option Addr) (n ce : Nat) (es : List Term) (w : World) (h : PrgV w v1 p) (h2 : GraphV w v2 g) (h3 : ConfV w v3 c) (hT : TermsR w A n es) :
    Calls Tryz.prog 4 #[v1, v2, v3, .int .i64 v, .slice A n ce] w fun e w' => e = .returned (.bool true) ∧ Bel w w' := by
  obtain rfl : n = es.length := hT.1.symm
  have HPV := Lib.hid (fun w' (k : Bel w w') => h.keep k)
  have HGV := Lib.hid (fun w' (k : Bel w w') => h2.keep k)
  have HCV := Lib.hid (fun w' (k : Bel w w') => h3.keep k)
  have HT := Lib.hid (fun w' (k : Bel w w') => TermsR.keep hT k)
  obtain ⟨A1, k1, A2, k2, rfl, _, _, _, _, _, _⟩ := h
  obtain ⟨A3, k3, A4, k4, rfl, _, _, _, _, _, _⟩ := h2
  obtain ⟨A5, k5, rfl, _, _, _⟩ := h3
  clear hT
  have HW := Bel.refl ((w.alloc (.cells #[.string p.name, .slice A1 p.vars.length k1, .slice A2 p.rules.length k2] 25)).alloc (.cells #[.slice A3 g.ids.length k3, .slice A4 g.ports.length k4] 29))
  cases hq : quick11F p g c es.length with
  | false =>
    go_enter Tryz.func4, Tryz.ntmps4
    go_wp2_with (first
      | (go_at_call 8; refine (quick11_any _ p _ g _ c _ _ _ _ (HPV.out _ (box2_bel HW)) (HGV.out _ (box2_bel HW)) (HCV.out _ (box2_bel HW))).mono ?_; rintro e w' ⟨rfl, hb⟩; rw [hq]; replace HW := HW.trans hb; clear hb)
      | (go_at_call 9; refine (awake11_any _).mono ?_; rintro e w' ⟨rfl, hb⟩; replace HW := HW.trans hb; clear hb))
    go_ret
    exact ⟨rfl, box2_bel HW⟩
  | true =>
    have HQ := Lib.hid (quick11_parts hq)
    go_enter Tryz.func4, Tryz.ntmps4
    go_wp2_with (first
      | (go_at_call 8; refine (quick11_any _ p _ g _ c _ _ _ _ (HPV.out _ (box2_bel HW)) (HGV.out _ (box2_bel HW)) (HCV.out _ (box2_bel HW))).mono ?_; rintro e w' ⟨rfl, hb⟩; rw [hq]; replace HW := HW.trans hb; clear hb; obtain ⟨p0, p1, p2, g0, g1, gsz⟩ := pgbox HW)
      | (go_at_call 12; refine (evalValue_any _ p _ g _ c _ _ _ es _ (HPV.out _ (box2_bel HW)) (HGV.out _ (box2_bel HW)) (HCV.out _ (box2_bel HW)) (HT.out _ (box2_bel HW)) HQ.out.2.1 HQ.out.2.2.1 HQ.out.2.2.2.1 (Nat.le_trans HQ.out.2.2.2.2 (by omega))).mono ?_; rintro e w' ⟨rfl, hb⟩; replace HW := HW.trans hb; clear hb p0 p1 p2 g0 g1 gsz; obtain ⟨p0, p1, p2, g0, g1, gsz⟩ := pgbox HW)
      | (go_at_call 13; refine (refValue_any _ p _ g _ c _ _ _ es _ (HPV.out _ (box2_bel HW)) (HGV.out _ (box2_bel HW)) (HCV.out _ (box2_bel HW)) (HT.out _ (box2_bel HW)) HQ.out.2.1 HQ.out.2.2.1 HQ.out.2.2.2.1 (Nat.le_trans HQ.out.2.2.2.2 (by omega))).mono ?_; rintro e w' ⟨rfl, hb⟩; replace HW := HW.trans hb; clear hb p0 p1 p2 g0 g1 gsz; obtain ⟨p0, p1, p2, g0, g1, gsz⟩ := pgbox HW)
      | (go_at_call 9; refine (awake11_any _).mono ?_; rintro e w' ⟨rfl, hb⟩; replace HW := HW.trans hb; clear hb))
    go_ret
    exact ⟨by simp, box2_bel HW⟩

end Go.Proofs.YtjlhdbgbkkjbdaaGreat

