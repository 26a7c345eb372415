/- Merged of: L13e (see NOTES.md). -/
import Derived.Test.YtaifafljakojnaaGreatYL13g
import Derived.Test.YtaifafljakojnaaGreatYP13j
import Derived.Test.YtaifafljakojnaaGreatYWEk
import Derived.Test.YtaifafljakojnaaGreatZ09
import Derived.Test.YtaifafljakojnaaGreatYL13f
set_option linter.unusedSimpArgs false
set_option linter.unnecessarySimpa false
set_option linter.unusedVariables false

/- The walk of MachineAgreesWithEval. -/
namespace Go.Proofs.YtaifafljakojnaaGreat
open Go.RowKit

theorem name_int (x : Int) : ∃ y, x = y := ⟨_, rfl⟩
set_option maxRecDepth 100000 in
set_option maxHeartbeats 4000000 in
theorem machineAgrees_walk (E : Option Addr) (n ce : Nat) (es : List Term) (v1 : Value) (p : Prg) (v2 : Value) (g : Graph) (v3 : Value) (c : Config) (v : Int) (w : World) (hT : TermsR w E n es) (h : PrgV w v1 p) (h2 : GraphV w v2 g) (h3 : ConfV w v3 c) :
    Calls Tryz.prog 7 #[.slice E n ce, v1, v2, v3, .int .i64 v] w fun e w' => e = .returned (.bool true) ∧ Bel w w' := by
  obtain rfl := hT.1
  have HTV := Lib.hid (fun w' (k : Bel w w') => hT.keep k)
  clear hT
  have HPV := Lib.hid (fun w' (k : Bel w w') => h.keep k)
  have HGV := Lib.hid (fun w' (k : Bel w w') => h2.keep k)
  have HCV := Lib.hid (fun w' (k : Bel w w') => h3.keep k)
  obtain ⟨A1, k1, A2, k2, rfl, _, _, _, _, _, _⟩ := h
  obtain ⟨A3, k3, A4, k4, rfl, _, _, _, _, _, _⟩ := h2
  obtain ⟨A5, k5, rfl, _, _, _⟩ := h3
  have HW := Bel.refl ((w.alloc (.cells #[.string p.name, .slice A1 p.vars.length k1, .slice A2 p.rules.length k2] 26)).alloc (.cells #[.slice A3 g.ids.length k3, .slice A4 g.ports.length k4] 30))
  have hcell := Lib.hid (fun w' (kk : Bel ((w.alloc (.cells #[.string p.name, .slice A1 p.vars.length k1, .slice A2 p.rules.length k2] 26)).alloc (.cells #[.slice A3 g.ids.length k3, .slice A4 g.ports.length k4] 30)) w') => pgbox kk)
  obtain ⟨Y1, hY1⟩ := name_int (IntKind.i64.wrap ((es.length : Int) * (degreesF g : Int)))
  obtain ⟨Y2, hY2⟩ := name_int (IntKind.i64.wrap (Y1 * (degreesF g : Int)))
  by_cases hl : es.length ≤ 250
  · have hd : decide (es.length ≤ 250) = true := by simpa using hl
    cases hq : quick13F [] p g c with
    | false =>
      go_enter Tryz.func7, Tryz.ntmps7
      go_wp2_with fail
      refine AnyE.start (fun w' => w'.cell? ⟨w.heap.size, 0, none⟩ = some (.string p.name) ∧ w'.cell? ⟨w.heap.size, 1, none⟩ = some (.slice A1 p.vars.length k1) ∧ w'.cell? ⟨w.heap.size, 2, none⟩ = some (.slice A2 p.rules.length k2) ∧ w'.cell? ⟨w.heap.size + 1, 0, none⟩ = some (.slice A3 g.ids.length k3) ∧ w'.cell? ⟨w.heap.size + 1, 1, none⟩ = some (.slice A4 g.ports.length k4) ∧ w.heap.size + 1 < w'.heap.size) 27 (by kernel_rfl) ?_
      replace HW := HW.drew
      have hHeld := hcell.out _ HW
      (refine AnyE.t (v := ?_) 0 20 rfl rfl (by kernel_rfl) (fun _ _ _ h => h) hHeld (Or.inl ⟨by rfl, ?_⟩) ?_; rotate_left 1; focus (intro w' hSw; (try dsimp only at hSw); go_simp; (try with_reducible rfl); done); (try simp only [Act.put, List.setIfInBounds_toArray, List.set_cons_zero, List.set_cons_succ]))
      refine AnyE.one (i := 1) (by kernel_rfl) rfl (fun K hK => ?_)
      go_simp
      go_at_call 18
      refine (light_any _ _ _ _).mono ?_
      rintro e w' ⟨rfl, rfl⟩
      rw [hd]
      (try go_simp)
      refine hK.out _ _ (fun _ => hcell.out _ HW) ?_
      clear hK K hHeld
      have hHeld := hcell.out _ HW
      (try simp only [Act.put, List.setIfInBounds_toArray, List.set_cons_zero, List.set_cons_succ])
      (refine AnyE.t (v := ?_) 2 22 rfl rfl (by kernel_rfl) (fun _ _ _ h => h) hHeld (Or.inl ⟨by rfl, ?_⟩) ?_; rotate_left 1; focus (intro w' hSw; (try dsimp only at hSw); go_simp; (try with_reducible rfl); done); (try simp only [Act.put, List.setIfInBounds_toArray, List.set_cons_zero, List.set_cons_succ]))
      (refine AnyE.t (v := ?_) 3 23 rfl rfl (by kernel_rfl) (fun _ _ _ h => h) hHeld (Or.inl ⟨by rfl, ?_⟩) ?_; rotate_left 1; focus (intro w' hSw; (try dsimp only at hSw); go_simp; (try with_reducible rfl); done); (try simp only [Act.put, List.setIfInBounds_toArray, List.set_cons_zero, List.set_cons_succ]))
      (refine AnyE.t (v := ?_) 4 24 rfl rfl (by kernel_rfl) (fun _ _ _ h => h) hHeld (Or.inl ⟨by rfl, ?_⟩) ?_; rotate_left 1; focus (intro w' hSw; (try dsimp only at hSw); go_simp; (try with_reducible rfl); done); (try simp only [Act.put, List.setIfInBounds_toArray, List.set_cons_zero, List.set_cons_succ]))
      (refine AnyE.t (v := ?_) 5 25 rfl rfl (by kernel_rfl) (fun _ _ _ h => h) hHeld (Or.inl ⟨by rfl, ?_⟩) ?_; rotate_left 1; focus (intro w' hSw; (try dsimp only at hSw); go_simp; (try with_reducible rfl); done); (try simp only [Act.put, List.setIfInBounds_toArray, List.set_cons_zero, List.set_cons_succ]))
      (refine AnyE.t (v := ?_) 6 26 rfl rfl (by kernel_rfl) (fun _ _ _ h => h) hHeld (Or.inl ⟨by rfl, ?_⟩) ?_; rotate_left 1; focus (intro w' hSw; (try dsimp only at hSw); go_simp; (try with_reducible rfl); done); (try simp only [Act.put, List.setIfInBounds_toArray, List.set_cons_zero, List.set_cons_succ]))
      refine AnyE.one (i := 7) (by kernel_rfl) rfl (fun K hK => ?_)
      go_simp
      go_at_call 8
      refine (quick13_any none 0 0 [] _ p _ g _ c _ rfl (Nat.zero_le _) (HPV.out _ (box2_bel HW)) (HGV.out _ (box2_bel HW)) (HCV.out _ (box2_bel HW))).mono ?_
      rintro e w' ⟨rfl, hb⟩
      rw [hq]
      replace HW := HW.trans hb
      clear hb
      (try go_simp)
      refine hK.out _ _ (fun _ => hcell.out _ HW) ?_
      clear hK K hHeld
      have hHeld := hcell.out _ HW
      (try simp only [Act.put, List.setIfInBounds_toArray, List.set_cons_zero, List.set_cons_succ])
      (refine AnyE.t (v := ?_) 8 28 rfl rfl (by kernel_rfl) (fun _ _ _ h => h) hHeld (Or.inl ⟨by rfl, ?_⟩) ?_; rotate_left 1; focus (intro w' hSw; (try dsimp only at hSw); go_simp; (try with_reducible rfl); done); (try simp only [Act.put, List.setIfInBounds_toArray, List.set_cons_zero, List.set_cons_succ]))
      (refine AnyE.t (v := ?_) 9 29 rfl rfl (by kernel_rfl) (fun _ _ _ h => h) hHeld (Or.inl ⟨by rfl, ?_⟩) ?_; rotate_left 1; focus (intro w' hSw; (try dsimp only at hSw); go_simp; (try with_reducible rfl); done); (try simp only [Act.put, List.setIfInBounds_toArray, List.set_cons_zero, List.set_cons_succ]))
      (refine AnyE.t (v := ?_) 10 30 rfl rfl (by kernel_rfl) (fun _ _ _ h => h) hHeld (Or.inl ⟨by rfl, ?_⟩) ?_; rotate_left 1; focus (intro w' hSw; (try dsimp only at hSw); go_simp; (try with_reducible rfl); done); (try simp only [Act.put, List.setIfInBounds_toArray, List.set_cons_zero, List.set_cons_succ]))
      (refine AnyE.t (v := undef) 11 31 rfl rfl (by kernel_rfl) (fun _ _ _ h => h) hHeld (Or.inr ⟨by rfl, rfl⟩) ?_; (try simp only [Act.put, List.setIfInBounds_toArray, List.set_cons_zero, List.set_cons_succ]))
      (refine AnyE.t (v := undef) 12 32 rfl rfl (by kernel_rfl) (fun _ _ _ h => h) hHeld (Or.inr ⟨by rfl, rfl⟩) ?_; (try simp only [Act.put, List.setIfInBounds_toArray, List.set_cons_zero, List.set_cons_succ]))
      (refine AnyE.t (v := undef) 13 33 rfl rfl (by kernel_rfl) (fun _ _ _ h => h) hHeld (Or.inr ⟨by rfl, rfl⟩) ?_; (try simp only [Act.put, List.setIfInBounds_toArray, List.set_cons_zero, List.set_cons_succ]))
      (refine AnyE.t (v := undef) 14 34 rfl rfl (by kernel_rfl) (fun _ _ _ h => h) hHeld (Or.inr ⟨by rfl, rfl⟩) ?_; (try simp only [Act.put, List.setIfInBounds_toArray, List.set_cons_zero, List.set_cons_succ]))
      (refine AnyE.t (v := undef) 15 35 rfl rfl (by kernel_rfl) (fun _ _ _ h => h) hHeld (Or.inr ⟨by rfl, rfl⟩) ?_; (try simp only [Act.put, List.setIfInBounds_toArray, List.set_cons_zero, List.set_cons_succ]))
      (refine AnyE.t (v := undef) 16 36 rfl rfl (by kernel_rfl) (fun _ _ _ h => h) hHeld (Or.inr ⟨by rfl, rfl⟩) ?_; (try simp only [Act.put, List.setIfInBounds_toArray, List.set_cons_zero, List.set_cons_succ]))
      (refine AnyE.t (v := undef) 17 37 rfl rfl (by kernel_rfl) (fun _ _ _ h => h) hHeld (Or.inr ⟨by rfl, rfl⟩) ?_; (try simp only [Act.put, List.setIfInBounds_toArray, List.set_cons_zero, List.set_cons_succ]))
      (refine AnyE.t (v := undef) 18 38 rfl rfl (by kernel_rfl) (fun _ _ _ h => h) hHeld (Or.inr ⟨by rfl, rfl⟩) ?_; (try simp only [Act.put, List.setIfInBounds_toArray, List.set_cons_zero, List.set_cons_succ]))
      (refine AnyE.t (v := undef) 19 39 rfl rfl (by kernel_rfl) (fun _ _ _ h => h) hHeld (Or.inr ⟨by rfl, rfl⟩) ?_; (try simp only [Act.put, List.setIfInBounds_toArray, List.set_cons_zero, List.set_cons_succ]))
      (refine AnyE.t (v := ?_) 20 40 rfl rfl (by kernel_rfl) (fun _ _ _ h => h) hHeld (Or.inl ⟨by rfl, ?_⟩) ?_; rotate_left 1; focus (intro w' hSw; (try dsimp only at hSw); go_simp; (try with_reducible rfl); done); (try simp only [Act.put, List.setIfInBounds_toArray, List.set_cons_zero, List.set_cons_succ]))
      (refine AnyE.t (v := ?_) 21 41 rfl rfl (by kernel_rfl) (fun _ _ _ h => h) hHeld (Or.inl ⟨by rfl, ?_⟩) ?_; rotate_left 1; focus (intro w' hSw; (try dsimp only at hSw); go_simp; (try with_reducible rfl); done); (try simp only [Act.put, List.setIfInBounds_toArray, List.set_cons_zero, List.set_cons_succ]))
      (refine AnyE.t (v := undef) 22 42 rfl rfl (by kernel_rfl) (fun _ _ _ h => h) hHeld (Or.inr ⟨by rfl, rfl⟩) ?_; (try simp only [Act.put, List.setIfInBounds_toArray, List.set_cons_zero, List.set_cons_succ]))
      (refine AnyE.t (v := undef) 23 43 rfl rfl (by kernel_rfl) (fun _ _ _ h => h) hHeld (Or.inr ⟨by rfl, rfl⟩) ?_; (try simp only [Act.put, List.setIfInBounds_toArray, List.set_cons_zero, List.set_cons_succ]))
      (refine AnyE.t (v := undef) 24 44 rfl rfl (by kernel_rfl) (fun _ _ _ h => h) hHeld (Or.inr ⟨by rfl, rfl⟩) ?_; (try simp only [Act.put, List.setIfInBounds_toArray, List.set_cons_zero, List.set_cons_succ]))
      (refine AnyE.t (v := undef) 25 45 rfl rfl (by kernel_rfl) (fun _ _ _ h => h) hHeld (Or.inr ⟨by rfl, rfl⟩) ?_; (try simp only [Act.put, List.setIfInBounds_toArray, List.set_cons_zero, List.set_cons_succ]))
      (refine AnyE.t (v := undef) 26 46 rfl rfl (by kernel_rfl) (fun _ _ _ h => h) hHeld (Or.inr ⟨by rfl, rfl⟩) ?_; (try simp only [Act.put, List.setIfInBounds_toArray, List.set_cons_zero, List.set_cons_succ]))
      refine AnyE.one (i := 27) (by kernel_rfl) rfl (fun K hK => ?_)
      go_simp
      refine hK.out _ _ (fun h => absurd rfl h) ?_
      clear hK K hHeld
      refine AnyE.done (by kernel_rfl) ?_ _
      go_wp2_with (go_at_call 9; refine (awake13_any _).mono ?_; rintro e w' ⟨rfl, hb⟩; replace HW := HW.trans hb; clear hb)
      go_ret
      exact ⟨rfl, box2_bel HW⟩
    | true =>
      have HQ := Lib.hid (quick13_parts hq)
      cases h10 : decide (10000 < Y2) with
      | true =>
        go_enter Tryz.func7, Tryz.ntmps7
        go_wp2_with fail
        refine AnyE.start (fun w' => w'.cell? ⟨w.heap.size, 0, none⟩ = some (.string p.name) ∧ w'.cell? ⟨w.heap.size, 1, none⟩ = some (.slice A1 p.vars.length k1) ∧ w'.cell? ⟨w.heap.size, 2, none⟩ = some (.slice A2 p.rules.length k2) ∧ w'.cell? ⟨w.heap.size + 1, 0, none⟩ = some (.slice A3 g.ids.length k3) ∧ w'.cell? ⟨w.heap.size + 1, 1, none⟩ = some (.slice A4 g.ports.length k4) ∧ w.heap.size + 1 < w'.heap.size) 27 (by kernel_rfl) ?_
        replace HW := HW.drew
        have hHeld := hcell.out _ HW
        (refine AnyE.t (v := ?_) 0 20 rfl rfl (by kernel_rfl) (fun _ _ _ h => h) hHeld (Or.inl ⟨by rfl, ?_⟩) ?_; rotate_left 1; focus (intro w' hSw; (try dsimp only at hSw); go_simp; (try with_reducible rfl); done); (try simp only [Act.put, List.setIfInBounds_toArray, List.set_cons_zero, List.set_cons_succ]))
        refine AnyE.one (i := 1) (by kernel_rfl) rfl (fun K hK => ?_)
        go_simp
        go_at_call 18
        refine (light_any _ _ _ _).mono ?_
        rintro e w' ⟨rfl, rfl⟩
        rw [hd]
        (try go_simp)
        refine hK.out _ _ (fun _ => hcell.out _ HW) ?_
        clear hK K hHeld
        have hHeld := hcell.out _ HW
        (try simp only [Act.put, List.setIfInBounds_toArray, List.set_cons_zero, List.set_cons_succ])
        (refine AnyE.t (v := ?_) 2 22 rfl rfl (by kernel_rfl) (fun _ _ _ h => h) hHeld (Or.inl ⟨by rfl, ?_⟩) ?_; rotate_left 1; focus (intro w' hSw; (try dsimp only at hSw); go_simp; (try with_reducible rfl); done); (try simp only [Act.put, List.setIfInBounds_toArray, List.set_cons_zero, List.set_cons_succ]))
        (refine AnyE.t (v := ?_) 3 23 rfl rfl (by kernel_rfl) (fun _ _ _ h => h) hHeld (Or.inl ⟨by rfl, ?_⟩) ?_; rotate_left 1; focus (intro w' hSw; (try dsimp only at hSw); go_simp; (try with_reducible rfl); done); (try simp only [Act.put, List.setIfInBounds_toArray, List.set_cons_zero, List.set_cons_succ]))
        (refine AnyE.t (v := ?_) 4 24 rfl rfl (by kernel_rfl) (fun _ _ _ h => h) hHeld (Or.inl ⟨by rfl, ?_⟩) ?_; rotate_left 1; focus (intro w' hSw; (try dsimp only at hSw); go_simp; (try with_reducible rfl); done); (try simp only [Act.put, List.setIfInBounds_toArray, List.set_cons_zero, List.set_cons_succ]))
        (refine AnyE.t (v := ?_) 5 25 rfl rfl (by kernel_rfl) (fun _ _ _ h => h) hHeld (Or.inl ⟨by rfl, ?_⟩) ?_; rotate_left 1; focus (intro w' hSw; (try dsimp only at hSw); go_simp; (try with_reducible rfl); done); (try simp only [Act.put, List.setIfInBounds_toArray, List.set_cons_zero, List.set_cons_succ]))
        (refine AnyE.t (v := ?_) 6 26 rfl rfl (by kernel_rfl) (fun _ _ _ h => h) hHeld (Or.inl ⟨by rfl, ?_⟩) ?_; rotate_left 1; focus (intro w' hSw; (try dsimp only at hSw); go_simp; (try with_reducible rfl); done); (try simp only [Act.put, List.setIfInBounds_toArray, List.set_cons_zero, List.set_cons_succ]))
        refine AnyE.one (i := 7) (by kernel_rfl) rfl (fun K hK => ?_)
        go_simp
        go_at_call 8
        refine (quick13_any none 0 0 [] _ p _ g _ c _ rfl (Nat.zero_le _) (HPV.out _ (box2_bel HW)) (HGV.out _ (box2_bel HW)) (HCV.out _ (box2_bel HW))).mono ?_
        rintro e w' ⟨rfl, hb⟩
        rw [hq]
        replace HW := HW.trans hb
        clear hb
        (try go_simp)
        refine hK.out _ _ (fun _ => hcell.out _ HW) ?_
        clear hK K hHeld
        have hHeld := hcell.out _ HW
        (try simp only [Act.put, List.setIfInBounds_toArray, List.set_cons_zero, List.set_cons_succ])
        (refine AnyE.t (v := ?_) 8 28 rfl rfl (by kernel_rfl) (fun _ _ _ h => h) hHeld (Or.inl ⟨by rfl, ?_⟩) ?_; rotate_left 1; focus (intro w' hSw; (try dsimp only at hSw); go_simp; (try with_reducible rfl); done); (try simp only [Act.put, List.setIfInBounds_toArray, List.set_cons_zero, List.set_cons_succ]))
        (refine AnyE.t (v := ?_) 9 29 rfl rfl (by kernel_rfl) (fun _ _ _ h => h) hHeld (Or.inl ⟨by rfl, ?_⟩) ?_; rotate_left 1; focus (intro w' hSw; (try dsimp only at hSw); go_simp; (try with_reducible rfl); done); (try simp only [Act.put, List.setIfInBounds_toArray, List.set_cons_zero, List.set_cons_succ]))
        (refine AnyE.t (v := ?_) 10 30 rfl rfl (by kernel_rfl) (fun _ _ _ h => h) hHeld (Or.inl ⟨by rfl, ?_⟩) ?_; rotate_left 1; focus (intro w' hSw; (try dsimp only at hSw); go_simp; (try with_reducible rfl); done); (try simp only [Act.put, List.setIfInBounds_toArray, List.set_cons_zero, List.set_cons_succ]))
        (refine AnyE.t (v := ?_) 11 31 rfl rfl (by kernel_rfl) (fun _ _ _ h => h) hHeld (Or.inl ⟨by rfl, ?_⟩) ?_; rotate_left 1; focus (intro w' hSw; (try dsimp only at hSw); go_simp; (try with_reducible rfl); done); (try simp only [Act.put, List.setIfInBounds_toArray, List.set_cons_zero, List.set_cons_succ]))
        (refine AnyE.t (v := ?_) 12 32 rfl rfl (by kernel_rfl) (fun _ _ _ h => h) hHeld (Or.inl ⟨by rfl, ?_⟩) ?_; rotate_left 1; focus (intro w' hSw; (try dsimp only at hSw); go_simp; (try with_reducible rfl); done); (try simp only [Act.put, List.setIfInBounds_toArray, List.set_cons_zero, List.set_cons_succ]))
        (refine AnyE.t (v := ?_) 13 33 rfl rfl (by kernel_rfl) (fun _ _ _ h => h) hHeld (Or.inl ⟨by rfl, ?_⟩) ?_; rotate_left 1; focus (intro w' hSw; (try dsimp only at hSw); go_simp; (try with_reducible rfl); done); (try simp only [Act.put, List.setIfInBounds_toArray, List.set_cons_zero, List.set_cons_succ]))
        (refine AnyE.t (v := ?_) 16 36 rfl rfl (by kernel_rfl) (fun _ _ _ h => h) hHeld (Or.inl ⟨by rfl, ?_⟩) ?_; rotate_left 1; focus (intro w' hSw; (try dsimp only at hSw); go_simp; (try with_reducible rfl); done); (try simp only [Act.put, List.setIfInBounds_toArray, List.set_cons_zero, List.set_cons_succ]))
        refine AnyE.one (i := 14) (by kernel_rfl) rfl (fun K hK => ?_)
        go_simp
        go_at_call 19
        refine (degrees_any _ g _ (HGV.out _ (box2_bel HW))).mono ?_
        rintro e w' ⟨rfl, hb⟩
        replace HW := HW.trans hb
        clear hb
        (try go_simp)
        refine hK.out _ _ (fun _ => hcell.out _ HW) ?_
        clear hK K hHeld
        have hHeld := hcell.out _ HW
        (try simp only [Act.put, List.setIfInBounds_toArray, List.set_cons_zero, List.set_cons_succ])
        (refine AnyE.t (v := ?_) 15 35 rfl rfl (by kernel_rfl) (fun _ _ _ h => h) hHeld (Or.inl ⟨by rfl, ?_⟩) ?_; rotate_left 1; focus (intro w' hSw; (try dsimp only at hSw); go_simp; (try with_reducible rfl); done); (try simp only [Act.put, List.setIfInBounds_toArray, List.set_cons_zero, List.set_cons_succ]))
        refine AnyE.one (i := 17) (by kernel_rfl) rfl (fun K hK => ?_)
        go_simp
        go_at_call 19
        refine (degrees_any _ g _ (HGV.out _ (box2_bel HW))).mono ?_
        rintro e w' ⟨rfl, hb⟩
        replace HW := HW.trans hb
        clear hb
        (try go_simp)
        refine hK.out _ _ (fun _ => hcell.out _ HW) ?_
        clear hK K hHeld
        have hHeld := hcell.out _ HW
        (try simp only [Act.put, List.setIfInBounds_toArray, List.set_cons_zero, List.set_cons_succ])
        (refine AnyE.t (v := ?_) 18 38 rfl rfl (by kernel_rfl) (fun _ _ _ h => h) hHeld (Or.inl ⟨by rfl, ?_⟩) ?_; rotate_left 1; focus (intro w' hSw; (try dsimp only at hSw); go_simp; (try with_reducible rfl); done); (try simp only [Act.put, List.setIfInBounds_toArray, List.set_cons_zero, List.set_cons_succ]))
        (refine AnyE.t (v := ?_) 19 39 rfl rfl (by kernel_rfl) (fun _ _ _ h => h) hHeld (Or.inl ⟨by rfl, ?_⟩) ?_; rotate_left 1; focus (intro w' hSw; (try dsimp only at hSw); go_simp; (try with_reducible rfl); done); (try simp only [Act.put, List.setIfInBounds_toArray, List.set_cons_zero, List.set_cons_succ]))
        (refine AnyE.t (v := ?_) 20 40 rfl rfl (by kernel_rfl) (fun _ _ _ h => h) hHeld (Or.inl ⟨by rfl, ?_⟩) ?_; rotate_left 1; focus (intro w' hSw; (try dsimp only at hSw); go_simp; (try with_reducible rfl); done); (try simp only [Act.put, List.setIfInBounds_toArray, List.set_cons_zero, List.set_cons_succ]))
        (refine AnyE.t (v := ?_) 21 41 rfl rfl (by kernel_rfl) (fun _ _ _ h => h) hHeld (Or.inl ⟨by rfl, ?_⟩) ?_; rotate_left 1; focus (intro w' hSw; (try dsimp only at hSw); go_simp; (try with_reducible rfl); done); (try simp only [Act.put, List.setIfInBounds_toArray, List.set_cons_zero, List.set_cons_succ]))
        (refine AnyE.t (v := undef) 22 42 rfl rfl (by kernel_rfl) (fun _ _ _ h => h) hHeld (Or.inr ⟨by rfl, rfl⟩) ?_; (try simp only [Act.put, List.setIfInBounds_toArray, List.set_cons_zero, List.set_cons_succ]))
        (refine AnyE.t (v := undef) 23 43 rfl rfl (by kernel_rfl) (fun _ _ _ h => h) hHeld (Or.inr ⟨by rfl, rfl⟩) ?_; (try simp only [Act.put, List.setIfInBounds_toArray, List.set_cons_zero, List.set_cons_succ]))
        (refine AnyE.t (v := undef) 24 44 rfl rfl (by kernel_rfl) (fun _ _ _ h => h) hHeld (Or.inr ⟨by rfl, rfl⟩) ?_; (try simp only [Act.put, List.setIfInBounds_toArray, List.set_cons_zero, List.set_cons_succ]))
        (refine AnyE.t (v := undef) 25 45 rfl rfl (by kernel_rfl) (fun _ _ _ h => h) hHeld (Or.inr ⟨by rfl, rfl⟩) ?_; (try simp only [Act.put, List.setIfInBounds_toArray, List.set_cons_zero, List.set_cons_succ]))
        (refine AnyE.t (v := undef) 26 46 rfl rfl (by kernel_rfl) (fun _ _ _ h => h) hHeld (Or.inr ⟨by rfl, rfl⟩) ?_; (try simp only [Act.put, List.setIfInBounds_toArray, List.set_cons_zero, List.set_cons_succ]))
        refine AnyE.one (i := 27) (by kernel_rfl) rfl (fun K hK => ?_)
        go_simp
        refine hK.out _ _ (fun h => absurd rfl h) ?_
        clear hK K hHeld
        refine AnyE.done (by kernel_rfl) ?_ _
        go_wp2_with (go_at_call 9; refine (awake13_any _).mono ?_; rintro e w' ⟨rfl, hb⟩; replace HW := HW.trans hb; clear hb)
        go_ret
        exact ⟨rfl, box2_bel HW⟩
      | false =>
        cases hm : decide (memF p g c = 0) with
        | false =>
          go_enter Tryz.func7, Tryz.ntmps7
          go_wp2_with fail
          refine AnyE.start (fun w' => w'.cell? ⟨w.heap.size, 0, none⟩ = some (.string p.name) ∧ w'.cell? ⟨w.heap.size, 1, none⟩ = some (.slice A1 p.vars.length k1) ∧ w'.cell? ⟨w.heap.size, 2, none⟩ = some (.slice A2 p.rules.length k2) ∧ w'.cell? ⟨w.heap.size + 1, 0, none⟩ = some (.slice A3 g.ids.length k3) ∧ w'.cell? ⟨w.heap.size + 1, 1, none⟩ = some (.slice A4 g.ports.length k4) ∧ w.heap.size + 1 < w'.heap.size) 27 (by kernel_rfl) ?_
          replace HW := HW.drew
          have hHeld := hcell.out _ HW
          (refine AnyE.t (v := ?_) 0 20 rfl rfl (by kernel_rfl) (fun _ _ _ h => h) hHeld (Or.inl ⟨by rfl, ?_⟩) ?_; rotate_left 1; focus (intro w' hSw; (try dsimp only at hSw); go_simp; (try with_reducible rfl); done); (try simp only [Act.put, List.setIfInBounds_toArray, List.set_cons_zero, List.set_cons_succ]))
          refine AnyE.one (i := 1) (by kernel_rfl) rfl (fun K hK => ?_)
          go_simp
          go_at_call 18
          refine (light_any _ _ _ _).mono ?_
          rintro e w' ⟨rfl, rfl⟩
          rw [hd]
          (try go_simp)
          refine hK.out _ _ (fun _ => hcell.out _ HW) ?_
          clear hK K hHeld
          have hHeld := hcell.out _ HW
          (try simp only [Act.put, List.setIfInBounds_toArray, List.set_cons_zero, List.set_cons_succ])
          (refine AnyE.t (v := ?_) 2 22 rfl rfl (by kernel_rfl) (fun _ _ _ h => h) hHeld (Or.inl ⟨by rfl, ?_⟩) ?_; rotate_left 1; focus (intro w' hSw; (try dsimp only at hSw); go_simp; (try with_reducible rfl); done); (try simp only [Act.put, List.setIfInBounds_toArray, List.set_cons_zero, List.set_cons_succ]))
          (refine AnyE.t (v := ?_) 3 23 rfl rfl (by kernel_rfl) (fun _ _ _ h => h) hHeld (Or.inl ⟨by rfl, ?_⟩) ?_; rotate_left 1; focus (intro w' hSw; (try dsimp only at hSw); go_simp; (try with_reducible rfl); done); (try simp only [Act.put, List.setIfInBounds_toArray, List.set_cons_zero, List.set_cons_succ]))
          (refine AnyE.t (v := ?_) 4 24 rfl rfl (by kernel_rfl) (fun _ _ _ h => h) hHeld (Or.inl ⟨by rfl, ?_⟩) ?_; rotate_left 1; focus (intro w' hSw; (try dsimp only at hSw); go_simp; (try with_reducible rfl); done); (try simp only [Act.put, List.setIfInBounds_toArray, List.set_cons_zero, List.set_cons_succ]))
          (refine AnyE.t (v := ?_) 5 25 rfl rfl (by kernel_rfl) (fun _ _ _ h => h) hHeld (Or.inl ⟨by rfl, ?_⟩) ?_; rotate_left 1; focus (intro w' hSw; (try dsimp only at hSw); go_simp; (try with_reducible rfl); done); (try simp only [Act.put, List.setIfInBounds_toArray, List.set_cons_zero, List.set_cons_succ]))
          (refine AnyE.t (v := ?_) 6 26 rfl rfl (by kernel_rfl) (fun _ _ _ h => h) hHeld (Or.inl ⟨by rfl, ?_⟩) ?_; rotate_left 1; focus (intro w' hSw; (try dsimp only at hSw); go_simp; (try with_reducible rfl); done); (try simp only [Act.put, List.setIfInBounds_toArray, List.set_cons_zero, List.set_cons_succ]))
          refine AnyE.one (i := 7) (by kernel_rfl) rfl (fun K hK => ?_)
          go_simp
          go_at_call 8
          refine (quick13_any none 0 0 [] _ p _ g _ c _ rfl (Nat.zero_le _) (HPV.out _ (box2_bel HW)) (HGV.out _ (box2_bel HW)) (HCV.out _ (box2_bel HW))).mono ?_
          rintro e w' ⟨rfl, hb⟩
          rw [hq]
          replace HW := HW.trans hb
          clear hb
          (try go_simp)
          refine hK.out _ _ (fun _ => hcell.out _ HW) ?_
          clear hK K hHeld
          have hHeld := hcell.out _ HW
          (try simp only [Act.put, List.setIfInBounds_toArray, List.set_cons_zero, List.set_cons_succ])
          (refine AnyE.t (v := ?_) 8 28 rfl rfl (by kernel_rfl) (fun _ _ _ h => h) hHeld (Or.inl ⟨by rfl, ?_⟩) ?_; rotate_left 1; focus (intro w' hSw; (try dsimp only at hSw); go_simp; (try with_reducible rfl); done); (try simp only [Act.put, List.setIfInBounds_toArray, List.set_cons_zero, List.set_cons_succ]))
          (refine AnyE.t (v := ?_) 9 29 rfl rfl (by kernel_rfl) (fun _ _ _ h => h) hHeld (Or.inl ⟨by rfl, ?_⟩) ?_; rotate_left 1; focus (intro w' hSw; (try dsimp only at hSw); go_simp; (try with_reducible rfl); done); (try simp only [Act.put, List.setIfInBounds_toArray, List.set_cons_zero, List.set_cons_succ]))
          (refine AnyE.t (v := ?_) 10 30 rfl rfl (by kernel_rfl) (fun _ _ _ h => h) hHeld (Or.inl ⟨by rfl, ?_⟩) ?_; rotate_left 1; focus (intro w' hSw; (try dsimp only at hSw); go_simp; (try with_reducible rfl); done); (try simp only [Act.put, List.setIfInBounds_toArray, List.set_cons_zero, List.set_cons_succ]))
          (refine AnyE.t (v := ?_) 11 31 rfl rfl (by kernel_rfl) (fun _ _ _ h => h) hHeld (Or.inl ⟨by rfl, ?_⟩) ?_; rotate_left 1; focus (intro w' hSw; (try dsimp only at hSw); go_simp; (try with_reducible rfl); done); (try simp only [Act.put, List.setIfInBounds_toArray, List.set_cons_zero, List.set_cons_succ]))
          (refine AnyE.t (v := ?_) 12 32 rfl rfl (by kernel_rfl) (fun _ _ _ h => h) hHeld (Or.inl ⟨by rfl, ?_⟩) ?_; rotate_left 1; focus (intro w' hSw; (try dsimp only at hSw); go_simp; (try with_reducible rfl); done); (try simp only [Act.put, List.setIfInBounds_toArray, List.set_cons_zero, List.set_cons_succ]))
          (refine AnyE.t (v := ?_) 13 33 rfl rfl (by kernel_rfl) (fun _ _ _ h => h) hHeld (Or.inl ⟨by rfl, ?_⟩) ?_; rotate_left 1; focus (intro w' hSw; (try dsimp only at hSw); go_simp; (try with_reducible rfl); done); (try simp only [Act.put, List.setIfInBounds_toArray, List.set_cons_zero, List.set_cons_succ]))
          (refine AnyE.t (v := ?_) 16 36 rfl rfl (by kernel_rfl) (fun _ _ _ h => h) hHeld (Or.inl ⟨by rfl, ?_⟩) ?_; rotate_left 1; focus (intro w' hSw; (try dsimp only at hSw); go_simp; (try with_reducible rfl); done); (try simp only [Act.put, List.setIfInBounds_toArray, List.set_cons_zero, List.set_cons_succ]))
          refine AnyE.one (i := 14) (by kernel_rfl) rfl (fun K hK => ?_)
          go_simp
          go_at_call 19
          refine (degrees_any _ g _ (HGV.out _ (box2_bel HW))).mono ?_
          rintro e w' ⟨rfl, hb⟩
          replace HW := HW.trans hb
          clear hb
          (try go_simp)
          refine hK.out _ _ (fun _ => hcell.out _ HW) ?_
          clear hK K hHeld
          have hHeld := hcell.out _ HW
          (try simp only [Act.put, List.setIfInBounds_toArray, List.set_cons_zero, List.set_cons_succ])
          (refine AnyE.t (v := ?_) 15 35 rfl rfl (by kernel_rfl) (fun _ _ _ h => h) hHeld (Or.inl ⟨by rfl, ?_⟩) ?_; rotate_left 1; focus (intro w' hSw; (try dsimp only at hSw); go_simp; (try with_reducible rfl); done); (try simp only [Act.put, List.setIfInBounds_toArray, List.set_cons_zero, List.set_cons_succ]))
          refine AnyE.one (i := 17) (by kernel_rfl) rfl (fun K hK => ?_)
          go_simp
          go_at_call 19
          refine (degrees_any _ g _ (HGV.out _ (box2_bel HW))).mono ?_
          rintro e w' ⟨rfl, hb⟩
          replace HW := HW.trans hb
          clear hb
          (try go_simp)
          refine hK.out _ _ (fun _ => hcell.out _ HW) ?_
          clear hK K hHeld
          have hHeld := hcell.out _ HW
          (try simp only [Act.put, List.setIfInBounds_toArray, List.set_cons_zero, List.set_cons_succ])
          (refine AnyE.t (v := ?_) 18 38 rfl rfl (by kernel_rfl) (fun _ _ _ h => h) hHeld (Or.inl ⟨by rfl, ?_⟩) ?_; rotate_left 1; focus (intro w' hSw; (try dsimp only at hSw); go_simp; (try with_reducible rfl); done); (try simp only [Act.put, List.setIfInBounds_toArray, List.set_cons_zero, List.set_cons_succ]))
          (refine AnyE.t (v := ?_) 19 39 rfl rfl (by kernel_rfl) (fun _ _ _ h => h) hHeld (Or.inl ⟨by rfl, ?_⟩) ?_; rotate_left 1; focus (intro w' hSw; (try dsimp only at hSw); go_simp; (try with_reducible rfl); done); (try simp only [Act.put, List.setIfInBounds_toArray, List.set_cons_zero, List.set_cons_succ]))
          (refine AnyE.t (v := ?_) 20 40 rfl rfl (by kernel_rfl) (fun _ _ _ h => h) hHeld (Or.inl ⟨by rfl, ?_⟩) ?_; rotate_left 1; focus (intro w' hSw; (try dsimp only at hSw); go_simp; (try with_reducible rfl); done); (try simp only [Act.put, List.setIfInBounds_toArray, List.set_cons_zero, List.set_cons_succ]))
          (refine AnyE.t (v := ?_) 21 41 rfl rfl (by kernel_rfl) (fun _ _ _ h => h) hHeld (Or.inl ⟨by rfl, ?_⟩) ?_; rotate_left 1; focus (intro w' hSw; (try dsimp only at hSw); go_simp; (try with_reducible rfl); done); (try simp only [Act.put, List.setIfInBounds_toArray, List.set_cons_zero, List.set_cons_succ]))
          (refine AnyE.t (v := ?_) 22 42 rfl rfl (by kernel_rfl) (fun _ _ _ h => h) hHeld (Or.inl ⟨by rfl, ?_⟩) ?_; rotate_left 1; focus (intro w' hSw; (try dsimp only at hSw); go_simp; (try with_reducible rfl); done); (try simp only [Act.put, List.setIfInBounds_toArray, List.set_cons_zero, List.set_cons_succ]))
          (refine AnyE.t (v := ?_) 23 43 rfl rfl (by kernel_rfl) (fun _ _ _ h => h) hHeld (Or.inl ⟨by rfl, ?_⟩) ?_; rotate_left 1; focus (intro w' hSw; (try dsimp only at hSw); go_simp; (try with_reducible rfl); done); (try simp only [Act.put, List.setIfInBounds_toArray, List.set_cons_zero, List.set_cons_succ]))
          (refine AnyE.t (v := ?_) 24 44 rfl rfl (by kernel_rfl) (fun _ _ _ h => h) hHeld (Or.inl ⟨by rfl, ?_⟩) ?_; rotate_left 1; focus (intro w' hSw; (try dsimp only at hSw); go_simp; (try with_reducible rfl); done); (try simp only [Act.put, List.setIfInBounds_toArray, List.set_cons_zero, List.set_cons_succ]))
          refine AnyE.one (i := 25) (by kernel_rfl) rfl (fun K hK => ?_)
          go_simp
          go_at_call 12
          refine (refMemValid_any _ p _ g _ c _ (HPV.out _ (box2_bel HW)) (HGV.out _ (box2_bel HW)) (HCV.out _ (box2_bel HW)) HQ.out.1 HQ.out.2.1 HQ.out.2.2.1).mono ?_
          rintro e w' ⟨rfl, hb⟩
          rw [hm]
          replace HW := HW.trans hb
          clear hb
          (try go_simp)
          refine hK.out _ _ (fun _ => hcell.out _ HW) ?_
          clear hK K hHeld
          have hHeld := hcell.out _ HW
          (try simp only [Act.put, List.setIfInBounds_toArray, List.set_cons_zero, List.set_cons_succ])
          (refine AnyE.t (v := ?_) 26 46 rfl rfl (by kernel_rfl) (fun _ _ _ h => h) hHeld (Or.inl ⟨by rfl, ?_⟩) ?_; rotate_left 1; focus (intro w' hSw; (try dsimp only at hSw); go_simp; (try with_reducible rfl); done); (try simp only [Act.put, List.setIfInBounds_toArray, List.set_cons_zero, List.set_cons_succ]))
          refine AnyE.one (i := 27) (by kernel_rfl) rfl (fun K hK => ?_)
          go_simp
          refine hK.out _ _ (fun h => absurd rfl h) ?_
          clear hK K hHeld
          refine AnyE.done (by kernel_rfl) ?_ _
          go_wp2_with (go_at_call 9; refine (awake13_any _).mono ?_; rintro e w' ⟨rfl, hb⟩; replace HW := HW.trans hb; clear hb)
          go_ret
          exact ⟨rfl, box2_bel HW⟩
        | true =>
          exact machineAgreesFit E ce es _ p _ g _ c v w (HTV.out w (Bel.refl w)) (HPV.out w (Bel.refl w)) (HGV.out w (Bel.refl w)) (HCV.out w (Bel.refl w)) hl hq hm Y1 Y2 hY1 hY2 h10
  · have hd : decide (es.length ≤ 250) = false := by simpa using hl
    go_enter Tryz.func7, Tryz.ntmps7
    go_wp2_with fail
    refine AnyE.start (fun w' => w'.cell? ⟨w.heap.size, 0, none⟩ = some (.string p.name) ∧ w'.cell? ⟨w.heap.size, 1, none⟩ = some (.slice A1 p.vars.length k1) ∧ w'.cell? ⟨w.heap.size, 2, none⟩ = some (.slice A2 p.rules.length k2) ∧ w'.cell? ⟨w.heap.size + 1, 0, none⟩ = some (.slice A3 g.ids.length k3) ∧ w'.cell? ⟨w.heap.size + 1, 1, none⟩ = some (.slice A4 g.ports.length k4) ∧ w.heap.size + 1 < w'.heap.size) 27 (by kernel_rfl) ?_
    replace HW := HW.drew
    have hHeld := hcell.out _ HW
    (refine AnyE.t (v := ?_) 0 20 rfl rfl (by kernel_rfl) (fun _ _ _ h => h) hHeld (Or.inl ⟨by rfl, ?_⟩) ?_; rotate_left 1; focus (intro w' hSw; (try dsimp only at hSw); go_simp; (try with_reducible rfl); done); (try simp only [Act.put, List.setIfInBounds_toArray, List.set_cons_zero, List.set_cons_succ]))
    refine AnyE.one (i := 1) (by kernel_rfl) rfl (fun K hK => ?_)
    go_simp
    go_at_call 18
    refine (light_any _ _ _ _).mono ?_
    rintro e w' ⟨rfl, rfl⟩
    rw [hd]
    (try go_simp)
    refine hK.out _ _ (fun _ => hcell.out _ HW) ?_
    clear hK K hHeld
    have hHeld := hcell.out _ HW
    (try simp only [Act.put, List.setIfInBounds_toArray, List.set_cons_zero, List.set_cons_succ])
    (refine AnyE.t (v := ?_) 2 22 rfl rfl (by kernel_rfl) (fun _ _ _ h => h) hHeld (Or.inl ⟨by rfl, ?_⟩) ?_; rotate_left 1; focus (intro w' hSw; (try dsimp only at hSw); go_simp; (try with_reducible rfl); done); (try simp only [Act.put, List.setIfInBounds_toArray, List.set_cons_zero, List.set_cons_succ]))
    (refine AnyE.t (v := ?_) 3 23 rfl rfl (by kernel_rfl) (fun _ _ _ h => h) hHeld (Or.inl ⟨by rfl, ?_⟩) ?_; rotate_left 1; focus (intro w' hSw; (try dsimp only at hSw); go_simp; (try with_reducible rfl); done); (try simp only [Act.put, List.setIfInBounds_toArray, List.set_cons_zero, List.set_cons_succ]))
    (refine AnyE.t (v := undef) 4 24 rfl rfl (by kernel_rfl) (fun _ _ _ h => h) hHeld (Or.inr ⟨by rfl, rfl⟩) ?_; (try simp only [Act.put, List.setIfInBounds_toArray, List.set_cons_zero, List.set_cons_succ]))
    (refine AnyE.t (v := undef) 5 25 rfl rfl (by kernel_rfl) (fun _ _ _ h => h) hHeld (Or.inr ⟨by rfl, rfl⟩) ?_; (try simp only [Act.put, List.setIfInBounds_toArray, List.set_cons_zero, List.set_cons_succ]))
    (refine AnyE.t (v := undef) 6 26 rfl rfl (by kernel_rfl) (fun _ _ _ h => h) hHeld (Or.inr ⟨by rfl, rfl⟩) ?_; (try simp only [Act.put, List.setIfInBounds_toArray, List.set_cons_zero, List.set_cons_succ]))
    (refine AnyE.t (v := undef) 7 27 rfl rfl (by kernel_rfl) (fun _ _ _ h => h) hHeld (Or.inr ⟨by rfl, rfl⟩) ?_; (try simp only [Act.put, List.setIfInBounds_toArray, List.set_cons_zero, List.set_cons_succ]))
    (refine AnyE.t (v := undef) 8 28 rfl rfl (by kernel_rfl) (fun _ _ _ h => h) hHeld (Or.inr ⟨by rfl, rfl⟩) ?_; (try simp only [Act.put, List.setIfInBounds_toArray, List.set_cons_zero, List.set_cons_succ]))
    (refine AnyE.t (v := ?_) 9 29 rfl rfl (by kernel_rfl) (fun _ _ _ h => h) hHeld (Or.inl ⟨by rfl, ?_⟩) ?_; rotate_left 1; focus (intro w' hSw; (try dsimp only at hSw); go_simp; (try with_reducible rfl); done); (try simp only [Act.put, List.setIfInBounds_toArray, List.set_cons_zero, List.set_cons_succ]))
    (refine AnyE.t (v := ?_) 10 30 rfl rfl (by kernel_rfl) (fun _ _ _ h => h) hHeld (Or.inl ⟨by rfl, ?_⟩) ?_; rotate_left 1; focus (intro w' hSw; (try dsimp only at hSw); go_simp; (try with_reducible rfl); done); (try simp only [Act.put, List.setIfInBounds_toArray, List.set_cons_zero, List.set_cons_succ]))
    (refine AnyE.t (v := undef) 11 31 rfl rfl (by kernel_rfl) (fun _ _ _ h => h) hHeld (Or.inr ⟨by rfl, rfl⟩) ?_; (try simp only [Act.put, List.setIfInBounds_toArray, List.set_cons_zero, List.set_cons_succ]))
    (refine AnyE.t (v := undef) 12 32 rfl rfl (by kernel_rfl) (fun _ _ _ h => h) hHeld (Or.inr ⟨by rfl, rfl⟩) ?_; (try simp only [Act.put, List.setIfInBounds_toArray, List.set_cons_zero, List.set_cons_succ]))
    (refine AnyE.t (v := undef) 13 33 rfl rfl (by kernel_rfl) (fun _ _ _ h => h) hHeld (Or.inr ⟨by rfl, rfl⟩) ?_; (try simp only [Act.put, List.setIfInBounds_toArray, List.set_cons_zero, List.set_cons_succ]))
    (refine AnyE.t (v := undef) 14 34 rfl rfl (by kernel_rfl) (fun _ _ _ h => h) hHeld (Or.inr ⟨by rfl, rfl⟩) ?_; (try simp only [Act.put, List.setIfInBounds_toArray, List.set_cons_zero, List.set_cons_succ]))
    (refine AnyE.t (v := undef) 15 35 rfl rfl (by kernel_rfl) (fun _ _ _ h => h) hHeld (Or.inr ⟨by rfl, rfl⟩) ?_; (try simp only [Act.put, List.setIfInBounds_toArray, List.set_cons_zero, List.set_cons_succ]))
    (refine AnyE.t (v := undef) 16 36 rfl rfl (by kernel_rfl) (fun _ _ _ h => h) hHeld (Or.inr ⟨by rfl, rfl⟩) ?_; (try simp only [Act.put, List.setIfInBounds_toArray, List.set_cons_zero, List.set_cons_succ]))
    (refine AnyE.t (v := undef) 17 37 rfl rfl (by kernel_rfl) (fun _ _ _ h => h) hHeld (Or.inr ⟨by rfl, rfl⟩) ?_; (try simp only [Act.put, List.setIfInBounds_toArray, List.set_cons_zero, List.set_cons_succ]))
    (refine AnyE.t (v := undef) 18 38 rfl rfl (by kernel_rfl) (fun _ _ _ h => h) hHeld (Or.inr ⟨by rfl, rfl⟩) ?_; (try simp only [Act.put, List.setIfInBounds_toArray, List.set_cons_zero, List.set_cons_succ]))
    (refine AnyE.t (v := undef) 19 39 rfl rfl (by kernel_rfl) (fun _ _ _ h => h) hHeld (Or.inr ⟨by rfl, rfl⟩) ?_; (try simp only [Act.put, List.setIfInBounds_toArray, List.set_cons_zero, List.set_cons_succ]))
    (refine AnyE.t (v := ?_) 20 40 rfl rfl (by kernel_rfl) (fun _ _ _ h => h) hHeld (Or.inl ⟨by rfl, ?_⟩) ?_; rotate_left 1; focus (intro w' hSw; (try dsimp only at hSw); go_simp; (try with_reducible rfl); done); (try simp only [Act.put, List.setIfInBounds_toArray, List.set_cons_zero, List.set_cons_succ]))
    (refine AnyE.t (v := ?_) 21 41 rfl rfl (by kernel_rfl) (fun _ _ _ h => h) hHeld (Or.inl ⟨by rfl, ?_⟩) ?_; rotate_left 1; focus (intro w' hSw; (try dsimp only at hSw); go_simp; (try with_reducible rfl); done); (try simp only [Act.put, List.setIfInBounds_toArray, List.set_cons_zero, List.set_cons_succ]))
    (refine AnyE.t (v := undef) 22 42 rfl rfl (by kernel_rfl) (fun _ _ _ h => h) hHeld (Or.inr ⟨by rfl, rfl⟩) ?_; (try simp only [Act.put, List.setIfInBounds_toArray, List.set_cons_zero, List.set_cons_succ]))
    (refine AnyE.t (v := undef) 23 43 rfl rfl (by kernel_rfl) (fun _ _ _ h => h) hHeld (Or.inr ⟨by rfl, rfl⟩) ?_; (try simp only [Act.put, List.setIfInBounds_toArray, List.set_cons_zero, List.set_cons_succ]))
    (refine AnyE.t (v := undef) 24 44 rfl rfl (by kernel_rfl) (fun _ _ _ h => h) hHeld (Or.inr ⟨by rfl, rfl⟩) ?_; (try simp only [Act.put, List.setIfInBounds_toArray, List.set_cons_zero, List.set_cons_succ]))
    (refine AnyE.t (v := undef) 25 45 rfl rfl (by kernel_rfl) (fun _ _ _ h => h) hHeld (Or.inr ⟨by rfl, rfl⟩) ?_; (try simp only [Act.put, List.setIfInBounds_toArray, List.set_cons_zero, List.set_cons_succ]))
    (refine AnyE.t (v := undef) 26 46 rfl rfl (by kernel_rfl) (fun _ _ _ h => h) hHeld (Or.inr ⟨by rfl, rfl⟩) ?_; (try simp only [Act.put, List.setIfInBounds_toArray, List.set_cons_zero, List.set_cons_succ]))
    refine AnyE.one (i := 27) (by kernel_rfl) rfl (fun K hK => ?_)
    go_simp
    refine hK.out _ _ (fun h => absurd rfl h) ?_
    clear hK K hHeld
    refine AnyE.done (by kernel_rfl) ?_ _
    go_wp2_with (go_at_call 9; refine (awake13_any _).mono ?_; rintro e w' ⟨rfl, hb⟩; replace HW := HW.trans hb; clear hb)
    go_ret
    exact ⟨rfl, box2_bel HW⟩

end Go.Proofs.YtaifafljakojnaaGreat

