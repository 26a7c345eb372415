/- Merged of: WSd WSe WSg WSh (see NOTES.md). -/
import Derived.Test.YtgemlgpjbclonaaGreatDoorZ22
import Derived.Test.YtgemlgpjbclonaaGreatDoorZ28
set_option linter.unusedSimpArgs false
set_option linter.unnecessarySimpa false
set_option linter.unusedVariables false

/- Contracts: the program's mover: Step. -/
namespace Go.Proofs.YtgemlgpjbclonaaGreatDoor
open Go.RowKit

/-- As far as a step has come. -/
def partS (p : Prg) (g : Graph) (c : Config) (S v : Nat) : Config := (List.range c.length).map fun u => if u < v ∧ S.testBit u = true then moveF p g c u else c.getD u []
theorem partS_length (p : Prg) (g : Graph) (c : Config) (S v : Nat) : (partS p g c S v).length = c.length := by simp [partS]
theorem partS_at (p : Prg) (g : Graph) (c : Config) (S v : Nat) (i : Nat) : (partS p g c S v)[i]? = if i < c.length then some (if i < v ∧ S.testBit i = true then moveF p g c i else c.getD i []) else none := by
 unfold partS
 rw [List.getElem?_map]
 by_cases h : i < c.length
 ·rw [List.getElem?_range h, if_pos h]; rfl
 ·rw [if_neg h, List.getElem?_eq_none (by simp; omega)]; rfl
theorem partS_zero (p : Prg) (g : Graph) (c : Config) (S : Nat) : partS p g c S 0 = c := by
 apply List.ext_getElem?
 intro i
 rw [partS_at]
 by_cases h : i < c.length
 ·rw [if_pos h, if_neg (by omega), getD_eq h, List.getElem?_eq_getElem h]
 ·rw [if_neg h, List.getElem?_eq_none (by omega)]
theorem partS_full (p : Prg) (g : Graph) (c : Config) (S : Nat) : partS p g c S c.length = stepCF p g c S := by
 unfold partS stepCF
 refine List.map_congr_left fun u hu => ?_
 rw [List.mem_range] at hu
 cases hb : S.testBit u with
 | true => rw [if_pos ⟨hu, rfl⟩, if_pos rfl]
 | false => rw [if_neg (fun h => by cases h.2), if_neg (by decide)]
theorem partS_yes {p : Prg} {g : Graph} {c : Config} {S v : Nat} (hb : S.testBit v = true) : (partS p g c S v).set v (moveF p g c v) = partS p g c S (v + 1) := by
 apply List.ext_getElem?
 intro i
 rw [List.getElem?_set, partS_at, partS_at, partS_length]
 by_cases he : v = i
 ·subst he
  rw [if_pos rfl]
  by_cases h : v < c.length
  ·rw [if_pos h, if_pos h, if_pos ⟨by omega, hb⟩]
  ·rw [if_neg h, if_neg h]
 ·rw [if_neg he]
  have e : (i < v ∧ S.testBit i = true) ↔ (i < v + 1 ∧ S.testBit i = true) := by
   constructor
   ·rintro ⟨h, h'⟩; exact ⟨by omega, h'⟩
   ·rintro ⟨h, h'⟩; exact ⟨by omega, h'⟩
  simp only [e]
theorem partS_no {p : Prg} {g : Graph} {c : Config} {S v : Nat} (hb : S.testBit v = false) : partS p g c S v = partS p g c S (v + 1) := by
 apply List.ext_getElem?
 intro i
 rw [partS_at, partS_at]
 have e : (i < v ∧ S.testBit i = true) ↔ (i < v + 1 ∧ S.testBit i = true) := by
  constructor
  ·rintro ⟨h, h'⟩; exact ⟨by omega, h'⟩
  ·rintro ⟨h, h'⟩
   refine ⟨?_, h'⟩
   have : i ≠ v := by rintro rfl; rw [hb] at h'; cases h'
   omega
 simp only [e]

end Go.Proofs.YtgemlgpjbclonaaGreatDoor

/- Contracts: step.Rule, step.Enabled, step.Move, step.Step. -/
namespace Go.Proofs.YtgemlgpjbclonaaGreatDoor
open Go.RowKit

def RetStep (r : Config × Int) (w : World) (e : Ending) (w' : World) : Prop := ∃ A c, e = .returned (.tuple #[.slice A r.1.length c, .int .i64 r.2]) ∧ ConfV w' (.slice A r.1.length c) r.1 ∧ Bel w w'
theorem NewI.nil (w : World) (B : Nat) : NewI w B none 0 [] := ⟨SliceR.nil, Nat.le_refl _, by unfold maxLen; simp, fun b o e => by cases e⟩
theorem ConfV.nil (w : World) : ConfV w (.slice none 0 0) [] := ⟨none, 0, rfl, SliceR.nil, Nat.le_refl _, by unfold maxLen; omega⟩





end Go.Proofs.YtgemlgpjbclonaaGreatDoor

/- Contracts: the reference's move. -/
namespace Go.Proofs.YtgemlgpjbclonaaGreatDoor
open Go.RowKit

set_option maxRecDepth 100000 in
set_option maxHeartbeats 8000000 in
theorem refMoveI_any (v1 : Value) (p : Prg) (v2 : Value) (g : Graph) (v3 : Value) (c : Config) (v : Nat) (w : World) (h : PrgV w v1 p) (h2 : GraphV w v2 g) (h3 : ConfV w v3 c) (hm : memF p g c = 0) (hv : v < c.length) (hen : 0 ≤ firstF p.rules g c v) (hL : lightP p = true) (hGL : lightG g = true) (hCL : lightC c = true) :
  Calls Tryz.prog 55 #[v1, v2, v3, .int .i64 v] w (RetNewI (moveF p g c v) w) := by
 have hR : ∃ A1 k1 A2 k2, v1 = .agg #[.string p.name, .slice A1 p.vars.length k1, .slice A2 p.rules.length k2] ∧ RulesR w A2 p.rules.length p.rules := by
  obtain ⟨A1, k1, A2, k2, e, _, _, _, hR, _, _⟩ := h
  exact ⟨A1, k1, A2, k2, e, hR⟩
 have hRC : ∃ A k, v3 = .slice A c.length k ∧ RowsR w A c.length c := by
  obtain ⟨A, k, e, hR, _⟩ := h3
  exact ⟨A, k, e, hR⟩
 obtain ⟨A1r, k1r, A2r, k2r, eR, hR⟩ := hR
 obtain ⟨A5r, k5r, eC, hRC⟩ := hRC
 obtain ⟨k, hk⟩ := Int.eq_ofNat_of_zero_le hen
 have hkl : k < p.rules.length := by have := (firstF_range p.rules g c v).2; omega
 obtain ⟨bR, oR, G, gc, SS, sc, eA, hbR, _, _, cs, _, _, _, hSets, _, _⟩ := hR.at_ k hkl
 subst eA
 obtain ⟨b0, o0, R, rc, eA5, hb0, cell0, hI, _, _⟩ := hRC.at_ v hv
 subst eA5
 have HPV := Lib.hid (fun w' (k : Bel w w') => h.keep k)
 have HGV := Lib.hid (fun w' (k : Bel w w') => h2.keep k)
 have HCV := Lib.hid (fun w' (k : Bel w w') => h3.keep k)
 obtain ⟨A1, k1, A2, k2, rfl, _, _, _, _, _, _⟩ := h
 obtain ⟨A3, k3, A4, k4, rfl, _, _, _, _, _, _⟩ := h2
 obtain ⟨A5, k5, rfl, _, _, _⟩ := h3
 have HW := Bel.refl ((w.alloc (.cells #[.string p.name, .slice A1 p.vars.length k1, .slice A2 p.rules.length k2] 25)).alloc (.cells #[.slice A3 g.ids.length k3, .slice A4 g.ports.length k4] 29))
 obtain ⟨⟨e1, e2⟩, e3, e4⟩ : (A1 = A1r ∧ k1 = k1r) ∧ A2 = some ⟨bR, oR, none⟩ ∧ k2 = k2r := by simpa using eR
 subst e1 e2 e3 e4
 obtain ⟨e5, e6⟩ : A5 = some ⟨b0, o0, none⟩ ∧ k5 = k5r := by simpa using eC
 subst e5 e6
 have HMF : Hid (moveF p g c v = movesF p g c v p.rules[k].sets) := by show _ = _; unfold moveF; rw [hk, ruleAt_eq hkl]
 have HFK := Lib.hid hk
 have HI := Lib.hid hI
 have HSets := Lib.hid (fun w' (k : Bel w w') => SetsR.keep hSets k)
 have hle10 := (lightC_parts hCL).2 _ (List.getElem_mem hv)
 have HK := Lib.hid (mem_sok hm hv)
 have HF0 := Lib.hid (mem_zero hm).1
 have HL := Lib.hid hL
 have HGL := Lib.hid hGL
 have hcl : c[v].length = p.vars.length := by have := row_len hm hv; rwa [getD_eq hv] at this
 have HCL := Lib.hid hcl
 have HST := Lib.hid (fun (s : SetT) hs => set_tree (fits_zero (mem_zero hm).1).1 (List.getElem_mem hkl) (s := s) hs)
 have HSL := Lib.hid (fun (s : SetT) hs => lightR_sets ((lightP_parts hL).2.2.2.2 _ (List.getElem_mem hkl)) (s := s) hs)
 have hls := lightR_len ((lightP_parts hL).2.2.2.2 _ (List.getElem_mem hkl))
 have HMV : Hid (∀ j (hj : j < p.rules[k].sets.length), movesF p g c v (p.rules[k].sets.take (j + 1)) = (movesF p g c v (p.rules[k].sets.take j)).set p.rules[k].sets[j].var.toNat (setVal p g c v p.rules[k].sets[j])) := fun j hj => movesF_snoc _ _ _ _ _ _ hj
 have HML : Hid (∀ j, (movesF p g c v (p.rules[k].sets.take j)).length = c[v].length) := fun j => by rw [movesF_length, getD_eq hv]
 have hpv : 0 < p.vars.length := by have := (check_numbers (fits_zero (mem_zero hm).1).1).2.1; omega
 have hgp : v < g.ports.length := by rw [← conf_len hm]; exact hv
 have hdv : decide (v < c.length) = true := by simpa using hv
 have hdk : decide (k < p.rules.length) = true := by simpa using hkl
 obtain ⟨j0, hj0, hy0, hy1, hy2⟩ := info_parts int_infoC
 have hcell2 := Lib.hid (fun w' (kk : Bel ((w.alloc (.cells #[.string p.name, .slice A1 p.vars.length k1, .slice (some ⟨bR, oR, none⟩) p.rules.length k2] 25)).alloc (.cells #[.slice A3 g.ids.length k3, .slice A4 g.ports.length k4] 29)) w') => show w'.cell? ⟨w.heap.size, 0, none⟩ = some (.string p.name) ∧ w'.cell? ⟨w.heap.size, 1, none⟩ = some (.slice A1 p.vars.length k1) ∧ w'.cell? ⟨w.heap.size, 2, none⟩ = some (.slice (some ⟨bR, oR, none⟩) p.rules.length k2) ∧ w'.cell? ⟨w.heap.size + 1, 0, none⟩ = some (.slice A3 g.ids.length k3) ∧ w'.cell? ⟨w.heap.size + 1, 1, none⟩ = some (.slice A4 g.ports.length k4) ∧ w'.cell? ⟨bR, oR + k * 3 + 2, none⟩ = some (.slice SS p.rules[k].sets.length sc) ∧ w.heap.size + 1 < w'.heap.size ∧ bR < w'.heap.size from by
  obtain ⟨q0, q1, q2, q3, q4, q5⟩ := pgbox kk
  have hb := box2_bel kk
  exact ⟨q0, q1, q2, q3, q4, (hb.cell hbR).trans cs, q5, Nat.lt_of_lt_of_le hbR hb.size⟩)
 clear hI hR hSets cs hm hen hk hL hGL hCL eR eC hRC hcl
 go_enter Tryz.func55, Tryz.ntmps55
 go_wp2_with (at_builtin; go_must (refine wpList_extend _ rfl (.const (.slice none 0 0)) (.tmp 15) 26 rfl (w.heap.size + 1 + 1) 3 j0 (.int .i64 0) 1 8 Tryz.underlying26 hj0 hy0 hy1 hy2 rfl (by decide) none 0 0 [] rfl (World.ownsRow_nil _ _ _ _) R c[v].length rc (c[v].map (Value.int .i64)) rfl (HI.out.keep (box2_bel HW)).cells (int_cells_one _) (by unfold maxLen; omega) (by omega) (by simp) ?_); intro A6 c6 w3 hown3 hgr3 _; rw [List.nil_append, Nat.zero_add] at hown3; replace HW := HW.grown hgr3 (fun k hk => by cases hk); obtain ⟨hn1, hn2⟩ := own_cap hown3; have HO := Lib.hid hown3; clear hown3 hgr3)
 have HO0 : Hid (w3.ownsRow (w.heap.size + 1 + 1) 3 1 (.slice A6 c[v].length c6) c[v].length ((movesF p g c v (p.rules[k].sets.take 0)).map (Value.int .i64))) := by
  have := HO.out
  show World.ownsRow _ _ _ _ _ _ _
  rw [List.take_zero]; unfold movesF; rw [getD_eq hv]; exact this
 obtain ⟨ga, hga⟩ : ∃ ga, A6 = some ⟨ga, 0, none⟩ := by
  obtain ⟨ga, cap, hv', _⟩ := HO.out.form (by rw [HCL.out]; exact hpv)
  injection hv' with hA
  exact ⟨ga, hA⟩
 subst hga
 clear HO
 go_wp2_with fail
 replace HW := HW.drew
 replace HO0 := Lib.hid (HO0.out.drew)
 go_region_held3 (fun w' => w'.cell? ⟨w.heap.size, 0, none⟩ = some (.string p.name) ∧ w'.cell? ⟨w.heap.size, 1, none⟩ = some (.slice A1 p.vars.length k1) ∧ w'.cell? ⟨w.heap.size, 2, none⟩ = some (.slice (some ⟨bR, oR, none⟩) p.rules.length k2) ∧ w'.cell? ⟨w.heap.size + 1, 0, none⟩ = some (.slice A3 g.ids.length k3) ∧ w'.cell? ⟨w.heap.size + 1, 1, none⟩ = some (.slice A4 g.ports.length k4) ∧ w'.cell? ⟨bR, oR + k * 3 + 2, none⟩ = some (.slice SS p.rules[k].sets.length sc) ∧ w.heap.size + 1 < w'.heap.size ∧ bR < w'.heap.size) (exact hcell2.out _ HW) (first
  | (go_simp; go_at_call 79; refine (refFirst_any _ p _ g _ c v _ (HPV.out _ (box2_bel HW)) (HGV.out _ (box2_bel HW)) (HCV.out _ (box2_bel HW)) HK.out HL.out).mono ?_; rintro e w' ⟨rfl, hb⟩; rw [HFK.out]; replace HW := HW.trans hb; replace HO0 := Lib.hid (hb.owns HO0.out); clear hb))
 go_wp2_with fail
 go_loopg [11] p.rules[k].sets.length (fun m z wr => ∃ j : Nat, j ≤ p.rules[k].sets.length ∧ m = p.rules[k].sets.length - j ∧ z = .int .i64 j ∧ Hid (wr.ownsRow (w.heap.size + 1 + 1) 3 1 (.slice (some ⟨ga, 0, none⟩) c[v].length c6) c[v].length ((movesF p g c v (p.rules[k].sets.take j)).map (Value.int .i64))) ∧ Bel ((w.alloc (.cells #[.string p.name, .slice A1 p.vars.length k1, .slice (some ⟨bR, oR, none⟩) p.rules.length k2] 25)).alloc (.cells #[.slice A3 g.ids.length k3, .slice A4 g.ports.length k4] 29)) wr)
 case atStart => exact ⟨0, by omega, rfl, rfl, HO0, HW⟩
 case round =>
  clear HO0 HW hcell2
  obtain ⟨j, hj, rfl, rfl, HO, HW⟩ := hrel
  by_cases hlt : j < p.rules[k].sets.length
  ·have hd0 : decide (j < p.rules[k].sets.length) = true := by simpa using hlt
   obtain ⟨t1, t2, t4, t5, hx0, hx1⟩ := HST.out _ (List.getElem_mem hlt)
   obtain ⟨x, hx⟩ := Int.eq_ofNat_of_zero_le hx0
   have hxl : x < p.vars.length := by omega
   have hsl := HSL.out _ (List.getElem_mem hlt)
   have HE : Hid (EOK p p.rules[k].sets[j].value) := ⟨t1, t2, t4, t5, by omega⟩
   obtain ⟨bs, os, V, vc, rfl, hbs, s0, s1, hVT, _, _⟩ := (HSets.out _ (Bel.refl w)).at_ j hlt
   have HVT := Lib.hid (fun w' (kk : Bel w w') => TermsR.keep hVT kk)
   rw [hx] at s0
   have HX := Lib.hid hx
   have HSV : Hid (setVal p g c v p.rules[k].sets[j] = bringF p.vars[x].kind (boundsF p.vars[x] g v) (evalF g c v (-1) (treeOf p.rules[k].sets[j].value))) := by
    show _ = _
    unfold setVal varAt
    rw [hx, Int.toNat_natCast, getD_eq hxl]
   have hxc : x < c[v].length := by rw [HCL.out]; exact hxl
   have hdc : decide (x < c[v].length) = true := by simpa using hxc
   have hmx : x < (movesF p g c v (p.rules[k].sets.take j)).length := by rw [HML.out]; exact hxc
   have HY : Hid (((movesF p g c v (p.rules[k].sets.take j)).map (Value.int .i64))[x]? = some (.int .i64 (movesF p g c v (p.rules[k].sets.take j))[x])) := by
    show _ = _
    rw [List.getElem?_map, List.getElem?_eq_getElem hmx]; rfl
   obtain ⟨hga1, hga2⟩ := own_base HO.out
   have hcell := Lib.hid (fun w' (kk : Fr ga wr w') => show w'.cell? ⟨w.heap.size, 0, none⟩ = some (.string p.name) ∧ w'.cell? ⟨w.heap.size, 1, none⟩ = some (.slice A1 p.vars.length k1) ∧ w'.cell? ⟨w.heap.size, 2, none⟩ = some (.slice (some ⟨bR, oR, none⟩) p.rules.length k2) ∧ w'.cell? ⟨w.heap.size + 1, 0, none⟩ = some (.slice A3 g.ids.length k3) ∧ w'.cell? ⟨w.heap.size + 1, 1, none⟩ = some (.slice A4 g.ports.length k4) ∧ w'.cell? ⟨bs, os + j * 2, none⟩ = some (.int .i64 (x : Int)) ∧ w'.cell? ⟨bs, os + j * 2 + 1, none⟩ = some (.slice V p.rules[k].sets[j].value.length vc) ∧ w.heap.size + 1 < w'.heap.size ∧ bs < w'.heap.size ∧ ga < w'.heap.size from by
    obtain ⟨q0, q1, q2, q3, q4, q5⟩ := pgbox HW
    have hb := box2_bel HW
    have hsz := hb.size
    have hk1 := kk.1
    exact ⟨(kk.cell (by omega) (by omega)).trans q0, (kk.cell (by omega) (by omega)).trans q1, (kk.cell (by omega) (by omega)).trans q2, (kk.cell q5 (by omega)).trans q3, (kk.cell q5 (by omega)).trans q4, (kk.cell (by omega) (by omega)).trans ((hb.cell hbs).trans s0), (kk.cell (by omega) (by omega)).trans ((hb.cell hbs).trans s1), by omega, by omega, by omega⟩)
   have HG := Fr.refl ga wr
   clear hVT t1 t2 t4 t5 hx hx0 hx1 hsl s0 s1
   go_wp2_with fail
   replace HW := HW.drew
   replace HG := HG.drew
   replace HO := Lib.hid (HO.out.drew)
   go_region_held3 (fun w' => w'.cell? ⟨w.heap.size, 0, none⟩ = some (.string p.name) ∧ w'.cell? ⟨w.heap.size, 1, none⟩ = some (.slice A1 p.vars.length k1) ∧ w'.cell? ⟨w.heap.size, 2, none⟩ = some (.slice (some ⟨bR, oR, none⟩) p.rules.length k2) ∧ w'.cell? ⟨w.heap.size + 1, 0, none⟩ = some (.slice A3 g.ids.length k3) ∧ w'.cell? ⟨w.heap.size + 1, 1, none⟩ = some (.slice A4 g.ports.length k4) ∧ w'.cell? ⟨bs, os + j * 2, none⟩ = some (.int .i64 (x : Int)) ∧ w'.cell? ⟨bs, os + j * 2 + 1, none⟩ = some (.slice V p.rules[k].sets[j].value.length vc) ∧ w.heap.size + 1 < w'.heap.size ∧ bs < w'.heap.size ∧ ga < w'.heap.size) (first | exact hcell.out _ HG | exact hcell.out _ (HG.set _ _)) (first
    | (go_simp; go_at_call 81; refine (at_any p g c v HK.out (treeOf p.rules[k].sets[j].value) false (-1) _ _ _ _ p.rules[k].sets[j].value 0 _ (HGV.out _ (box2_bel HW)) (HCV.out _ (box2_bel HW)) (HVT.out _ (box2_bel HW)) (At.whole HE.out.ok HE.out.terms) HE.out.arg HE.out.len HE.out.bound portOK_false).mono ?_; rintro e w4 ⟨rfl, hbb⟩; replace HW := HW.trans hbb; replace HG := HG.trans (Fr.of_bel hbb); replace HO := Lib.hid (hbb.owns HO.out); clear hbb)
    | (go_simp; go_at_call 80; refine (refBring_any _ p _ g v x _ _ (HPV.out _ (box2_bel HW)) (HGV.out _ (box2_bel HW)) HF0.out hgp hxl HGL.out).mono ?_; rintro e w5 ⟨rfl, hbb⟩; replace HW := HW.trans hbb; replace HG := HG.trans (Fr.of_bel hbb); replace HO := Lib.hid (hbb.owns HO.out); clear hbb; have y1 := (own_at HO.out HY.out); obtain ⟨q1, e1, _, _, y1, z1⟩ := y1; obtain rfl : ga = q1 := (by simpa using e1); clear e1))
   go_wp2_with fail
   go_roundg (p.rules[k].sets.length - (j + 1))
   case rel =>
    refine ⟨j + 1, by omega, rfl, by go_num, ?_, HW.setCell (by simp; omega) _⟩
    have hst := (HO.out.stored x (.int .i64 (bringF p.vars[x].kind (boundsF p.vars[x] g v) (evalF g c v (-1) (treeOf p.rules[k].sets[j].value))))).1
    show World.ownsRow _ _ _ _ _ _ _
    rw [HMV.out j hlt, HX.out, Int.toNat_natCast, HSV.out, List.map_set]
    exact hst
   case measure => omega
  ·have hd0 : decide (j < p.rules[k].sets.length) = false := by simpa using hlt
   obtain rfl : j = p.rules[k].sets.length := by omega
   go_wp2_with fail
   go_ret
   have hO := HO.out
   rw [List.take_of_length_le (Nat.le_refl _)] at hO
   obtain ⟨hn, hN⟩ := own_newI hO
   rw [HMF.out]
   exact ⟨_, c6, by rw [← hn]; rfl, hN.lower (by omega), box2_bel HW⟩

end Go.Proofs.YtgemlgpjbclonaaGreatDoor

/- Contracts: the reference's Move and Step. -/
namespace Go.Proofs.YtgemlgpjbclonaaGreatDoor
open Go.RowKit


set_option maxRecDepth 100000 in
set_option maxHeartbeats 4000000 in
theorem refStep_any (v1 : Value) (p : Prg) (v2 : Value) (g : Graph) (v3 : Value) (c : Config) (S : Nat) (w : World) (h : PrgV w v1 p) (h2 : GraphV w v2 g) (h3 : ConfV w v3 c) (hL : lightP p = true) (hG : lightG g = true) (hC : lightC c = true) (hS : S < 4294967296) :
  Calls Tryz.prog 24 #[v1, v2, v3, .int .u32 (S : Int)] w (RetStep (stepRF p g c S) w) := by
 have HPV := Lib.hid (fun w' (k : Bel w w') => h.keep k)
 have HGV := Lib.hid (fun w' (k : Bel w w') => h2.keep k)
 have HCV := Lib.hid (fun w' (k : Bel w w') => h3.keep k)
 obtain ⟨A1, k1, A2, k2, rfl, _, _, _, _, _, _⟩ := h
 obtain ⟨A3, k3, A4, k4, rfl, _, _, _, _, _, _⟩ := h2
 obtain ⟨A5, k5, rfl, _, _, _⟩ := h3
 have HW := Bel.refl ((w.alloc (.cells #[.string p.name, .slice A1 p.vars.length k1, .slice A2 p.rules.length k2] 25)).alloc (.cells #[.slice A3 g.ids.length k3, .slice A4 g.ports.length k4] 29))
 have HL := Lib.hid hL
 have HGL := Lib.hid hG
 have HCL := Lib.hid hC
 clear hL hG hC
 have HF : Hid (stepRF p g c S = if memF p g c ≠ 0 then ([], memF p g c) else if S = 0 ∨ within32 S (enabF p g c) = false then ([], 11) else (stepCF p g c S, 0)) := rfl
 have HN : Hid (∀ w', ConfV w' (.slice none 0 0) []) := fun w' => ConfV.nil _
 have HS := Lib.hid hS
 clear hS
 by_cases hm : memF p g c = 0
 ·rw [if_neg (by simpa using hm)] at HF
  have HM := Lib.hid hm
  have hle : c.length ≤ 24 := by rw [conf_len hm]; exact (fits_zero (mem_zero hm).1).2.1.le
  have HD := Lib.hid (diffF_zero (T := enabF p g c) HS.out)
  have HP := Lib.hid (mem_pos14 hm)
  clear hm
  by_cases h0 : S = 0
  ·subst h0
   rw [if_pos (.inl rfl)] at HF
   go_enter Tryz.func24, Tryz.ntmps24
   go_wp2_with (go_at_call 52; refine (refMemCheck_any _ p _ g _ c _ (HPV.out _ (box2_bel HW)) (HGV.out _ (box2_bel HW)) (HCV.out _ (box2_bel HW)) HL.out HGL.out HCL.out).mono ?_; rintro e w' ⟨rfl, hb⟩; rw [HM.out]; replace HW := HW.trans hb; clear hb; (try clear p0 p1 p2 g0 g1 gsz); obtain ⟨p0, p1, p2, g0, g1, gsz⟩ := pgbox HW)
   go_ret2
   rw [HF.out]
   exact ⟨none, 0, rfl, HN.out _, box2_bel HW⟩
  ·have hs0 : ((S : Int) == 0) = false := by simpa using h0
   have hs0' : (S == 0) = false := by simpa using h0
   have hbn := bits_andNot S (enabF p g c)
   cases hwi : within32 S (enabF p g c) with
   | false =>
    rw [if_pos (.inr hwi)] at HF
    rw [hwi] at HD
    have hz : ((diffF S (enabF p g c) : Int) != 0) = true := by have := HD.out; simp at this ⊢; omega
    have hz' : (diffF S (enabF p g c) != 0) = true := by have := HD.out; simp at this ⊢; omega
    clear h0 hwi
    go_enter Tryz.func24, Tryz.ntmps24
    go_wp2_with (first
     | (go_at_call 52; refine (refMemCheck_any _ p _ g _ c _ (HPV.out _ (box2_bel HW)) (HGV.out _ (box2_bel HW)) (HCV.out _ (box2_bel HW)) HL.out HGL.out HCL.out).mono ?_; rintro e w' ⟨rfl, hb⟩; rw [HM.out]; replace HW := HW.trans hb; clear hb; (try clear p0 p1 p2 g0 g1 gsz); obtain ⟨p0, p1, p2, g0, g1, gsz⟩ := pgbox HW)
     | (go_at_call 49; refine (refEnab_any _ p _ g _ c _ (HPV.out _ (box2_bel HW)) (HGV.out _ (box2_bel HW)) (HCV.out _ (box2_bel HW)) HM.out HL.out).mono ?_; rintro e w' ⟨rfl, hb⟩; replace HW := HW.trans hb; clear hb; (try clear p0 p1 p2 g0 g1 gsz); obtain ⟨p0, p1, p2, g0, g1, gsz⟩ := pgbox HW))
    go_ret2
    rw [HF.out]
    exact ⟨none, 0, rfl, HN.out _, box2_bel HW⟩
   | true =>
    rw [if_neg (by rw [hwi]; simpa using h0)] at HF
    rw [hwi] at HD
    have hz : ((diffF S (enabF p g c) : Int) != 0) = false := by have := HD.out; simp at this ⊢; omega
    have hz' : (diffF S (enabF p g c) != 0) = false := by have := HD.out; simp at this ⊢; omega
    have HEN : Hid (∀ v, v < c.length → S.testBit v = true → 0 ≤ firstF p.rules g c v) := fun v hv hb => by
     have := within32_iff.1 hwi v (by omega) hb
     rw [enabF_bit] at this
     simp at this
     exact this.2
    clear h0 hwi
    go_enter Tryz.func24, Tryz.ntmps24
    go_wp2_with (first
     | (go_at_call 52; refine (refMemCheck_any _ p _ g _ c _ (HPV.out _ (box2_bel HW)) (HGV.out _ (box2_bel HW)) (HCV.out _ (box2_bel HW)) HL.out HGL.out HCL.out).mono ?_; rintro e w' ⟨rfl, hb⟩; rw [HM.out]; replace HW := HW.trans hb; clear hb; (try clear p0 p1 p2 g0 g1 gsz); obtain ⟨p0, p1, p2, g0, g1, gsz⟩ := pgbox HW)
     | (go_at_call 49; refine (refEnab_any _ p _ g _ c _ (HPV.out _ (box2_bel HW)) (HGV.out _ (box2_bel HW)) (HCV.out _ (box2_bel HW)) HM.out HL.out).mono ?_; rintro e w' ⟨rfl, hb⟩; replace HW := HW.trans hb; clear hb; (try clear p0 p1 p2 g0 g1 gsz); obtain ⟨p0, p1, p2, g0, g1, gsz⟩ := pgbox HW)
     | (go_at_call 53; refine (refCopy_any _ c _ (HCV.out _ (box2_bel HW)) HCL.out HP.out).mono ?_; rintro e w' ⟨gb, cap, hs, rfl, hO, hb⟩; have HO := Lib.hid hO; have HGB := Lib.hid (own_base hO.own).1; have hsz := HW.size; clear hO; replace HW := HW.trans hb; clear hb; (try clear p0 p1 p2 g0 g1 gsz); obtain ⟨p0, p1, p2, g0, g1, gsz⟩ := pgbox HW))
    have hgb := HGB.out
    simp only [World.size_alloc] at hsz
    have hgb2 : w.heap.size + 1 < gb := by omega
    have HO2 : Hid (OwnC w' (w.heap.size + 1 + 1) gb cap c hs) := ⟨own_lower HO.out.own (by omega), HO.out.rows⟩
    clear hbn hz hz' hs0 hs0' hgb hsz p0 p1 p2 g0 g1 gsz HO
    go_loopg [12] c.length (fun m z wr => ∃ (v : Nat) (hs : List Value), v ≤ c.length ∧ m = c.length - v ∧ z = .int .i64 v ∧ Hid (OwnC wr (w.heap.size + 1 + 1) gb cap (partS p g c S v) hs) ∧ Bel ((w.alloc (.cells #[.string p.name, .slice A1 p.vars.length k1, .slice A2 p.rules.length k2] 25)).alloc (.cells #[.slice A3 g.ids.length k3, .slice A4 g.ports.length k4] 29)) wr)
    case atStart => exact ⟨0, hs, by omega, rfl, rfl, by show OwnC _ _ _ _ _ _; rw [partS_zero]; exact HO2.out, HW⟩
    case round =>
     clear HO2 HW
     obtain ⟨v, hs, hv, rfl, rfl, HO, HW⟩ := hrel
     obtain ⟨p0, p1, p2, g0, g1, gsz⟩ := pgbox HW
     by_cases hlt : v < c.length
     ·have hd0 : decide (v < c.length) = true := by simpa using hlt
      have hhas : hasB S (v : Int) = S.testBit v := by unfold hasB; rw [decide_eq_true (show (0 : Int) ≤ v by omega), decide_eq_true (show (v : Int) < 32 by omega), Int.toNat_natCast]; simp
      have HHAS := Lib.hid hhas
      clear hhas
      cases hb : S.testBit v with
      | true =>
       have hf := Lib.hid (HEN.out v hlt hb)
       have HPY := Lib.hid (partS_yes (p := p) (g := g) (c := c) hb)
       have HSL : Hid (hs.length = c.length) := by have := HO.out.own.1; rw [partS_length] at this; show _ = _; omega
       rw [hb] at HHAS
       clear hb
       go_wp2_with (first
        | (go_at_call 54; refine (has_any S _ _ HS.out).mono ?_; rintro e w2 ⟨rfl, rfl⟩; rw [HHAS.out])
        | (go_at_call 55; refine (refMoveI_any _ p _ g _ c v _ (HPV.out _ (box2_bel HW)) (HGV.out _ (box2_bel HW)) (HCV.out _ (box2_bel HW)) HM.out hlt hf.out HL.out HGL.out HCL.out).mono ?_; rintro e w2 ⟨R, rc, rfl, hN, hb⟩; have hgb3 := (own_base HO.out.own).2; have HN2 := Lib.hid hN; replace HW := HW.trans hb; replace HO := Lib.hid (HO.out.keep hb); have y1 := own_cell0 HO.out.own v (by rw [HSL.out]; omega); have y2 := HO.out.own.frozenAt v; have ygb := (own_base HO.out.own).2; clear hb hN))
       go_roundg (c.length - (v + 1))
       case rel =>
        refine ⟨v + 1, hs.set v (.slice R (moveF p g c v).length rc), by omega, rfl, by go_num, ?_, HW.setCell (by simp; omega) _⟩
        have h3 := HN2.out
        show OwnC _ _ _ _ _ _
        rw [← HPY.out]
        exact HO.out.set (v := v) (by rw [partS_length]; exact hlt) h3.1 h3.2.1 h3.2.2.1 (h3.off (by omega))
       case measure => omega
      | false =>
       have HPN := Lib.hid (partS_no (p := p) (g := g) (c := c) hb)
       rw [hb] at HHAS
       clear hb
       go_wp2_with (go_at_call 54; refine (has_any S _ _ HS.out).mono ?_; rintro e w2 ⟨rfl, rfl⟩; rw [HHAS.out])
       go_roundg (c.length - (v + 1))
       case rel => exact ⟨v + 1, hs, by omega, rfl, by go_num, by show OwnC _ _ _ _ _ _; rw [← HPN.out]; exact HO.out, HW⟩
       case measure => omega
     ·have hd0 : decide (v < c.length) = false := by simpa using hlt
      obtain rfl : v = c.length := by omega
      go_wp2_with fail
      go_ret2
      have hO := HO.out
      rw [partS_full] at hO
      rw [HF.out]
      exact ⟨some ⟨gb, 0, none⟩, cap, by rw [stepCF_length]; rfl, hO.conf, box2_bel HW⟩
 ·rw [if_pos hm] at HF
  have hmb : (memF p g c != 0) = true := by simpa using hm
  clear hm
  go_enter Tryz.func24, Tryz.ntmps24
  go_wp2_with (go_at_call 52; refine (refMemCheck_any _ p _ g _ c _ (HPV.out _ (box2_bel HW)) (HGV.out _ (box2_bel HW)) (HCV.out _ (box2_bel HW)) HL.out HGL.out HCL.out).mono ?_; rintro e w' ⟨rfl, hb⟩; replace HW := HW.trans hb; clear hb; (try clear p0 p1 p2 g0 g1 gsz); obtain ⟨p0, p1, p2, g0, g1, gsz⟩ := pgbox HW)
  go_ret2
  rw [HF.out]
  exact ⟨none, 0, rfl, HN.out _, box2_bel HW⟩

end Go.Proofs.YtgemlgpjbclonaaGreatDoor

