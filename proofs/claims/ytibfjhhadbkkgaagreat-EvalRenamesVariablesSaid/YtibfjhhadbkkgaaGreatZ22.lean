/- Merged of: WSc WSd WSe WSg (see NOTES.md). -/
import Derived.Test.YtibfjhhadbkkgaaGreatZ21
set_option linter.unusedSimpArgs false
set_option linter.unnecessarySimpa false
set_option linter.unusedVariables false

/- Contracts: the program's mover: Enabled, Move, Step. -/
namespace Go.Proofs.YtibfjhhadbkkgaaGreat
open Go.RowKit

set_option maxRecDepth 100000 in
set_option maxHeartbeats 1000000 in
theorem moverEnabled1_any (B bm bc : Nat) (p : Prg) (g : Graph) (vc : Value) (c : Config) (v : Nat) (w : World) (hM : MoverR w B p g) (hC : ConfV w vc c) (hs : SOK p g c v) (hL : lightP p = true)
    (c1 : w.cell? ⟨bm, 0, none⟩ = some (.pointer (some ⟨B, 0, none⟩))) (c2 : w.cell? ⟨bc, 0, none⟩ = some vc) (_l1 : bm < w.heap.size) (_l2 : bc < w.heap.size) :
    Calls Tryz.prog 103 #[.int .i64 v, .pointer (some ⟨bm, 0, none⟩), .pointer (some ⟨bc, 0, none⟩)] w fun e w' => e = .returned (.bool (decide (0 ≤ firstF p.rules g c v))) ∧ Bel w w' := by
  have HM := Lib.hid hM; clear hM
  have HC := Lib.hid hC
  obtain ⟨AC, kc, rfl, _, _, _⟩ := hC
  have HK := Lib.hid hs; clear hs
  have HL := Lib.hid hL; clear hL
  go_enter Tryz.func103, Tryz.ntmps103
  go_wp2_with (go_at_call 68; refine (moverRule_any B p g _ c v _ HM.out HC.out HK.out HL.out).mono ?_; rintro e w' ⟨rfl, hb⟩)
  go_ret
  exact ⟨rfl, hb⟩

theorem tableF_len {p : Prg} {g : Graph} {c : Config} (hm : memF p g c = 0) : (tableF p g).length = c.length := ((confB_iff.1 (mem_zero hm).2).1).symm
set_option maxRecDepth 100000 in
set_option maxHeartbeats 1000000 in
theorem moverEnabled_any (B : Nat) (p : Prg) (g : Graph) (vc : Value) (c : Config) (w : World) (hM : MoverR w B p g) (hC : ConfV w vc c) (hm : memF p g c = 0) (hL : lightP p = true) :
    Calls Tryz.prog 62 #[.pointer (some ⟨B, 0, none⟩), vc] w fun e w' => e = .returned (.int .u32 (enabF p g c : Nat)) ∧ Bel w w' := by
  have HM := Lib.hid (fun w' (k : Bel w w') => hM.keep k)
  have HC := Lib.hid (fun w' (k : Bel w w') => hC.keep k)
  obtain ⟨AC, kc, rfl, _, _, _⟩ := hC
  obtain ⟨A1, k1, A2, k2, S, AT, kt, hB, _, _, _⟩ := hM
  have hle : c.length ≤ 24 := by rw [conf_len hm]; exact (fits_zero (mem_zero hm).1).2.1.le
  have z4 := hB.cell 4 (v := .slice AT (tableF p g).length kt) rfl
  have zl := hB.lt
  have HK := Lib.hid (fun v (hv : v < c.length) => mem_sok hm hv)
  have HT := Lib.hid (tableF_len hm)
  have HL := Lib.hid hL; clear hL
  clear hB
  have HW := Bel.refl ((w.alloc (.cells #[.pointer (some ⟨B, 0, none⟩)] 93)).alloc (.cells #[.slice AC c.length kc] 30))
  go_enter Tryz.func62, Tryz.ntmps62
  rw [HT.out] at z4
  go_wp2_with (go_at_call 102; refine (nodes_any 103 #[.pointer (some ⟨w.heap.size, 0, none⟩), .pointer (some ⟨w.heap.size + 1, 0, none⟩)] (fun v => decide (0 ≤ firstF p.rules g c v)) c.length _ (fun v w2 hv hb => by
      have h2 := box2 hb
      exact moverEnabled1_any B _ _ p g _ c v w2 (HM.out _ (box2_bel hb)) (HC.out _ (box2_bel hb)) (HK.out v hv) HL.out (h2.1 0 _ rfl) (h2.2.1 0 _ rfl) (by have := h2.2.2; omega) h2.2.2) (fun a w2 => by kernel_rfl) hle).mono ?_; rintro e w' ⟨rfl, hb⟩; replace HW := HW.trans hb)
  go_ret
  exact ⟨rfl, box2_bel HW⟩

theorem table_row {w : World} {AT : Option Addr} {kt : Nat} {p : Prg} {g : Graph} {v : Nat} (h : TableV w (.slice AT (tableF p g).length kt) (tableF p g)) (hv : v < (tableF p g).length) :
    ∃ b o R rc, AT = some ⟨b, o, none⟩ ∧ b < w.heap.size ∧ w.cell? ⟨b, o + v, none⟩ = some (.slice R p.vars.length rc) ∧ PairsR w R p.vars.length (rowF p g v) := by
  obtain ⟨A, c, e, hT, _, _⟩ := h
  obtain ⟨rfl, rfl⟩ : AT = A ∧ kt = c := by simpa using e
  obtain ⟨b, o, R, rc, h1, h2, h3, h4, _, _⟩ := hT.at_ v hv
  have e1 : (tableF p g)[v] = rowF p g v := tableF_at hv
  have e2 : (tableF p g)[v].length = p.vars.length := by rw [e1, rowF_length]
  rw [e2] at h3 h4
  rw [e1] at h4
  exact ⟨b, o, R, rc, h1, h2, h3, h4⟩
theorem lightR_len {r : Rule} (h : lightR r = true) : r.sets.length ≤ 10 := (lightR_parts h).2.1
theorem lightR_sets {r : Rule} (h : lightR r = true) {s : SetT} (hs : s ∈ r.sets) : s.value.length ≤ 250 := (lightR_parts h).2.2.2 s hs
set_option maxRecDepth 100000 in
set_option maxHeartbeats 4000000 in
theorem moverMove_any (B : Nat) (p : Prg) (g : Graph) (vc : Value) (c : Config) (v k : Nat) (w : World) (hM : MoverR w B p g) (hC : ConfV w vc c) (hm : memF p g c = 0) (hv : v < c.length) (hk : k < p.rules.length) (hL : lightP p = true) (hCL : lightC c = true) :
    Calls Tryz.prog 72 #[.pointer (some ⟨B, 0, none⟩), vc, .int .i64 v, .int .i64 k] w (RetNewI (movesF p g c v p.rules[k].sets) w) := by
  have HM := Lib.hid (fun w' (k : Bel w w') => hM.keep k)
  have HC := Lib.hid (fun w' (k : Bel w w') => hC.keep k)
  obtain ⟨AC, kc, rfl, hRC, _, _⟩ := hC
  obtain ⟨A1, k1, A2, k2, S, AT, kt, hB, hP, hS, hT⟩ := hM
  have HB := Lib.hid (fun w' (k : Bel w w') => hB.keep k)
  have HS := Lib.hid (fun w' (k : Bel w w') => hS.keep k)
  have HTV := Lib.hid (fun w' (k : Bel w w') => TableV.keep hT k)
  have HSK := Lib.hid (mem_sok hm hv)
  obtain ⟨b0, o0, R, rc, rfl, hb0, hcell0, hI, _, _⟩ := hRC.at_ v hv
  have HI := Lib.hid hI
  have hle10 := (lightC_parts hCL).2 _ (List.getElem_mem hv)
  obtain ⟨A1', k1', A2', k2', eP, hV, _, _, hR, _, _⟩ := hP
  obtain ⟨⟨rfl, rfl⟩, rfl, rfl⟩ : (A1 = A1' ∧ k1 = k1') ∧ A2 = A2' ∧ k2 = k2' := by simpa using eP
  have HV := Lib.hid (fun w' (k : Bel w w') => VarsR.keep hV k)
  obtain ⟨b1, o1, G, gc, SS, sc, rfl, hb1, _, _, cs, _, _, _, hSets, _, _⟩ := hR.at_ k hk
  have HSets := Lib.hid (fun w' (k : Bel w w') => SetsR.keep hSets k)
  have z2 := hB.cell 2 (v := .slice (some ⟨b1, o1, none⟩) p.rules.length k2) rfl
  have zl := hB.lt
  have hdv : decide (v < c.length) = true := by simpa using hv
  have hdk : decide (k < p.rules.length) = true := by simpa using hk
  obtain ⟨j0, hj0, hy0, hy1, hy2⟩ := info_parts int_infoC
  clear hI hRC hV hR hSets hB hS hT eP
  have HW := Bel.refl w
  go_enter Tryz.func72, Tryz.ntmps72
  go_wp2_with (at_builtin; go_must (refine wpList_extend _ rfl (.const (.slice none 0 0)) (.tmp 16) 26 rfl w.heap.size 3 j0 (.int .i64 0) 1 8 Tryz.underlying26 hj0 hy0 hy1 hy2 rfl (by decide) none 0 0 [] rfl (World.ownsRow_nil _ _ _ _) R c[v].length rc (c[v].map (Value.int .i64)) rfl HI.out.cells (int_cells_one _) (by unfold maxLen; omega) (by omega) (Nat.le_refl _) ?_); intro A3 c3 w3 hown3 hgr3 _; rw [List.nil_append, Nat.zero_add] at hown3; replace HW := HW.grown hgr3 (fun k hk => by cases hk); obtain ⟨_, hN⟩ := own_newI hown3; obtain ⟨hn1, hn2⟩ := own_cap hown3; have HO := Lib.hid hown3; have z2' := (HB.out _ HW).cell 2 (v := .slice (some ⟨b1, o1, none⟩) p.rules.length k2) rfl; have cs' := (HW.cell hb1).trans cs; have zl' := (HB.out _ HW).lt; clear hown3 hgr3 hN)
  clear z2 zl z2' cs cs' zl' hdk
  have hcl : c[v].length = p.vars.length := by have := row_len hm hv; rwa [getD_eq hv] at this
  have HCL := Lib.hid hcl
  have HST := Lib.hid (fun (s : SetT) hs => set_tree (fits_zero (mem_zero hm).1).1 (List.getElem_mem hk) (s := s) hs)
  have HSL := Lib.hid (fun (s : SetT) hs => lightR_sets ((lightP_parts hL).2.2.2.2 _ (List.getElem_mem hk)) (s := s) hs)
  have hls := lightR_len ((lightP_parts hL).2.2.2.2 _ (List.getElem_mem hk))
  have HMV : Hid (∀ j (hj : j < p.rules[k].sets.length), movesF p g c v (p.rules[k].sets.take (j + 1)) = (movesF p g c v (p.rules[k].sets.take j)).set p.rules[k].sets[j].var.toNat (setVal p g c v p.rules[k].sets[j])) := fun j hj => movesF_snoc _ _ _ _ _ _ hj
  have HML : Hid (∀ j, (movesF p g c v (p.rules[k].sets.take j)).length = c[v].length) := fun j => by rw [movesF_length, getD_eq hv]
  have HO0 : Hid (w3.ownsRow w.heap.size 3 1 (.slice A3 c[v].length c3) c[v].length ((movesF p g c v (p.rules[k].sets.take 0)).map (Value.int .i64))) := by
    have := HO.out
    show World.ownsRow _ _ _ _ _ _ _
    rw [List.take_zero]; unfold movesF; rw [getD_eq hv]; exact this
  have hpv : 0 < p.vars.length := by have := (check_numbers (fits_zero (mem_zero hm).1).1).2.1; omega
  obtain ⟨ga, hga⟩ : ∃ ga, A3 = some ⟨ga, 0, none⟩ := by
    obtain ⟨ga, cap, hv', _⟩ := HO.out.form (by omega)
    injection hv' with hA
    exact ⟨ga, hA⟩
  subst hga
  have hTl : (tableF p g).length = c.length := tableF_len hm
  have HTL := Lib.hid hTl
  obtain ⟨bT, oT, RT, rT, rfl, hbT, cT, hPT⟩ := table_row (HTV.out _ (Bel.refl w)) (v := v) (by omega)
  have HPT := Lib.hid hPT
  clear hTl hcl HO hL hPT
  go_loopg [11, 12, 28] p.rules[k].sets.length (fun m _x _y z wr => ∃ j : Nat, j ≤ p.rules[k].sets.length ∧ m = p.rules[k].sets.length - j ∧ z = .int .i64 j ∧ Hid (wr.ownsRow w.heap.size 3 1 (.slice (some ⟨ga, 0, none⟩) c[v].length c3) c[v].length ((movesF p g c v (p.rules[k].sets.take j)).map (Value.int .i64))) ∧ Bel w wr)
  case atStart => exact ⟨0, by omega, rfl, rfl, HO0, HW⟩
  case round =>
    clear HO0 HW
    obtain ⟨j, hj, rfl, rfl, HO, HW⟩ := hrel
    by_cases hlt : j < p.rules[k].sets.length
    · have hd0 : decide (j < p.rules[k].sets.length) = true := by simpa using hlt
      obtain ⟨t1, t2, t4, t5, hx0, hx1⟩ := HST.out _ (List.getElem_mem hlt)
      obtain ⟨x, hx⟩ := Int.eq_ofNat_of_zero_le hx0
      have hxl : x < p.vars.length := by omega
      have hsl := HSL.out _ (List.getElem_mem hlt)
      have HE : Hid (EOK p p.rules[k].sets[j].value) := ⟨t1, t2, t4, t5, by omega⟩
      obtain ⟨bs, os, V, vc, rfl, hbs, s0, s1, hVT, _, _⟩ := (HSets.out _ (Bel.refl w)).at_ j hlt
      replace s0 := (HW.cell hbs).trans s0
      replace s1 := (HW.cell hbs).trans s1
      have hbs' : bs < wr.heap.size := Nat.lt_of_lt_of_le hbs HW.size
      have HVT := Lib.hid hVT
      rw [hx] at s0
      have HX := Lib.hid hx
      clear hVT t1 t2 t4 t5 hx hx0 hx1
      obtain ⟨bV, oV, eV, hbV, _, cV, _⟩ := (HV.out _ (Bel.refl w)).at_ x hxl
      subst eV
      obtain ⟨bP, oP, eP, hbP, cP1, cP2⟩ := HPT.out.at_ x (by rw [rowF_length]; exact hxl)
      subst eP
      obtain ⟨lo, hlo⟩ : ∃ lo, lo = ((rowF p g v)[x]'(by rw [rowF_length]; exact hxl)).1 := ⟨_, rfl⟩
      obtain ⟨hi, hhi⟩ : ∃ hi, hi = ((rowF p g v)[x]'(by rw [rowF_length]; exact hxl)).2 := ⟨_, rfl⟩
      rw [← hlo] at cP1
      rw [← hhi] at cP2
      have hsv : setVal p g c v p.rules[k].sets[j] = bringF p.vars[x].kind (lo, hi) (evalF g c v (-1) (treeOf p.rules[k].sets[j].value)) := by
        unfold setVal varAt
        rw [HX.out, Int.toNat_natCast, getD_eq hxl, hlo, hhi]
        congr 1
        rw [rowF_at]
      have HSV := Lib.hid hsv
      clear hsv hlo hhi
      have hzB := (HB.out _ (Bel.refl w)).lt
      have zB1 := (HB.out _ (Bel.refl w)).cell 1 (v := .slice (some ⟨bV, oV, none⟩) p.vars.length k1) rfl
      have zB3 := (HB.out _ (Bel.refl w)).cell 3 (v := .pointer (some ⟨S, 0, none⟩)) rfl
      have zB4 := (HB.out _ (Bel.refl w)).cell 4 (v := .slice (some ⟨bT, oT, none⟩) (tableF p g).length kt) rfl
      have hga := own_base HO.out
      have hwr := HW.size
      have HAB := (Bel.refl wr).alloc (.cells #[.int .i64 (x : Int), .slice V p.rules[k].sets[j].value.length vc] 66)
      have HWA := HW.trans HAB
      have hcell := Lib.hid (fun w' (kk : Fr ga (wr.alloc (.cells #[.int .i64 (x : Int), .slice V p.rules[k].sets[j].value.length vc] 66)) w') => by
        have hbx := Blk.new wr #[.int .i64 (x : Int), .slice V p.rules[k].sets[j].value.length vc] 66
        have hsz := kk.1
        simp only [World.size_alloc] at hsz
        have hn1 : wr.heap.size ≠ ga := by omega
        have hold : ∀ b o u, b < w.heap.size → w.cell? ⟨b, o, none⟩ = some u → w'.cell? ⟨b, o, none⟩ = some u := fun b o u hb hc =>
          (kk.cell (by simp; omega) (by omega)).trans ((HWA.cell hb).trans hc)
        exact show w'.cell? ⟨wr.heap.size, 0, none⟩ = some (.int .i64 (x : Int)) ∧ w'.cell? ⟨wr.heap.size, 1, none⟩ = some (.slice V p.rules[k].sets[j].value.length vc) ∧ w'.cell? ⟨B, 1, none⟩ = some (.slice (some ⟨bV, oV, none⟩) p.vars.length k1) ∧ w'.cell? ⟨B, 3, none⟩ = some (.pointer (some ⟨S, 0, none⟩)) ∧ w'.cell? ⟨B, 4, none⟩ = some (.slice (some ⟨bT, oT, none⟩) (tableF p g).length kt) ∧ w'.cell? ⟨bV, oV + x * 6 + 1, none⟩ = some (.int .i64 p.vars[x].kind) ∧ w'.cell? ⟨bT, oT + v, none⟩ = some (.slice (some ⟨bP, oP, none⟩) p.vars.length rT) ∧ w'.cell? ⟨bP, oP + x * 2, none⟩ = some (.int .i64 lo) ∧ w'.cell? ⟨bP, oP + x * 2 + 1, none⟩ = some (.int .i64 hi) ∧ wr.heap.size < w'.heap.size ∧ B < w'.heap.size ∧ bV < w'.heap.size ∧ bT < w'.heap.size ∧ bP < w'.heap.size from
          ⟨(kk.cell (by simp) hn1).trans (hbx.cell 0 rfl), (kk.cell (by simp) hn1).trans (hbx.cell 1 rfl), hold _ _ _ hzB zB1, hold _ _ _ hzB zB3, hold _ _ _ hzB zB4, hold _ _ _ hbV cV, hold _ _ _ hbT cT, hold _ _ _ hbP cP1, hold _ _ _ hbP cP2, by omega, by omega, by omega, by omega, by omega⟩)
      have HG := Fr.refl ga (wr.alloc (.cells #[.int .i64 (x : Int), .slice V p.rules[k].sets[j].value.length vc] 66))
      have HOA := Lib.hid (HAB.owns HO.out)
      have hdx : decide (x < p.vars.length) = true := by simpa using hxl
      have hxc : x < c[v].length := by rw [HCL.out]; exact hxl
      have hdc : decide (x < c[v].length) = true := by simpa using hxc
      have hvT : v < (tableF p g).length := by rw [HTL.out]; exact hv
      have hdT : decide (v < (tableF p g).length) = true := by simpa using hvT
      clear zB1 zB3 zB4 cV cP1 cP2 hsl HAB
      go_wp2
      replace HWA := HWA.drew
      replace HG := HG.drew
      replace HOA := Lib.hid (HOA.out.drew)
      go_region_held3 (fun w' => w'.cell? ⟨wr.heap.size, 0, none⟩ = some (.int .i64 (x : Int)) ∧ w'.cell? ⟨wr.heap.size, 1, none⟩ = some (.slice V p.rules[k].sets[j].value.length vc) ∧ w'.cell? ⟨B, 1, none⟩ = some (.slice (some ⟨bV, oV, none⟩) p.vars.length k1) ∧ w'.cell? ⟨B, 3, none⟩ = some (.pointer (some ⟨S, 0, none⟩)) ∧ w'.cell? ⟨B, 4, none⟩ = some (.slice (some ⟨bT, oT, none⟩) (tableF p g).length kt) ∧ w'.cell? ⟨bV, oV + x * 6 + 1, none⟩ = some (.int .i64 p.vars[x].kind) ∧ w'.cell? ⟨bT, oT + v, none⟩ = some (.slice (some ⟨bP, oP, none⟩) p.vars.length rT) ∧ w'.cell? ⟨bP, oP + x * 2, none⟩ = some (.int .i64 lo) ∧ w'.cell? ⟨bP, oP + x * 2 + 1, none⟩ = some (.int .i64 hi) ∧ wr.heap.size < w'.heap.size ∧ B < w'.heap.size ∧ bV < w'.heap.size ∧ bT < w'.heap.size ∧ bP < w'.heap.size) (exact hcell.out _ HG) (first
        | (go_simp; go_at_call 55; refine (sceneValue_any S p g _ c v _ _ _ _ (HS.out _ HWA) (HC.out _ HWA) (TermsR.keep HVT.out HWA) HSK.out HE.out).mono ?_; rintro e w4 ⟨rfl, hbb⟩; replace HWA := HWA.trans hbb; replace HG := HG.trans (Fr.of_bel hbb); replace HOA := Lib.hid (hbb.owns HOA.out); clear hbb))
      go_wp2_with fail
      have hmx : x < (movesF p g c v (p.rules[k].sets.take j)).length := by rw [HML.out]; exact hxc
      have HY : Hid (((movesF p g c v (p.rules[k].sets.take j)).map (Value.int .i64))[x]? = some (.int .i64 (movesF p g c v (p.rules[k].sets.take j))[x])) := by
        show _ = _
        rw [List.getElem?_map, List.getElem?_eq_getElem hmx]; rfl
      replace HWA := HWA.drew
      replace HG := HG.drew
      replace HOA := Lib.hid (HOA.out.drew)
      go_region_held3 (fun w' => w'.cell? ⟨wr.heap.size, 0, none⟩ = some (.int .i64 (x : Int)) ∧ w'.cell? ⟨wr.heap.size, 1, none⟩ = some (.slice V p.rules[k].sets[j].value.length vc) ∧ w'.cell? ⟨B, 1, none⟩ = some (.slice (some ⟨bV, oV, none⟩) p.vars.length k1) ∧ w'.cell? ⟨B, 3, none⟩ = some (.pointer (some ⟨S, 0, none⟩)) ∧ w'.cell? ⟨B, 4, none⟩ = some (.slice (some ⟨bT, oT, none⟩) (tableF p g).length kt) ∧ w'.cell? ⟨bV, oV + x * 6 + 1, none⟩ = some (.int .i64 p.vars[x].kind) ∧ w'.cell? ⟨bT, oT + v, none⟩ = some (.slice (some ⟨bP, oP, none⟩) p.vars.length rT) ∧ w'.cell? ⟨bP, oP + x * 2, none⟩ = some (.int .i64 lo) ∧ w'.cell? ⟨bP, oP + x * 2 + 1, none⟩ = some (.int .i64 hi) ∧ wr.heap.size < w'.heap.size ∧ B < w'.heap.size ∧ bV < w'.heap.size ∧ bT < w'.heap.size ∧ bP < w'.heap.size) (first | exact hcell.out _ HG | exact hcell.out _ (HG.set _ _)) (first
        | (go_simp; go_at_call 111; refine (bring_any p.vars[x].kind (lo, hi) _ _).mono ?_; rintro e w5 ⟨rfl, hbb⟩; replace HWA := HWA.trans hbb; replace HG := HG.trans (Fr.of_bel hbb); replace HOA := Lib.hid (hbb.owns HOA.out); clear hbb; have y1 := (own_at HOA.out HY.out); obtain ⟨q1, e1, _, _, y1, z1⟩ := y1; obtain rfl : ga = q1 := (by simpa using e1); clear e1))
      go_wp2_with fail
      go_roundg (p.rules[k].sets.length - (j + 1))
      case rel =>
        refine ⟨j + 1, by omega, rfl, by go_num, ?_, HWA.setCell (by simp; omega) _⟩
        have hst := (HOA.out.stored x (.int .i64 (bringF p.vars[x].kind (lo, hi) (evalF g c v (-1) (treeOf p.rules[k].sets[j].value))))).1
        show World.ownsRow _ _ _ _ _ _ _
        rw [HMV.out j hlt, HX.out, Int.toNat_natCast, HSV.out, List.map_set]
        exact hst
      case measure => omega
    · have hd0 : decide (j < p.rules[k].sets.length) = false := by simpa using hlt
      obtain rfl : j = p.rules[k].sets.length := by omega
      go_wp2_with fail
      go_ret
      have hO := HO.out
      rw [List.take_of_length_le (Nat.le_refl _)] at hO
      obtain ⟨hn, hN⟩ := own_newI hO
      exact ⟨_, c3, by rw [← hn]; rfl, hN, HW⟩

end Go.Proofs.YtibfjhhadbkkgaaGreat

/- Contracts: the program's mover: Step. -/
namespace Go.Proofs.YtibfjhhadbkkgaaGreat
open Go.RowKit

/-- As far as a step has come. -/
def partS (p : Prg) (g : Graph) (c : Config) (S v : Nat) : Config := (List.range c.length).map fun u => if u < v ∧ S.testBit u = true then moveF p g c u else c.getD u []
theorem partS_length (p : Prg) (g : Graph) (c : Config) (S v : Nat) : (partS p g c S v).length = c.length := by simp [partS]
theorem partS_at (p : Prg) (g : Graph) (c : Config) (S v : Nat) (i : Nat) : (partS p g c S v)[i]? = if i < c.length then some (if i < v ∧ S.testBit i = true then moveF p g c i else c.getD i []) else none := by
  unfold partS
  rw [List.getElem?_map]
  by_cases h : i < c.length
  · rw [List.getElem?_range h, if_pos h]; rfl
  · rw [if_neg h, List.getElem?_eq_none (by simp; omega)]; rfl
theorem partS_zero (p : Prg) (g : Graph) (c : Config) (S : Nat) : partS p g c S 0 = c := by
  apply List.ext_getElem?
  intro i
  rw [partS_at]
  by_cases h : i < c.length
  · rw [if_pos h, if_neg (by omega), getD_eq h, List.getElem?_eq_getElem h]
  · rw [if_neg h, List.getElem?_eq_none (by omega)]
theorem partS_full (p : Prg) (g : Graph) (c : Config) (S : Nat) : partS p g c S c.length = stepCF p g c S := by
  unfold partS stepCF
  refine List.map_congr_left fun u hu => ?_
  rw [List.mem_range] at hu
  cases hb : S.testBit u with
  | true => rw [if_pos ⟨hu, rfl⟩, if_pos rfl]
  | false => rw [if_neg (fun h => by cases h.2), if_neg (by decide)]
theorem partS_yes {p : Prg} {g : Graph} {c : Config} {S v : Nat} (hb : S.testBit v = true) : (partS p g c S v).set v (moveF p g c v) = partS p g c S (v + 1) := by
  apply List.ext_getElem?
  intro i
  rw [List.getElem?_set, partS_at, partS_at, partS_length]
  by_cases he : v = i
  · subst he
    rw [if_pos rfl]
    by_cases h : v < c.length
    · rw [if_pos h, if_pos h, if_pos ⟨by omega, hb⟩]
    · rw [if_neg h, if_neg h]
  · rw [if_neg he]
    have e : (i < v ∧ S.testBit i = true) ↔ (i < v + 1 ∧ S.testBit i = true) := by
      constructor
      · rintro ⟨h, h'⟩; exact ⟨by omega, h'⟩
      · rintro ⟨h, h'⟩; exact ⟨by omega, h'⟩
    simp only [e]
theorem partS_no {p : Prg} {g : Graph} {c : Config} {S v : Nat} (hb : S.testBit v = false) : partS p g c S v = partS p g c S (v + 1) := by
  apply List.ext_getElem?
  intro i
  rw [partS_at, partS_at]
  have e : (i < v ∧ S.testBit i = true) ↔ (i < v + 1 ∧ S.testBit i = true) := by
    constructor
    · rintro ⟨h, h'⟩; exact ⟨by omega, h'⟩
    · rintro ⟨h, h'⟩
      refine ⟨?_, h'⟩
      have : i ≠ v := by rintro rfl; rw [hb] at h'; cases h'
      omega
  simp only [e]
set_option maxRecDepth 100000 in
set_option maxHeartbeats 4000000 in
theorem moverStep_any (B : Nat) (p : Prg) (g : Graph) (vc : Value) (c : Config) (S : Nat) (w : World) (hM : MoverR w B p g) (hC : ConfV w vc c) (hm : memF p g c = 0) (hS : S < 4294967296) (hen : ∀ v, v < c.length → S.testBit v = true → 0 ≤ firstF p.rules g c v) (hL : lightP p = true) (hCL : lightC c = true) :
    Calls Tryz.prog 63 #[.pointer (some ⟨B, 0, none⟩), vc, .int .u32 (S : Int)] w (RetOwnC (stepCF p g c S) w) := by
  have HM := Lib.hid (fun w' (k : Bel w w') => hM.keep k)
  have HC := Lib.hid (fun w' (k : Bel w w') => hC.keep k)
  obtain ⟨AC, kc, rfl, _, _, _⟩ := hC
  have hle : c.length ≤ 24 := by rw [conf_len hm]; exact (fits_zero (mem_zero hm).1).2.1.le
  have HK := Lib.hid (fun v (hv : v < c.length) => mem_sok hm hv)
  have HMM := Lib.hid hm
  have HEN := Lib.hid hen
  have HL := Lib.hid hL
  have HCL := Lib.hid hCL
  clear hm hen hL hCL hM
  have HW := Bel.refl w
  go_enter Tryz.func63, Tryz.ntmps63
  go_wp2_with (go_at_call 104; refine (memCopy_any _ c _ (HC.out _ HW) HCL.out).mono ?_; rintro e w' ⟨gb, cap, hs, rfl, hO, hb⟩; have HO := Lib.hid hO; replace HW := HW.trans hb; clear hb hO)
  go_loopg [8, 13] c.length (fun m _x z wr => ∃ (v : Nat) (hs : List Value), v ≤ c.length ∧ m = c.length - v ∧ z = .int .i64 v ∧ Hid (OwnC wr w.heap.size gb cap (partS p g c S v) hs) ∧ Bel w wr)
  case atStart => exact ⟨0, hs, by omega, rfl, rfl, by show OwnC _ _ _ _ _ _; rw [partS_zero]; exact HO.out, HW⟩
  case round =>
    clear HO HW
    obtain ⟨v, hs, hv, rfl, rfl, HO, HW⟩ := hrel
    by_cases hlt : v < c.length
    · have hd0 : decide (v < c.length) = true := by simpa using hlt
      cases hb : S.testBit v with
      | true =>
        have hq : bits .and .u32 ((S : Int) / 2 ^ v) 1 = 1 := by rw [bit_ask hS, hb]; rfl
        have hf := HEN.out v hlt hb
        obtain ⟨k, hk⟩ := Int.eq_ofNat_of_zero_le hf
        have hkl : k < p.rules.length := by have := (firstF_range p.rules g c v).2; omega
        have HFK := Lib.hid hk
        have HPY := Lib.hid (partS_yes (p := p) (g := g) (c := c) hb)
        have HMF : Hid (moveF p g c v = movesF p g c v p.rules[k].sets) := by show _ = _; unfold moveF; rw [hk, ruleAt_eq hkl]
        have HSL : Hid (hs.length = c.length) := by have := HO.out.own.1; rw [partS_length] at this; show _ = _; omega
        clear hf hk hb
        go_wp2_with (first
          | (go_at_call 68; refine (moverRule_any B p g _ c v _ (HM.out _ HW) (HC.out _ HW) (HK.out v hlt) HL.out).mono ?_; rintro e w' ⟨rfl, hbb⟩; rw [HFK.out]; replace HW := HW.trans hbb; replace HO := Lib.hid (HO.out.keep hbb); clear hbb)
          | (go_at_call 72; refine (moverMove_any B p g _ c v k _ (HM.out _ HW) (HC.out _ HW) HMM.out hlt hkl HL.out HCL.out).mono ?_; rintro e w' ⟨R, rc, rfl, hN, hbb⟩; have hgb := (own_base HO.out.own).2; have HN := Lib.hid hN; replace HW := HW.trans hbb; replace HO := Lib.hid (HO.out.keep hbb); have y1 := own_cell0 HO.out.own v (by rw [HSL.out]; omega); have y2 := HO.out.own.frozenAt v; have ygb := (own_base HO.out.own).2; clear hbb hN))
        go_roundg (c.length - (v + 1))
        case rel =>
          refine ⟨v + 1, hs.set v (.slice R (movesF p g c v p.rules[k].sets).length rc), by omega, rfl, by go_num, ?_, HW.setCell (by have := own_base HO.out.own; simp; omega) _⟩
          have h3 := HN.out
          show OwnC _ _ _ _ _ _
          rw [← HPY.out, HMF.out]
          exact HO.out.set (v := v) (by rw [partS_length]; exact hlt) h3.1 h3.2.1 h3.2.2.1 (h3.off (by omega))
        case measure => omega
      | false =>
        have hq : bits .and .u32 ((S : Int) / 2 ^ v) 1 = 0 := by rw [bit_ask hS, hb]; rfl
        have HPN := Lib.hid (partS_no (p := p) (g := g) (c := c) hb)
        clear hb
        go_wp2_with fail
        go_roundg (c.length - (v + 1))
        case rel => exact ⟨v + 1, hs, by omega, rfl, by go_num, by show OwnC _ _ _ _ _ _; rw [← HPN.out]; exact HO.out, HW⟩
        case measure => omega
    · have hd0 : decide (v < c.length) = false := by simpa using hlt
      obtain rfl : v = c.length := by omega
      go_wp2_with fail
      go_ret
      have hO := HO.out
      rw [partS_full] at hO
      exact ⟨gb, cap, hs, by rw [stepCF_length]; rfl, hO, HW⟩

end Go.Proofs.YtibfjhhadbkkgaaGreat

/- Contracts: step.Rule, step.Enabled, step.Move, step.Step. -/
namespace Go.Proofs.YtibfjhhadbkkgaaGreat
open Go.RowKit

/-- A new slice of ints and a code; a new configuration and a code. -/
def RetMove (r : List Int × Int) (w : World) (e : Ending) (w' : World) : Prop := ∃ A c, e = .returned (.tuple #[.slice A r.1.length c, .int .i64 r.2]) ∧ NewI w' w.heap.size A c r.1 ∧ Bel w w'
def RetStep (r : Config × Int) (w : World) (e : Ending) (w' : World) : Prop := ∃ A c, e = .returned (.tuple #[.slice A r.1.length c, .int .i64 r.2]) ∧ ConfV w' (.slice A r.1.length c) r.1 ∧ Bel w w'
theorem NewI.nil (w : World) (B : Nat) : NewI w B none 0 [] := ⟨SliceR.nil, Nat.le_refl _, by unfold maxLen; simp, fun b o e => by cases e⟩
theorem ConfV.nil (w : World) : ConfV w (.slice none 0 0) [] := ⟨none, 0, rfl, SliceR.nil, Nat.le_refl _, by unfold maxLen; omega⟩

set_option maxRecDepth 100000 in
set_option maxHeartbeats 4000000 in
theorem stepRule_any (v1 : Value) (p : Prg) (v2 : Value) (g : Graph) (v3 : Value) (c : Config) (v : Int) (w : World) (h : PrgV w v1 p) (h2 : GraphV w v2 g) (h3 : ConfV w v3 c) (hL : lightP p = true) (hG : lightG g = true) (hC : lightC c = true) :
    Calls Tryz.prog 33 #[v1, v2, v3, .int .i64 v] w fun e w' => e = .returned (.int .i64 (ruleF p g c v)) ∧ Bel w w' := by
  have HPV := Lib.hid (fun w' (k : Bel w w') => h.keep k)
  have HGV := Lib.hid (fun w' (k : Bel w w') => h2.keep k)
  have HCV := Lib.hid (fun w' (k : Bel w w') => h3.keep k)
  obtain ⟨A1, k1, A2, k2, rfl, _, _, _, _, _, _⟩ := h
  obtain ⟨A3, k3, A4, k4, rfl, _, _, _, _, _, _⟩ := h2
  obtain ⟨A5, k5, rfl, _, _, _⟩ := h3
  have HW := Bel.refl ((w.alloc (.cells #[.string p.name, .slice A1 p.vars.length k1, .slice A2 p.rules.length k2] 25)).alloc (.cells #[.slice A3 g.ids.length k3, .slice A4 g.ports.length k4] 29))
  have HL := Lib.hid hL
  have HGL := Lib.hid hG
  have HCL := Lib.hid hC
  clear hL hG hC
  have HF : Hid (ruleF p g c v = if memF p g c ≠ 0 then -1 else if ¬ (0 ≤ v ∧ v ≤ (c.length : Int) - 1) then -1 else firstF p.rules g c v.toNat) := rfl
  cases hm : decide (memF p g c = 0) with
  | false =>
    rw [if_pos (of_decide_eq_false hm)] at HF
    go_enter Tryz.func33, Tryz.ntmps33
    go_wp2_with (go_at_call 67; refine (memValid_any _ p _ g _ c _ (HPV.out _ (box2_bel HW)) (HGV.out _ (box2_bel HW)) (HCV.out _ (box2_bel HW)) HL.out HGL.out HCL.out).mono ?_; rintro e w' ⟨rfl, hb⟩; rw [hm]; replace HW := HW.trans hb; clear hb; (try clear p0 p1 p2 g0 g1 gsz); obtain ⟨p0, p1, p2, g0, g1, gsz⟩ := pgbox HW)
    go_ret
    exact ⟨ret_int HF.out.symm, box2_bel HW⟩
  | true =>
    have hm0 := of_decide_eq_true hm
    rw [if_neg (by simpa using hm0)] at HF
    have HM := Lib.hid hm0
    have HFZ := Lib.hid (fits_zero (mem_zero hm0).1)
    clear hm0
    rcases Int.lt_or_le v 0 with hv0 | hv0
    · rw [if_pos (by omega)] at HF
      have hd1 : decide (v < 0) = true := by simpa using hv0
      clear hv0
      go_enter Tryz.func33, Tryz.ntmps33
      go_wp2_with (go_at_call 67; refine (memValid_any _ p _ g _ c _ (HPV.out _ (box2_bel HW)) (HGV.out _ (box2_bel HW)) (HCV.out _ (box2_bel HW)) HL.out HGL.out HCL.out).mono ?_; rintro e w' ⟨rfl, hb⟩; rw [hm]; replace HW := HW.trans hb; clear hb; (try clear p0 p1 p2 g0 g1 gsz); obtain ⟨p0, p1, p2, g0, g1, gsz⟩ := pgbox HW)
      go_ret
      exact ⟨ret_int HF.out.symm, box2_bel HW⟩
    obtain ⟨q, rfl⟩ := Int.eq_ofNat_of_zero_le hv0
    have hd1 : decide ((q : Int) < 0) = false := by simpa using hv0
    clear hv0
    rcases Nat.lt_or_ge q c.length with hq | hq
    · rw [if_neg (by omega), Int.toNat_natCast] at HF
      have hd2 : decide ((c.length : Int) ≤ (q : Int)) = false := by simp; omega
      have hd2' : decide (c.length ≤ q) = false := by simp; omega
      have HK := Lib.hid (mem_sok HM.out hq)
      clear hq
      go_enter Tryz.func33, Tryz.ntmps33
      go_wp2_with (first
        | (go_at_call 67; refine (memValid_any _ p _ g _ c _ (HPV.out _ (box2_bel HW)) (HGV.out _ (box2_bel HW)) (HCV.out _ (box2_bel HW)) HL.out HGL.out HCL.out).mono ?_; rintro e w' ⟨rfl, hb⟩; rw [hm]; replace HW := HW.trans hb; clear hb; (try clear p0 p1 p2 g0 g1 gsz); obtain ⟨p0, p1, p2, g0, g1, gsz⟩ := pgbox HW)
        | (go_at_call 61; refine (newMover_any _ p _ g _ (HPV.out _ (box2_bel HW)) (HGV.out _ (box2_bel HW)) HFZ.out.1 HFZ.out.2.1 HGL.out).mono ?_; rintro e w' ⟨MB, rfl, hMR, hb⟩; have HMR := Lib.hid hMR; clear hMR; replace HW := HW.trans hb; clear hb; (try clear p0 p1 p2 g0 g1 gsz); obtain ⟨p0, p1, p2, g0, g1, gsz⟩ := pgbox HW)
        | (go_at_call 68; refine (moverRule_any MB p g _ c q _ HMR.out (HCV.out _ (box2_bel HW)) HK.out HL.out).mono ?_; rintro e w' ⟨rfl, hb⟩; replace HW := HW.trans hb; clear hb; (try clear p0 p1 p2 g0 g1 gsz); obtain ⟨p0, p1, p2, g0, g1, gsz⟩ := pgbox HW))
      go_ret
      exact ⟨ret_int HF.out.symm, box2_bel HW⟩
    · rw [if_pos (by omega)] at HF
      have hd2 : decide ((c.length : Int) ≤ (q : Int)) = true := by simp; omega
      have hd2' : decide (c.length ≤ q) = true := by simp; omega
      clear hq
      go_enter Tryz.func33, Tryz.ntmps33
      go_wp2_with (go_at_call 67; refine (memValid_any _ p _ g _ c _ (HPV.out _ (box2_bel HW)) (HGV.out _ (box2_bel HW)) (HCV.out _ (box2_bel HW)) HL.out HGL.out HCL.out).mono ?_; rintro e w' ⟨rfl, hb⟩; rw [hm]; replace HW := HW.trans hb; clear hb; (try clear p0 p1 p2 g0 g1 gsz); obtain ⟨p0, p1, p2, g0, g1, gsz⟩ := pgbox HW)
      go_ret
      exact ⟨ret_int HF.out.symm, box2_bel HW⟩

set_option maxRecDepth 100000 in
set_option maxHeartbeats 4000000 in
theorem stepEnabled_any (v1 : Value) (p : Prg) (v2 : Value) (g : Graph) (v3 : Value) (c : Config) (w : World) (h : PrgV w v1 p) (h2 : GraphV w v2 g) (h3 : ConfV w v3 c) (hL : lightP p = true) (hG : lightG g = true) (hC : lightC c = true) :
    Calls Tryz.prog 35 #[v1, v2, v3] w fun e w' => e = .returned (.int .u32 (enabledF p g c : Nat)) ∧ Bel w w' := by
  have HPV := Lib.hid (fun w' (k : Bel w w') => h.keep k)
  have HGV := Lib.hid (fun w' (k : Bel w w') => h2.keep k)
  have HCV := Lib.hid (fun w' (k : Bel w w') => h3.keep k)
  obtain ⟨A1, k1, A2, k2, rfl, _, _, _, _, _, _⟩ := h
  obtain ⟨A3, k3, A4, k4, rfl, _, _, _, _, _, _⟩ := h2
  obtain ⟨A5, k5, rfl, _, _, _⟩ := h3
  have HW := Bel.refl ((w.alloc (.cells #[.string p.name, .slice A1 p.vars.length k1, .slice A2 p.rules.length k2] 25)).alloc (.cells #[.slice A3 g.ids.length k3, .slice A4 g.ports.length k4] 29))
  have HL := Lib.hid hL
  have HGL := Lib.hid hG
  have HCL := Lib.hid hC
  clear hL hG hC
  have HF : Hid (enabledF p g c = if memF p g c ≠ 0 then 0 else enabF p g c) := rfl
  cases hm : decide (memF p g c = 0) with
  | false =>
    rw [if_pos (of_decide_eq_false hm)] at HF
    go_enter Tryz.func35, Tryz.ntmps35
    go_wp2_with (go_at_call 67; refine (memValid_any _ p _ g _ c _ (HPV.out _ (box2_bel HW)) (HGV.out _ (box2_bel HW)) (HCV.out _ (box2_bel HW)) HL.out HGL.out HCL.out).mono ?_; rintro e w' ⟨rfl, hb⟩; rw [hm]; replace HW := HW.trans hb; clear hb; (try clear p0 p1 p2 g0 g1 gsz); obtain ⟨p0, p1, p2, g0, g1, gsz⟩ := pgbox HW)
    go_ret
    exact ⟨ret_int (by rw [HF.out]; rfl), box2_bel HW⟩
  | true =>
    have hm0 := of_decide_eq_true hm
    rw [if_neg (by simpa using hm0)] at HF
    have HM := Lib.hid hm0
    have HFZ := Lib.hid (fits_zero (mem_zero hm0).1)
    clear hm0
    go_enter Tryz.func35, Tryz.ntmps35
    go_wp2_with (first
      | (go_at_call 67; refine (memValid_any _ p _ g _ c _ (HPV.out _ (box2_bel HW)) (HGV.out _ (box2_bel HW)) (HCV.out _ (box2_bel HW)) HL.out HGL.out HCL.out).mono ?_; rintro e w' ⟨rfl, hb⟩; rw [hm]; replace HW := HW.trans hb; clear hb; (try clear p0 p1 p2 g0 g1 gsz); obtain ⟨p0, p1, p2, g0, g1, gsz⟩ := pgbox HW)
      | (go_at_call 61; refine (newMover_any _ p _ g _ (HPV.out _ (box2_bel HW)) (HGV.out _ (box2_bel HW)) HFZ.out.1 HFZ.out.2.1 HGL.out).mono ?_; rintro e w' ⟨MB, rfl, hMR, hb⟩; have HMR := Lib.hid hMR; clear hMR; replace HW := HW.trans hb; clear hb; (try clear p0 p1 p2 g0 g1 gsz); obtain ⟨p0, p1, p2, g0, g1, gsz⟩ := pgbox HW)
      | (go_at_call 62; refine (moverEnabled_any MB p g _ c _ HMR.out (HCV.out _ (box2_bel HW)) HM.out HL.out).mono ?_; rintro e w' ⟨rfl, hb⟩; replace HW := HW.trans hb; clear hb; (try clear p0 p1 p2 g0 g1 gsz); obtain ⟨p0, p1, p2, g0, g1, gsz⟩ := pgbox HW))
    go_ret
    exact ⟨ret_int (by rw [HF.out]), box2_bel HW⟩

set_option maxRecDepth 100000 in
set_option maxHeartbeats 4000000 in
theorem stepMove_any (v1 : Value) (p : Prg) (v2 : Value) (g : Graph) (v3 : Value) (c : Config) (v : Int) (w : World) (h : PrgV w v1 p) (h2 : GraphV w v2 g) (h3 : ConfV w v3 c) (hL : lightP p = true) (hG : lightG g = true) (hC : lightC c = true) :
    Calls Tryz.prog 37 #[v1, v2, v3, .int .i64 v] w (RetMove (moveRF p g c v) w) := by
  have HPV := Lib.hid (fun w' (k : Bel w w') => h.keep k)
  have HGV := Lib.hid (fun w' (k : Bel w w') => h2.keep k)
  have HCV := Lib.hid (fun w' (k : Bel w w') => h3.keep k)
  obtain ⟨A1, k1, A2, k2, rfl, _, _, _, _, _, _⟩ := h
  obtain ⟨A3, k3, A4, k4, rfl, _, _, _, _, _, _⟩ := h2
  obtain ⟨A5, k5, rfl, _, _, _⟩ := h3
  have HW := Bel.refl ((w.alloc (.cells #[.string p.name, .slice A1 p.vars.length k1, .slice A2 p.rules.length k2] 25)).alloc (.cells #[.slice A3 g.ids.length k3, .slice A4 g.ports.length k4] 29))
  have HL := Lib.hid hL
  have HGL := Lib.hid hG
  have HCL := Lib.hid hC
  clear hL hG hC
  have HF : Hid (moveRF p g c v = if memF p g c ≠ 0 then ([], memF p g c) else if ¬ (0 ≤ v ∧ v ≤ (c.length : Int) - 1) then ([], 2) else if firstF p.rules g c v.toNat < 0 then ([], 11) else (moveF p g c v.toNat, 0)) := rfl
  have HN : Hid (∀ w', NewI w' w.heap.size none 0 []) := fun w' => NewI.nil _ _
  by_cases hm : memF p g c = 0
  · rw [if_neg (by simpa using hm)] at HF
    have HM := Lib.hid hm
    have HFZ := Lib.hid (fits_zero (mem_zero hm).1)
    clear hm
    rcases Int.lt_or_le v 0 with hv0 | hv0
    · rw [if_pos (by omega)] at HF
      have hd1 : decide (v < 0) = true := by simpa using hv0
      clear hv0
      go_enter Tryz.func37, Tryz.ntmps37
      go_wp2_with (go_at_call 50; refine (memCheck_any _ p _ g _ c _ (HPV.out _ (box2_bel HW)) (HGV.out _ (box2_bel HW)) (HCV.out _ (box2_bel HW)) HL.out HGL.out HCL.out).mono ?_; rintro e w' ⟨rfl, hb⟩; rw [HM.out]; replace HW := HW.trans hb; clear hb; (try clear p0 p1 p2 g0 g1 gsz); obtain ⟨p0, p1, p2, g0, g1, gsz⟩ := pgbox HW)
      go_ret2
      rw [HF.out]
      exact ⟨none, 0, rfl, HN.out _, box2_bel HW⟩
    obtain ⟨q, rfl⟩ := Int.eq_ofNat_of_zero_le hv0
    have hd1 : decide ((q : Int) < 0) = false := by simpa using hv0
    clear hv0
    rcases Nat.lt_or_ge q c.length with hq | hq
    · rw [if_neg (by omega), Int.toNat_natCast] at HF
      have hd2 : decide ((c.length : Int) ≤ (q : Int)) = false := by simp; omega
      have hd2' : decide (c.length ≤ q) = false := by simp; omega
      have HK := Lib.hid (mem_sok HM.out hq)
      by_cases hf : firstF p.rules g c q < 0
      · rw [if_pos hf] at HF
        have hd3 : decide (firstF p.rules g c q < 0) = true := by simpa using hf
        clear hq hf
        go_enter Tryz.func37, Tryz.ntmps37
        go_wp2_with (first
          | (go_at_call 50; refine (memCheck_any _ p _ g _ c _ (HPV.out _ (box2_bel HW)) (HGV.out _ (box2_bel HW)) (HCV.out _ (box2_bel HW)) HL.out HGL.out HCL.out).mono ?_; rintro e w' ⟨rfl, hb⟩; rw [HM.out]; replace HW := HW.trans hb; clear hb; (try clear p0 p1 p2 g0 g1 gsz); obtain ⟨p0, p1, p2, g0, g1, gsz⟩ := pgbox HW)
          | (go_at_call 61; refine (newMover_any _ p _ g _ (HPV.out _ (box2_bel HW)) (HGV.out _ (box2_bel HW)) HFZ.out.1 HFZ.out.2.1 HGL.out).mono ?_; rintro e w' ⟨MB, rfl, hMR, hb⟩; have HMR := Lib.hid hMR; clear hMR; replace HW := HW.trans hb; clear hb; (try clear p0 p1 p2 g0 g1 gsz); obtain ⟨p0, p1, p2, g0, g1, gsz⟩ := pgbox HW)
          | (go_at_call 68; refine (moverRule_any MB p g _ c q _ HMR.out (HCV.out _ (box2_bel HW)) HK.out HL.out).mono ?_; rintro e w' ⟨rfl, hb⟩; replace HW := HW.trans hb; clear hb; (try clear p0 p1 p2 g0 g1 gsz); obtain ⟨p0, p1, p2, g0, g1, gsz⟩ := pgbox HW))
        go_ret2
        rw [HF.out]
        exact ⟨none, 0, rfl, HN.out _, box2_bel HW⟩
      · rw [if_neg hf] at HF
        obtain ⟨k, hk⟩ := Int.eq_ofNat_of_zero_le (show 0 ≤ firstF p.rules g c q by omega)
        have hkl : k < p.rules.length := by have := (firstF_range p.rules g c q).2; omega
        have HFK := Lib.hid hk
        have HMF : Hid (moveF p g c q = movesF p g c q p.rules[k].sets) := by show _ = _; unfold moveF; rw [hk, ruleAt_eq hkl]
        have hd3 : decide ((k : Int) < 0) = false := by simp
        have HQ := Lib.hid hq
        clear hq hf hk
        go_enter Tryz.func37, Tryz.ntmps37
        go_wp2_with (first
          | (go_at_call 50; refine (memCheck_any _ p _ g _ c _ (HPV.out _ (box2_bel HW)) (HGV.out _ (box2_bel HW)) (HCV.out _ (box2_bel HW)) HL.out HGL.out HCL.out).mono ?_; rintro e w' ⟨rfl, hb⟩; rw [HM.out]; replace HW := HW.trans hb; clear hb; (try clear p0 p1 p2 g0 g1 gsz); obtain ⟨p0, p1, p2, g0, g1, gsz⟩ := pgbox HW)
          | (go_at_call 61; refine (newMover_any _ p _ g _ (HPV.out _ (box2_bel HW)) (HGV.out _ (box2_bel HW)) HFZ.out.1 HFZ.out.2.1 HGL.out).mono ?_; rintro e w' ⟨MB, rfl, hMR, hb⟩; have HMR := Lib.hid (fun w2 (kk : Bel w' w2) => hMR.keep kk); clear hMR; replace HW := HW.trans hb; clear hb; (try clear p0 p1 p2 g0 g1 gsz); obtain ⟨p0, p1, p2, g0, g1, gsz⟩ := pgbox HW)
          | (go_at_call 68; refine (moverRule_any MB p g _ c q _ (HMR.out _ (Bel.refl _)) (HCV.out _ (box2_bel HW)) HK.out HL.out).mono ?_; rintro e w' ⟨rfl, hb⟩; rw [HFK.out]; have HB2 := Lib.hid hb; replace HW := HW.trans hb; clear hb; (try clear p0 p1 p2 g0 g1 gsz); obtain ⟨p0, p1, p2, g0, g1, gsz⟩ := pgbox HW)
          | (go_at_call 72; refine (moverMove_any MB p g _ c q k _ (HMR.out _ HB2.out) (HCV.out _ (box2_bel HW)) HM.out HQ.out hkl HL.out HCL.out).mono ?_; rintro e w' ⟨R, rc, rfl, hN, hb⟩; have HNI := Lib.hid (hN.lower (B' := w.heap.size) (by have := (box2_bel HW).size; omega)); clear hN; replace HW := HW.trans hb; clear hb; (try clear p0 p1 p2 g0 g1 gsz); obtain ⟨p0, p1, p2, g0, g1, gsz⟩ := pgbox HW))
        go_ret2
        rw [HF.out, HMF.out]
        exact ⟨R, rc, rfl, HNI.out, box2_bel HW⟩
    · rw [if_pos (by omega)] at HF
      have hd2 : decide ((c.length : Int) ≤ (q : Int)) = true := by simp; omega
      have hd2' : decide (c.length ≤ q) = true := by simp; omega
      clear hq
      go_enter Tryz.func37, Tryz.ntmps37
      go_wp2_with (go_at_call 50; refine (memCheck_any _ p _ g _ c _ (HPV.out _ (box2_bel HW)) (HGV.out _ (box2_bel HW)) (HCV.out _ (box2_bel HW)) HL.out HGL.out HCL.out).mono ?_; rintro e w' ⟨rfl, hb⟩; rw [HM.out]; replace HW := HW.trans hb; clear hb; (try clear p0 p1 p2 g0 g1 gsz); obtain ⟨p0, p1, p2, g0, g1, gsz⟩ := pgbox HW)
      go_ret2
      rw [HF.out]
      exact ⟨none, 0, rfl, HN.out _, box2_bel HW⟩
  · rw [if_pos hm] at HF
    have hmb : (memF p g c != 0) = true := by simpa using hm
    clear hm
    go_enter Tryz.func37, Tryz.ntmps37
    go_wp2_with (go_at_call 50; refine (memCheck_any _ p _ g _ c _ (HPV.out _ (box2_bel HW)) (HGV.out _ (box2_bel HW)) (HCV.out _ (box2_bel HW)) HL.out HGL.out HCL.out).mono ?_; rintro e w' ⟨rfl, hb⟩; replace HW := HW.trans hb; clear hb; (try clear p0 p1 p2 g0 g1 gsz); obtain ⟨p0, p1, p2, g0, g1, gsz⟩ := pgbox HW)
    go_ret2
    rw [HF.out]
    exact ⟨none, 0, rfl, HN.out _, box2_bel HW⟩

set_option maxRecDepth 100000 in
set_option maxHeartbeats 4000000 in
theorem stepStep_any (v1 : Value) (p : Prg) (v2 : Value) (g : Graph) (v3 : Value) (c : Config) (S : Nat) (w : World) (h : PrgV w v1 p) (h2 : GraphV w v2 g) (h3 : ConfV w v3 c) (hL : lightP p = true) (hG : lightG g = true) (hC : lightC c = true) (hS : S < 4294967296) :
    Calls Tryz.prog 27 #[v1, v2, v3, .int .u32 (S : Int)] w (RetStep (stepRF p g c S) w) := by
  have HPV := Lib.hid (fun w' (k : Bel w w') => h.keep k)
  have HGV := Lib.hid (fun w' (k : Bel w w') => h2.keep k)
  have HCV := Lib.hid (fun w' (k : Bel w w') => h3.keep k)
  obtain ⟨A1, k1, A2, k2, rfl, _, _, _, _, _, _⟩ := h
  obtain ⟨A3, k3, A4, k4, rfl, _, _, _, _, _, _⟩ := h2
  obtain ⟨A5, k5, rfl, _, _, _⟩ := h3
  have HW := Bel.refl ((w.alloc (.cells #[.string p.name, .slice A1 p.vars.length k1, .slice A2 p.rules.length k2] 25)).alloc (.cells #[.slice A3 g.ids.length k3, .slice A4 g.ports.length k4] 29))
  have HL := Lib.hid hL
  have HGL := Lib.hid hG
  have HCL := Lib.hid hC
  clear hL hG hC
  have HF : Hid (stepRF p g c S = if memF p g c ≠ 0 then ([], memF p g c) else if S = 0 ∨ within32 S (enabF p g c) = false then ([], 11) else (stepCF p g c S, 0)) := rfl
  have HN : Hid (∀ w', ConfV w' (.slice none 0 0) []) := fun w' => ConfV.nil _
  have HS := Lib.hid hS
  clear hS
  by_cases hm : memF p g c = 0
  · rw [if_neg (by simpa using hm)] at HF
    have HM := Lib.hid hm
    have HFZ := Lib.hid (fits_zero (mem_zero hm).1)
    have hle : c.length ≤ 24 := by rw [conf_len hm]; exact (fits_zero (mem_zero hm).1).2.1.le
    have HD := Lib.hid (diffF_zero (T := enabF p g c) HS.out)
    clear hm
    by_cases h0 : S = 0
    · subst h0
      rw [if_pos (.inl rfl)] at HF
      go_enter Tryz.func27, Tryz.ntmps27
      go_wp2_with (first
        | (go_at_call 50; refine (memCheck_any _ p _ g _ c _ (HPV.out _ (box2_bel HW)) (HGV.out _ (box2_bel HW)) (HCV.out _ (box2_bel HW)) HL.out HGL.out HCL.out).mono ?_; rintro e w' ⟨rfl, hb⟩; rw [HM.out]; replace HW := HW.trans hb; clear hb; (try clear p0 p1 p2 g0 g1 gsz); obtain ⟨p0, p1, p2, g0, g1, gsz⟩ := pgbox HW)
        | (go_at_call 61; refine (newMover_any _ p _ g _ (HPV.out _ (box2_bel HW)) (HGV.out _ (box2_bel HW)) HFZ.out.1 HFZ.out.2.1 HGL.out).mono ?_; rintro e w' ⟨MB, rfl, hMR, hb⟩; have HMR := Lib.hid (fun w2 (kk : Bel w' w2) => hMR.keep kk); clear hMR; replace HW := HW.trans hb; clear hb; (try clear p0 p1 p2 g0 g1 gsz); obtain ⟨p0, p1, p2, g0, g1, gsz⟩ := pgbox HW))
      go_ret2
      rw [HF.out]
      exact ⟨none, 0, rfl, HN.out _, box2_bel HW⟩
    · have hs0 : ((S : Int) == 0) = false := by simpa using h0
      have hs0' : (S == 0) = false := by simpa using h0
      have hbn := bits_andNot S (enabF p g c)
      cases hwi : within32 S (enabF p g c) with
      | false =>
        rw [if_pos (.inr hwi)] at HF
        rw [hwi] at HD
        have hz : ((diffF S (enabF p g c) : Int) != 0) = true := by have := HD.out; simp at this ⊢; omega
        have hz' : (diffF S (enabF p g c) != 0) = true := by have := HD.out; simp at this ⊢; omega
        clear h0 hwi
        go_enter Tryz.func27, Tryz.ntmps27
        go_wp2_with (first
          | (go_at_call 50; refine (memCheck_any _ p _ g _ c _ (HPV.out _ (box2_bel HW)) (HGV.out _ (box2_bel HW)) (HCV.out _ (box2_bel HW)) HL.out HGL.out HCL.out).mono ?_; rintro e w' ⟨rfl, hb⟩; rw [HM.out]; replace HW := HW.trans hb; clear hb; (try clear p0 p1 p2 g0 g1 gsz); obtain ⟨p0, p1, p2, g0, g1, gsz⟩ := pgbox HW)
          | (go_at_call 61; refine (newMover_any _ p _ g _ (HPV.out _ (box2_bel HW)) (HGV.out _ (box2_bel HW)) HFZ.out.1 HFZ.out.2.1 HGL.out).mono ?_; rintro e w' ⟨MB, rfl, hMR, hb⟩; have HMR := Lib.hid (fun w2 (kk : Bel w' w2) => hMR.keep kk); clear hMR; replace HW := HW.trans hb; clear hb; (try clear p0 p1 p2 g0 g1 gsz); obtain ⟨p0, p1, p2, g0, g1, gsz⟩ := pgbox HW)
          | (go_at_call 62; refine (moverEnabled_any MB p g _ c _ (HMR.out _ (Bel.refl _)) (HCV.out _ (box2_bel HW)) HM.out HL.out).mono ?_; rintro e w' ⟨rfl, hb⟩; have HB2 := Lib.hid hb; replace HW := HW.trans hb; clear hb; (try clear p0 p1 p2 g0 g1 gsz); obtain ⟨p0, p1, p2, g0, g1, gsz⟩ := pgbox HW))
        go_ret2
        rw [HF.out]
        exact ⟨none, 0, rfl, HN.out _, box2_bel HW⟩
      | true =>
        rw [if_neg (by rw [hwi]; simpa using h0)] at HF
        rw [hwi] at HD
        have hz : ((diffF S (enabF p g c) : Int) != 0) = false := by have := HD.out; simp at this ⊢; omega
        have hz' : (diffF S (enabF p g c) != 0) = false := by have := HD.out; simp at this ⊢; omega
        have HEN : Hid (∀ v, v < c.length → S.testBit v = true → 0 ≤ firstF p.rules g c v) := fun v hv hb => by
          have := within32_iff.1 hwi v (by omega) hb
          rw [enabF_bit] at this
          simp at this
          exact this.2
        clear h0 hwi
        go_enter Tryz.func27, Tryz.ntmps27
        go_wp2_with (first
          | (go_at_call 50; refine (memCheck_any _ p _ g _ c _ (HPV.out _ (box2_bel HW)) (HGV.out _ (box2_bel HW)) (HCV.out _ (box2_bel HW)) HL.out HGL.out HCL.out).mono ?_; rintro e w' ⟨rfl, hb⟩; rw [HM.out]; replace HW := HW.trans hb; clear hb; (try clear p0 p1 p2 g0 g1 gsz); obtain ⟨p0, p1, p2, g0, g1, gsz⟩ := pgbox HW)
          | (go_at_call 61; refine (newMover_any _ p _ g _ (HPV.out _ (box2_bel HW)) (HGV.out _ (box2_bel HW)) HFZ.out.1 HFZ.out.2.1 HGL.out).mono ?_; rintro e w' ⟨MB, rfl, hMR, hb⟩; have HMR := Lib.hid (fun w2 (kk : Bel w' w2) => hMR.keep kk); clear hMR; replace HW := HW.trans hb; clear hb; (try clear p0 p1 p2 g0 g1 gsz); obtain ⟨p0, p1, p2, g0, g1, gsz⟩ := pgbox HW)
          | (go_at_call 62; refine (moverEnabled_any MB p g _ c _ (HMR.out _ (Bel.refl _)) (HCV.out _ (box2_bel HW)) HM.out HL.out).mono ?_; rintro e w' ⟨rfl, hb⟩; have HB2 := Lib.hid hb; replace HW := HW.trans hb; clear hb; (try clear p0 p1 p2 g0 g1 gsz); obtain ⟨p0, p1, p2, g0, g1, gsz⟩ := pgbox HW)
          | (go_at_call 63; refine (moverStep_any MB p g _ c S _ (HMR.out _ HB2.out) (HCV.out _ (box2_bel HW)) HM.out HS.out HEN.out HL.out HCL.out).mono ?_; rintro e w' ⟨gb, cap, hs, rfl, hO, hb⟩; have HO := Lib.hid hO.conf; clear hO; replace HW := HW.trans hb; clear hb; (try clear p0 p1 p2 g0 g1 gsz); obtain ⟨p0, p1, p2, g0, g1, gsz⟩ := pgbox HW))
        go_ret2
        rw [HF.out]
        exact ⟨some ⟨gb, 0, none⟩, cap, rfl, HO.out, box2_bel HW⟩
  · rw [if_pos hm] at HF
    have hmb : (memF p g c != 0) = true := by simpa using hm
    clear hm
    go_enter Tryz.func27, Tryz.ntmps27
    go_wp2_with (go_at_call 50; refine (memCheck_any _ p _ g _ c _ (HPV.out _ (box2_bel HW)) (HGV.out _ (box2_bel HW)) (HCV.out _ (box2_bel HW)) HL.out HGL.out HCL.out).mono ?_; rintro e w' ⟨rfl, hb⟩; replace HW := HW.trans hb; clear hb; (try clear p0 p1 p2 g0 g1 gsz); obtain ⟨p0, p1, p2, g0, g1, gsz⟩ := pgbox HW)
    go_ret2
    rw [HF.out]
    exact ⟨none, 0, rfl, HN.out _, box2_bel HW⟩

end Go.Proofs.YtibfjhhadbkkgaaGreat

/- Contracts: the reference's move. -/
namespace Go.Proofs.YtibfjhhadbkkgaaGreat
open Go.RowKit

set_option maxRecDepth 100000 in
set_option maxHeartbeats 8000000 in
theorem refMoveI_any (v1 : Value) (p : Prg) (v2 : Value) (g : Graph) (v3 : Value) (c : Config) (v : Nat) (w : World) (h : PrgV w v1 p) (h2 : GraphV w v2 g) (h3 : ConfV w v3 c) (hm : memF p g c = 0) (hv : v < c.length) (hen : 0 ≤ firstF p.rules g c v) (hL : lightP p = true) (hGL : lightG g = true) (hCL : lightC c = true) :
    Calls Tryz.prog 65 #[v1, v2, v3, .int .i64 v] w (RetNewI (moveF p g c v) w) := by
  have hR : ∃ A1 k1 A2 k2, v1 = .agg #[.string p.name, .slice A1 p.vars.length k1, .slice A2 p.rules.length k2] ∧ RulesR w A2 p.rules.length p.rules := by
    obtain ⟨A1, k1, A2, k2, e, _, _, _, hR, _, _⟩ := h
    exact ⟨A1, k1, A2, k2, e, hR⟩
  have hRC : ∃ A k, v3 = .slice A c.length k ∧ RowsR w A c.length c := by
    obtain ⟨A, k, e, hR, _⟩ := h3
    exact ⟨A, k, e, hR⟩
  obtain ⟨A1r, k1r, A2r, k2r, eR, hR⟩ := hR
  obtain ⟨A5r, k5r, eC, hRC⟩ := hRC
  obtain ⟨k, hk⟩ := Int.eq_ofNat_of_zero_le hen
  have hkl : k < p.rules.length := by have := (firstF_range p.rules g c v).2; omega
  obtain ⟨bR, oR, G, gc, SS, sc, eA, hbR, _, _, cs, _, _, _, hSets, _, _⟩ := hR.at_ k hkl
  subst eA
  obtain ⟨b0, o0, R, rc, eA5, hb0, cell0, hI, _, _⟩ := hRC.at_ v hv
  subst eA5
  have HPV := Lib.hid (fun w' (k : Bel w w') => h.keep k)
  have HGV := Lib.hid (fun w' (k : Bel w w') => h2.keep k)
  have HCV := Lib.hid (fun w' (k : Bel w w') => h3.keep k)
  obtain ⟨A1, k1, A2, k2, rfl, _, _, _, _, _, _⟩ := h
  obtain ⟨A3, k3, A4, k4, rfl, _, _, _, _, _, _⟩ := h2
  obtain ⟨A5, k5, rfl, _, _, _⟩ := h3
  have HW := Bel.refl ((w.alloc (.cells #[.string p.name, .slice A1 p.vars.length k1, .slice A2 p.rules.length k2] 25)).alloc (.cells #[.slice A3 g.ids.length k3, .slice A4 g.ports.length k4] 29))
  obtain ⟨⟨e1, e2⟩, e3, e4⟩ : (A1 = A1r ∧ k1 = k1r) ∧ A2 = some ⟨bR, oR, none⟩ ∧ k2 = k2r := by simpa using eR
  subst e1 e2 e3 e4
  obtain ⟨e5, e6⟩ : A5 = some ⟨b0, o0, none⟩ ∧ k5 = k5r := by simpa using eC
  subst e5 e6
  have HMF : Hid (moveF p g c v = movesF p g c v p.rules[k].sets) := by show _ = _; unfold moveF; rw [hk, ruleAt_eq hkl]
  have HFK := Lib.hid hk
  have HI := Lib.hid hI
  have HSets := Lib.hid (fun w' (k : Bel w w') => SetsR.keep hSets k)
  have hle10 := (lightC_parts hCL).2 _ (List.getElem_mem hv)
  have HK := Lib.hid (mem_sok hm hv)
  have HF0 := Lib.hid (mem_zero hm).1
  have HL := Lib.hid hL
  have HGL := Lib.hid hGL
  have hcl : c[v].length = p.vars.length := by have := row_len hm hv; rwa [getD_eq hv] at this
  have HCL := Lib.hid hcl
  have HST := Lib.hid (fun (s : SetT) hs => set_tree (fits_zero (mem_zero hm).1).1 (List.getElem_mem hkl) (s := s) hs)
  have HSL := Lib.hid (fun (s : SetT) hs => lightR_sets ((lightP_parts hL).2.2.2.2 _ (List.getElem_mem hkl)) (s := s) hs)
  have hls := lightR_len ((lightP_parts hL).2.2.2.2 _ (List.getElem_mem hkl))
  have HMV : Hid (∀ j (hj : j < p.rules[k].sets.length), movesF p g c v (p.rules[k].sets.take (j + 1)) = (movesF p g c v (p.rules[k].sets.take j)).set p.rules[k].sets[j].var.toNat (setVal p g c v p.rules[k].sets[j])) := fun j hj => movesF_snoc _ _ _ _ _ _ hj
  have HML : Hid (∀ j, (movesF p g c v (p.rules[k].sets.take j)).length = c[v].length) := fun j => by rw [movesF_length, getD_eq hv]
  have hpv : 0 < p.vars.length := by have := (check_numbers (fits_zero (mem_zero hm).1).1).2.1; omega
  have hgp : v < g.ports.length := by rw [← conf_len hm]; exact hv
  have hdv : decide (v < c.length) = true := by simpa using hv
  have hdk : decide (k < p.rules.length) = true := by simpa using hkl
  obtain ⟨j0, hj0, hy0, hy1, hy2⟩ := info_parts int_infoC
  have hcell2 := Lib.hid (fun w' (kk : Bel ((w.alloc (.cells #[.string p.name, .slice A1 p.vars.length k1, .slice (some ⟨bR, oR, none⟩) p.rules.length k2] 25)).alloc (.cells #[.slice A3 g.ids.length k3, .slice A4 g.ports.length k4] 29)) w') => show w'.cell? ⟨w.heap.size, 0, none⟩ = some (.string p.name) ∧ w'.cell? ⟨w.heap.size, 1, none⟩ = some (.slice A1 p.vars.length k1) ∧ w'.cell? ⟨w.heap.size, 2, none⟩ = some (.slice (some ⟨bR, oR, none⟩) p.rules.length k2) ∧ w'.cell? ⟨w.heap.size + 1, 0, none⟩ = some (.slice A3 g.ids.length k3) ∧ w'.cell? ⟨w.heap.size + 1, 1, none⟩ = some (.slice A4 g.ports.length k4) ∧ w'.cell? ⟨bR, oR + k * 3 + 2, none⟩ = some (.slice SS p.rules[k].sets.length sc) ∧ w.heap.size + 1 < w'.heap.size ∧ bR < w'.heap.size from by
    obtain ⟨q0, q1, q2, q3, q4, q5⟩ := pgbox kk
    have hb := box2_bel kk
    exact ⟨q0, q1, q2, q3, q4, (hb.cell hbR).trans cs, q5, Nat.lt_of_lt_of_le hbR hb.size⟩)
  clear hI hR hSets cs hm hen hk hL hGL hCL eR eC hRC hcl
  go_enter Tryz.func65, Tryz.ntmps65
  go_wp2_with (at_builtin; go_must (refine wpList_extend _ rfl (.const (.slice none 0 0)) (.tmp 15) 26 rfl (w.heap.size + 1 + 1) 3 j0 (.int .i64 0) 1 8 Tryz.underlying26 hj0 hy0 hy1 hy2 rfl (by decide) none 0 0 [] rfl (World.ownsRow_nil _ _ _ _) R c[v].length rc (c[v].map (Value.int .i64)) rfl (HI.out.keep (box2_bel HW)).cells (int_cells_one _) (by unfold maxLen; omega) (by omega) (by simp) ?_); intro A6 c6 w3 hown3 hgr3 _; rw [List.nil_append, Nat.zero_add] at hown3; replace HW := HW.grown hgr3 (fun k hk => by cases hk); obtain ⟨hn1, hn2⟩ := own_cap hown3; have HO := Lib.hid hown3; clear hown3 hgr3)
  have HO0 : Hid (w3.ownsRow (w.heap.size + 1 + 1) 3 1 (.slice A6 c[v].length c6) c[v].length ((movesF p g c v (p.rules[k].sets.take 0)).map (Value.int .i64))) := by
    have := HO.out
    show World.ownsRow _ _ _ _ _ _ _
    rw [List.take_zero]; unfold movesF; rw [getD_eq hv]; exact this
  obtain ⟨ga, hga⟩ : ∃ ga, A6 = some ⟨ga, 0, none⟩ := by
    obtain ⟨ga, cap, hv', _⟩ := HO.out.form (by rw [HCL.out]; exact hpv)
    injection hv' with hA
    exact ⟨ga, hA⟩
  subst hga
  clear HO
  go_wp2_with fail
  replace HW := HW.drew
  replace HO0 := Lib.hid (HO0.out.drew)
  go_region_held3 (fun w' => w'.cell? ⟨w.heap.size, 0, none⟩ = some (.string p.name) ∧ w'.cell? ⟨w.heap.size, 1, none⟩ = some (.slice A1 p.vars.length k1) ∧ w'.cell? ⟨w.heap.size, 2, none⟩ = some (.slice (some ⟨bR, oR, none⟩) p.rules.length k2) ∧ w'.cell? ⟨w.heap.size + 1, 0, none⟩ = some (.slice A3 g.ids.length k3) ∧ w'.cell? ⟨w.heap.size + 1, 1, none⟩ = some (.slice A4 g.ports.length k4) ∧ w'.cell? ⟨bR, oR + k * 3 + 2, none⟩ = some (.slice SS p.rules[k].sets.length sc) ∧ w.heap.size + 1 < w'.heap.size ∧ bR < w'.heap.size) (exact hcell2.out _ HW) (first
    | (go_simp; go_at_call 70; refine (refFirst_any _ p _ g _ c v _ (HPV.out _ (box2_bel HW)) (HGV.out _ (box2_bel HW)) (HCV.out _ (box2_bel HW)) HK.out HL.out).mono ?_; rintro e w' ⟨rfl, hb⟩; rw [HFK.out]; replace HW := HW.trans hb; replace HO0 := Lib.hid (hb.owns HO0.out); clear hb))
  go_wp2_with fail
  go_loopg [11] p.rules[k].sets.length (fun m z wr => ∃ j : Nat, j ≤ p.rules[k].sets.length ∧ m = p.rules[k].sets.length - j ∧ z = .int .i64 j ∧ Hid (wr.ownsRow (w.heap.size + 1 + 1) 3 1 (.slice (some ⟨ga, 0, none⟩) c[v].length c6) c[v].length ((movesF p g c v (p.rules[k].sets.take j)).map (Value.int .i64))) ∧ Bel ((w.alloc (.cells #[.string p.name, .slice A1 p.vars.length k1, .slice (some ⟨bR, oR, none⟩) p.rules.length k2] 25)).alloc (.cells #[.slice A3 g.ids.length k3, .slice A4 g.ports.length k4] 29)) wr)
  case atStart => exact ⟨0, by omega, rfl, rfl, HO0, HW⟩
  case round =>
    clear HO0 HW hcell2
    obtain ⟨j, hj, rfl, rfl, HO, HW⟩ := hrel
    by_cases hlt : j < p.rules[k].sets.length
    · have hd0 : decide (j < p.rules[k].sets.length) = true := by simpa using hlt
      obtain ⟨t1, t2, t4, t5, hx0, hx1⟩ := HST.out _ (List.getElem_mem hlt)
      obtain ⟨x, hx⟩ := Int.eq_ofNat_of_zero_le hx0
      have hxl : x < p.vars.length := by omega
      have hsl := HSL.out _ (List.getElem_mem hlt)
      have HE : Hid (EOK p p.rules[k].sets[j].value) := ⟨t1, t2, t4, t5, by omega⟩
      obtain ⟨bs, os, V, vc, rfl, hbs, s0, s1, hVT, _, _⟩ := (HSets.out _ (Bel.refl w)).at_ j hlt
      have HVT := Lib.hid (fun w' (kk : Bel w w') => TermsR.keep hVT kk)
      rw [hx] at s0
      have HX := Lib.hid hx
      have HSV : Hid (setVal p g c v p.rules[k].sets[j] = bringF p.vars[x].kind (boundsF p.vars[x] g v) (evalF g c v (-1) (treeOf p.rules[k].sets[j].value))) := by
        show _ = _
        unfold setVal varAt
        rw [hx, Int.toNat_natCast, getD_eq hxl]
      have hxc : x < c[v].length := by rw [HCL.out]; exact hxl
      have hdc : decide (x < c[v].length) = true := by simpa using hxc
      have hmx : x < (movesF p g c v (p.rules[k].sets.take j)).length := by rw [HML.out]; exact hxc
      have HY : Hid (((movesF p g c v (p.rules[k].sets.take j)).map (Value.int .i64))[x]? = some (.int .i64 (movesF p g c v (p.rules[k].sets.take j))[x])) := by
        show _ = _
        rw [List.getElem?_map, List.getElem?_eq_getElem hmx]; rfl
      obtain ⟨hga1, hga2⟩ := own_base HO.out
      have hcell := Lib.hid (fun w' (kk : Fr ga wr w') => show w'.cell? ⟨w.heap.size, 0, none⟩ = some (.string p.name) ∧ w'.cell? ⟨w.heap.size, 1, none⟩ = some (.slice A1 p.vars.length k1) ∧ w'.cell? ⟨w.heap.size, 2, none⟩ = some (.slice (some ⟨bR, oR, none⟩) p.rules.length k2) ∧ w'.cell? ⟨w.heap.size + 1, 0, none⟩ = some (.slice A3 g.ids.length k3) ∧ w'.cell? ⟨w.heap.size + 1, 1, none⟩ = some (.slice A4 g.ports.length k4) ∧ w'.cell? ⟨bs, os + j * 2, none⟩ = some (.int .i64 (x : Int)) ∧ w'.cell? ⟨bs, os + j * 2 + 1, none⟩ = some (.slice V p.rules[k].sets[j].value.length vc) ∧ w.heap.size + 1 < w'.heap.size ∧ bs < w'.heap.size ∧ ga < w'.heap.size from by
        obtain ⟨q0, q1, q2, q3, q4, q5⟩ := pgbox HW
        have hb := box2_bel HW
        have hsz := hb.size
        have hk1 := kk.1
        exact ⟨(kk.cell (by omega) (by omega)).trans q0, (kk.cell (by omega) (by omega)).trans q1, (kk.cell (by omega) (by omega)).trans q2, (kk.cell q5 (by omega)).trans q3, (kk.cell q5 (by omega)).trans q4, (kk.cell (by omega) (by omega)).trans ((hb.cell hbs).trans s0), (kk.cell (by omega) (by omega)).trans ((hb.cell hbs).trans s1), by omega, by omega, by omega⟩)
      have HG := Fr.refl ga wr
      clear hVT t1 t2 t4 t5 hx hx0 hx1 hsl s0 s1
      go_wp2_with fail
      replace HW := HW.drew
      replace HG := HG.drew
      replace HO := Lib.hid (HO.out.drew)
      go_region_held3 (fun w' => w'.cell? ⟨w.heap.size, 0, none⟩ = some (.string p.name) ∧ w'.cell? ⟨w.heap.size, 1, none⟩ = some (.slice A1 p.vars.length k1) ∧ w'.cell? ⟨w.heap.size, 2, none⟩ = some (.slice (some ⟨bR, oR, none⟩) p.rules.length k2) ∧ w'.cell? ⟨w.heap.size + 1, 0, none⟩ = some (.slice A3 g.ids.length k3) ∧ w'.cell? ⟨w.heap.size + 1, 1, none⟩ = some (.slice A4 g.ports.length k4) ∧ w'.cell? ⟨bs, os + j * 2, none⟩ = some (.int .i64 (x : Int)) ∧ w'.cell? ⟨bs, os + j * 2 + 1, none⟩ = some (.slice V p.rules[k].sets[j].value.length vc) ∧ w.heap.size + 1 < w'.heap.size ∧ bs < w'.heap.size ∧ ga < w'.heap.size) (first | exact hcell.out _ HG | exact hcell.out _ (HG.set _ _)) (first
        | (go_simp; go_at_call 75; refine (at_any p g c v HK.out (treeOf p.rules[k].sets[j].value) false (-1) _ _ _ _ p.rules[k].sets[j].value 0 _ (HGV.out _ (box2_bel HW)) (HCV.out _ (box2_bel HW)) (HVT.out _ (box2_bel HW)) (At.whole HE.out.ok HE.out.terms) HE.out.arg HE.out.len HE.out.bound portOK_false).mono ?_; rintro e w4 ⟨rfl, hbb⟩; replace HW := HW.trans hbb; replace HG := HG.trans (Fr.of_bel hbb); replace HO := Lib.hid (hbb.owns HO.out); clear hbb)
        | (go_simp; go_at_call 77; refine (refBring_any _ p _ g v x _ _ (HPV.out _ (box2_bel HW)) (HGV.out _ (box2_bel HW)) HF0.out hgp hxl HGL.out).mono ?_; rintro e w5 ⟨rfl, hbb⟩; replace HW := HW.trans hbb; replace HG := HG.trans (Fr.of_bel hbb); replace HO := Lib.hid (hbb.owns HO.out); clear hbb; have y1 := (own_at HO.out HY.out); obtain ⟨q1, e1, _, _, y1, z1⟩ := y1; obtain rfl : ga = q1 := (by simpa using e1); clear e1))
      go_wp2_with fail
      go_roundg (p.rules[k].sets.length - (j + 1))
      case rel =>
        refine ⟨j + 1, by omega, rfl, by go_num, ?_, HW.setCell (by simp; omega) _⟩
        have hst := (HO.out.stored x (.int .i64 (bringF p.vars[x].kind (boundsF p.vars[x] g v) (evalF g c v (-1) (treeOf p.rules[k].sets[j].value))))).1
        show World.ownsRow _ _ _ _ _ _ _
        rw [HMV.out j hlt, HX.out, Int.toNat_natCast, HSV.out, List.map_set]
        exact hst
      case measure => omega
    · have hd0 : decide (j < p.rules[k].sets.length) = false := by simpa using hlt
      obtain rfl : j = p.rules[k].sets.length := by omega
      go_wp2_with fail
      go_ret
      have hO := HO.out
      rw [List.take_of_length_le (Nat.le_refl _)] at hO
      obtain ⟨hn, hN⟩ := own_newI hO
      rw [HMF.out]
      exact ⟨_, c6, by rw [← hn]; rfl, hN.lower (by omega), box2_bel HW⟩

end Go.Proofs.YtibfjhhadbkkgaaGreat

