/- Merged of: W13j W13k W13g P13i (see NOTES.md). -/
import Derived.Test.YtaifafljakojnaaGreatZ22
import Derived.Test.YtaifafljakojnaaGreatZ14
import Derived.Test.YtaifafljakojnaaGreatZ20
import Derived.Test.YtaifafljakojnaaGreatZ11
set_option linter.unusedSimpArgs false
set_option linter.unnecessarySimpa false
set_option linter.unusedVariables false

/- Contracts: the method next of the reference's machine. -/
namespace Go.Proofs.YtaifafljakojnaaGreat
open Go.RowKit

theorem frame_infoM : (Tryz.prog.info? 116).map (fun i => (i.zero, i.size, i.bytes)) = some (some (.agg #[.int .i64 0, .int .i64 0, .slice none 0 0]), 3, 40) := by kernel_rfl
def RetRN (k : Rc) (p n e0 : Nat) (st vals : List Int) (b a : Int) (r : List (Nat × List Int)) (deg : Nat) (e : Ending) (w' : World) : Prop := if vals.length + 1 < deg then RetRM k (e0 + 1) n st ((e0, vals ++ [b]) :: r) e w' else RetRM k (p + 1) n (foldF a (vals ++ [b]) :: st) r e w'
theorem RX.goto {k : Rc} {w : World} {p n : Nat} {st : List Int} {A L : Option Addr} {c lc : Nat} {fr : List Frm} (h : RX k w p n st A c L lc fr) (q : Nat) : RX k (w.setCell ⟨k.B, 0, none⟩ (.int .i64 q)) q n st A c L lc fr :=
  MX.set h (by decide) (by decide) 0 _ rfl
set_option maxRecDepth 100000 in
set_option maxHeartbeats 4000000 in
theorem rNext_any (k : Rc) (w : World) (p n : Nat) (b : Int) (st : List Int) (e0 : Nat) (vals : List Int) (r : List (Nat × List Int)) (a : Int) (deg : Nat) (h : RM k w p n (b :: st) ((e0, vals) :: r)) (hn : st.length ≤ 1000000) (hln : r.length ≤ 1000000) (hv : vals.length < deg) (hk : deg < 24) (hnum : ∀ y ∈ vals ++ [b], Num y) (ha1 : 20 ≤ a) (ha2 : a ≤ 29) (he : e0 ≤ 1000000) (hp : p ≤ 1000000) :
    Calls Tryz.prog 66 #[.pointer (some ⟨k.B, 0, none⟩), .int .i64 a, .int .i64 deg] w (RetRN k p n e0 st vals b a r deg) := by
  obtain ⟨A, c, L, lc, fr, hX, hpts, hl⟩ := h
  cases fr with
  | nil => simp at hl
  | cons f fr =>
  rw [List.map_cons, List.cons.injEq] at hl
  obtain ⟨hl1, rfl⟩ := hl
  rw [List.length_map] at hln
  obtain ⟨q0, pt, vs, V, cv⟩ := f
  simp only [Frm.lp, Prod.mk.injEq] at hl1
  obtain ⟨rfl, rfl⟩ := hl1
  have hpt : pt = vals.length := hpts _ (List.mem_cons_self ..)
  subst hpt
  have HPT : Hid (PtsOK fr) := fun f hf => hpts f (List.mem_cons_of_mem _ hf)
  have hlo : w.ownsRow k.wT.heap.size 116 3 (.slice L (fr.length + 1) lc) (fr.length + 1) (rowL lpR (⟨e0, vals.length, vals, V, cv⟩ :: fr)) := hX.rows.loops
  obtain ⟨g, rfl, hg0, hgl, _, _⟩ := own_at (j := fr.length * 3 + 2) (u := .slice V vals.length cv) hlo (by rw [rowL_last lpR 3 lpR_len _ fr 2]; rfl)
  have hmx := own_cap hlo
  unfold maxLen at hmx
  have hcell := Lib.hid (fun (w' : World) S' (hb : Blk w' k.B (stC p n S' (.slice (some ⟨g, 0, none⟩) (fr.length + 1) lc)) 78) (ho : w'.ownsRow k.wT.heap.size 116 3 (.slice (some ⟨g, 0, none⟩) (fr.length + 1) lc) (fr.length + 1) (rowL lpR (⟨e0, vals.length, vals, V, cv⟩ :: fr))) => show w'.cell? ⟨k.B, 3, none⟩ = some (.slice (some ⟨g, 0, none⟩) (fr.length + 1) lc) ∧ w'.cell? ⟨g, fr.length * 3 + 2, none⟩ = some (.slice V vals.length cv) ∧ k.B < w'.heap.size ∧ g < w'.heap.size ∧ w'.frozen? ⟨g, fr.length * 3 + 2, none⟩ = false from by
    obtain ⟨g', e1, _, hgl, hcc, hff⟩ := own_at (j := fr.length * 3 + 2) (u := .slice V vals.length cv) ho (by rw [rowL_last lpR 3 lpR_len _ fr 2]; rfl)
    obtain rfl : g = g' := by simpa using e1
    exact ⟨hb.cell 3 rfl, hcc, hb.lt, hgl, hff⟩)
  have c7 := hX.blk.cell 3 (v := .slice (some ⟨g, 0, none⟩) (fr.length + 1) lc) rfl
  have clt := hX.blk.lt
  have hd : (((fr.length : Int) + 1) == 0) = false := by simp; omega
  have hdl : (fr.length : Int) < (fr.length : Int) + 1 := by omega
  have hw1 : IntKind.i64.wrap ((fr.length : Int) + 1 - 1) = fr.length := by rw [IntWalk.i64_in _ (by omega)]; omega
  have hw2 : IntKind.i64.wrap (fr.length : Int) = fr.length := IntWalk.i64_in _ (by omega)
  obtain ⟨j0, hj0, hy0, hy1, hy2⟩ := info_parts int_info
  obtain ⟨i0, hi0, hz0, hz1, hz2⟩ := info_parts frame_infoM
  have hup := run_upto (P := Tryz.prog) Tryz.underlying76 hi0 (some ⟨g, 0, none⟩) (fr.length + 1) lc fr.length (by omega)
  have HUP := Lib.hid hup
  have hle := hX.le0
  have hlt1 := hX.lt1
  have HM : RX k w.drew p n (b :: st) A c (some ⟨g, 0, none⟩) lc (⟨e0, vals.length, vals, V, cv⟩ :: fr) := RX.drew hX
  have HN := Lib.hid hnum
  have HFO := Lib.hid (foldR_ok ha1 ha2 (l := vals ++ [b]) (by simp; omega) hnum)
  have hvl : vals.length ≤ 1000000 := by omega
  clear hX hlo hnum hup hmx hpts
  go_enter Tryz.func66, Tryz.ntmps66
  go_wp2_with fail
  refine AnyE.start (fun w' => w'.cell? ⟨k.B, 3, none⟩ = some (.slice (some ⟨g, 0, none⟩) (fr.length + 1) lc) ∧ w'.cell? ⟨g, fr.length * 3 + 2, none⟩ = some (.slice V vals.length cv) ∧ k.B < w'.heap.size ∧ g < w'.heap.size ∧ w'.frozen? ⟨g, fr.length * 3 + 2, none⟩ = false) 19 (by kernel_rfl) ?_
  have hHeld := hcell.out _ _ HM.blk HM.rows.loops
  (refine AnyE.takeC (i := 0) (v := ?_) (some 15) rfl rfl (by kernel_rfl) (by kernel_rfl) (by kernel_rfl) (by kernel_rfl) (fun _ _ _ h => h) hHeld (Or.inl ⟨by rfl, ?_⟩) ?_; rotate_left 1; focus (intro w' hSw; (try dsimp only at hSw); go_simp; (try with_reducible rfl); done); (try simp only [Act.put, List.setIfInBounds_toArray, List.set_cons_zero, List.set_cons_succ]))
  (refine AnyE.takeC (i := 1) (v := ?_) (some 16) rfl rfl (by kernel_rfl) (by kernel_rfl) (by kernel_rfl) (by kernel_rfl) (fun _ _ _ h => h) hHeld (Or.inl ⟨by rfl, ?_⟩) ?_; rotate_left 1; focus (intro w' hSw; (try dsimp only at hSw); go_simp; (try with_reducible rfl); done); (try simp only [Act.put, List.setIfInBounds_toArray, List.set_cons_zero, List.set_cons_succ]))
  (refine AnyE.takeC (i := 2) (v := ?_) (some 17) rfl rfl (by kernel_rfl) (by kernel_rfl) (by kernel_rfl) (by kernel_rfl) (fun _ _ _ h => h) hHeld (Or.inl ⟨by rfl, ?_⟩) ?_; rotate_left 1; focus (intro w' hSw; (try dsimp only at hSw); go_simp; (try with_reducible rfl); done); (try simp only [Act.put, List.setIfInBounds_toArray, List.set_cons_zero, List.set_cons_succ]))
  (refine AnyE.takeC (i := 3) (v := ?_) (some 18) rfl rfl (by kernel_rfl) (by kernel_rfl) (by kernel_rfl) (by kernel_rfl) (fun _ _ _ h => h) hHeld (Or.inl ⟨by rfl, ?_⟩) ?_; rotate_left 1; focus (intro w' hSw; (try dsimp only at hSw); go_simp; (try with_reducible rfl); done); (try simp only [Act.put, List.setIfInBounds_toArray, List.set_cons_zero, List.set_cons_succ]))
  (refine AnyE.takeC (i := 4) (v := ?_) (some 19) rfl rfl (by kernel_rfl) (by kernel_rfl) (by kernel_rfl) (by kernel_rfl) (fun _ _ _ h => h) hHeld (Or.inl ⟨by rfl, ?_⟩) ?_; rotate_left 1; focus (intro w' hSw; (try dsimp only at hSw); go_simp; (try with_reducible rfl); done); (try simp only [Act.put, List.setIfInBounds_toArray, List.set_cons_zero, List.set_cons_succ]))
  (refine AnyE.takeC (i := 5) (v := ?_) (some 20) rfl rfl (by kernel_rfl) (by kernel_rfl) (by kernel_rfl) (by kernel_rfl) (fun _ _ _ h => h) hHeld (Or.inl ⟨by rfl, ?_⟩) ?_; rotate_left 1; focus (intro w' hSw; (try dsimp only at hSw); go_simp; (try with_reducible rfl); done); (try simp only [Act.put, List.setIfInBounds_toArray, List.set_cons_zero, List.set_cons_succ]))
  (refine AnyE.takeC (i := 6) (v := ?_) (some 21) rfl rfl (by kernel_rfl) (by kernel_rfl) (by kernel_rfl) (by kernel_rfl) (fun _ _ _ h => h) hHeld (Or.inl ⟨by rfl, ?_⟩) ?_; rotate_left 1; focus (intro w' hSw; (try dsimp only at hSw); go_simp; (try with_reducible rfl); done); (try simp only [Act.put, List.setIfInBounds_toArray, List.set_cons_zero, List.set_cons_succ]))
  (refine AnyE.takeC (i := 7) (v := ?_) (some 22) rfl rfl (by kernel_rfl) (by kernel_rfl) (by kernel_rfl) (by kernel_rfl) (fun _ _ _ h => h) hHeld (Or.inl ⟨by rfl, ?_⟩) ?_; rotate_left 1; focus (intro w' hSw; (try dsimp only at hSw); go_simp; (try with_reducible rfl); done); (try simp only [Act.put, List.setIfInBounds_toArray, List.set_cons_zero, List.set_cons_succ]))
  (refine AnyE.takeC (i := 8) (v := ?_) (some 23) rfl rfl (by kernel_rfl) (by kernel_rfl) (by kernel_rfl) (by kernel_rfl) (fun _ _ _ h => h) hHeld (Or.inl ⟨by rfl, ?_⟩) ?_; rotate_left 1; focus (intro w' hSw; (try dsimp only at hSw); go_simp; (try with_reducible rfl); done); (try simp only [Act.put, List.setIfInBounds_toArray, List.set_cons_zero, List.set_cons_succ]))
  (refine AnyE.takeC (i := 9) (v := ?_) (some 24) rfl rfl (by kernel_rfl) (by kernel_rfl) (by kernel_rfl) (by kernel_rfl) (fun _ _ _ h => h) hHeld (Or.inl ⟨by rfl, ?_⟩) ?_; rotate_left 1; focus (intro w' hSw; (try dsimp only at hSw); go_simp; (try with_reducible rfl); done); (try simp only [Act.put, List.setIfInBounds_toArray, List.set_cons_zero, List.set_cons_succ]))
  (refine AnyE.takeC (i := 10) (v := ?_) (some 25) rfl rfl (by kernel_rfl) (by kernel_rfl) (by kernel_rfl) (by kernel_rfl) (fun _ _ _ h => h) hHeld (Or.inl ⟨by rfl, ?_⟩) ?_; rotate_left 1; focus (intro w' hSw; (try dsimp only at hSw); go_simp; (try with_reducible rfl); done); (try simp only [Act.put, List.setIfInBounds_toArray, List.set_cons_zero, List.set_cons_succ]))
  (refine AnyE.takeC (i := 11) (v := ?_) (some 26) rfl rfl (by kernel_rfl) (by kernel_rfl) (by kernel_rfl) (by kernel_rfl) (fun _ _ _ h => h) hHeld (Or.inl ⟨by rfl, ?_⟩) ?_; rotate_left 1; focus (intro w' hSw; (try dsimp only at hSw); go_simp; (try with_reducible rfl); done); (try simp only [Act.put, List.setIfInBounds_toArray, List.set_cons_zero, List.set_cons_succ]))
  (refine AnyE.takeC (i := 12) (v := ?_) (some 27) rfl rfl (by kernel_rfl) (by kernel_rfl) (by kernel_rfl) (by kernel_rfl) (fun _ _ _ h => h) hHeld (Or.inl ⟨by rfl, ?_⟩) ?_; rotate_left 1; focus (intro w' hSw; (try dsimp only at hSw); go_simp; (try with_reducible rfl); done); (try simp only [Act.put, List.setIfInBounds_toArray, List.set_cons_zero, List.set_cons_succ]))
  (refine AnyE.takeC (i := 13) (v := ?_) (some 28) rfl rfl (by kernel_rfl) (by kernel_rfl) (by kernel_rfl) (by kernel_rfl) (fun _ _ _ h => h) hHeld (Or.inl ⟨by rfl, ?_⟩) ?_; rotate_left 1; focus (intro w' hSw; (try dsimp only at hSw); go_simp; (try with_reducible rfl); done); (try simp only [Act.put, List.setIfInBounds_toArray, List.set_cons_zero, List.set_cons_succ]))
  refine AnyE.one (i := 14) (by kernel_rfl) rfl (fun K hK => ?_)
  go_simp
  go_at_call 71
  refine (rPopX_any k _ p n b st A c _ lc _ HM hn).mono ?_
  rintro e w1 ⟨rfl, hm, _⟩
  have H1 := Lib.hid hm
  clear hm HM hHeld
  have hl1 := H1.out.blk.lt
  have hs1 := H1.out.grown.size
  (try go_simp)
  refine hK.out _ _ (fun _ => hcell.out _ _ H1.out.blk H1.out.rows.loops) ?_
  clear hK K
  (try simp only [Act.put, List.setIfInBounds_toArray, List.set_cons_zero, List.set_cons_succ])
  refine AnyE.one (i := 15) (by kernel_rfl) rfl (fun K hK => ?_)
  go_simp
  have H2 := Lib.hid (MX.keep H1.out ((Bel.refl w1).alloc (.cells #[.int .i64 b] 3)))
  refine hK.out _ _ (fun _ => hcell.out _ _ H2.out.blk H2.out.rows.loops) ?_
  clear hK K
  (try simp only [Act.put, List.setIfInBounds_toArray, List.set_cons_zero, List.set_cons_succ])
  refine AnyE.one (i := 16) (by kernel_rfl) rfl (fun K hK => ?_)
  refine step_push _ rfl (.tmp 27) (.tmp 30) 27 rfl k.wT.heap.size 3 j0 (.int .i64 0) 1 8 Tryz.underlying27 hj0 hy0 hy1 hy2 rfl (by decide) V vals.length cv (vals.map (Value.int .i64)) (by simp [Act.eval]) (H2.out.rows.vals _ (List.mem_cons_self ..)) w1.heap.size #[.int .i64 b] 3 (0, 0) (by simp [Act.eval]) (heap_new _ _) rfl (one_int _ _) (by unfold maxLen; omega) (by omega) (by simp; omega) ?_
  intro A' c' w3 hown hgr hat
  have hO3 : OwnM w3 k.wT.heap.size (A', c') (vals ++ [b]) := by
    show w3.ownsRow _ _ _ _ _ _
    rw [List.length_append, List.map_append]
    exact hown
  rw [hd_own] at hgr hat
  rw [hd_own] at hat
  have hV := (H2.out.rows.vals ⟨e0, vals.length, vals, V, cv⟩ (List.mem_cons_self ..))
  have hB3 : Blk w3 k.B (stC p n (.slice A st.length c) (.slice (some ⟨g, 0, none⟩) (fr.length + 1) lc)) 78 := H2.out.blk.grown hgr (by
    have := H2.out.blk.apart hV (by decide)
    rwa [Hd.own] at this)
  have hR3 := (H2.out.rows.pushV (by decide) hO3 hgr hat).2.1
  have H4 := Lib.hid (MX.setV (f' := ⟨e0, vals.length, vals ++ [b], A', c'⟩) H2.out (by decide) (by decide) (by decide) hO3 hgr hat rfl rfl (fr.length * 3 + 2) (.slice A' (vals.length + 1) c') (rowL_set lpR 3 lpR_len _ _ fr 2 _ (by simp [lpR])))
  refine hK.out _ _ (fun _ => hcell.out _ _ hB3 hR3) ?_
  clear hK K
  have hHeld := hcell.out _ _ hB3 hR3
  clear hown hgr hat hO3 hV hB3 hR3
  (try simp only [Act.put, List.setIfInBounds_toArray, List.set_cons_zero, List.set_cons_succ])
  (refine AnyE.takeC (i := 17) (v := ?_) (some 32) rfl rfl (by kernel_rfl) (by kernel_rfl) (by kernel_rfl) (by kernel_rfl) (fun _ _ _ h => h) hHeld (Or.inl ⟨by rfl, ?_⟩) ?_; rotate_left 1; focus (intro w' hSw; (try dsimp only at hSw); go_simp; (try with_reducible rfl); done); (try simp only [Act.put, List.setIfInBounds_toArray, List.set_cons_zero, List.set_cons_succ]))
  (refine AnyE.takeC (i := 18) (v := ?_) (some 33) rfl rfl (by kernel_rfl) (by kernel_rfl) (by kernel_rfl) (by kernel_rfl) (fun _ _ _ h => h) hHeld (Or.inl ⟨by rfl, ?_⟩) ?_; rotate_left 1; focus (intro w' hSw; (try dsimp only at hSw); go_simp; (try with_reducible rfl); done); (try simp only [Act.put, List.setIfInBounds_toArray, List.set_cons_zero, List.set_cons_succ]))
  refine AnyE.one (i := 19) (by kernel_rfl) rfl (fun K hK => ?_)
  obtain ⟨_, hc7, hB3, hg3, hf3⟩ := hHeld
  go_simp
  refine hK.out _ _ (fun h => absurd rfl h) ?_
  clear hK K hc7 hB3 hg3 hf3
  refine AnyE.done (by kernel_rfl) ?_ _
  generalize w3.setCell ⟨g, fr.length * 3 + 2, none⟩ (.slice A' (vals.length + 1) c') = wz at *
  have ho4 : wz.ownsRow k.wT.heap.size 116 3 (.slice (some ⟨g, 0, none⟩) (fr.length + 1) lc) (fr.length + 1) (rowL lpR (⟨e0, vals.length, vals ++ [b], A', c'⟩ :: fr)) := H4.out.rows.loops
  obtain ⟨g', eg, _, _, z0, _⟩ := own_at (j := fr.length * 3 + 0) (u := .int .i64 e0) ho4 (by rw [rowL_last lpR 3 lpR_len _ fr 0]; rfl)
  obtain rfl : g = g' := by simpa using eg
  obtain ⟨g', eg1, _, _, zp, zpf⟩ := own_at (j := fr.length * 3 + 1) (u := .int .i64 vals.length) ho4 (by rw [rowL_last lpR 3 lpR_len _ fr 1]; rfl)
  obtain rfl : g = g' := by simpa using eg1
  obtain ⟨g', eg', _, hgz, z1, _⟩ := own_at (j := fr.length * 3 + 2) (u := .slice A' (vals.length + 1) c') ho4 (by rw [rowL_last lpR 3 lpR_len _ fr 2]; simp [lpR])
  obtain rfl : g = g' := by simpa using eg'
  rw [Nat.add_zero] at z0
  have z7 := H4.out.blk.cell 3 (v := .slice (some ⟨g, 0, none⟩) (fr.length + 1) lc) rfl
  have zf5 := H4.out.blk.frozen 0
  have zf7 := H4.out.blk.frozen 3
  have z5 := H4.out.blk.cell 0 (v := .int .i64 p) rfl
  have zl := H4.out.blk.lt
  have hne : k.B ≠ g := fun e0 => H4.out.blk.apart ho4 (by decide) (by rw [e0]; rfl)
  clear eg eg' eg1 ho4 H1 H2 hgl
  by_cases hlt : vals.length + 1 < deg
  · have HLT := Lib.hid hlt
    have hdd : decide ((vals.length : Int) + 1 < (deg : Int)) = true := by simp; omega
    have H5 := Lib.hid (MX.setP (f' := ⟨e0, vals.length + 1, vals ++ [b], A', c'⟩) H4.out (by decide) (by decide) rfl rfl (fr.length * 3 + 1) (.int .i64 ((vals.length + 1 : Nat) : Int)) (rowL_set lpR 3 lpR_len _ _ fr 1 _ (by simp [lpR])))
    clear hlt
    go_wp2_with fail
    go_end0
    unfold RetRN
    rw [if_pos HLT.out]
    refine ⟨_, rfl, _, _, _, _, _, RX.goto H5.out (e0 + 1), fun f hf => ?_, rfl⟩
    rcases List.mem_cons.1 hf with rfl | hf
    · show vals.length + 1 = (vals ++ [b]).length
      simp
    · exact HPT.out f hf
  · have HLT := Lib.hid hlt
    have hdd : decide ((vals.length : Int) + 1 < (deg : Int)) = false := by simp; omega
    clear hlt
    have HI := Lib.hid (own_ints (H4.out.rows.vals ⟨e0, vals.length, vals ++ [b], A', c'⟩ (List.mem_cons_self ..)))
    have HI2 : Hid (IntsR wz A' (vals.length + 1) (vals ++ [b])) := by
      show IntsR wz A' (vals.length + 1) (vals ++ [b])
      have := HI.out
      simpa using this
    have hup := HUP.out
    have HP : RX k wz p n st A c (some ⟨g, 0, none⟩) lc (⟨e0, vals.length, vals ++ [b], A', c'⟩ :: fr) := H4.out
    go_wp2_with (first
      | (go_at_call 72; refine (refFoldR_any A' (vals.length + 1) c' (vals ++ [b]) a _ HI2.out (by omega)).mono ?_; rintro e w' ⟨rfl, rfl⟩; rw [HFO.out])
      | (go_at_call 67; refine (rPushX_any k _ p n st A c _ lc _ _ HP hn).mono ?_; rintro e w' ⟨v, A2, c2, rfl, hm⟩; replace HP := hm; have y3 := hm.blk.cell 3 (v := .slice (some ⟨g, 0, none⟩) (fr.length + 1) lc) rfl; have y0 := hm.blk.cell 0 (v := .int .i64 p) rfl; have yf0 := hm.blk.frozen 0; have yf3 := hm.blk.frozen 3; have yl := hm.blk.lt; clear hm))
    go_end0
    unfold RetRN
    rw [if_neg HLT.out]
    have HQ : RX k _ p n (foldF a (vals ++ [b]) :: st) A2 c2 (some ⟨g, 0, none⟩) lc fr := MX.put HP.blk (HP.rows.dropL lpR_len) HP.le0 HP.lt1 HP.bel HP.grown (by decide) (by decide) 3 (.slice (some ⟨g, 0, none⟩) fr.length lc) rfl
    exact ⟨_, rfl, _, _, _, _, _, RX.goto HQ (p + 1), HPT.out, rfl⟩

end Go.Proofs.YtaifafljakojnaaGreat

/- Contracts: the method execute of the reference's machine. -/
namespace Go.Proofs.YtaifafljakojnaaGreat
open Go.RowKit

/-- What the reference's machine reads. -/
def RcR (k : Rc) (g : Graph) (c : Config) (l : List Term) (L A3 A4 A5 : Option Addr) (k3 k4 k5 : Nat) : Prop :=
  TermsR k.w0 L l.length l ∧ GraphV k.w0 (.agg #[.slice A3 g.ids.length k3, .slice A4 g.ports.length k4]) g ∧ RowsR k.w0 A5 c.length c
theorem RX.tick {k : Rc} {w : World} {p n : Nat} {st : List Int} {A L : Option Addr} {c lc : Nat} {fr : List Frm} (h : RX k w p n st A c L lc fr) : RX k (w.setCell ⟨k.B, 1, none⟩ (.int .i64 ((n : Int) + 1))) p (n + 1) st A c L lc fr :=
  MX.set h (by decide) (by decide) 1 _ rfl
theorem RM.tick {k : Rc} {w : World} {p n : Nat} {st : List Int} {lps : List (Nat × List Int)} (h : RM k w p n st lps) : RM k (w.setCell ⟨k.B, 1, none⟩ (.int .i64 ((n : Int) + 1))) p (n + 1) st lps := by
  obtain ⟨A, c, L, lc, fr, hX, hp, hl⟩ := h
  exact ⟨A, c, L, lc, fr, MX.set hX (by decide) (by decide) 1 _ rfl, hp, hl⟩
theorem RM.goto {k : Rc} {w : World} {p n : Nat} {st : List Int} {lps : List (Nat × List Int)} (h : RM k w p n st lps) (q : Nat) : RM k (w.setCell ⟨k.B, 0, none⟩ (.int .i64 q)) q n st lps := by
  obtain ⟨A, c, L, lc, fr, hX, hp, hl⟩ := h
  exact ⟨A, c, L, lc, fr, hX.goto q, hp, hl⟩
theorem RM.cells {k : Rc} {w : World} {p n : Nat} {st : List Int} {lps : List (Nat × List Int)} (h : RM k w p n st lps) :
    w.cell? ⟨k.B, 0, none⟩ = some (.int .i64 p) ∧ w.cell? ⟨k.B, 1, none⟩ = some (.int .i64 n) ∧ w.frozen? ⟨k.B, 0, none⟩ = false ∧ w.frozen? ⟨k.B, 1, none⟩ = false ∧ k.B < w.heap.size ∧ Bel k.w0 w := by
  obtain ⟨A, c, L, lc, fr, ⟨hB, hR, h0, h1, hb, hg⟩, _, rfl⟩ := h
  exact ⟨hB.cell 0 rfl, hB.cell 1 rfl, hB.frozen 0, hB.frozen 1, hB.lt, hb⟩
def execArgs (k : Rc) (g : Graph) (c : Config) (l : List Term) (L A3 A4 A5 : Option Addr) (c0 k3 k4 k5 v : Nat) : Array Value :=
  #[.pointer (some ⟨k.B, 0, none⟩), .slice L l.length c0, .agg #[.slice A3 g.ids.length k3, .slice A4 g.ports.length k4], .slice A5 c.length k5, .int .i64 v]
theorem RetRN.ret {k : Rc} {p n e0 : Nat} {st vals : List Int} {b a : Int} {r : List (Nat × List Int)} {deg : Nat} {u : Value} {w' : World} (h : RetRN k p n e0 st vals b a r deg (.returned u) w') (u' : Value) : RetRN k p n e0 st vals b a r deg (.returned u') w' := by
  unfold RetRN at h ⊢
  split at h
  · rename_i hlt
    rw [if_pos hlt]
    obtain ⟨_, _, hm⟩ := h
    exact ⟨_, rfl, hm⟩
  · rename_i hlt
    rw [if_neg hlt]
    obtain ⟨_, _, hm⟩ := h
    exact ⟨_, rfl, hm⟩
set_option maxRecDepth 100000 in
set_option maxHeartbeats 2000000 in
theorem rExec1_any (k : Rc) (pr : Prg) (g : Graph) (c : Config) (l : List Term) (L A3 A4 A5 : Option Addr) (c0 k3 k4 k5 v : Nat) (hK : RcR k g c l L A3 A4 A5 k3 k4 k5) (hs : SOK pr g c v) (w : World) (p n : Nat) (st : List Int) (lps : List (Nat × List Int)) (arg : Int) (hp : p < l.length) (hx : l[p] = ⟨1, arg⟩) (hn : st.length ≤ 1000000) (hln : lps.length ≤ 1000000) (hnn : n ≤ 1000000) (hpp : p ≤ 1000000) (h : RM k w p n st lps) :
    Calls Tryz.prog 32 (execArgs k g c l L A3 A4 A5 c0 k3 k4 k5 v) w (RetRM k (p + 1) (n + 1) (arg :: st) lps) := by
  obtain ⟨b0, o0, rfl, hb0, t0, t1⟩ := TermsR.at_ hK.1 p hp
  obtain ⟨y0, y1, yf0, yf1, yl, yb⟩ := h.cells
  have t0' := (yb.cell hb0).trans t0
  have t1' := (yb.cell hb0).trans t1
  rw [hx] at t0' t1'
  dsimp only at t0' t1'
  have hbl := Nat.lt_of_lt_of_le hb0 yb.size
  have hv := hs.node
  have hdp : decide (p < l.length) = true := by simpa using hp
  have HM : Hid (RM k ((((w.setCell ⟨k.B, 1, none⟩ (.int .i64 ((n : Int) + 1))).setCell ⟨k.B, 0, none⟩ (.int .i64 ((p : Int) + 1))).alloc (.cells #[.slice A3 g.ids.length k3, .slice A4 g.ports.length k4] 30)).alloc (.cells #[.int .i64 1, .int .i64 arg] 43)) (p + 1) (n + 1) st lps) := RM.keep (RM.keep (h.tick.goto (p + 1)) ((Bel.refl _).alloc _)) ((Bel.refl _).alloc _)
  have hbx : ((((w.setCell ⟨k.B, 1, none⟩ (.int .i64 ((n : Int) + 1))).setCell ⟨k.B, 0, none⟩ (.int .i64 ((p : Int) + 1))).alloc (.cells #[.slice A3 g.ids.length k3, .slice A4 g.ports.length k4] 30)).alloc (.cells #[.int .i64 1, .int .i64 arg] 43)).cell? ⟨w.heap.size + 1, 1, none⟩ = some (.int .i64 arg) := by go_simp
  have hbg : ((((w.setCell ⟨k.B, 1, none⟩ (.int .i64 ((n : Int) + 1))).setCell ⟨k.B, 0, none⟩ (.int .i64 ((p : Int) + 1))).alloc (.cells #[.slice A3 g.ids.length k3, .slice A4 g.ports.length k4] 30)).alloc (.cells #[.int .i64 1, .int .i64 arg] 43)).cell? ⟨w.heap.size, 1, none⟩ = some (.slice A4 g.ports.length k4) := by go_simp
  have hbg0 : ((((w.setCell ⟨k.B, 1, none⟩ (.int .i64 ((n : Int) + 1))).setCell ⟨k.B, 0, none⟩ (.int .i64 ((p : Int) + 1))).alloc (.cells #[.slice A3 g.ids.length k3, .slice A4 g.ports.length k4] 30)).alloc (.cells #[.int .i64 1, .int .i64 arg] 43)).cell? ⟨w.heap.size, 0, none⟩ = some (.slice A3 g.ids.length k3) := by go_simp
  have hbs : w.heap.size + 1 < ((((w.setCell ⟨k.B, 1, none⟩ (.int .i64 ((n : Int) + 1))).setCell ⟨k.B, 0, none⟩ (.int .i64 ((p : Int) + 1))).alloc (.cells #[.slice A3 g.ids.length k3, .slice A4 g.ports.length k4] 30)).alloc (.cells #[.int .i64 1, .int .i64 arg] 43)).heap.size := by simp
  clear h hK hs hb0 t0 t1 hx hbg hbg0
  unfold execArgs
  go_enter Tryz.func32, Tryz.ntmps32
  go_wp2_with fail
  refine (rPush_any k _ (p + 1) (n + 1) st lps _ HM.out hn).mono ?_
  rintro e w3 ⟨u, rfl, hm⟩
  go_wp2_with fail
  go_end0
  exact ⟨_, rfl, hm⟩

set_option maxRecDepth 100000 in
set_option maxHeartbeats 2000000 in
theorem rExec2_any (k : Rc) (pr : Prg) (g : Graph) (c : Config) (l : List Term) (L A3 A4 A5 : Option Addr) (c0 k3 k4 k5 v : Nat) (hK : RcR k g c l L A3 A4 A5 k3 k4 k5) (hs : SOK pr g c v) (w : World) (p n : Nat) (st : List Int) (lps : List (Nat × List Int)) (arg : Int) (hp : p < l.length) (hx : l[p] = ⟨2, arg⟩) (hn : st.length ≤ 1000000) (hln : lps.length ≤ 1000000) (hnn : n ≤ 1000000) (hpp : p ≤ 1000000) (h : RM k w p n st lps) (ha : 0 ≤ arg ∧ arg < pr.vars.length) :
    Calls Tryz.prog 32 (execArgs k g c l L A3 A4 A5 c0 k3 k4 k5 v) w (RetRM k (p + 1) (n + 1) ((c.getD v []).getD arg.toNat 0 :: st) lps) := by
  obtain ⟨q, rfl⟩ := Int.eq_ofNat_of_zero_le ha.1
  obtain ⟨b0, o0, rfl, hb0, t0, t1⟩ := TermsR.at_ hK.1 p hp
  obtain ⟨y0, y1, yf0, yf1, yl, yb⟩ := h.cells
  have t0' := (yb.cell hb0).trans t0
  have t1' := (yb.cell hb0).trans t1
  rw [hx] at t0' t1'
  dsimp only at t0' t1'
  have hbl := Nat.lt_of_lt_of_le hb0 yb.size
  have hv := hs.node
  have hdp : decide (p < l.length) = true := by simpa using hp
  have hvc : v < c.length := by rw [hs.len]; exact hv
  have hac : q < c[v].length := by rw [hs.row hv]; omega
  obtain ⟨b1, o1, R, rc, rfl, hb1, hrow, hR, _, _⟩ := RowsAt.at_ hK.2.2 v hvc
  obtain ⟨b2, o2, rfl, hb2, hval⟩ := IntsR.at_ hR q hac
  have hdv : decide (v < c.length) = true := by simpa using hvc
  have hda : decide (q < c[v].length) = true := by simpa using hac
  have hiv : (v : Int) < (c.length : Int) := by omega
  have hia : (q : Int) < (c[v].length : Int) := by omega
  have HE : Hid (c[v][q] = (c.getD v []).getD (q : Int).toNat 0) := by
    show c[v][q] = (c.getD v []).getD (q : Int).toNat 0
    rw [Int.toNat_natCast, getD_eq hvc, getD_eq hac]
  rw [← HE.out]
  have HM : Hid (RM k ((((w.setCell ⟨k.B, 1, none⟩ (.int .i64 ((n : Int) + 1))).setCell ⟨k.B, 0, none⟩ (.int .i64 ((p : Int) + 1))).alloc (.cells #[.slice A3 g.ids.length k3, .slice A4 g.ports.length k4] 30)).alloc (.cells #[.int .i64 2, .int .i64 (q : Int)] 43)) (p + 1) (n + 1) st lps) := RM.keep (RM.keep (h.tick.goto (p + 1)) ((Bel.refl _).alloc _)) ((Bel.refl _).alloc _)
  have hbx : ((((w.setCell ⟨k.B, 1, none⟩ (.int .i64 ((n : Int) + 1))).setCell ⟨k.B, 0, none⟩ (.int .i64 ((p : Int) + 1))).alloc (.cells #[.slice A3 g.ids.length k3, .slice A4 g.ports.length k4] 30)).alloc (.cells #[.int .i64 2, .int .i64 (q : Int)] 43)).cell? ⟨w.heap.size + 1, 1, none⟩ = some (.int .i64 (q : Int)) := by go_simp
  have hbg : ((((w.setCell ⟨k.B, 1, none⟩ (.int .i64 ((n : Int) + 1))).setCell ⟨k.B, 0, none⟩ (.int .i64 ((p : Int) + 1))).alloc (.cells #[.slice A3 g.ids.length k3, .slice A4 g.ports.length k4] 30)).alloc (.cells #[.int .i64 2, .int .i64 (q : Int)] 43)).cell? ⟨w.heap.size, 1, none⟩ = some (.slice A4 g.ports.length k4) := by go_simp
  have hbg0 : ((((w.setCell ⟨k.B, 1, none⟩ (.int .i64 ((n : Int) + 1))).setCell ⟨k.B, 0, none⟩ (.int .i64 ((p : Int) + 1))).alloc (.cells #[.slice A3 g.ids.length k3, .slice A4 g.ports.length k4] 30)).alloc (.cells #[.int .i64 2, .int .i64 (q : Int)] 43)).cell? ⟨w.heap.size, 0, none⟩ = some (.slice A3 g.ids.length k3) := by go_simp
  have hbs : w.heap.size + 1 < ((((w.setCell ⟨k.B, 1, none⟩ (.int .i64 ((n : Int) + 1))).setCell ⟨k.B, 0, none⟩ (.int .i64 ((p : Int) + 1))).alloc (.cells #[.slice A3 g.ids.length k3, .slice A4 g.ports.length k4] 30)).alloc (.cells #[.int .i64 2, .int .i64 (q : Int)] 43)).heap.size := by simp
  have hbel := HM.out.cells.2.2.2.2.2
  have hrow' := (hbel.cell hb1).trans hrow
  have hval' := (hbel.cell hb2).trans hval
  clear h hK hs hb0 t0 t1 hx hR hrow hval hbg hbg0 hbel HE
  unfold execArgs
  go_enter Tryz.func32, Tryz.ntmps32
  go_wp2_with fail
  refine AnyE.start (fun w' => w'.cell? ⟨w.heap.size + 1, 1, none⟩ = some (.int .i64 (q : Int)) ∧ w'.cell? ⟨b1, o1 + v, none⟩ = some (.slice (some ⟨b2, o2, none⟩) c[v].length rc) ∧ w'.cell? ⟨b2, o2 + q, none⟩ = some (.int .i64 c[v][q]) ∧ w.heap.size + 1 < w'.heap.size) 9 (by kernel_rfl) ?_
  have hHeld : (fun w' => w'.cell? ⟨w.heap.size + 1, 1, none⟩ = some (.int .i64 (q : Int)) ∧ w'.cell? ⟨b1, o1 + v, none⟩ = some (.slice (some ⟨b2, o2, none⟩) c[v].length rc) ∧ w'.cell? ⟨b2, o2 + q, none⟩ = some (.int .i64 c[v][q]) ∧ w.heap.size + 1 < w'.heap.size) (((((w.setCell ⟨k.B, 1, none⟩ (.int .i64 ((n : Int) + 1))).setCell ⟨k.B, 0, none⟩ (.int .i64 ((p : Int) + 1))).alloc (.cells #[.slice A3 g.ids.length k3, .slice A4 g.ports.length k4] 30)).alloc (.cells #[.int .i64 2, .int .i64 (q : Int)] 43))).drew := ⟨hbx, hrow', hval', hbs⟩
  (refine AnyE.takeC (i := 0) (v := ?_) (some 67) rfl rfl (by kernel_rfl) (by kernel_rfl) (by kernel_rfl) (by kernel_rfl) (fun _ _ _ h => h) hHeld (Or.inl ⟨by rfl, ?_⟩) ?_; rotate_left 1; focus (intro w' hSw; (try dsimp only at hSw); go_simp; (try with_reducible rfl); done); (try simp only [Act.put, List.setIfInBounds_toArray, List.set_cons_zero, List.set_cons_succ]))
  (refine AnyE.takeC (i := 1) (v := ?_) (some 68) rfl rfl (by kernel_rfl) (by kernel_rfl) (by kernel_rfl) (by kernel_rfl) (fun _ _ _ h => h) hHeld (Or.inl ⟨by rfl, ?_⟩) ?_; rotate_left 1; focus (intro w' hSw; (try dsimp only at hSw); go_simp; (try with_reducible rfl); done); (try simp only [Act.put, List.setIfInBounds_toArray, List.set_cons_zero, List.set_cons_succ]))
  (refine AnyE.takeC (i := 2) (v := ?_) (some 69) rfl rfl (by kernel_rfl) (by kernel_rfl) (by kernel_rfl) (by kernel_rfl) (fun _ _ _ h => h) hHeld (Or.inl ⟨by rfl, ?_⟩) ?_; rotate_left 1; focus (intro w' hSw; (try dsimp only at hSw); go_simp; (try with_reducible rfl); done); (try simp only [Act.put, List.setIfInBounds_toArray, List.set_cons_zero, List.set_cons_succ]))
  (refine AnyE.takeC (i := 3) (v := ?_) (some 70) rfl rfl (by kernel_rfl) (by kernel_rfl) (by kernel_rfl) (by kernel_rfl) (fun _ _ _ h => h) hHeld (Or.inl ⟨by rfl, ?_⟩) ?_; rotate_left 1; focus (intro w' hSw; (try dsimp only at hSw); go_simp; (try with_reducible rfl); done); (try simp only [Act.put, List.setIfInBounds_toArray, List.set_cons_zero, List.set_cons_succ]))
  (refine AnyE.takeC (i := 4) (v := ?_) (some 71) rfl rfl (by kernel_rfl) (by kernel_rfl) (by kernel_rfl) (by kernel_rfl) (fun _ _ _ h => h) hHeld (Or.inl ⟨by rfl, ?_⟩) ?_; rotate_left 1; focus (intro w' hSw; (try dsimp only at hSw); go_simp; (try with_reducible rfl); done); (try simp only [Act.put, List.setIfInBounds_toArray, List.set_cons_zero, List.set_cons_succ]))
  (refine AnyE.takeC (i := 5) (v := ?_) (some 72) rfl rfl (by kernel_rfl) (by kernel_rfl) (by kernel_rfl) (by kernel_rfl) (fun _ _ _ h => h) hHeld (Or.inl ⟨by rfl, ?_⟩) ?_; rotate_left 1; focus (intro w' hSw; (try dsimp only at hSw); go_simp; (try with_reducible rfl); done); (try simp only [Act.put, List.setIfInBounds_toArray, List.set_cons_zero, List.set_cons_succ]))
  (refine AnyE.takeC (i := 6) (v := ?_) (some 73) rfl rfl (by kernel_rfl) (by kernel_rfl) (by kernel_rfl) (by kernel_rfl) (fun _ _ _ h => h) hHeld (Or.inl ⟨by rfl, ?_⟩) ?_; rotate_left 1; focus (intro w' hSw; (try dsimp only at hSw); go_simp; (try with_reducible rfl); done); (try simp only [Act.put, List.setIfInBounds_toArray, List.set_cons_zero, List.set_cons_succ]))
  (refine AnyE.takeC (i := 7) (v := ?_) (some 74) rfl rfl (by kernel_rfl) (by kernel_rfl) (by kernel_rfl) (by kernel_rfl) (fun _ _ _ h => h) hHeld (Or.inl ⟨by rfl, ?_⟩) ?_; rotate_left 1; focus (intro w' hSw; (try dsimp only at hSw); go_simp; (try with_reducible rfl); done); (try simp only [Act.put, List.setIfInBounds_toArray, List.set_cons_zero, List.set_cons_succ]))
  (refine AnyE.takeC (i := 8) (v := ?_) (some 75) rfl rfl (by kernel_rfl) (by kernel_rfl) (by kernel_rfl) (by kernel_rfl) (fun _ _ _ h => h) hHeld (Or.inl ⟨by rfl, ?_⟩) ?_; rotate_left 1; focus (intro w' hSw; (try dsimp only at hSw); go_simp; (try with_reducible rfl); done); (try simp only [Act.put, List.setIfInBounds_toArray, List.set_cons_zero, List.set_cons_succ]))
  refine AnyE.one (i := 9) (by kernel_rfl) rfl (fun K hK => ?_)
  go_simp
  go_at_call 67
  refine (rPush_any k _ (p + 1) (n + 1) st lps _ HM.out.drew hn).mono ?_
  rintro e w3 ⟨u, rfl, hm⟩
  have HM3 := Lib.hid hm
  clear hm
  (try go_simp)
  refine hK.out _ _ (fun h => absurd rfl h) ?_
  clear hK K hHeld
  refine AnyE.done (by kernel_rfl) ?_ _
  go_wp2_with fail
  go_end0
  exact ⟨_, rfl, HM3.out⟩

set_option maxRecDepth 100000 in
set_option maxHeartbeats 2000000 in
theorem rExec3_any (k : Rc) (pr : Prg) (g : Graph) (c : Config) (l : List Term) (L A3 A4 A5 : Option Addr) (c0 k3 k4 k5 v : Nat) (hK : RcR k g c l L A3 A4 A5 k3 k4 k5) (hs : SOK pr g c v) (w : World) (p n : Nat) (st : List Int) (lps : List (Nat × List Int)) (arg : Int) (hp : p < l.length) (hx : l[p] = ⟨3, arg⟩) (hn : st.length ≤ 1000000) (hln : lps.length ≤ 1000000) (hnn : n ≤ 1000000) (hpp : p ≤ 1000000) (h : RM k w p n st lps) (q : Nat) (ha : 0 ≤ arg ∧ arg < pr.vars.length) (hpq : portM ⟨p, st, lps⟩ = (q : Int)) (hq : q < (g.ports.getD v []).length) :
    Calls Tryz.prog 32 (execArgs k g c l L A3 A4 A5 c0 k3 k4 k5 v) w (RetRM k (p + 1) (n + 1) ((c.getD (linkF g v (q : Int)).to.toNat []).getD arg.toNat 0 :: st) lps) := by
  obtain ⟨i, rfl⟩ := Int.eq_ofNat_of_zero_le ha.1
  obtain ⟨b0, o0, rfl, hb0, t0, t1⟩ := TermsR.at_ hK.1 p hp
  obtain ⟨y0, y1, yf0, yf1, yl, yb⟩ := h.cells
  have t0' := (yb.cell hb0).trans t0
  have t1' := (yb.cell hb0).trans t1
  rw [hx] at t0' t1'
  dsimp only at t0' t1'
  have hbl := Nat.lt_of_lt_of_le hb0 yb.size
  have hv := hs.node
  have hdp : decide (p < l.length) = true := by simpa using hp
  obtain ⟨A', k', A2', k2', eG, _, _, _, hP, _, _⟩ := hK.2.1
  obtain ⟨⟨rfl, rfl⟩, rfl, rfl⟩ : (A3 = A' ∧ k3 = k') ∧ A4 = A2' ∧ k4 = k2' := by simpa using eG
  obtain ⟨b4, o4, K, ck, rfl, hb4, hrow4, hL4, _, _⟩ := RowsAt.at_ hP v hv
  rw [getD_eq hv] at hq
  obtain ⟨e, t, ht, htl, _⟩ := link_at hs.gok hv hq
  obtain ⟨b5, o5, rfl, hb5, hto, _⟩ := LinksR.at_ hL4 q hq
  rw [ht] at hto
  have htc : t < c.length := by rw [hs.len]; exact htl
  have hac : i < c[t].length := by rw [hs.row htl]; omega
  obtain ⟨b1, o1, R, rc, rfl, hb1, hrow, hR, _, _⟩ := RowsAt.at_ hK.2.2 t htc
  obtain ⟨b2, o2, rfl, hb2, hval⟩ := IntsR.at_ hR i hac
  have hiv : (v : Int) < (g.ports.length : Int) := by omega
  have hiq : (q : Int) < (g.ports[v].length : Int) := by omega
  have hit : (t : Int) < (c.length : Int) := by omega
  have hii : (i : Int) < (c[t].length : Int) := by omega
  have hdt : decide (t < c.length) = true := by simpa using htc
  have hda : decide (i < c[t].length) = true := by simpa using hac
  have hdq : decide (q < g.ports[v].length) = true := by simpa using hq
  have hdv : decide (v < g.ports.length) = true := by simpa using hv
  have HE : Hid (c[t][i] = (c.getD (linkF g v (q : Int)).to.toNat []).getD (i : Int).toNat 0) := by
    show c[t][i] = (c.getD (linkF g v (q : Int)).to.toNat []).getD (i : Int).toNat 0
    rw [e, ht, Int.toNat_natCast, Int.toNat_natCast, getD_eq htc, getD_eq hac]
  rw [← HE.out]
  have HM : Hid (RM k ((((w.setCell ⟨k.B, 1, none⟩ (.int .i64 ((n : Int) + 1))).setCell ⟨k.B, 0, none⟩ (.int .i64 ((p : Int) + 1))).alloc (.cells #[.slice A3 g.ids.length k3, .slice (some ⟨b4, o4, none⟩) g.ports.length k4] 30)).alloc (.cells #[.int .i64 3, .int .i64 (i : Int)] 43)) (p + 1) (n + 1) st lps) := RM.keep (RM.keep (h.tick.goto (p + 1)) ((Bel.refl _).alloc _)) ((Bel.refl _).alloc _)
  have hbx : ((((w.setCell ⟨k.B, 1, none⟩ (.int .i64 ((n : Int) + 1))).setCell ⟨k.B, 0, none⟩ (.int .i64 ((p : Int) + 1))).alloc (.cells #[.slice A3 g.ids.length k3, .slice (some ⟨b4, o4, none⟩) g.ports.length k4] 30)).alloc (.cells #[.int .i64 3, .int .i64 (i : Int)] 43)).cell? ⟨w.heap.size + 1, 1, none⟩ = some (.int .i64 (i : Int)) := by go_simp
  have hbg : ((((w.setCell ⟨k.B, 1, none⟩ (.int .i64 ((n : Int) + 1))).setCell ⟨k.B, 0, none⟩ (.int .i64 ((p : Int) + 1))).alloc (.cells #[.slice A3 g.ids.length k3, .slice (some ⟨b4, o4, none⟩) g.ports.length k4] 30)).alloc (.cells #[.int .i64 3, .int .i64 (i : Int)] 43)).cell? ⟨w.heap.size, 1, none⟩ = some (.slice (some ⟨b4, o4, none⟩) g.ports.length k4) := by go_simp
  have hbg0 : ((((w.setCell ⟨k.B, 1, none⟩ (.int .i64 ((n : Int) + 1))).setCell ⟨k.B, 0, none⟩ (.int .i64 ((p : Int) + 1))).alloc (.cells #[.slice A3 g.ids.length k3, .slice (some ⟨b4, o4, none⟩) g.ports.length k4] 30)).alloc (.cells #[.int .i64 3, .int .i64 (i : Int)] 43)).cell? ⟨w.heap.size, 0, none⟩ = some (.slice A3 g.ids.length k3) := by go_simp
  have hbs : w.heap.size + 1 < ((((w.setCell ⟨k.B, 1, none⟩ (.int .i64 ((n : Int) + 1))).setCell ⟨k.B, 0, none⟩ (.int .i64 ((p : Int) + 1))).alloc (.cells #[.slice A3 g.ids.length k3, .slice (some ⟨b4, o4, none⟩) g.ports.length k4] 30)).alloc (.cells #[.int .i64 3, .int .i64 (i : Int)] 43)).heap.size := by simp
  have hbel := HM.out.cells.2.2.2.2.2
  have hcell := Lib.hid (fun (w' : World) (kk : Bel ((((w.setCell ⟨k.B, 1, none⟩ (.int .i64 ((n : Int) + 1))).setCell ⟨k.B, 0, none⟩ (.int .i64 ((p : Int) + 1))).alloc (.cells #[.slice A3 g.ids.length k3, .slice (some ⟨b4, o4, none⟩) g.ports.length k4] 30)).alloc (.cells #[.int .i64 3, .int .i64 (i : Int)] 43)) w') => show w'.cell? ⟨w.heap.size + 1, 1, none⟩ = some (.int .i64 (i : Int)) ∧ w'.cell? ⟨w.heap.size, 1, none⟩ = some (.slice (some ⟨b4, o4, none⟩) g.ports.length k4) ∧ w'.cell? ⟨b4, o4 + v, none⟩ = some (.slice (some ⟨b5, o5, none⟩) g.ports[v].length ck) ∧ w'.cell? ⟨b5, o5 + q * 2, none⟩ = some (.int .i64 (t : Int)) ∧ w'.cell? ⟨b1, o1 + t, none⟩ = some (.slice (some ⟨b2, o2, none⟩) c[t].length rc) ∧ w'.cell? ⟨b2, o2 + i, none⟩ = some (.int .i64 c[t][i]) ∧ w.heap.size + 1 < w'.heap.size from ⟨(kk.cell hbs).trans hbx, (kk.cell (Nat.lt_of_succ_lt hbs)).trans hbg, ((hbel.trans kk).cell hb4).trans hrow4, ((hbel.trans kk).cell hb5).trans hto, ((hbel.trans kk).cell hb1).trans hrow, ((hbel.trans kk).cell hb2).trans hval, Nat.lt_of_lt_of_le hbs kk.size⟩)
  have HPQ := Lib.hid (show portM ⟨p + 1, st, lps⟩ = (q : Int) from hpq)
  clear h hK hs hb0 t0 t1 hx hR hrow hval hbg hbg0 hbel HE hpq e ht hto hrow4 hL4 hP eG hbx ha
  unfold execArgs
  go_enter Tryz.func32, Tryz.ntmps32
  go_wp2_with fail
  refine AnyE.start (fun w' => w'.cell? ⟨w.heap.size + 1, 1, none⟩ = some (.int .i64 (i : Int)) ∧ w'.cell? ⟨w.heap.size, 1, none⟩ = some (.slice (some ⟨b4, o4, none⟩) g.ports.length k4) ∧ w'.cell? ⟨b4, o4 + v, none⟩ = some (.slice (some ⟨b5, o5, none⟩) g.ports[v].length ck) ∧ w'.cell? ⟨b5, o5 + q * 2, none⟩ = some (.int .i64 (t : Int)) ∧ w'.cell? ⟨b1, o1 + t, none⟩ = some (.slice (some ⟨b2, o2, none⟩) c[t].length rc) ∧ w'.cell? ⟨b2, o2 + i, none⟩ = some (.int .i64 c[t][i]) ∧ w.heap.size + 1 < w'.heap.size) 18 (by kernel_rfl) ?_
  have HB := (Bel.refl (((((w.setCell ⟨k.B, 1, none⟩ (.int .i64 ((n : Int) + 1))).setCell ⟨k.B, 0, none⟩ (.int .i64 ((p : Int) + 1))).alloc (.cells #[.slice A3 g.ids.length k3, .slice (some ⟨b4, o4, none⟩) g.ports.length k4] 30)).alloc (.cells #[.int .i64 3, .int .i64 (i : Int)] 43)))).drew
  have hHeld := hcell.out _ HB
  (refine AnyE.takeC (i := 0) (v := ?_) (some 79) rfl rfl (by kernel_rfl) (by kernel_rfl) (by kernel_rfl) (by kernel_rfl) (fun _ _ _ h => h) hHeld (Or.inl ⟨by rfl, ?_⟩) ?_; rotate_left 1; focus (intro w' hSw; (try dsimp only at hSw); go_simp; (try with_reducible rfl); done); (try simp only [Act.put, List.setIfInBounds_toArray, List.set_cons_zero, List.set_cons_succ]))
  (refine AnyE.takeC (i := 1) (v := ?_) (some 80) rfl rfl (by kernel_rfl) (by kernel_rfl) (by kernel_rfl) (by kernel_rfl) (fun _ _ _ h => h) hHeld (Or.inl ⟨by rfl, ?_⟩) ?_; rotate_left 1; focus (intro w' hSw; (try dsimp only at hSw); go_simp; (try with_reducible rfl); done); (try simp only [Act.put, List.setIfInBounds_toArray, List.set_cons_zero, List.set_cons_succ]))
  (refine AnyE.takeC (i := 2) (v := ?_) (some 81) rfl rfl (by kernel_rfl) (by kernel_rfl) (by kernel_rfl) (by kernel_rfl) (fun _ _ _ h => h) hHeld (Or.inl ⟨by rfl, ?_⟩) ?_; rotate_left 1; focus (intro w' hSw; (try dsimp only at hSw); go_simp; (try with_reducible rfl); done); (try simp only [Act.put, List.setIfInBounds_toArray, List.set_cons_zero, List.set_cons_succ]))
  (refine AnyE.takeC (i := 3) (v := ?_) (some 82) rfl rfl (by kernel_rfl) (by kernel_rfl) (by kernel_rfl) (by kernel_rfl) (fun _ _ _ h => h) hHeld (Or.inl ⟨by rfl, ?_⟩) ?_; rotate_left 1; focus (intro w' hSw; (try dsimp only at hSw); go_simp; (try with_reducible rfl); done); (try simp only [Act.put, List.setIfInBounds_toArray, List.set_cons_zero, List.set_cons_succ]))
  (refine AnyE.takeC (i := 4) (v := ?_) (some 83) rfl rfl (by kernel_rfl) (by kernel_rfl) (by kernel_rfl) (by kernel_rfl) (fun _ _ _ h => h) hHeld (Or.inl ⟨by rfl, ?_⟩) ?_; rotate_left 1; focus (intro w' hSw; (try dsimp only at hSw); go_simp; (try with_reducible rfl); done); (try simp only [Act.put, List.setIfInBounds_toArray, List.set_cons_zero, List.set_cons_succ]))
  (refine AnyE.takeC (i := 5) (v := ?_) (some 84) rfl rfl (by kernel_rfl) (by kernel_rfl) (by kernel_rfl) (by kernel_rfl) (fun _ _ _ h => h) hHeld (Or.inl ⟨by rfl, ?_⟩) ?_; rotate_left 1; focus (intro w' hSw; (try dsimp only at hSw); go_simp; (try with_reducible rfl); done); (try simp only [Act.put, List.setIfInBounds_toArray, List.set_cons_zero, List.set_cons_succ]))
  (refine AnyE.takeC (i := 6) (v := ?_) (some 85) rfl rfl (by kernel_rfl) (by kernel_rfl) (by kernel_rfl) (by kernel_rfl) (fun _ _ _ h => h) hHeld (Or.inl ⟨by rfl, ?_⟩) ?_; rotate_left 1; focus (intro w' hSw; (try dsimp only at hSw); go_simp; (try with_reducible rfl); done); (try simp only [Act.put, List.setIfInBounds_toArray, List.set_cons_zero, List.set_cons_succ]))
  (refine AnyE.takeC (i := 7) (v := ?_) (some 86) rfl rfl (by kernel_rfl) (by kernel_rfl) (by kernel_rfl) (by kernel_rfl) (fun _ _ _ h => h) hHeld (Or.inl ⟨by rfl, ?_⟩) ?_; rotate_left 1; focus (intro w' hSw; (try dsimp only at hSw); go_simp; (try with_reducible rfl); done); (try simp only [Act.put, List.setIfInBounds_toArray, List.set_cons_zero, List.set_cons_succ]))
  (refine AnyE.takeC (i := 14) (v := ?_) (some 93) rfl rfl (by kernel_rfl) (by kernel_rfl) (by kernel_rfl) (by kernel_rfl) (fun _ _ _ h => h) hHeld (Or.inl ⟨by rfl, ?_⟩) ?_; rotate_left 1; focus (intro w' hSw; (try dsimp only at hSw); go_simp; (try with_reducible rfl); done); (try simp only [Act.put, List.setIfInBounds_toArray, List.set_cons_zero, List.set_cons_succ]))
  (refine AnyE.takeC (i := 15) (v := ?_) (some 94) rfl rfl (by kernel_rfl) (by kernel_rfl) (by kernel_rfl) (by kernel_rfl) (fun _ _ _ h => h) hHeld (Or.inl ⟨by rfl, ?_⟩) ?_; rotate_left 1; focus (intro w' hSw; (try dsimp only at hSw); go_simp; (try with_reducible rfl); done); (try simp only [Act.put, List.setIfInBounds_toArray, List.set_cons_zero, List.set_cons_succ]))
  refine AnyE.one (i := 8) (by kernel_rfl) rfl (fun K hK => ?_)
  go_simp
  go_at_call 68
  refine (rPort_any k _ (p + 1) (n + 1) st lps _ HM.out.drew HPQ.out hln).mono ?_
  rintro e w4 ⟨rfl, hbb⟩
  replace HM := Lib.hid (HM.out.drew.keep hbb)
  replace HB := HB.trans hbb
  clear hbb hHeld
  (try go_simp)
  refine hK.out _ _ (fun _ => hcell.out _ HB) ?_
  clear hK K
  have hHeld := hcell.out _ HB
  (try simp only [Act.put, List.setIfInBounds_toArray, List.set_cons_zero, List.set_cons_succ])
  (refine AnyE.takeC (i := 9) (v := ?_) (some 88) rfl rfl (by kernel_rfl) (by kernel_rfl) (by kernel_rfl) (by kernel_rfl) (fun _ _ _ h => h) hHeld (Or.inl ⟨by rfl, ?_⟩) ?_; rotate_left 1; focus (intro w' hSw; (try dsimp only at hSw); go_simp; (try with_reducible rfl); done); (try simp only [Act.put, List.setIfInBounds_toArray, List.set_cons_zero, List.set_cons_succ]))
  (refine AnyE.takeC (i := 10) (v := ?_) (some 89) rfl rfl (by kernel_rfl) (by kernel_rfl) (by kernel_rfl) (by kernel_rfl) (fun _ _ _ h => h) hHeld (Or.inl ⟨by rfl, ?_⟩) ?_; rotate_left 1; focus (intro w' hSw; (try dsimp only at hSw); go_simp; (try with_reducible rfl); done); (try simp only [Act.put, List.setIfInBounds_toArray, List.set_cons_zero, List.set_cons_succ]))
  (refine AnyE.takeC (i := 11) (v := ?_) (some 90) rfl rfl (by kernel_rfl) (by kernel_rfl) (by kernel_rfl) (by kernel_rfl) (fun _ _ _ h => h) hHeld (Or.inl ⟨by rfl, ?_⟩) ?_; rotate_left 1; focus (intro w' hSw; (try dsimp only at hSw); go_simp; (try with_reducible rfl); done); (try simp only [Act.put, List.setIfInBounds_toArray, List.set_cons_zero, List.set_cons_succ]))
  (refine AnyE.takeC (i := 12) (v := ?_) (some 91) rfl rfl (by kernel_rfl) (by kernel_rfl) (by kernel_rfl) (by kernel_rfl) (fun _ _ _ h => h) hHeld (Or.inl ⟨by rfl, ?_⟩) ?_; rotate_left 1; focus (intro w' hSw; (try dsimp only at hSw); go_simp; (try with_reducible rfl); done); (try simp only [Act.put, List.setIfInBounds_toArray, List.set_cons_zero, List.set_cons_succ]))
  (refine AnyE.takeC (i := 13) (v := ?_) (some 92) rfl rfl (by kernel_rfl) (by kernel_rfl) (by kernel_rfl) (by kernel_rfl) (fun _ _ _ h => h) hHeld (Or.inl ⟨by rfl, ?_⟩) ?_; rotate_left 1; focus (intro w' hSw; (try dsimp only at hSw); go_simp; (try with_reducible rfl); done); (try simp only [Act.put, List.setIfInBounds_toArray, List.set_cons_zero, List.set_cons_succ]))
  (refine AnyE.takeC (i := 16) (v := ?_) (some 95) rfl rfl (by kernel_rfl) (by kernel_rfl) (by kernel_rfl) (by kernel_rfl) (fun _ _ _ h => h) hHeld (Or.inl ⟨by rfl, ?_⟩) ?_; rotate_left 1; focus (intro w' hSw; (try dsimp only at hSw); go_simp; (try with_reducible rfl); done); (try simp only [Act.put, List.setIfInBounds_toArray, List.set_cons_zero, List.set_cons_succ]))
  (refine AnyE.takeC (i := 17) (v := ?_) (some 96) rfl rfl (by kernel_rfl) (by kernel_rfl) (by kernel_rfl) (by kernel_rfl) (fun _ _ _ h => h) hHeld (Or.inl ⟨by rfl, ?_⟩) ?_; rotate_left 1; focus (intro w' hSw; (try dsimp only at hSw); go_simp; (try with_reducible rfl); done); (try simp only [Act.put, List.setIfInBounds_toArray, List.set_cons_zero, List.set_cons_succ]))
  refine AnyE.one (i := 18) (by kernel_rfl) rfl (fun K hK => ?_)
  go_simp
  go_at_call 67
  refine (rPush_any k _ (p + 1) (n + 1) st lps _ HM.out hn).mono ?_
  rintro e w3 ⟨u, rfl, hm⟩
  have HM3 := Lib.hid hm
  clear hm
  (try go_simp)
  refine hK.out _ _ (fun h => absurd rfl h) ?_
  clear hK K hHeld
  refine AnyE.done (by kernel_rfl) ?_ _
  go_wp2_with fail
  go_end0
  exact ⟨_, rfl, HM3.out⟩

set_option maxRecDepth 100000 in
set_option maxHeartbeats 2000000 in
theorem rExec4_any (k : Rc) (pr : Prg) (g : Graph) (c : Config) (l : List Term) (L A3 A4 A5 : Option Addr) (c0 k3 k4 k5 v : Nat) (hK : RcR k g c l L A3 A4 A5 k3 k4 k5) (hs : SOK pr g c v) (w : World) (p n : Nat) (st : List Int) (lps : List (Nat × List Int)) (arg : Int) (hp : p < l.length) (hx : l[p] = ⟨4, arg⟩) (hn : st.length ≤ 1000000) (hln : lps.length ≤ 1000000) (hnn : n ≤ 1000000) (hpp : p ≤ 1000000) (h : RM k w p n st lps) (x : Int) (ha : 6 ≤ arg ∧ arg ≤ 17 ∧ arg ≠ 12) (hpq : portM ⟨p, st, lps⟩ = x) (hpo : portOK g v (nearOp arg) x) :
    Calls Tryz.prog 32 (execArgs k g c l L A3 A4 A5 c0 k3 k4 k5 v) w (RetRM k (p + 1) (n + 1) (factF g arg v x :: st) lps) := by
  obtain ⟨b0, o0, rfl, hb0, t0, t1⟩ := TermsR.at_ hK.1 p hp
  obtain ⟨y0, y1, yf0, yf1, yl, yb⟩ := h.cells
  have t0' := (yb.cell hb0).trans t0
  have t1' := (yb.cell hb0).trans t1
  rw [hx] at t0' t1'
  dsimp only at t0' t1'
  have hbl := Nat.lt_of_lt_of_le hb0 yb.size
  have hv := hs.node
  have hdp : decide (p < l.length) = true := by simpa using hp
  have HM : Hid (RM k ((((w.setCell ⟨k.B, 1, none⟩ (.int .i64 ((n : Int) + 1))).setCell ⟨k.B, 0, none⟩ (.int .i64 ((p : Int) + 1))).alloc (.cells #[.slice A3 g.ids.length k3, .slice A4 g.ports.length k4] 30)).alloc (.cells #[.int .i64 4, .int .i64 arg] 43)) (p + 1) (n + 1) st lps) := RM.keep (RM.keep (h.tick.goto (p + 1)) ((Bel.refl _).alloc _)) ((Bel.refl _).alloc _)
  have hbx : ((((w.setCell ⟨k.B, 1, none⟩ (.int .i64 ((n : Int) + 1))).setCell ⟨k.B, 0, none⟩ (.int .i64 ((p : Int) + 1))).alloc (.cells #[.slice A3 g.ids.length k3, .slice A4 g.ports.length k4] 30)).alloc (.cells #[.int .i64 4, .int .i64 arg] 43)).cell? ⟨w.heap.size + 1, 1, none⟩ = some (.int .i64 arg) := by go_simp
  have hbg : ((((w.setCell ⟨k.B, 1, none⟩ (.int .i64 ((n : Int) + 1))).setCell ⟨k.B, 0, none⟩ (.int .i64 ((p : Int) + 1))).alloc (.cells #[.slice A3 g.ids.length k3, .slice A4 g.ports.length k4] 30)).alloc (.cells #[.int .i64 4, .int .i64 arg] 43)).cell? ⟨w.heap.size, 1, none⟩ = some (.slice A4 g.ports.length k4) := by go_simp
  have hbg0 : ((((w.setCell ⟨k.B, 1, none⟩ (.int .i64 ((n : Int) + 1))).setCell ⟨k.B, 0, none⟩ (.int .i64 ((p : Int) + 1))).alloc (.cells #[.slice A3 g.ids.length k3, .slice A4 g.ports.length k4] 30)).alloc (.cells #[.int .i64 4, .int .i64 arg] 43)).cell? ⟨w.heap.size, 0, none⟩ = some (.slice A3 g.ids.length k3) := by go_simp
  have hbs : w.heap.size + 1 < ((((w.setCell ⟨k.B, 1, none⟩ (.int .i64 ((n : Int) + 1))).setCell ⟨k.B, 0, none⟩ (.int .i64 ((p : Int) + 1))).alloc (.cells #[.slice A3 g.ids.length k3, .slice A4 g.ports.length k4] 30)).alloc (.cells #[.int .i64 4, .int .i64 arg] 43)).heap.size := by simp
  have hbel := HM.out.cells.2.2.2.2.2
  have hcell := Lib.hid (fun (w' : World) (kk : Bel ((((w.setCell ⟨k.B, 1, none⟩ (.int .i64 ((n : Int) + 1))).setCell ⟨k.B, 0, none⟩ (.int .i64 ((p : Int) + 1))).alloc (.cells #[.slice A3 g.ids.length k3, .slice A4 g.ports.length k4] 30)).alloc (.cells #[.int .i64 4, .int .i64 arg] 43)) w') => show w'.cell? ⟨w.heap.size + 1, 1, none⟩ = some (.int .i64 arg) ∧ w'.cell? ⟨w.heap.size, 0, none⟩ = some (.slice A3 g.ids.length k3) ∧ w'.cell? ⟨w.heap.size, 1, none⟩ = some (.slice A4 g.ports.length k4) ∧ w.heap.size + 1 < w'.heap.size from ⟨(kk.cell hbs).trans hbx, (kk.cell (Nat.lt_of_succ_lt hbs)).trans hbg0, (kk.cell (Nat.lt_of_succ_lt hbs)).trans hbg, Nat.lt_of_lt_of_le hbs kk.size⟩)
  have HPQ := Lib.hid (show portM ⟨p + 1, st, lps⟩ = x from hpq)
  have HA := Lib.hid ha
  have HPO := Lib.hid hpo
  have HGO := Lib.hid hs.gok
  have HGV := Lib.hid (hK.2.1.keep hbel)
  clear h hK hs hb0 t0 t1 hx hbg hbg0 hbel hpq hbx ha hpo
  unfold execArgs
  go_enter Tryz.func32, Tryz.ntmps32
  go_wp2_with fail
  refine AnyE.start (fun w' => w'.cell? ⟨w.heap.size + 1, 1, none⟩ = some (.int .i64 arg) ∧ w'.cell? ⟨w.heap.size, 0, none⟩ = some (.slice A3 g.ids.length k3) ∧ w'.cell? ⟨w.heap.size, 1, none⟩ = some (.slice A4 g.ports.length k4) ∧ w.heap.size + 1 < w'.heap.size) 8 (by kernel_rfl) ?_
  have HB := (Bel.refl (((((w.setCell ⟨k.B, 1, none⟩ (.int .i64 ((n : Int) + 1))).setCell ⟨k.B, 0, none⟩ (.int .i64 ((p : Int) + 1))).alloc (.cells #[.slice A3 g.ids.length k3, .slice A4 g.ports.length k4] 30)).alloc (.cells #[.int .i64 4, .int .i64 arg] 43)))).drew
  have hHeld := hcell.out _ HB
  (refine AnyE.takeC (i := 0) (v := ?_) (some 100) rfl rfl (by kernel_rfl) (by kernel_rfl) (by kernel_rfl) (by kernel_rfl) (fun _ _ _ h => h) hHeld (Or.inl ⟨by rfl, ?_⟩) ?_; rotate_left 1; focus (intro w' hSw; (try dsimp only at hSw); go_simp; (try with_reducible rfl); done); (try simp only [Act.put, List.setIfInBounds_toArray, List.set_cons_zero, List.set_cons_succ]))
  (refine AnyE.takeC (i := 1) (v := ?_) (some 101) rfl rfl (by kernel_rfl) (by kernel_rfl) (by kernel_rfl) (by kernel_rfl) (fun _ _ _ h => h) hHeld (Or.inl ⟨by rfl, ?_⟩) ?_; rotate_left 1; focus (intro w' hSw; (try dsimp only at hSw); go_simp; (try with_reducible rfl); done); (try simp only [Act.put, List.setIfInBounds_toArray, List.set_cons_zero, List.set_cons_succ]))
  (refine AnyE.takeC (i := 2) (v := ?_) (some 102) rfl rfl (by kernel_rfl) (by kernel_rfl) (by kernel_rfl) (by kernel_rfl) (fun _ _ _ h => h) hHeld (Or.inl ⟨by rfl, ?_⟩) ?_; rotate_left 1; focus (intro w' hSw; (try dsimp only at hSw); go_simp; (try with_reducible rfl); done); (try simp only [Act.put, List.setIfInBounds_toArray, List.set_cons_zero, List.set_cons_succ]))
  (refine AnyE.takeC (i := 3) (v := ?_) (some 103) rfl rfl (by kernel_rfl) (by kernel_rfl) (by kernel_rfl) (by kernel_rfl) (fun _ _ _ h => h) hHeld (Or.inl ⟨by rfl, ?_⟩) ?_; rotate_left 1; focus (intro w' hSw; (try dsimp only at hSw); go_simp; (try with_reducible rfl); done); (try simp only [Act.put, List.setIfInBounds_toArray, List.set_cons_zero, List.set_cons_succ]))
  (refine AnyE.takeC (i := 4) (v := ?_) (some 104) rfl rfl (by kernel_rfl) (by kernel_rfl) (by kernel_rfl) (by kernel_rfl) (fun _ _ _ h => h) hHeld (Or.inl ⟨by rfl, ?_⟩) ?_; rotate_left 1; focus (intro w' hSw; (try dsimp only at hSw); go_simp; (try with_reducible rfl); done); (try simp only [Act.put, List.setIfInBounds_toArray, List.set_cons_zero, List.set_cons_succ]))
  (refine AnyE.takeC (i := 5) (v := ?_) (some 105) rfl rfl (by kernel_rfl) (by kernel_rfl) (by kernel_rfl) (by kernel_rfl) (fun _ _ _ h => h) hHeld (Or.inl ⟨by rfl, ?_⟩) ?_; rotate_left 1; focus (intro w' hSw; (try dsimp only at hSw); go_simp; (try with_reducible rfl); done); (try simp only [Act.put, List.setIfInBounds_toArray, List.set_cons_zero, List.set_cons_succ]))
  refine AnyE.one (i := 6) (by kernel_rfl) rfl (fun K hK => ?_)
  go_simp
  go_at_call 68
  refine (rPort_any k _ (p + 1) (n + 1) st lps _ HM.out.drew HPQ.out hln).mono ?_
  rintro e w4 ⟨rfl, hbb⟩
  replace HM := Lib.hid (HM.out.drew.keep hbb)
  replace HB := HB.trans hbb
  clear hbb hHeld
  (try go_simp)
  refine hK.out _ _ (fun _ => hcell.out _ HB) ?_
  clear hK K
  (try simp only [Act.put, List.setIfInBounds_toArray, List.set_cons_zero, List.set_cons_succ])
  refine AnyE.one (i := 7) (by kernel_rfl) rfl (fun K hK => ?_)
  go_simp
  go_at_call 69
  refine (refFact_any _ g arg v x (nearOp arg) _ (HGV.out.keep HB) HGO.out hv HA.out id HPO.out).mono ?_
  rintro e w5 ⟨rfl, hbb⟩
  replace HM := Lib.hid (HM.out.keep hbb)
  replace HB := HB.trans hbb
  clear hbb
  (try go_simp)
  refine hK.out _ _ (fun _ => hcell.out _ HB) ?_
  clear hK K
  have hHeld := hcell.out _ HB
  (try simp only [Act.put, List.setIfInBounds_toArray, List.set_cons_zero, List.set_cons_succ])
  refine AnyE.one (i := 8) (by kernel_rfl) rfl (fun K hK => ?_)
  go_simp
  go_at_call 67
  refine (rPush_any k _ (p + 1) (n + 1) st lps _ HM.out hn).mono ?_
  rintro e w3 ⟨u, rfl, hm⟩
  have HM3 := Lib.hid hm
  clear hm
  (try go_simp)
  refine hK.out _ _ (fun h => absurd rfl h) ?_
  clear hK K hHeld
  refine AnyE.done (by kernel_rfl) ?_ _
  go_wp2_with fail
  go_end0
  exact ⟨_, rfl, HM3.out⟩

set_option maxRecDepth 100000 in
set_option maxHeartbeats 2000000 in
theorem rExec5_any (k : Rc) (pr : Prg) (g : Graph) (c : Config) (l : List Term) (L A3 A4 A5 : Option Addr) (c0 k3 k4 k5 v : Nat) (hK : RcR k g c l L A3 A4 A5 k3 k4 k5) (hs : SOK pr g c v) (w : World) (p n : Nat) (st : List Int) (lps : List (Nat × List Int)) (arg : Int) (hp : p < l.length) (hx : l[p] = ⟨5, arg⟩) (hn : st.length ≤ 1000000) (hln : lps.length ≤ 1000000) (hnn : n ≤ 1000000) (hpp : p ≤ 1000000) (b : Int) (h : RM k w p n (b :: st) lps) (ha : arg = 18 ∨ arg = 19) (hnb : Num b) :
    Calls Tryz.prog 32 (execArgs k g c l L A3 A4 A5 c0 k3 k4 k5 v) w (RetRM k (p + 1) (n + 1) (unaryF arg b :: st) lps) := by
  obtain ⟨b0, o0, rfl, hb0, t0, t1⟩ := TermsR.at_ hK.1 p hp
  obtain ⟨y0, y1, yf0, yf1, yl, yb⟩ := h.cells
  have t0' := (yb.cell hb0).trans t0
  have t1' := (yb.cell hb0).trans t1
  rw [hx] at t0' t1'
  dsimp only at t0' t1'
  have hbl := Nat.lt_of_lt_of_le hb0 yb.size
  have hv := hs.node
  have hdp : decide (p < l.length) = true := by simpa using hp
  have HM : Hid (RM k ((((w.setCell ⟨k.B, 1, none⟩ (.int .i64 ((n : Int) + 1))).setCell ⟨k.B, 0, none⟩ (.int .i64 ((p : Int) + 1))).alloc (.cells #[.slice A3 g.ids.length k3, .slice A4 g.ports.length k4] 30)).alloc (.cells #[.int .i64 5, .int .i64 arg] 43)) (p + 1) (n + 1) (b :: st) lps) := RM.keep (RM.keep (h.tick.goto (p + 1)) ((Bel.refl _).alloc _)) ((Bel.refl _).alloc _)
  have hbx : ((((w.setCell ⟨k.B, 1, none⟩ (.int .i64 ((n : Int) + 1))).setCell ⟨k.B, 0, none⟩ (.int .i64 ((p : Int) + 1))).alloc (.cells #[.slice A3 g.ids.length k3, .slice A4 g.ports.length k4] 30)).alloc (.cells #[.int .i64 5, .int .i64 arg] 43)).cell? ⟨w.heap.size + 1, 1, none⟩ = some (.int .i64 arg) := by go_simp
  have hbg : ((((w.setCell ⟨k.B, 1, none⟩ (.int .i64 ((n : Int) + 1))).setCell ⟨k.B, 0, none⟩ (.int .i64 ((p : Int) + 1))).alloc (.cells #[.slice A3 g.ids.length k3, .slice A4 g.ports.length k4] 30)).alloc (.cells #[.int .i64 5, .int .i64 arg] 43)).cell? ⟨w.heap.size, 1, none⟩ = some (.slice A4 g.ports.length k4) := by go_simp
  have hbg0 : ((((w.setCell ⟨k.B, 1, none⟩ (.int .i64 ((n : Int) + 1))).setCell ⟨k.B, 0, none⟩ (.int .i64 ((p : Int) + 1))).alloc (.cells #[.slice A3 g.ids.length k3, .slice A4 g.ports.length k4] 30)).alloc (.cells #[.int .i64 5, .int .i64 arg] 43)).cell? ⟨w.heap.size, 0, none⟩ = some (.slice A3 g.ids.length k3) := by go_simp
  have hbs : w.heap.size + 1 < ((((w.setCell ⟨k.B, 1, none⟩ (.int .i64 ((n : Int) + 1))).setCell ⟨k.B, 0, none⟩ (.int .i64 ((p : Int) + 1))).alloc (.cells #[.slice A3 g.ids.length k3, .slice A4 g.ports.length k4] 30)).alloc (.cells #[.int .i64 5, .int .i64 arg] 43)).heap.size := by simp
  have hcell := Lib.hid (fun (w' : World) (kk : Gr (some k.B) ((((w.setCell ⟨k.B, 1, none⟩ (.int .i64 ((n : Int) + 1))).setCell ⟨k.B, 0, none⟩ (.int .i64 ((p : Int) + 1))).alloc (.cells #[.slice A3 g.ids.length k3, .slice A4 g.ports.length k4] 30)).alloc (.cells #[.int .i64 5, .int .i64 arg] 43)) w') => show w'.cell? ⟨w.heap.size + 1, 1, none⟩ = some (.int .i64 arg) ∧ w.heap.size + 1 < w'.heap.size from ⟨(kk.cell hbs (fun e => by injection e with e; omega)).trans hbx, Nat.lt_of_lt_of_le hbs kk.1⟩)
  have HE := Lib.hid (unaryR_okM ha hnb)
  clear h hK hs hb0 t0 t1 hx hbg hbg0 hbx ha hnb
  unfold execArgs
  go_enter Tryz.func32, Tryz.ntmps32
  go_wp2_with fail
  have HG : Gr (some k.B) ((((w.setCell ⟨k.B, 1, none⟩ (.int .i64 ((n : Int) + 1))).setCell ⟨k.B, 0, none⟩ (.int .i64 ((p : Int) + 1))).alloc (.cells #[.slice A3 g.ids.length k3, .slice A4 g.ports.length k4] 30)).alloc (.cells #[.int .i64 5, .int .i64 arg] 43)) (((((w.setCell ⟨k.B, 1, none⟩ (.int .i64 ((n : Int) + 1))).setCell ⟨k.B, 0, none⟩ (.int .i64 ((p : Int) + 1))).alloc (.cells #[.slice A3 g.ids.length k3, .slice A4 g.ports.length k4] 30)).alloc (.cells #[.int .i64 5, .int .i64 arg] 43))).drew := Gr.of_bel (Bel.refl _).drew
  replace HM := Lib.hid HM.out.drew
  go_region_held3 (fun w' => w'.cell? ⟨w.heap.size + 1, 1, none⟩ = some (.int .i64 arg) ∧ w.heap.size + 1 < w'.heap.size) (exact hcell.out _ HG)
    (first
      | (go_simp; go_at_call 71; refine (rPop_any k _ (p + 1) (n + 1) b st lps HM.out hn).mono ?_; rintro e w' ⟨rfl, hm, hg⟩; replace HM := Lib.hid hm; replace HG := HG.trans hg; clear hm hg)
      | (go_simp; go_at_call 70; refine (refUnary_any _ _ _).mono ?_; rintro e w' ⟨rfl, rfl⟩; rw [HE.out]))
  go_wp2_with (go_at_call 67; refine (rPush_any k _ (p + 1) (n + 1) st lps _ HM.out hn).mono ?_; rintro e w3 ⟨u, rfl, hm⟩; replace HM := Lib.hid hm; clear hm)
  go_end0
  exact ⟨_, rfl, HM.out⟩

set_option maxRecDepth 100000 in
set_option maxHeartbeats 2000000 in
theorem rExec6_any (k : Rc) (pr : Prg) (g : Graph) (c : Config) (l : List Term) (L A3 A4 A5 : Option Addr) (c0 k3 k4 k5 v : Nat) (hK : RcR k g c l L A3 A4 A5 k3 k4 k5) (hs : SOK pr g c v) (w : World) (p n : Nat) (st : List Int) (lps : List (Nat × List Int)) (arg : Int) (hp : p < l.length) (hx : l[p] = ⟨6, arg⟩) (hn : st.length ≤ 1000000) (hln : lps.length ≤ 1000000) (hnn : n ≤ 1000000) (hpp : p ≤ 1000000) (b d : Int) (h : RM k w p n (b :: d :: st) lps) (ha : 30 ≤ arg ∧ arg ≤ 42) (hnb : Num b) (hnd : Num d) (hn2 : st.length + 1 ≤ 1000000) :
    Calls Tryz.prog 32 (execArgs k g c l L A3 A4 A5 c0 k3 k4 k5 v) w (RetRM k (p + 1) (n + 1) (binaryF arg d b :: st) lps) := by
  obtain ⟨b0, o0, rfl, hb0, t0, t1⟩ := TermsR.at_ hK.1 p hp
  obtain ⟨y0, y1, yf0, yf1, yl, yb⟩ := h.cells
  have t0' := (yb.cell hb0).trans t0
  have t1' := (yb.cell hb0).trans t1
  rw [hx] at t0' t1'
  dsimp only at t0' t1'
  have hbl := Nat.lt_of_lt_of_le hb0 yb.size
  have hv := hs.node
  have hdp : decide (p < l.length) = true := by simpa using hp
  have HM : Hid (RM k ((((w.setCell ⟨k.B, 1, none⟩ (.int .i64 ((n : Int) + 1))).setCell ⟨k.B, 0, none⟩ (.int .i64 ((p : Int) + 1))).alloc (.cells #[.slice A3 g.ids.length k3, .slice A4 g.ports.length k4] 30)).alloc (.cells #[.int .i64 6, .int .i64 arg] 43)) (p + 1) (n + 1) (b :: d :: st) lps) := RM.keep (RM.keep (h.tick.goto (p + 1)) ((Bel.refl _).alloc _)) ((Bel.refl _).alloc _)
  have hbx : ((((w.setCell ⟨k.B, 1, none⟩ (.int .i64 ((n : Int) + 1))).setCell ⟨k.B, 0, none⟩ (.int .i64 ((p : Int) + 1))).alloc (.cells #[.slice A3 g.ids.length k3, .slice A4 g.ports.length k4] 30)).alloc (.cells #[.int .i64 6, .int .i64 arg] 43)).cell? ⟨w.heap.size + 1, 1, none⟩ = some (.int .i64 arg) := by go_simp
  have hbg : ((((w.setCell ⟨k.B, 1, none⟩ (.int .i64 ((n : Int) + 1))).setCell ⟨k.B, 0, none⟩ (.int .i64 ((p : Int) + 1))).alloc (.cells #[.slice A3 g.ids.length k3, .slice A4 g.ports.length k4] 30)).alloc (.cells #[.int .i64 6, .int .i64 arg] 43)).cell? ⟨w.heap.size, 1, none⟩ = some (.slice A4 g.ports.length k4) := by go_simp
  have hbg0 : ((((w.setCell ⟨k.B, 1, none⟩ (.int .i64 ((n : Int) + 1))).setCell ⟨k.B, 0, none⟩ (.int .i64 ((p : Int) + 1))).alloc (.cells #[.slice A3 g.ids.length k3, .slice A4 g.ports.length k4] 30)).alloc (.cells #[.int .i64 6, .int .i64 arg] 43)).cell? ⟨w.heap.size, 0, none⟩ = some (.slice A3 g.ids.length k3) := by go_simp
  have hbs : w.heap.size + 1 < ((((w.setCell ⟨k.B, 1, none⟩ (.int .i64 ((n : Int) + 1))).setCell ⟨k.B, 0, none⟩ (.int .i64 ((p : Int) + 1))).alloc (.cells #[.slice A3 g.ids.length k3, .slice A4 g.ports.length k4] 30)).alloc (.cells #[.int .i64 6, .int .i64 arg] 43)).heap.size := by simp
  have hcell := Lib.hid (fun (w' : World) (kk : Gr (some k.B) ((((w.setCell ⟨k.B, 1, none⟩ (.int .i64 ((n : Int) + 1))).setCell ⟨k.B, 0, none⟩ (.int .i64 ((p : Int) + 1))).alloc (.cells #[.slice A3 g.ids.length k3, .slice A4 g.ports.length k4] 30)).alloc (.cells #[.int .i64 6, .int .i64 arg] 43)) w') => show w'.cell? ⟨w.heap.size + 1, 1, none⟩ = some (.int .i64 arg) ∧ w.heap.size + 1 < w'.heap.size from ⟨(kk.cell hbs (fun e => by injection e with e; omega)).trans hbx, Nat.lt_of_lt_of_le hbs kk.1⟩)
  have HE := Lib.hid (binaryR_okM ha.1 ha.2 hnd hnb)
  clear h hK hs hb0 t0 t1 hx hbg hbg0 hbx ha hnb hnd
  unfold execArgs
  go_enter Tryz.func32, Tryz.ntmps32
  go_wp2_with fail
  refine (rPop_any k _ (p + 1) (n + 1) b (d :: st) lps HM.out (by simpa using hn2)).mono ?_
  rintro e w3 ⟨rfl, hm, HG⟩
  replace HM := Lib.hid hm.drew
  replace HG := HG.trans (Gr.of_bel (Bel.refl w3).drew)
  clear hm hn2
  go_wp2_with fail
  go_region_held3 (fun w' => w'.cell? ⟨w.heap.size + 1, 1, none⟩ = some (.int .i64 arg) ∧ w.heap.size + 1 < w'.heap.size) (exact hcell.out _ HG)
    (first
      | (go_simp; go_at_call 71; refine (rPop_any k _ (p + 1) (n + 1) d st lps HM.out hn).mono ?_; rintro e w' ⟨rfl, hm, hg⟩; replace HM := Lib.hid hm; replace HG := HG.trans hg; clear hm hg)
      | (go_simp; go_at_call 16; refine (refBinary_any _ _ _ _).mono ?_; rintro e w' ⟨rfl, rfl⟩; rw [HE.out]))
  go_wp2_with (go_at_call 67; refine (rPush_any k _ (p + 1) (n + 1) st lps _ HM.out hn).mono ?_; rintro e w3 ⟨u, rfl, hm⟩; replace HM := Lib.hid hm; clear hm)
  go_end0
  exact ⟨_, rfl, HM.out⟩

set_option maxRecDepth 100000 in
set_option maxHeartbeats 2000000 in
theorem rExec7Y_any (k : Rc) (pr : Prg) (g : Graph) (c : Config) (l : List Term) (L A3 A4 A5 : Option Addr) (c0 k3 k4 k5 v : Nat) (hK : RcR k g c l L A3 A4 A5 k3 k4 k5) (hs : SOK pr g c v) (w : World) (p n : Nat) (st : List Int) (lps : List (Nat × List Int)) (arg : Int) (hp : p < l.length) (hx : l[p] = ⟨7, arg⟩) (hn : st.length ≤ 1000000) (hln : lps.length ≤ 1000000) (hnn : n ≤ 1000000) (hpp : p ≤ 1000000) (b : Int) (q : Nat) (h : RM k w p n (b :: st) lps) (ha : arg = (q : Int)) (hb : b = 0) :
    Calls Tryz.prog 32 (execArgs k g c l L A3 A4 A5 c0 k3 k4 k5 v) w (RetRM k q (n + 1) st lps) := by
  subst ha
  obtain ⟨b0, o0, rfl, hb0, t0, t1⟩ := TermsR.at_ hK.1 p hp
  obtain ⟨y0, y1, yf0, yf1, yl, yb⟩ := h.cells
  have t0' := (yb.cell hb0).trans t0
  have t1' := (yb.cell hb0).trans t1
  rw [hx] at t0' t1'
  dsimp only at t0' t1'
  have hbl := Nat.lt_of_lt_of_le hb0 yb.size
  have hv := hs.node
  have hdp : decide (p < l.length) = true := by simpa using hp
  have HM : Hid (RM k ((((w.setCell ⟨k.B, 1, none⟩ (.int .i64 ((n : Int) + 1))).setCell ⟨k.B, 0, none⟩ (.int .i64 ((p : Int) + 1))).alloc (.cells #[.slice A3 g.ids.length k3, .slice A4 g.ports.length k4] 30)).alloc (.cells #[.int .i64 7, .int .i64 (q : Int)] 43)) (p + 1) (n + 1) (b :: st) lps) := RM.keep (RM.keep (h.tick.goto (p + 1)) ((Bel.refl _).alloc _)) ((Bel.refl _).alloc _)
  have hbx : ((((w.setCell ⟨k.B, 1, none⟩ (.int .i64 ((n : Int) + 1))).setCell ⟨k.B, 0, none⟩ (.int .i64 ((p : Int) + 1))).alloc (.cells #[.slice A3 g.ids.length k3, .slice A4 g.ports.length k4] 30)).alloc (.cells #[.int .i64 7, .int .i64 (q : Int)] 43)).cell? ⟨w.heap.size + 1, 1, none⟩ = some (.int .i64 (q : Int)) := by go_simp
  have hbg : ((((w.setCell ⟨k.B, 1, none⟩ (.int .i64 ((n : Int) + 1))).setCell ⟨k.B, 0, none⟩ (.int .i64 ((p : Int) + 1))).alloc (.cells #[.slice A3 g.ids.length k3, .slice A4 g.ports.length k4] 30)).alloc (.cells #[.int .i64 7, .int .i64 (q : Int)] 43)).cell? ⟨w.heap.size, 1, none⟩ = some (.slice A4 g.ports.length k4) := by go_simp
  have hbg0 : ((((w.setCell ⟨k.B, 1, none⟩ (.int .i64 ((n : Int) + 1))).setCell ⟨k.B, 0, none⟩ (.int .i64 ((p : Int) + 1))).alloc (.cells #[.slice A3 g.ids.length k3, .slice A4 g.ports.length k4] 30)).alloc (.cells #[.int .i64 7, .int .i64 (q : Int)] 43)).cell? ⟨w.heap.size, 0, none⟩ = some (.slice A3 g.ids.length k3) := by go_simp
  have hbs : w.heap.size + 1 < ((((w.setCell ⟨k.B, 1, none⟩ (.int .i64 ((n : Int) + 1))).setCell ⟨k.B, 0, none⟩ (.int .i64 ((p : Int) + 1))).alloc (.cells #[.slice A3 g.ids.length k3, .slice A4 g.ports.length k4] 30)).alloc (.cells #[.int .i64 7, .int .i64 (q : Int)] 43)).heap.size := by simp
  have hcell := Lib.hid (fun (w' : World) (kk : Gr (some k.B) ((((w.setCell ⟨k.B, 1, none⟩ (.int .i64 ((n : Int) + 1))).setCell ⟨k.B, 0, none⟩ (.int .i64 ((p : Int) + 1))).alloc (.cells #[.slice A3 g.ids.length k3, .slice A4 g.ports.length k4] 30)).alloc (.cells #[.int .i64 7, .int .i64 (q : Int)] 43)) w') => show w'.cell? ⟨w.heap.size + 1, 1, none⟩ = some (.int .i64 (q : Int)) ∧ w.heap.size + 1 < w'.heap.size from ⟨(kk.cell hbs (fun e => by injection e with e; omega)).trans hbx, Nat.lt_of_lt_of_le hbs kk.1⟩)
  have hb1 : (b == 0) = true := by simpa using hb
  clear h hK hs hb0 t0 t1 hx hbg hbg0 hbx hb
  unfold execArgs
  go_enter Tryz.func32, Tryz.ntmps32
  go_wp2_with fail
  refine (rPop_any k _ (p + 1) (n + 1) b st lps HM.out hn).mono ?_
  rintro e w3 ⟨rfl, hm, HG⟩
  replace HM := Lib.hid hm
  obtain ⟨z1, z2⟩ := hcell.out _ HG
  obtain ⟨m0, _, mf0, _, ml, _⟩ := hm.cells
  clear hm
  go_wp2_with fail
  go_end0
  exact ⟨_, rfl, HM.out.goto q⟩

set_option maxRecDepth 100000 in
set_option maxHeartbeats 2000000 in
theorem rExec7N_any (k : Rc) (pr : Prg) (g : Graph) (c : Config) (l : List Term) (L A3 A4 A5 : Option Addr) (c0 k3 k4 k5 v : Nat) (hK : RcR k g c l L A3 A4 A5 k3 k4 k5) (hs : SOK pr g c v) (w : World) (p n : Nat) (st : List Int) (lps : List (Nat × List Int)) (arg : Int) (hp : p < l.length) (hx : l[p] = ⟨7, arg⟩) (hn : st.length ≤ 1000000) (hln : lps.length ≤ 1000000) (hnn : n ≤ 1000000) (hpp : p ≤ 1000000) (b : Int) (q : Nat) (h : RM k w p n (b :: st) lps) (ha : arg = (q : Int)) (hb : b ≠ 0) :
    Calls Tryz.prog 32 (execArgs k g c l L A3 A4 A5 c0 k3 k4 k5 v) w (RetRM k (p + 1) (n + 1) st lps) := by
  subst ha
  obtain ⟨b0, o0, rfl, hb0, t0, t1⟩ := TermsR.at_ hK.1 p hp
  obtain ⟨y0, y1, yf0, yf1, yl, yb⟩ := h.cells
  have t0' := (yb.cell hb0).trans t0
  have t1' := (yb.cell hb0).trans t1
  rw [hx] at t0' t1'
  dsimp only at t0' t1'
  have hbl := Nat.lt_of_lt_of_le hb0 yb.size
  have hv := hs.node
  have hdp : decide (p < l.length) = true := by simpa using hp
  have HM : Hid (RM k ((((w.setCell ⟨k.B, 1, none⟩ (.int .i64 ((n : Int) + 1))).setCell ⟨k.B, 0, none⟩ (.int .i64 ((p : Int) + 1))).alloc (.cells #[.slice A3 g.ids.length k3, .slice A4 g.ports.length k4] 30)).alloc (.cells #[.int .i64 7, .int .i64 (q : Int)] 43)) (p + 1) (n + 1) (b :: st) lps) := RM.keep (RM.keep (h.tick.goto (p + 1)) ((Bel.refl _).alloc _)) ((Bel.refl _).alloc _)
  have hbx : ((((w.setCell ⟨k.B, 1, none⟩ (.int .i64 ((n : Int) + 1))).setCell ⟨k.B, 0, none⟩ (.int .i64 ((p : Int) + 1))).alloc (.cells #[.slice A3 g.ids.length k3, .slice A4 g.ports.length k4] 30)).alloc (.cells #[.int .i64 7, .int .i64 (q : Int)] 43)).cell? ⟨w.heap.size + 1, 1, none⟩ = some (.int .i64 (q : Int)) := by go_simp
  have hbg : ((((w.setCell ⟨k.B, 1, none⟩ (.int .i64 ((n : Int) + 1))).setCell ⟨k.B, 0, none⟩ (.int .i64 ((p : Int) + 1))).alloc (.cells #[.slice A3 g.ids.length k3, .slice A4 g.ports.length k4] 30)).alloc (.cells #[.int .i64 7, .int .i64 (q : Int)] 43)).cell? ⟨w.heap.size, 1, none⟩ = some (.slice A4 g.ports.length k4) := by go_simp
  have hbg0 : ((((w.setCell ⟨k.B, 1, none⟩ (.int .i64 ((n : Int) + 1))).setCell ⟨k.B, 0, none⟩ (.int .i64 ((p : Int) + 1))).alloc (.cells #[.slice A3 g.ids.length k3, .slice A4 g.ports.length k4] 30)).alloc (.cells #[.int .i64 7, .int .i64 (q : Int)] 43)).cell? ⟨w.heap.size, 0, none⟩ = some (.slice A3 g.ids.length k3) := by go_simp
  have hbs : w.heap.size + 1 < ((((w.setCell ⟨k.B, 1, none⟩ (.int .i64 ((n : Int) + 1))).setCell ⟨k.B, 0, none⟩ (.int .i64 ((p : Int) + 1))).alloc (.cells #[.slice A3 g.ids.length k3, .slice A4 g.ports.length k4] 30)).alloc (.cells #[.int .i64 7, .int .i64 (q : Int)] 43)).heap.size := by simp
  have hcell := Lib.hid (fun (w' : World) (kk : Gr (some k.B) ((((w.setCell ⟨k.B, 1, none⟩ (.int .i64 ((n : Int) + 1))).setCell ⟨k.B, 0, none⟩ (.int .i64 ((p : Int) + 1))).alloc (.cells #[.slice A3 g.ids.length k3, .slice A4 g.ports.length k4] 30)).alloc (.cells #[.int .i64 7, .int .i64 (q : Int)] 43)) w') => show w'.cell? ⟨w.heap.size + 1, 1, none⟩ = some (.int .i64 (q : Int)) ∧ w.heap.size + 1 < w'.heap.size from ⟨(kk.cell hbs (fun e => by injection e with e; omega)).trans hbx, Nat.lt_of_lt_of_le hbs kk.1⟩)
  have hb1 : (b == 0) = false := by simpa using hb
  clear h hK hs hb0 t0 t1 hx hbg hbg0 hbx hb
  unfold execArgs
  go_enter Tryz.func32, Tryz.ntmps32
  go_wp2_with fail
  refine (rPop_any k _ (p + 1) (n + 1) b st lps HM.out hn).mono ?_
  rintro e w3 ⟨rfl, hm, HG⟩
  replace HM := Lib.hid hm
  obtain ⟨z1, z2⟩ := hcell.out _ HG
  obtain ⟨m0, _, mf0, _, ml, _⟩ := hm.cells
  clear hm
  go_wp2_with fail
  go_end0
  exact ⟨_, rfl, HM.out⟩

set_option maxRecDepth 100000 in
set_option maxHeartbeats 2000000 in
theorem rExec8_any (k : Rc) (pr : Prg) (g : Graph) (c : Config) (l : List Term) (L A3 A4 A5 : Option Addr) (c0 k3 k4 k5 v : Nat) (hK : RcR k g c l L A3 A4 A5 k3 k4 k5) (hs : SOK pr g c v) (w : World) (p n : Nat) (st : List Int) (lps : List (Nat × List Int)) (arg : Int) (hp : p < l.length) (hx : l[p] = ⟨8, arg⟩) (hn : st.length ≤ 1000000) (hln : lps.length ≤ 1000000) (hnn : n ≤ 1000000) (hpp : p ≤ 1000000) (q : Nat) (h : RM k w p n st lps) (ha : arg = (q : Int)) :
    Calls Tryz.prog 32 (execArgs k g c l L A3 A4 A5 c0 k3 k4 k5 v) w (RetRM k q (n + 1) st lps) := by
  subst ha
  have h0 := h
  obtain ⟨b0, o0, rfl, hb0, t0, t1⟩ := TermsR.at_ hK.1 p hp
  obtain ⟨y0, y1, yf0, yf1, yl, yb⟩ := h.cells
  have t0' := (yb.cell hb0).trans t0
  have t1' := (yb.cell hb0).trans t1
  rw [hx] at t0' t1'
  dsimp only at t0' t1'
  have hbl := Nat.lt_of_lt_of_le hb0 yb.size
  have hv := hs.node
  have hdp : decide (p < l.length) = true := by simpa using hp
  have HM : Hid (RM k ((((w.setCell ⟨k.B, 1, none⟩ (.int .i64 ((n : Int) + 1))).setCell ⟨k.B, 0, none⟩ (.int .i64 ((p : Int) + 1))).alloc (.cells #[.slice A3 g.ids.length k3, .slice A4 g.ports.length k4] 30)).alloc (.cells #[.int .i64 8, .int .i64 (q : Int)] 43)) (p + 1) (n + 1) st lps) := RM.keep (RM.keep (h.tick.goto (p + 1)) ((Bel.refl _).alloc _)) ((Bel.refl _).alloc _)
  have hbx : ((((w.setCell ⟨k.B, 1, none⟩ (.int .i64 ((n : Int) + 1))).setCell ⟨k.B, 0, none⟩ (.int .i64 ((p : Int) + 1))).alloc (.cells #[.slice A3 g.ids.length k3, .slice A4 g.ports.length k4] 30)).alloc (.cells #[.int .i64 8, .int .i64 (q : Int)] 43)).cell? ⟨w.heap.size + 1, 1, none⟩ = some (.int .i64 (q : Int)) := by go_simp
  have hbg : ((((w.setCell ⟨k.B, 1, none⟩ (.int .i64 ((n : Int) + 1))).setCell ⟨k.B, 0, none⟩ (.int .i64 ((p : Int) + 1))).alloc (.cells #[.slice A3 g.ids.length k3, .slice A4 g.ports.length k4] 30)).alloc (.cells #[.int .i64 8, .int .i64 (q : Int)] 43)).cell? ⟨w.heap.size, 1, none⟩ = some (.slice A4 g.ports.length k4) := by go_simp
  have hbg0 : ((((w.setCell ⟨k.B, 1, none⟩ (.int .i64 ((n : Int) + 1))).setCell ⟨k.B, 0, none⟩ (.int .i64 ((p : Int) + 1))).alloc (.cells #[.slice A3 g.ids.length k3, .slice A4 g.ports.length k4] 30)).alloc (.cells #[.int .i64 8, .int .i64 (q : Int)] 43)).cell? ⟨w.heap.size, 0, none⟩ = some (.slice A3 g.ids.length k3) := by go_simp
  have hbs : w.heap.size + 1 < ((((w.setCell ⟨k.B, 1, none⟩ (.int .i64 ((n : Int) + 1))).setCell ⟨k.B, 0, none⟩ (.int .i64 ((p : Int) + 1))).alloc (.cells #[.slice A3 g.ids.length k3, .slice A4 g.ports.length k4] 30)).alloc (.cells #[.int .i64 8, .int .i64 (q : Int)] 43)).heap.size := by simp
  obtain ⟨m0, _, mf0, _, ml, _⟩ := HM.out.cells
  clear h hK hs hb0 t0 t1 hx hbg hbg0
  unfold execArgs
  go_enter Tryz.func32, Tryz.ntmps32
  go_wp2
  go_end0
  have HR : RM k _ q (n + 1) st lps := RM.keep (RM.keep (((RM.tick h0).goto (p + 1)).goto q) ((Bel.refl _).alloc (.cells #[.slice A3 g.ids.length k3, .slice A4 g.ports.length k4] 30))) ((Bel.refl _).alloc (.cells #[.int .i64 8, .int .i64 (q : Int)] 43))
  exact ⟨_, rfl, HR⟩

set_option maxRecDepth 100000 in
set_option maxHeartbeats 2000000 in
theorem rExec9Y_any (k : Rc) (pr : Prg) (g : Graph) (c : Config) (l : List Term) (L A3 A4 A5 : Option Addr) (c0 k3 k4 k5 v : Nat) (hK : RcR k g c l L A3 A4 A5 k3 k4 k5) (hs : SOK pr g c v) (w : World) (p n : Nat) (st : List Int) (lps : List (Nat × List Int)) (arg : Int) (hp : p < l.length) (hx : l[p] = ⟨9, arg⟩) (hn : st.length ≤ 1000000) (hln : lps.length ≤ 1000000) (hnn : n ≤ 1000000) (hpp : p ≤ 1000000) (h : RM k w p n st lps) (hd : 0 < (g.ports.getD v []).length) :
    Calls Tryz.prog 32 (execArgs k g c l L A3 A4 A5 c0 k3 k4 k5 v) w (RetRM k (p + 1) (n + 1) st ((p, []) :: lps)) := by
  obtain ⟨b0, o0, rfl, hb0, t0, t1⟩ := TermsR.at_ hK.1 p hp
  obtain ⟨y0, y1, yf0, yf1, yl, yb⟩ := h.cells
  have t0' := (yb.cell hb0).trans t0
  have t1' := (yb.cell hb0).trans t1
  rw [hx] at t0' t1'
  dsimp only at t0' t1'
  have hbl := Nat.lt_of_lt_of_le hb0 yb.size
  have hv := hs.node
  have hdp : decide (p < l.length) = true := by simpa using hp
  obtain ⟨A', k', A2', k2', eG, _, _, _, hP, _, _⟩ := hK.2.1
  obtain ⟨⟨rfl, rfl⟩, rfl, rfl⟩ : (A3 = A' ∧ k3 = k') ∧ A4 = A2' ∧ k4 = k2' := by simpa using eG
  obtain ⟨b4, o4, K, ck, rfl, hb4, hrow4, hL4, _, _⟩ := RowsAt.at_ hP v hv
  have hiv : (v : Int) < (g.ports.length : Int) := by omega
  have hdv : decide (v < g.ports.length) = true := by simpa using hv
  rw [getD_eq hv] at hd
  have hd1 : decide ((0 : Int) < g.ports[v].length) = true := by simpa using hd
  have hd2 : decide (0 < g.ports[v].length) = true := by simpa using hd
  have HM : Hid (RM k ((((w.setCell ⟨k.B, 1, none⟩ (.int .i64 ((n : Int) + 1))).setCell ⟨k.B, 0, none⟩ (.int .i64 ((p : Int) + 1))).alloc (.cells #[.slice A3 g.ids.length k3, .slice (some ⟨b4, o4, none⟩) g.ports.length k4] 30)).alloc (.cells #[.int .i64 9, .int .i64 arg] 43)) (p + 1) (n + 1) st lps) := RM.keep (RM.keep (h.tick.goto (p + 1)) ((Bel.refl _).alloc _)) ((Bel.refl _).alloc _)
  have hbx : ((((w.setCell ⟨k.B, 1, none⟩ (.int .i64 ((n : Int) + 1))).setCell ⟨k.B, 0, none⟩ (.int .i64 ((p : Int) + 1))).alloc (.cells #[.slice A3 g.ids.length k3, .slice (some ⟨b4, o4, none⟩) g.ports.length k4] 30)).alloc (.cells #[.int .i64 9, .int .i64 arg] 43)).cell? ⟨w.heap.size + 1, 1, none⟩ = some (.int .i64 arg) := by go_simp
  have hbg : ((((w.setCell ⟨k.B, 1, none⟩ (.int .i64 ((n : Int) + 1))).setCell ⟨k.B, 0, none⟩ (.int .i64 ((p : Int) + 1))).alloc (.cells #[.slice A3 g.ids.length k3, .slice (some ⟨b4, o4, none⟩) g.ports.length k4] 30)).alloc (.cells #[.int .i64 9, .int .i64 arg] 43)).cell? ⟨w.heap.size, 1, none⟩ = some (.slice (some ⟨b4, o4, none⟩) g.ports.length k4) := by go_simp
  have hbg0 : ((((w.setCell ⟨k.B, 1, none⟩ (.int .i64 ((n : Int) + 1))).setCell ⟨k.B, 0, none⟩ (.int .i64 ((p : Int) + 1))).alloc (.cells #[.slice A3 g.ids.length k3, .slice (some ⟨b4, o4, none⟩) g.ports.length k4] 30)).alloc (.cells #[.int .i64 9, .int .i64 arg] 43)).cell? ⟨w.heap.size, 0, none⟩ = some (.slice A3 g.ids.length k3) := by go_simp
  have hbs : w.heap.size + 1 < ((((w.setCell ⟨k.B, 1, none⟩ (.int .i64 ((n : Int) + 1))).setCell ⟨k.B, 0, none⟩ (.int .i64 ((p : Int) + 1))).alloc (.cells #[.slice A3 g.ids.length k3, .slice (some ⟨b4, o4, none⟩) g.ports.length k4] 30)).alloc (.cells #[.int .i64 9, .int .i64 arg] 43)).heap.size := by simp
  have hbel := HM.out.cells.2.2.2.2.2
  have hrow' := (hbel.cell hb4).trans hrow4
  obtain ⟨A, c1, L, lc, fr, hX, hpts, rfl⟩ := HM.out
  rw [List.length_map] at hln
  have hc3 := hX.blk.cell 3 (v := .slice L fr.length lc) rfl
  have hf3 := hX.blk.frozen 3
  have hB := hX.blk.lt
  have hbs2 := hX.grown.size
  have hle := hX.le0
  have hlt1 := hX.lt1
  have HX := Lib.hid hX
  have HPT := Lib.hid hpts
  obtain ⟨i0, hi0, hz0, hz1, hz2⟩ := info_parts frame_infoM
  have hb4l := Nat.lt_of_lt_of_le hb4 hbel.size
  clear h hK hs hb0 t0 t1 hx hbg0 hbel hrow4 hL4 hP eG HM hX hpts hd
  unfold execArgs
  go_enter Tryz.func32, Tryz.ntmps32
  go_wp2_with (at_builtin; refine wpList_push _ rfl (.tmp 168) (.tmp 171) 76 rfl k.wT.heap.size 116 i0 (.agg #[.int .i64 0, .int .i64 0, .slice none 0 0]) 3 40 Tryz.underlying76 hi0 hz0 hz1 hz2 rfl (by decide) L fr.length lc (rowL lpR fr) (by simp [Act.eval]) (HX.out.rows.loops.alloc _) (w.heap.size + 1 + 1) #[.int .i64 p, .int .i64 0, .slice none 0 0] 116 (0, 0) (by simp [Act.eval]) (by have := heap_new (((((w.setCell ⟨k.B, 1, none⟩ (.int .i64 ((n : Int) + 1))).setCell ⟨k.B, 0, none⟩ (.int .i64 ((p : Int) + 1))).alloc (.cells #[.slice A3 g.ids.length k3, .slice (some ⟨b4, o4, none⟩) g.ports.length k4] 30)).alloc (.cells #[.int .i64 9, .int .i64 arg] 43))) (.cells #[.int .i64 p, .int .i64 0, .slice none 0 0] 116); simpa using this) rfl (by simp [Value.oneCell']) (by unfold maxLen; omega) (by omega) (by simp at hbs2 ⊢; omega) ?_; intro L' lc' w2 hown2 hgr2 hat2; have H2 := Lib.hid ((MX.keep HX.out ((Bel.refl _).alloc _)).pushedL (by decide) (by decide) hown2 hgr2); clear hown2 hgr2 hat2; have q3 := H2.out.1.cell 3 (v := .slice L fr.length lc) rfl; have qf3 := H2.out.1.frozen 3; have ql := H2.out.1.lt)
  go_end0
  exact ⟨_, rfl, A, c1, L', lc', _, MX.put H2.out.1 H2.out.2.1 hle hlt1 H2.out.2.2.1 H2.out.2.2.2 (by decide) (by decide) 3 _ rfl, (fun f hf => by rcases List.mem_cons.1 hf with rfl | hf; exact rfl; exact HPT.out f hf), rfl⟩

set_option maxRecDepth 100000 in
set_option maxHeartbeats 2000000 in
theorem rExec9N_any (k : Rc) (pr : Prg) (g : Graph) (c : Config) (l : List Term) (L A3 A4 A5 : Option Addr) (c0 k3 k4 k5 v : Nat) (hK : RcR k g c l L A3 A4 A5 k3 k4 k5) (hs : SOK pr g c v) (w : World) (p n : Nat) (st : List Int) (lps : List (Nat × List Int)) (arg : Int) (hp : p < l.length) (hx : l[p] = ⟨9, arg⟩) (hn : st.length ≤ 1000000) (hln : lps.length ≤ 1000000) (hnn : n ≤ 1000000) (hpp : p ≤ 1000000) (a : Nat) (h : RM k w p n st lps) (hd : (g.ports.getD v []).length = 0) (ha : arg = (a : Int)) (hal : a < l.length) (hll : l.length ≤ 1000000) (h20 : 20 ≤ l[a].arg) (h29 : l[a].arg ≤ 29) :
    Calls Tryz.prog 32 (execArgs k g c l L A3 A4 A5 c0 k3 k4 k5 v) w (RetRM k (a + 1) (n + 1) (foldF l[a].arg [] :: st) lps) := by
  subst ha
  obtain ⟨b0, o0, rfl, hb0, t0, t1⟩ := TermsR.at_ hK.1 p hp
  obtain ⟨y0, y1, yf0, yf1, yl, yb⟩ := h.cells
  have t0' := (yb.cell hb0).trans t0
  have t1' := (yb.cell hb0).trans t1
  rw [hx] at t0' t1'
  dsimp only at t0' t1'
  have hbl := Nat.lt_of_lt_of_le hb0 yb.size
  have hv := hs.node
  have hdp : decide (p < l.length) = true := by simpa using hp
  obtain ⟨A', k', A2', k2', eG, _, _, _, hP, _, _⟩ := hK.2.1
  obtain ⟨⟨rfl, rfl⟩, rfl, rfl⟩ : (A3 = A' ∧ k3 = k') ∧ A4 = A2' ∧ k4 = k2' := by simpa using eG
  obtain ⟨b4, o4, K, ck, rfl, hb4, hrow4, hL4, _, _⟩ := RowsAt.at_ hP v hv
  have hiv : (v : Int) < (g.ports.length : Int) := by omega
  have hdv : decide (v < g.ports.length) = true := by simpa using hv
  rw [getD_eq hv] at hd
  have hia : (a : Int) < (l.length : Int) := by omega
  have HM : Hid (RM k ((((w.setCell ⟨k.B, 1, none⟩ (.int .i64 ((n : Int) + 1))).setCell ⟨k.B, 0, none⟩ (.int .i64 ((p : Int) + 1))).alloc (.cells #[.slice A3 g.ids.length k3, .slice (some ⟨b4, o4, none⟩) g.ports.length k4] 30)).alloc (.cells #[.int .i64 9, .int .i64 (a : Int)] 43)) (p + 1) (n + 1) st lps) := RM.keep (RM.keep (h.tick.goto (p + 1)) ((Bel.refl _).alloc _)) ((Bel.refl _).alloc _)
  have hbx : ((((w.setCell ⟨k.B, 1, none⟩ (.int .i64 ((n : Int) + 1))).setCell ⟨k.B, 0, none⟩ (.int .i64 ((p : Int) + 1))).alloc (.cells #[.slice A3 g.ids.length k3, .slice (some ⟨b4, o4, none⟩) g.ports.length k4] 30)).alloc (.cells #[.int .i64 9, .int .i64 (a : Int)] 43)).cell? ⟨w.heap.size + 1, 1, none⟩ = some (.int .i64 (a : Int)) := by go_simp
  have hbg : ((((w.setCell ⟨k.B, 1, none⟩ (.int .i64 ((n : Int) + 1))).setCell ⟨k.B, 0, none⟩ (.int .i64 ((p : Int) + 1))).alloc (.cells #[.slice A3 g.ids.length k3, .slice (some ⟨b4, o4, none⟩) g.ports.length k4] 30)).alloc (.cells #[.int .i64 9, .int .i64 (a : Int)] 43)).cell? ⟨w.heap.size, 1, none⟩ = some (.slice (some ⟨b4, o4, none⟩) g.ports.length k4) := by go_simp
  have hbg0 : ((((w.setCell ⟨k.B, 1, none⟩ (.int .i64 ((n : Int) + 1))).setCell ⟨k.B, 0, none⟩ (.int .i64 ((p : Int) + 1))).alloc (.cells #[.slice A3 g.ids.length k3, .slice (some ⟨b4, o4, none⟩) g.ports.length k4] 30)).alloc (.cells #[.int .i64 9, .int .i64 (a : Int)] 43)).cell? ⟨w.heap.size, 0, none⟩ = some (.slice A3 g.ids.length k3) := by go_simp
  have hbs : w.heap.size + 1 < ((((w.setCell ⟨k.B, 1, none⟩ (.int .i64 ((n : Int) + 1))).setCell ⟨k.B, 0, none⟩ (.int .i64 ((p : Int) + 1))).alloc (.cells #[.slice A3 g.ids.length k3, .slice (some ⟨b4, o4, none⟩) g.ports.length k4] 30)).alloc (.cells #[.int .i64 9, .int .i64 (a : Int)] 43)).heap.size := by simp
  have hbel := HM.out.cells.2.2.2.2.2
  have hrow' := (hbel.cell hb4).trans hrow4
  rw [hd] at hrow'
  obtain ⟨b9, o9, e9, _, _, ta⟩ := TermsR.at_ hK.1 a hal
  obtain ⟨rfl, rfl⟩ : b0 = b9 ∧ o0 = o9 := by simpa using e9
  have ta' := (hbel.cell hb0).trans ta
  obtain ⟨A, c1, L, lc, fr, hX0, hpts, hl⟩ := h
  have hX : RX k ((((w.setCell ⟨k.B, 1, none⟩ (.int .i64 ((n : Int) + 1))).setCell ⟨k.B, 0, none⟩ (.int .i64 ((p : Int) + 1))).alloc (.cells #[.slice A3 g.ids.length k3, .slice (some ⟨b4, o4, none⟩) g.ports.length k4] 30)).alloc (.cells #[.int .i64 9, .int .i64 (a : Int)] 43)) (p + 1) (n + 1) st A c1 L lc fr := RX.keep (RX.keep ((RX.tick hX0).goto (p + 1)) ((Bel.refl _).alloc _)) ((Bel.refl _).alloc _)
  have HX := Lib.hid hX
  have HL := Lib.hid hl
  have HPT := Lib.hid hpts
  have hb4l := Nat.lt_of_lt_of_le hb4 hbel.size
  have hb0l := Nat.lt_of_lt_of_le hb0 hbel.size
  have hAb : Hid (some (w.heap.size + 1) ≠ Hd.blk (A, c1)) := fun e => by
    have := (hX0.rows.stack.lt e.symm).2
    omega
  have HFO := Lib.hid (foldR_ok h20 h29 (l := []) (by decide) (fun x hx => by cases hx))
  clear hK hs hb0 t0 t1 hx hbg0 hbel hrow4 hL4 hP eG HM hX hX0 hpts hd e9 ta h20 h29 hl
  unfold execArgs
  go_enter Tryz.func32, Tryz.ntmps32
  go_wp2_with (first
    | (go_at_call 72; refine (refFoldR_any none 0 0 [] _ _ SliceR.nil (by omega)).mono ?_; rintro e w' ⟨rfl, rfl⟩; rw [HFO.out])
    | (go_at_call 67; refine (rPushF_any k _ (p + 1) (n + 1) st A c1 L lc fr _ HX.out hn).mono ?_; rintro e w3 ⟨u, A2, c2, rfl, hm, hfr⟩; have q1 : w3.cell? ⟨w.heap.size + 1, 1, none⟩ = some (.int .i64 (a : Int)) := (by have h5 := hfr (w.heap.size + 1) (by simp) (by omega) hAb.out; unfold World.cell? at hbx ⊢; rw [h5]; exact hbx); have qs := hm.bel.size; have qB := hm.blk.lt; have q0 := hm.blk.cell 0 (v := .int .i64 ((p : Int) + 1)) rfl; have qf := hm.blk.frozen 0; have HM3 := Lib.hid hm; clear hm hfr))
  go_end0
  exact ⟨_, rfl, A2, c2, L, lc, fr, RX.goto HM3.out (a + 1), HPT.out, HL.out⟩

set_option maxRecDepth 100000 in
set_option maxHeartbeats 2000000 in
theorem rExec10_any (k : Rc) (pr : Prg) (g : Graph) (c : Config) (l : List Term) (L A3 A4 A5 : Option Addr) (c0 k3 k4 k5 v : Nat) (hK : RcR k g c l L A3 A4 A5 k3 k4 k5) (hs : SOK pr g c v) (w : World) (p n : Nat) (st : List Int) (lps : List (Nat × List Int)) (arg : Int) (hp : p < l.length) (hx : l[p] = ⟨10, arg⟩) (hn : st.length ≤ 1000000) (hln : lps.length ≤ 1000000) (hnn : n ≤ 1000000) (hpp : p ≤ 1000000) (b : Int) (e0 : Nat) (vals : List Int) (r : List (Nat × List Int)) (h : RM k w p n (b :: st) ((e0, vals) :: r)) (hlr : r.length ≤ 1000000) (hvd : vals.length < (g.ports.getD v []).length) (hnum : ∀ y ∈ vals ++ [b], Num y) (ha : 20 ≤ arg ∧ arg ≤ 29) (he0 : e0 ≤ 1000000) (hdeg : (g.ports.getD v []).length < 24) :
    Calls Tryz.prog 32 (execArgs k g c l L A3 A4 A5 c0 k3 k4 k5 v) w (RetRN k p (n + 1) e0 st vals b arg r (g.ports.getD v []).length) := by
  obtain ⟨b0, o0, rfl, hb0, t0, t1⟩ := TermsR.at_ hK.1 p hp
  obtain ⟨y0, y1, yf0, yf1, yl, yb⟩ := h.cells
  have t0' := (yb.cell hb0).trans t0
  have t1' := (yb.cell hb0).trans t1
  rw [hx] at t0' t1'
  dsimp only at t0' t1'
  have hbl := Nat.lt_of_lt_of_le hb0 yb.size
  have hv := hs.node
  have hdp : decide (p < l.length) = true := by simpa using hp
  obtain ⟨A', k', A2', k2', eG, _, _, _, hP, _, _⟩ := hK.2.1
  obtain ⟨⟨rfl, rfl⟩, rfl, rfl⟩ : (A3 = A' ∧ k3 = k') ∧ A4 = A2' ∧ k4 = k2' := by simpa using eG
  obtain ⟨b4, o4, K, ck, rfl, hb4, hrow4, hL4, _, _⟩ := RowsAt.at_ hP v hv
  have hiv : (v : Int) < (g.ports.length : Int) := by omega
  have hdv : decide (v < g.ports.length) = true := by simpa using hv
  rw [getD_eq hv] at hvd hdeg ⊢
  have HM : Hid (RM k (((w.setCell ⟨k.B, 1, none⟩ (.int .i64 ((n : Int) + 1))).alloc (.cells #[.slice A3 g.ids.length k3, .slice (some ⟨b4, o4, none⟩) g.ports.length k4] 30)).alloc (.cells #[.int .i64 10, .int .i64 arg] 43)) p (n + 1) (b :: st) ((e0, vals) :: r)) := RM.keep (RM.keep h.tick ((Bel.refl _).alloc _)) ((Bel.refl _).alloc _)
  have hbx : (((w.setCell ⟨k.B, 1, none⟩ (.int .i64 ((n : Int) + 1))).alloc (.cells #[.slice A3 g.ids.length k3, .slice (some ⟨b4, o4, none⟩) g.ports.length k4] 30)).alloc (.cells #[.int .i64 10, .int .i64 arg] 43)).cell? ⟨w.heap.size + 1, 1, none⟩ = some (.int .i64 arg) := by go_simp
  have hbg : (((w.setCell ⟨k.B, 1, none⟩ (.int .i64 ((n : Int) + 1))).alloc (.cells #[.slice A3 g.ids.length k3, .slice (some ⟨b4, o4, none⟩) g.ports.length k4] 30)).alloc (.cells #[.int .i64 10, .int .i64 arg] 43)).cell? ⟨w.heap.size, 1, none⟩ = some (.slice (some ⟨b4, o4, none⟩) g.ports.length k4) := by go_simp
  have hbg0 : (((w.setCell ⟨k.B, 1, none⟩ (.int .i64 ((n : Int) + 1))).alloc (.cells #[.slice A3 g.ids.length k3, .slice (some ⟨b4, o4, none⟩) g.ports.length k4] 30)).alloc (.cells #[.int .i64 10, .int .i64 arg] 43)).cell? ⟨w.heap.size, 0, none⟩ = some (.slice A3 g.ids.length k3) := by go_simp
  have hbs : w.heap.size + 1 < (((w.setCell ⟨k.B, 1, none⟩ (.int .i64 ((n : Int) + 1))).alloc (.cells #[.slice A3 g.ids.length k3, .slice (some ⟨b4, o4, none⟩) g.ports.length k4] 30)).alloc (.cells #[.int .i64 10, .int .i64 arg] 43)).heap.size := by simp
  have hbel := HM.out.cells.2.2.2.2.2
  have hrow' := (hbel.cell hb4).trans hrow4
  have HN := Lib.hid hnum
  have HA := Lib.hid ha
  clear h hK hs hb0 t0 t1 hx hbg0 hbel hrow4 hL4 hP eG hnum ha
  unfold execArgs
  go_enter Tryz.func32, Tryz.ntmps32
  go_wp2_with fail
  refine AnyE.start (fun w' => w'.cell? ⟨w.heap.size + 1, 1, none⟩ = some (.int .i64 arg) ∧ w'.cell? ⟨w.heap.size, 1, none⟩ = some (.slice (some ⟨b4, o4, none⟩) g.ports.length k4) ∧ w'.cell? ⟨b4, o4 + v, none⟩ = some (.slice K g.ports[v].length ck) ∧ w.heap.size + 1 < w'.heap.size) 9 (by kernel_rfl) ?_
  have hHeld : (fun w' => w'.cell? ⟨w.heap.size + 1, 1, none⟩ = some (.int .i64 arg) ∧ w'.cell? ⟨w.heap.size, 1, none⟩ = some (.slice (some ⟨b4, o4, none⟩) g.ports.length k4) ∧ w'.cell? ⟨b4, o4 + v, none⟩ = some (.slice K g.ports[v].length ck) ∧ w.heap.size + 1 < w'.heap.size) ((((w.setCell ⟨k.B, 1, none⟩ (.int .i64 ((n : Int) + 1))).alloc (.cells #[.slice A3 g.ids.length k3, .slice (some ⟨b4, o4, none⟩) g.ports.length k4] 30)).alloc (.cells #[.int .i64 10, .int .i64 arg] 43))).drew := ⟨hbx, hbg, hrow', hbs⟩
  (refine AnyE.takeC (i := 0) (v := ?_) (some 36) rfl rfl (by kernel_rfl) (by kernel_rfl) (by kernel_rfl) (by kernel_rfl) (fun _ _ _ h => h) hHeld (Or.inl ⟨by rfl, ?_⟩) ?_; rotate_left 1; focus (intro w' hSw; (try dsimp only at hSw); go_simp; (try with_reducible rfl); done); (try simp only [Act.put, List.setIfInBounds_toArray, List.set_cons_zero, List.set_cons_succ]))
  (refine AnyE.takeC (i := 1) (v := ?_) (some 37) rfl rfl (by kernel_rfl) (by kernel_rfl) (by kernel_rfl) (by kernel_rfl) (fun _ _ _ h => h) hHeld (Or.inl ⟨by rfl, ?_⟩) ?_; rotate_left 1; focus (intro w' hSw; (try dsimp only at hSw); go_simp; (try with_reducible rfl); done); (try simp only [Act.put, List.setIfInBounds_toArray, List.set_cons_zero, List.set_cons_succ]))
  (refine AnyE.takeC (i := 2) (v := ?_) (some 38) rfl rfl (by kernel_rfl) (by kernel_rfl) (by kernel_rfl) (by kernel_rfl) (fun _ _ _ h => h) hHeld (Or.inl ⟨by rfl, ?_⟩) ?_; rotate_left 1; focus (intro w' hSw; (try dsimp only at hSw); go_simp; (try with_reducible rfl); done); (try simp only [Act.put, List.setIfInBounds_toArray, List.set_cons_zero, List.set_cons_succ]))
  (refine AnyE.takeC (i := 3) (v := ?_) (some 39) rfl rfl (by kernel_rfl) (by kernel_rfl) (by kernel_rfl) (by kernel_rfl) (fun _ _ _ h => h) hHeld (Or.inl ⟨by rfl, ?_⟩) ?_; rotate_left 1; focus (intro w' hSw; (try dsimp only at hSw); go_simp; (try with_reducible rfl); done); (try simp only [Act.put, List.setIfInBounds_toArray, List.set_cons_zero, List.set_cons_succ]))
  (refine AnyE.takeC (i := 4) (v := ?_) (some 40) rfl rfl (by kernel_rfl) (by kernel_rfl) (by kernel_rfl) (by kernel_rfl) (fun _ _ _ h => h) hHeld (Or.inl ⟨by rfl, ?_⟩) ?_; rotate_left 1; focus (intro w' hSw; (try dsimp only at hSw); go_simp; (try with_reducible rfl); done); (try simp only [Act.put, List.setIfInBounds_toArray, List.set_cons_zero, List.set_cons_succ]))
  (refine AnyE.takeC (i := 5) (v := ?_) (some 41) rfl rfl (by kernel_rfl) (by kernel_rfl) (by kernel_rfl) (by kernel_rfl) (fun _ _ _ h => h) hHeld (Or.inl ⟨by rfl, ?_⟩) ?_; rotate_left 1; focus (intro w' hSw; (try dsimp only at hSw); go_simp; (try with_reducible rfl); done); (try simp only [Act.put, List.setIfInBounds_toArray, List.set_cons_zero, List.set_cons_succ]))
  (refine AnyE.takeC (i := 6) (v := ?_) (some 42) rfl rfl (by kernel_rfl) (by kernel_rfl) (by kernel_rfl) (by kernel_rfl) (fun _ _ _ h => h) hHeld (Or.inl ⟨by rfl, ?_⟩) ?_; rotate_left 1; focus (intro w' hSw; (try dsimp only at hSw); go_simp; (try with_reducible rfl); done); (try simp only [Act.put, List.setIfInBounds_toArray, List.set_cons_zero, List.set_cons_succ]))
  (refine AnyE.takeC (i := 7) (v := ?_) (some 43) rfl rfl (by kernel_rfl) (by kernel_rfl) (by kernel_rfl) (by kernel_rfl) (fun _ _ _ h => h) hHeld (Or.inl ⟨by rfl, ?_⟩) ?_; rotate_left 1; focus (intro w' hSw; (try dsimp only at hSw); go_simp; (try with_reducible rfl); done); (try simp only [Act.put, List.setIfInBounds_toArray, List.set_cons_zero, List.set_cons_succ]))
  (refine AnyE.takeC (i := 8) (v := ?_) (some 44) rfl rfl (by kernel_rfl) (by kernel_rfl) (by kernel_rfl) (by kernel_rfl) (fun _ _ _ h => h) hHeld (Or.inl ⟨by rfl, ?_⟩) ?_; rotate_left 1; focus (intro w' hSw; (try dsimp only at hSw); go_simp; (try with_reducible rfl); done); (try simp only [Act.put, List.setIfInBounds_toArray, List.set_cons_zero, List.set_cons_succ]))
  refine AnyE.one (i := 9) (by kernel_rfl) rfl (fun K hK => ?_)
  go_simp
  go_at_call 66
  refine (rNext_any k _ p (n + 1) b st e0 vals r _ _ HM.out.drew hn hlr hvd hdeg HN.out HA.out.1 HA.out.2 he0 hpp).mono ?_
  intro e w3 hR
  have HR := Lib.hid hR
  obtain ⟨u, rfl⟩ : ∃ u, e = .returned u := by
    have := HR.out
    unfold RetRN at this
    split at this <;> exact ⟨_, this.choose_spec.1⟩
  clear hR
  (try go_simp)
  refine hK.out _ _ (fun h => absurd rfl h) ?_
  clear hK K hHeld
  refine AnyE.done (by kernel_rfl) ?_ _
  go_wp2_with fail
  go_end0
  exact HR.out.ret _


end Go.Proofs.YtaifafljakojnaaGreat

/- Contracts: the table of the program's machine. -/
namespace Go.Proofs.YtaifafljakojnaaGreat
open Go.RowKit Go.Maps

def mTbl : List (Lit × Nat) := [(intLit 10, 63), (intLit 9, 62), (intLit 8, 61), (intLit 7, 60), (intLit 6, 59), (intLit 5, 58), (intLit 4, 57), (intLit 3, 56), (intLit 2, 55), (intLit 1, 54)]
theorem wpList_insFn {P : Program} (w : World) {ops : Array Oper} {rest : List Oper} {o : Oper} {a : Act} {Q : Exit → Act → World → Prop}
    (hg : o.guard = none) (m x v : Operand) (t : TypeId) (hop : o.op = Op.insert t m x v)
    (k e : TypeId) (K : Keyed P k) (ht : P.underlying t = some (.map k e)) (b n : Nat) (fs : List (Lit × Nat)) (f : Nat) (q : Int) (hk : P.underlying k = some (.int .i64))
    (hown : FnR P k w b n fs) (hm : a.eval m = .map (some b)) (hn : n < maxLen) (hx : a.eval x = .int .i64 q) (hv : a.eval v = .func (.func f) #[] #[]) (hwf : (Lit.int .i64 q).wf = true) (hnew : ∀ p ∈ fs, p.1 ≠ intLit q)
    (hK : ∀ w', FnR P k w' b (n + 1) ((intLit q, f) :: fs) → w.grownBy w' (some b) → wpList P ops Q rest (a.put o.dst undef) w') :
    wpList P ops Q (o :: rest) a w := by
  obtain ⟨D, h1, h2, h3⟩ := hown
  refine wpList_plain hg fun K' hK' => ?_
  obtain ⟨w', hrun, r1, r2⟩ := h1.update K ht hn (keyOf_int_mk hk hwf) (fnElem_func f)
  unfold Oper.wp
  simp [execOp, hop, hm, hx, hv, hrun, Result.andThen]
  refine hK' _ _ (hK w' ⟨_, r1, h2.put _ _, fun kl' f' hmem => ?_⟩ r2)
  have hkl : WideAt.IsKeyLit (intLit q) := trivial
  rcases List.mem_cons.1 hmem with he | he
  · injection he with e1 e2
    subst e1; subst e2
    exact atKey_put_same h2 hkl _ _
  · rw [← h3 kl' f' he]
    exact atKey_put_other (show kl' ≠ intLit q from hnew _ he) _ _
theorem FnR.lt {P : Program} {k : TypeId} {w : World} {b n : Nat} {fs : List (Lit × Nat)} (h : FnR P k w b n fs) : b < w.heap.size := by
  obtain ⟨D, h1, _⟩ := h
  exact h1.lt
set_option maxHeartbeats 2000000 in
theorem instructions_any (w : World) : Calls Tryz.prog 28 #[] w fun e w' => ∃ b n, e = .returned (.map (some b)) ∧ FnR Tryz.prog 3 w' b n mTbl ∧ w.heap.size ≤ b ∧ b < w'.heap.size ∧ Bel w w' := by
  have hmm := @run_makeMap Tryz.prog
  have HT := Lib.hid (FnR.made Tryz.prog 3 w)
  have HB := (Bel.refl w).alloc (.map #[] 0)
  go_enter Tryz.func28, Tryz.ntmps28
  go_wp2_with (refine wpList_insFn _ rfl (.tmp 1) _ _ 70 rfl 3 _ intKeyed Tryz.underlying70 w.heap.size _ _ _ _ Tryz.underlying3 HT.out (by simp [Act.eval, Act.put]) (by unfold maxLen; omega) rfl rfl (by decide) (by simp [intLit]) ?_; intro w2 hT2 hG2; replace HT := Lib.hid hT2; replace HB := HB.grown hG2 (fun k hk => by injection hk with hk; omega); clear hT2 hG2)
  go_ret
  exact ⟨w.heap.size, _, rfl, HT.out, Nat.le_refl _, HT.out.lt, HB⟩

def stepFn (op : Int) : Nat :=
  if op = 1 then 54 else if op = 2 then 55 else if op = 3 then 56 else if op = 4 then 57 else if op = 5 then 58 else if op = 6 then 59
  else if op = 7 then 60 else if op = 8 then 61 else if op = 9 then 62 else 63
theorem stepFn_mem {op : Int} (h1 : 1 ≤ op) (h2 : op ≤ 10) : (intLit op, stepFn op) ∈ mTbl := by
  have : op = 1 ∨ op = 2 ∨ op = 3 ∨ op = 4 ∨ op = 5 ∨ op = 6 ∨ op = 7 ∨ op = 8 ∨ op = 9 ∨ op = 10 := by omega
  rcases this with rfl | rfl | rfl | rfl | rfl | rfl | rfl | rfl | rfl | rfl <;> simp [mTbl, stepFn]
def RetS (k : Mc) (s : MS) (e : Ending) (w' : World) : Prop := ∃ v, e = .returned v ∧ PM k w' s.place s.stack s.loops
theorem RetM.s {k : Mc} {p : Nat} {st : List Int} {lps : List (Nat × List Int)} {s : MS} {e : Ending} {w' : World} (h : RetM k p st lps e w') (hs : s = ⟨p, st, lps⟩) : RetS k s e w' := by
  subst hs; exact h
/-- What the program's machine does at an instruction. -/
theorem exec_any (k : Mc) (pr : Prg) (g : Graph) (c : Config) (l : List Term) (hM : McR k pr g c l) (hs : SOK pr g c k.v) (s : MS) (w : World) (hl : l.length ≤ 1000000) (hp : s.place < l.length) (ok : StepOK (envF g c k.v) l pr.vars.length s (insAt l s.place)) (hnum : ∀ x ∈ s.stack, Num x)
    (h : PM k w (s.place + 1) s.stack s.loops) (hn : s.stack.length ≤ 1000000) (hln : s.loops.length ≤ 1000000) (hE : ∀ f ∈ s.loops, f.1 < l.length) :
    Calls Tryz.prog (stepFn (insAt l s.place).op) #[.pointer (some ⟨k.B, 0, none⟩), .int .i64 (insAt l s.place).arg] w (RetS k (stepM (envF g c k.v) l s)) := by
  have hnK : k.nK = (g.ports.getD k.v []).length := hM.2.2.1.1.symm
  have hdeg : (envF g c k.v).deg = k.nK := hnK.symm
  have hd24 := env_deg hs
  obtain ⟨p, st, lps⟩ := s
  dsimp only at *
  obtain ⟨o1, o2⟩ := ok.op
  have : (insAt l p).op = 1 ∨ (insAt l p).op = 2 ∨ (insAt l p).op = 3 ∨ (insAt l p).op = 4 ∨ (insAt l p).op = 5 ∨ (insAt l p).op = 6 ∨ (insAt l p).op = 7 ∨ (insAt l p).op = 8 ∨ (insAt l p).op = 9 ∨ (insAt l p).op = 10 := by omega
  have hport : needsF (insAt l p) = true → ∃ q : Nat, portM ⟨p + 1, st, lps⟩ = (q : Int) ∧ q < (g.ports.getD k.v []).length := fun hn => by
    obtain ⟨a1, a2⟩ := ok.port hn
    obtain ⟨q, hq⟩ := Int.eq_ofNat_of_zero_le a1
    refine ⟨q, hq, ?_⟩
    have : portM ⟨p, st, lps⟩ < ((g.ports.getD k.v []).length : Int) := a2
    omega
  rcases this with e | e | e | e | e | e | e | e | e | e
  · rw [e]
    refine (mPush_any k w (p + 1) st lps _ h hn).mono fun e' w' hr => hr.s ?_
    unfold stepM; dsimp only; rw [if_pos e]
  · rw [e]
    refine (mLoad_any k pr g c l hM hs w (p + 1) st lps _ h hn (ok.var (.inl e))).mono fun e' w' hr => hr.s ?_
    unfold stepM; dsimp only; rw [if_neg (by omega), if_pos e]; rfl
  · rw [e]
    obtain ⟨q, q1, q2⟩ := hport (by unfold needsF; simp [e])
    refine (mNear_any k pr g c l hM hs w (p + 1) st lps _ q h hn hln (ok.var (.inr e)) q1 q2).mono fun e' w' hr => hr.s ?_
    unfold stepM; dsimp only; rw [if_neg (by omega), if_neg (by omega), if_pos e]
    have : portM ⟨p, st, lps⟩ = (q : Int) := q1
    rw [this]; rfl
  · rw [e]
    refine (mFact_any k pr g c l hM hs w (p + 1) st lps _ _ h hn hln (ok.fact e) rfl (fun hb => ?_)).mono fun e' w' hr => hr.s ?_
    · obtain ⟨q, q1, q2⟩ := hport (by
        unfold needsF
        unfold nearOp at hb
        simp at hb ⊢
        omega)
      exact ⟨q, q1, q2⟩
    · unfold stepM; dsimp only; rw [if_neg (by omega), if_neg (by omega), if_neg (by omega), if_pos e]; rfl
  · rw [e]
    have h1 := ok.one (.inl e)
    cases st with
    | nil => simp at h1
    | cons b st =>
      refine (mUnary_any k w (p + 1) b st lps _ h (by simp at hn; omega) (ok.un e) (hnum b (List.mem_cons_self ..))).mono fun e' w' hr => hr.s ?_
      unfold stepM; dsimp only; rw [if_neg (by omega), if_neg (by omega), if_neg (by omega), if_neg (by omega), if_pos e]; rfl
  · rw [e]
    have h1 := ok.two e
    match st, h1 with
    | b :: d :: st, _ =>
      refine (mBinary_any k w (p + 1) b d st lps _ h (by simp at hn; omega) (ok.bin e) (hnum b (by simp)) (hnum d (by simp))).mono fun e' w' hr => hr.s ?_
      unfold stepM; dsimp only; rw [if_neg (by omega), if_neg (by omega), if_neg (by omega), if_neg (by omega), if_neg (by omega), if_pos e]; rfl
  · rw [e]
    have h1 := ok.one (.inr (.inl e))
    have hj := ok.jmp (.inl e)
    cases st with
    | nil => simp at h1
    | cons b st =>
      rw [← hj]
      refine (mElse_any k w (p + 1) b st lps _ h (by simp at hn; omega)).mono fun e' w' hr => hr.s ?_
      unfold stepM; dsimp only; rw [if_neg (by omega), if_neg (by omega), if_neg (by omega), if_neg (by omega), if_neg (by omega), if_neg (by omega), if_pos e]; rfl
  · rw [e]
    have hj := ok.jmp (.inr e)
    rw [← hj]
    refine (mJump_any k w (p + 1) st lps _ h).mono fun e' w' hr => hr.s ?_
    unfold stepM; dsimp only; rw [if_neg (by omega), if_neg (by omega), if_neg (by omega), if_neg (by omega), if_neg (by omega), if_neg (by omega), if_neg (by omega), if_pos e]
  · rw [e]
    obtain ⟨a, a1, a2, a3, a4⟩ := ok.each e
    rw [a1]
    by_cases h0 : k.nK = 0
    · refine (mEach0_any k pr g c l hM w (p + 1) st lps a h hn h0 a2 hl a3 a4).mono fun e' w' hr => hr.s ?_
      unfold stepM; dsimp only; rw [if_neg (by omega), if_neg (by omega), if_neg (by omega), if_neg (by omega), if_neg (by omega), if_neg (by omega), if_neg (by omega), if_neg (by omega), if_pos e, if_pos (by omega), a1, Int.toNat_natCast]
    · refine (mEach1_any k w p st lps _ h hln (by omega) (by omega)).mono fun e' w' hr => hr.s ?_
      unfold stepM; dsimp only; rw [if_neg (by omega), if_neg (by omega), if_neg (by omega), if_neg (by omega), if_neg (by omega), if_neg (by omega), if_neg (by omega), if_neg (by omega), if_pos e, if_neg (by omega)]
  · rw [e]
    have h1 := ok.one (.inr (.inr e))
    obtain ⟨n1, n2, f, r, rfl, n3, n4⟩ := ok.next e
    obtain ⟨e0, vals⟩ := f
    dsimp only at n3 n4
    cases st with
    | nil => simp at h1
    | cons b st =>
      have hnv : ∀ y ∈ vals ++ [b], Num y := fun y hy => by
        rcases List.mem_append.1 hy with hy | hy
        · exact n4 y hy
        · simp at hy; rw [hy]; exact hnum b (List.mem_cons_self ..)
      have he0 := hE (e0, vals) (List.mem_cons_self ..)
      refine (mNext_any k w (p + 1) b st e0 vals r _ h (by simp at hn; omega) (by simp at hln; omega) (by omega) (by omega) hnv n1 n2 (by dsimp only at he0; omega)).mono fun e' w' hr => ?_
      unfold RetN at hr
      split at hr
      · rename_i hlt
        refine hr.s ?_
        unfold stepM; dsimp only; rw [if_neg (by omega), if_neg (by omega), if_neg (by omega), if_neg (by omega), if_neg (by omega), if_neg (by omega), if_neg (by omega), if_neg (by omega), if_neg (by omega)]
        unfold nextM; dsimp only; rw [if_pos (by omega)]; rfl
      · rename_i hlt
        refine hr.s ?_
        unfold stepM; dsimp only; rw [if_neg (by omega), if_neg (by omega), if_neg (by omega), if_neg (by omega), if_neg (by omega), if_neg (by omega), if_neg (by omega), if_neg (by omega), if_neg (by omega)]
        unfold nextM; dsimp only; rw [if_neg (by omega)]; rfl

end Go.Proofs.YtaifafljakojnaaGreat

/- What holds between two steps of a run of verified code at a node. -/
namespace Go.Proofs.YtaifafljakojnaaGreat

theorem next_places {E : Env} {x : Term} {s : MS} {n : Nat} (h : ∀ f ∈ s.loops, f.1 < n) : ∀ f ∈ (nextM E x s).loops, f.1 < n := by
  obtain ⟨p, st, lps⟩ := s
  cases lps with
  | nil => exact h
  | cons f r =>
    by_cases hlt : f.2.length + 1 < E.deg
    · have e : (nextM E x ⟨p, st, f :: r⟩).loops = (f.1, f.2 ++ [top1 ⟨p, st, f :: r⟩]) :: r := by
        show (if f.2.length + 1 < E.deg then (⟨f.1 + 1, st.tail, (f.1, f.2 ++ [top1 ⟨p, st, f :: r⟩]) :: r⟩ : MS) else _).loops = _
        rw [if_pos hlt]
      rw [e]
      intro y hy
      rcases List.mem_cons.1 hy with rfl | hy
      · exact h f (List.mem_cons_self ..)
      · exact h y (List.mem_cons_of_mem _ hy)
    · have e : (nextM E x ⟨p, st, f :: r⟩).loops = r := by
        show (if f.2.length + 1 < E.deg then _ else (⟨p + 1, foldF x.arg (f.2 ++ [top1 ⟨p, st, f :: r⟩]) :: st.tail, r⟩ : MS)).loops = _
        rw [if_neg hlt]
      rw [e]
      exact fun y hy => h y (List.mem_cons_of_mem _ hy)
def PlacesOK (n : Nat) (s : MS) : Prop := ∀ f ∈ s.loops, f.1 < n
theorem step_places {E : Env} {l : List Term} {s : MS} (h : ∀ f ∈ s.loops, f.1 < l.length) (hp : s.place < l.length) : ∀ f ∈ (stepM E l s).loops, f.1 < l.length := by
  show PlacesOK l.length (stepM E l s)
  unfold stepM
  dsimp only
  repeat' split
  all_goals first
    | exact h
    | exact next_places h
    | (intro f hf
       rcases List.mem_cons.1 hf with rfl | hf
       · exact hp
       · exact h f hf)
structure RunI (p : Prg) (g : Graph) (c : Config) (v : Nat) (l : List Term) (H : List Int) (T : Nat → List Tr) (s : MS) (i : Nat) : Prop where
  inv : MInv (envF g c v) l H T s
  run : RunM (envF g c v) l startM i s
  pot : potM (envF g c v) l T s + i ≤ fuelF g c v l
  slen : s.stack.length ≤ i
  llen : s.loops.length ≤ i
  places : ∀ f ∈ s.loops, f.1 < l.length
theorem fuel_le {p : Prg} {g : Graph} {c : Config} {v : Nat} (hs : SOK p g c v) {l : List Term} (hl : l.length ≤ 1024) : fuelF g c v l ≤ 600000 := by
  have := env_deg hs
  unfold fuelF
  have h1 : max (envF g c v).deg 1 * max (envF g c v).deg 1 ≤ 23 * 23 := Nat.mul_le_mul (by omega) (by omega)
  have h2 := Nat.mul_le_mul hl h1
  omega
theorem RunI.start {p : Prg} {g : Graph} {c : Config} {v : Nat} {l : List Term} {H : List Int} {T : Nat → List Tr} (hv : Ver l (p.vars.length : Int) H T) : RunI p g c v l H T startM 0 :=
  ⟨start_minv hv, .here _, start_pot hv, Nat.le_refl _, Nat.le_refl _, fun f hf => (by cases hf)⟩
theorem RunI.next {p : Prg} {g : Graph} {c : Config} {v : Nat} (hs : SOK p g c v) {l : List Term} {H : List Int} {T : Nat → List Tr} (hv : Ver l (p.vars.length : Int) H T) {s : MS} {i : Nat} (h : RunI p g c v l H T s i) (hp : s.place < l.length) :
    RunI p g c v l H T (stepM (envF g c v) l s) (i + 1) ∧ potM (envF g c v) l T (stepM (envF g c v) l s) + 1 ≤ potM (envF g c v) l T s ∧ StepOK (envF g c v) l p.vars.length s (insAt l s.place) := by
  have h1 := pot_step hv h.inv hp
  obtain ⟨l1, l2⟩ := step_len (envF g c v) l s
  have h2 := h.pot
  have h3 := h.slen
  have h4 := h.llen
  exact ⟨⟨inv_step hv (env_ok hs) fold_num (env_deg hs) h.inv hp, h.run.trans (RunM.one hp rfl), by omega, by omega, by omega, step_places h.places hp⟩, h1, step_ok hv h.inv hp⟩
theorem RunI.done {p : Prg} {g : Graph} {c : Config} {v : Nat} {l : List Term} {H : List Int} {T : Nat → List Tr} (hv : Ver l (p.vars.length : Int) H T) {s : MS} {i : Nat} (h : RunI p g c v l H T s i) (hp : ¬ s.place < l.length) :
    ∃ x, s = ⟨l.length, [x], []⟩ ∧ execF g c v l = (⟨l.length, [x], []⟩, i) := by
  have hpl : s.place = l.length := by have := h.inv.place; omega
  obtain ⟨x, hx, _⟩ := end_state hv h.inv hpl
  have := h.pot
  exact ⟨x, hx, by unfold execF; rw [← hx]; exact goM_run h.run hpl _ (by omega)⟩

end Go.Proofs.YtaifafljakojnaaGreat

