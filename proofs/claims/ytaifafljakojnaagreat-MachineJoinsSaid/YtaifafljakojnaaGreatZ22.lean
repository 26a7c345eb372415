/- Merged of: W13i W13d W13e W13f (see NOTES.md). -/
import Derived.Test.YtaifafljakojnaaGreatZ21
set_option linter.unusedSimpArgs false
set_option linter.unnecessarySimpa false
set_option linter.unusedVariables false

/- Contracts: the reference's machine: push, pop, port. -/
namespace Go.Proofs.YtaifafljakojnaaGreat
open Go.RowKit

/-- What a machine of the reference is made of. -/
structure Rc where
  w0 : World
  wT : World
  B : Nat
def stC (p n : Nat) (S L : Value) : Array Value := #[.int .i64 p, .int .i64 n, S, L]
def lpR (f : Frm) : List Value := [.int .i64 f.at_, .int .i64 f.pt, .slice f.hd.1 f.vals.length f.hd.2]
theorem lpR_len (f : Frm) : (lpR f).length = 3 := rfl
theorem Gr.setB (w : World) (B i : Nat) (u : Value) : Gr (some B) w (w.setCell ⟨B, i, none⟩ u) := by
  refine ⟨by simp, fun j _ hne => ?_⟩
  exact Below.heap_setCell _ _ _ _ (fun e => hne (by rw [e]))
/-- Blocks other than two are as they were. -/
def Gr2 (B : Nat) (row : Option Nat) (a b : World) : Prop := ∀ j, j < a.heap.size → j ≠ B → some j ≠ row → b.heap[j]? = a.heap[j]?
theorem Gr2.pushed {w w2 : World} {B i : Nat} {A : Option Addr} {n c : Nat} {o : Obj} {u : Value} (hg : (w.alloc o).grownBy w2 (Value.slice A n c).ownBlock) : Gr2 B (Hd.blk (A, c)) w (w2.setCell ⟨B, i, none⟩ u) := by
  rw [hd_own] at hg
  intro j hj h1 h2
  have hs := hg.size
  rw [World.size_alloc] at hs
  rw [(Gr.setB w2 B i u).2 j (by omega) (by simpa using h1), hg.block j (by rw [World.size_alloc]; omega) h2]
  exact heap_alloc_old w o hj
def RX (k : Rc) (w : World) (p n : Nat) (st : List Int) (A : Option Addr) (c : Nat) (L : Option Addr) (lc : Nat) (fr : List Frm) : Prop := MX 78 116 3 lpR k.w0 k.wT k.B (stC p n) w st A c L lc fr
def PtsOK (fr : List Frm) : Prop := ∀ f ∈ fr, f.pt = f.vals.length
def RM (k : Rc) (w : World) (p n : Nat) (st : List Int) (lps : List (Nat × List Int)) : Prop := ∃ A c L lc fr, RX k w p n st A c L lc fr ∧ PtsOK fr ∧ lps = fr.map Frm.lp
theorem RX.keep {k : Rc} {w w' : World} {p n : Nat} {st : List Int} {A L : Option Addr} {c lc : Nat} {fr : List Frm} (h : RX k w p n st A c L lc fr) (b : Bel w w') : RX k w' p n st A c L lc fr := MX.keep h b
theorem RX.drew {k : Rc} {w : World} {p n : Nat} {st : List Int} {A L : Option Addr} {c lc : Nat} {fr : List Frm} (h : RX k w p n st A c L lc fr) : RX k w.drew p n st A c L lc fr := MX.drew h
theorem RM.keep {k : Rc} {w w' : World} {p n : Nat} {st : List Int} {lps : List (Nat × List Int)} (h : RM k w p n st lps) (b : Bel w w') : RM k w' p n st lps := by
  obtain ⟨A, c, L, lc, fr, hX, hp, hl⟩ := h
  exact ⟨A, c, L, lc, fr, hX.keep b, hp, hl⟩
theorem RM.drew {k : Rc} {w : World} {p n : Nat} {st : List Int} {lps : List (Nat × List Int)} (h : RM k w p n st lps) : RM k w.drew p n st lps := h.keep (Bel.refl w).drew
def RetRM (k : Rc) (p n : Nat) (st : List Int) (lps : List (Nat × List Int)) (e : Ending) (w' : World) : Prop := ∃ v, e = .returned v ∧ RM k w' p n st lps
def RetRX (k : Rc) (p n : Nat) (st : List Int) (L : Option Addr) (lc : Nat) (fr : List Frm) (e : Ending) (w' : World) : Prop := ∃ v A c, e = .returned v ∧ RX k w' p n st A c L lc fr
def RetRF (k : Rc) (p n : Nat) (st : List Int) (A0 : Option Addr) (c0 : Nat) (L : Option Addr) (lc : Nat) (fr : List Frm) (w : World) (e : Ending) (w' : World) : Prop := ∃ v A c, e = .returned v ∧ RX k w' p n st A c L lc fr ∧ Gr2 k.B (Hd.blk (A0, c0)) w w'
set_option maxHeartbeats 400000 in
theorem rPushF_any (k : Rc) (w : World) (p n : Nat) (st : List Int) (A : Option Addr) (c : Nat) (L : Option Addr) (lc : Nat) (fr : List Frm) (a : Int) (h : RX k w p n st A c L lc fr) (hn : st.length ≤ 1000000) :
    Calls Tryz.prog 67 #[.pointer (some ⟨k.B, 0, none⟩), .int .i64 a] w (RetRF k p n (a :: st) A c L lc fr w) := by
  have hc := h.blk.cell 2 (v := .slice A st.length c) rfl
  have hf := h.blk.frozen 2
  have hlt := h.blk.lt
  have hbs := h.grown.size
  have hle := h.le0
  have hlt1 := h.lt1
  have H := Lib.hid h
  obtain ⟨i0, hi0, hz0, hz1, hz2⟩ := info_parts int_info
  clear h
  go_enter Tryz.func67, Tryz.ntmps67
  go_wp2_with (at_builtin; refine wpList_push _ rfl (.tmp 8) (.tmp 10) 27 rfl k.wT.heap.size 3 i0 (.int .i64 0) 1 8 Tryz.underlying27 hi0 hz0 hz1 hz2 rfl (by decide) A st.length c (st.reverse.map (Value.int .i64)) (by simp [Act.eval]) ((own_lenI H.out.rows.stack).alloc _) w.heap.size #[.int .i64 a] 3 (0, 0) (by simp [Act.eval]) (heap_new _ _) rfl (one_int _ _) (by unfold maxLen; omega) (by omega) (by simp; omega) ?_; intro A' c' w2 hown2 hgr2 hat2; have H2 := Lib.hid ((MX.keep H.out ((Bel.refl w).alloc _)).pushed (by decide) (by decide) hown2 hgr2 hat2); have hc2 := H2.out.1.cell 2 (v := .slice A st.length c) rfl; have hf2 := H2.out.1.frozen 2; have hlt2 := H2.out.1.lt; have HFR := Lib.hid (Gr2.pushed (B := k.B) (i := 2) (u := .slice A' (st.length + 1) c') hgr2); clear hown2 hgr2 hat2)
  go_end0
  exact ⟨_, A', c', rfl, MX.put H2.out.1 H2.out.2.1 hle hlt1 H2.out.2.2.1 H2.out.2.2.2 (by decide) (by decide) 2 _ rfl, HFR.out⟩
theorem rPushX_any (k : Rc) (w : World) (p n : Nat) (st : List Int) (A : Option Addr) (c : Nat) (L : Option Addr) (lc : Nat) (fr : List Frm) (a : Int) (h : RX k w p n st A c L lc fr) (hn : st.length ≤ 1000000) :
    Calls Tryz.prog 67 #[.pointer (some ⟨k.B, 0, none⟩), .int .i64 a] w (RetRX k p n (a :: st) L lc fr) := by
  refine (rPushF_any k w p n st A c L lc fr a h hn).mono ?_
  rintro e w' ⟨v, A', c', rfl, h', _⟩
  exact ⟨v, A', c', rfl, h'⟩
theorem rPush_any (k : Rc) (w : World) (p n : Nat) (st : List Int) (lps : List (Nat × List Int)) (a : Int) (h : RM k w p n st lps) (hn : st.length ≤ 1000000) :
    Calls Tryz.prog 67 #[.pointer (some ⟨k.B, 0, none⟩), .int .i64 a] w (RetRM k p n (a :: st) lps) := by
  obtain ⟨A, c, L, lc, fr, hX, hp, rfl⟩ := h
  refine (rPushX_any k w p n st A c L lc fr a hX hn).mono ?_
  rintro e w' ⟨v, A', c', rfl, h'⟩
  exact ⟨v, rfl, A', c', L, lc, fr, h', hp, rfl⟩

set_option maxRecDepth 100000 in
set_option maxHeartbeats 2000000 in
theorem rPopX_any (k : Rc) (w : World) (p n : Nat) (a : Int) (st : List Int) (A : Option Addr) (c : Nat) (L : Option Addr) (lc : Nat) (fr : List Frm) (h : RX k w p n (a :: st) A c L lc fr) (hn : st.length ≤ 1000000) :
    Calls Tryz.prog 71 #[.pointer (some ⟨k.B, 0, none⟩)] w fun e w' => e = .returned (.int .i64 a) ∧ RX k w' p n st A c L lc fr ∧ Gr (some k.B) w w' := by
  have ho := own_lenI h.rows.stack
  obtain ⟨g, rfl, hg0, hgl, hcell, _⟩ := own_at (j := st.length) (u := .int .i64 a) ho (by simp [List.map_append])
  have hcap := (own_cap ho).1
  have hcm := (own_cap ho).2
  unfold maxLen at hcm
  have hc := h.blk.cell 2 (v := .slice (some ⟨g, 0, none⟩) (st.length + 1) c) rfl
  have hf := h.blk.frozen 2
  have hlt := h.blk.lt
  obtain ⟨i0, hi0, hz0, hz1, hz2⟩ := info_parts int_info
  have hcc : st.length ≤ c := by simp at hcap; omega
  have hup := run_upto (P := Tryz.prog) Tryz.underlying27 hi0 (some ⟨g, 0, none⟩) (st.length + 1) c st.length hcc
  have hw1 : IntKind.i64.wrap ((st.length : Int) + 1 - 1) = st.length := by rw [IntWalk.i64_in _ (by omega)]; omega
  have hw2 : IntKind.i64.wrap (st.length : Int) = st.length := IntWalk.i64_in _ (by omega)
  have hdl : (st.length : Int) < (st.length : Int) + 1 := by omega
  have H := Lib.hid h
  clear h ho hcap hi0 hz0 hz1 hz2
  go_enter Tryz.func71, Tryz.ntmps71
  go_wp2_with fail
  go_quiet (fail)
  go_wp2_with fail
  refine AnyE.start (fun w' => w'.cell? ⟨k.B, 2, none⟩ = some (.slice (some ⟨g, 0, none⟩) (st.length + 1) c) ∧ k.B < w'.heap.size) 14 (by kernel_rfl) ?_
  have hHeld : (w.drewN nq).drew.cell? ⟨k.B, 2, none⟩ = some (.slice (some ⟨g, 0, none⟩) (st.length + 1) c) ∧ k.B < (w.drewN nq).drew.heap.size := ⟨hc, hlt⟩
  (refine AnyE.takeC (i := 0) (v := ?_) (some 16) rfl rfl (by kernel_rfl) (by kernel_rfl) (by kernel_rfl) (by kernel_rfl) (fun _ _ _ h => h) hHeld (Or.inl ⟨by rfl, ?_⟩) ?_; rotate_left 1; focus (intro w' hSw; (try dsimp only at hSw); go_simp; (try with_reducible rfl); done); (try simp only [Act.put, List.setIfInBounds_toArray, List.set_cons_zero, List.set_cons_succ]))
  (refine AnyE.takeC (i := 1) (v := ?_) (some 17) rfl rfl (by kernel_rfl) (by kernel_rfl) (by kernel_rfl) (by kernel_rfl) (fun _ _ _ h => h) hHeld (Or.inl ⟨by rfl, ?_⟩) ?_; rotate_left 1; focus (intro w' hSw; (try dsimp only at hSw); go_simp; (try with_reducible rfl); done); (try simp only [Act.put, List.setIfInBounds_toArray, List.set_cons_zero, List.set_cons_succ]))
  (refine AnyE.takeC (i := 2) (v := ?_) (some 18) rfl rfl (by kernel_rfl) (by kernel_rfl) (by kernel_rfl) (by kernel_rfl) (fun _ _ _ h => h) hHeld (Or.inl ⟨by rfl, ?_⟩) ?_; rotate_left 1; focus (intro w' hSw; (try dsimp only at hSw); go_simp; (try with_reducible rfl); done); (try simp only [Act.put, List.setIfInBounds_toArray, List.set_cons_zero, List.set_cons_succ]))
  (refine AnyE.takeC (i := 3) (v := ?_) (some 19) rfl rfl (by kernel_rfl) (by kernel_rfl) (by kernel_rfl) (by kernel_rfl) (fun _ _ _ h => h) hHeld (Or.inl ⟨by rfl, ?_⟩) ?_; rotate_left 1; focus (intro w' hSw; (try dsimp only at hSw); go_simp; (try with_reducible rfl); done); (try simp only [Act.put, List.setIfInBounds_toArray, List.set_cons_zero, List.set_cons_succ]))
  (refine AnyE.takeC (i := 4) (v := ?_) (some 20) rfl rfl (by kernel_rfl) (by kernel_rfl) (by kernel_rfl) (by kernel_rfl) (fun _ _ _ h => h) hHeld (Or.inl ⟨by rfl, ?_⟩) ?_; rotate_left 1; focus (intro w' hSw; (try dsimp only at hSw); go_simp; (try with_reducible rfl); done); (try simp only [Act.put, List.setIfInBounds_toArray, List.set_cons_zero, List.set_cons_succ]))
  (refine AnyE.takeC (i := 5) (v := ?_) (some 21) rfl rfl (by kernel_rfl) (by kernel_rfl) (by kernel_rfl) (by kernel_rfl) (fun _ _ _ h => h) hHeld (Or.inl ⟨by rfl, ?_⟩) ?_; rotate_left 1; focus (intro w' hSw; (try dsimp only at hSw); go_simp; (try with_reducible rfl); done); (try simp only [Act.put, List.setIfInBounds_toArray, List.set_cons_zero, List.set_cons_succ]))
  (refine AnyE.takeC (i := 6) (v := ?_) (some 22) rfl rfl (by kernel_rfl) (by kernel_rfl) (by kernel_rfl) (by kernel_rfl) (fun _ _ _ h => h) hHeld (Or.inl ⟨by rfl, ?_⟩) ?_; rotate_left 1; focus (intro w' hSw; (try dsimp only at hSw); go_simp; (try with_reducible rfl); done); (try simp only [Act.put, List.setIfInBounds_toArray, List.set_cons_zero, List.set_cons_succ]))
  (refine AnyE.takeC (i := 7) (v := ?_) (some 23) rfl rfl (by kernel_rfl) (by kernel_rfl) (by kernel_rfl) (by kernel_rfl) (fun _ _ _ h => h) hHeld (Or.inl ⟨by rfl, ?_⟩) ?_; rotate_left 1; focus (intro w' hSw; (try dsimp only at hSw); go_simp; (try with_reducible rfl); done); (try simp only [Act.put, List.setIfInBounds_toArray, List.set_cons_zero, List.set_cons_succ]))
  (refine AnyE.takeC (i := 8) (v := ?_) (some 24) rfl rfl (by kernel_rfl) (by kernel_rfl) (by kernel_rfl) (by kernel_rfl) (fun _ _ _ h => h) hHeld (Or.inl ⟨by rfl, ?_⟩) ?_; rotate_left 1; focus (intro w' hSw; (try dsimp only at hSw); go_simp; (try with_reducible rfl); done); (try simp only [Act.put, List.setIfInBounds_toArray, List.set_cons_zero, List.set_cons_succ]))
  (refine AnyE.takeC (i := 9) (v := ?_) (some 25) rfl rfl (by kernel_rfl) (by kernel_rfl) (by kernel_rfl) (by kernel_rfl) (fun _ _ _ h => h) hHeld (Or.inl ⟨by rfl, ?_⟩) ?_; rotate_left 1; focus (intro w' hSw; (try dsimp only at hSw); go_simp; (try with_reducible rfl); done); (try simp only [Act.put, List.setIfInBounds_toArray, List.set_cons_zero, List.set_cons_succ]))
  (refine AnyE.takeC (i := 10) (v := ?_) (some 26) rfl rfl (by kernel_rfl) (by kernel_rfl) (by kernel_rfl) (by kernel_rfl) (fun _ _ _ h => h) hHeld (Or.inl ⟨by rfl, ?_⟩) ?_; rotate_left 1; focus (intro w' hSw; (try dsimp only at hSw); go_simp; (try with_reducible rfl); done); (try simp only [Act.put, List.setIfInBounds_toArray, List.set_cons_zero, List.set_cons_succ]))
  (refine AnyE.takeC (i := 11) (v := ?_) (some 27) rfl rfl (by kernel_rfl) (by kernel_rfl) (by kernel_rfl) (by kernel_rfl) (fun _ _ _ h => h) hHeld (Or.inl ⟨by rfl, ?_⟩) ?_; rotate_left 1; focus (intro w' hSw; (try dsimp only at hSw); go_simp; (try with_reducible rfl); done); (try simp only [Act.put, List.setIfInBounds_toArray, List.set_cons_zero, List.set_cons_succ]))
  (refine AnyE.takeC (i := 12) (v := ?_) (some 28) rfl rfl (by kernel_rfl) (by kernel_rfl) (by kernel_rfl) (by kernel_rfl) (fun _ _ _ h => h) hHeld (Or.inl ⟨by rfl, ?_⟩) ?_; rotate_left 1; focus (intro w' hSw; (try dsimp only at hSw); go_simp; (try with_reducible rfl); done); (try simp only [Act.put, List.setIfInBounds_toArray, List.set_cons_zero, List.set_cons_succ]))
  (refine AnyE.takeC (i := 13) (v := ?_) (some 29) rfl rfl (by kernel_rfl) (by kernel_rfl) (by kernel_rfl) (by kernel_rfl) (fun _ _ _ h => h) hHeld (Or.inl ⟨by rfl, ?_⟩) ?_; rotate_left 1; focus (intro w' hSw; (try dsimp only at hSw); go_simp; (try with_reducible rfl); done); (try simp only [Act.put, List.setIfInBounds_toArray, List.set_cons_zero, List.set_cons_succ]))
  refine AnyE.one (i := 14) (by kernel_rfl) rfl (fun K hK => ?_)
  go_simp
  refine hK.out _ _ (fun h => absurd rfl h) ?_
  clear hK K hHeld
  refine AnyE.done (by kernel_rfl) ?_ _
  go_wp2_with fail
  go_ret
  have H3 := (MX.drewN H.out nq).drew
  exact ⟨rfl, MX.put H3.blk H3.rows.pop H3.le0 H3.lt1 H3.bel H3.grown (by decide) (by decide) 2 _ rfl, (Gr.of_bel (((Bel.refl w).drewN nq).drew)).trans (Gr.setB _ _ _ _)⟩
theorem rPop_any (k : Rc) (w : World) (p n : Nat) (a : Int) (st : List Int) (lps : List (Nat × List Int)) (h : RM k w p n (a :: st) lps) (hn : st.length ≤ 1000000) :
    Calls Tryz.prog 71 #[.pointer (some ⟨k.B, 0, none⟩)] w fun e w' => e = .returned (.int .i64 a) ∧ RM k w' p n st lps ∧ Gr (some k.B) w w' := by
  obtain ⟨A, c, L, lc, fr, hX, hp, rfl⟩ := h
  refine (rPopX_any k w p n a st A c L lc fr hX hn).mono ?_
  rintro e w' ⟨rfl, h', hg⟩
  exact ⟨rfl, ⟨A, c, L, lc, fr, h', hp, rfl⟩, hg⟩

set_option maxHeartbeats 400000 in
theorem rPort_any (k : Rc) (w : World) (p n : Nat) (st : List Int) (lps : List (Nat × List Int)) (x : Int) (h : RM k w p n st lps) (hx : portM ⟨p, st, lps⟩ = x) (hn : lps.length ≤ 1000000) :
    Calls Tryz.prog 68 #[.pointer (some ⟨k.B, 0, none⟩)] w fun e w' => e = .returned (.int .i64 x) ∧ Bel w w' := by
  obtain ⟨A, c, L, lc, fr, ⟨hB, hR, h0, h1, hb, hg⟩, hpt, rfl⟩ := h
  rw [List.length_map] at hn
  cases fr with
  | nil =>
    have hc := hB.cell 3 (v := .slice L 0 lc) rfl
    have hlt := hB.lt
    have HX : Hid (x = -1) := hx.symm
    clear hB hR hb hg hx hpt
    go_enter Tryz.func68, Tryz.ntmps68
    go_wp2
    go_ret
    exact ⟨ret_int HX.out.symm, Bel.refl w⟩
  | cons f fr =>
    have hlo := hR.loops
    have hpf := hpt f (List.mem_cons_self ..)
    obtain ⟨g, rfl, hg0, hgl, hcell, _⟩ := own_at (j := fr.length * 3 + 1) (u := .int .i64 f.vals.length) hlo (by rw [rowL_last lpR 3 lpR_len f fr 1, ← hpf]; rfl)
    have hc := hB.cell 3 (v := .slice (some ⟨g, 0, none⟩) (fr.length + 1) lc) rfl
    have hlt := hB.lt
    have HX : Hid (x = (f.vals.length : Int)) := hx.symm
    have hmx := own_cap hlo
    unfold maxLen at hmx
    rw [List.length_cons] at hn
    have hd : (((fr.length : Int) + 1) == 0) = false := by simp; omega
    have hw1 : IntKind.i64.wrap ((fr.length : Int) + 1 - 1) = fr.length := by rw [IntWalk.i64_in _ (by omega)]; omega
    clear hB hR hb hg hx hlo hmx hpt hpf
    go_enter Tryz.func68, Tryz.ntmps68
    go_wp2
    go_quiet (fail)
    go_wp2
    go_ret
    exact ⟨ret_int HX.out.symm, (Bel.refl w).drewN _⟩

end Go.Proofs.YtaifafljakojnaaGreat

/- Contracts: the methods of the program's machine: near, fact, unary, binary, otherwise, jump. -/
namespace Go.Proofs.YtaifafljakojnaaGreat
open Go.RowKit

set_option maxRecDepth 100000 in
set_option maxHeartbeats 2000000 in
theorem mNear_any (k : Mc) (pr : Prg) (g : Graph) (c : Config) (l : List Term) (hK : McR k pr g c l) (hs : SOK pr g c k.v) (w : World) (p : Nat) (st : List Int) (lps : List (Nat × List Int)) (a : Int) (q : Nat) (h : PM k w p st lps) (hn : st.length ≤ 1000000) (hln : lps.length ≤ 1000000) (ha : 0 ≤ a ∧ a < pr.vars.length)
    (hx : portM ⟨p, st, lps⟩ = (q : Int)) (hq : q < (g.ports.getD k.v []).length) :
    Calls Tryz.prog 56 #[.pointer (some ⟨k.B, 0, none⟩), .int .i64 a] w (RetM k p ((c.getD (linkF g k.v (q : Int)).to.toNat []).getD a.toNat 0 :: st) lps) := by
  obtain ⟨i, rfl⟩ := Int.eq_ofNat_of_zero_le ha.1
  have hv := hs.node
  have hnK : k.nK = (g.ports.getD k.v []).length := hK.2.2.1.1.symm
  obtain ⟨b4, o4, hKA, hb4, hto, _⟩ := LinksR.at_ hK.2.2.1 q hq
  rw [getD_eq hv] at hq hnK
  obtain ⟨e, t, ht, htl, _⟩ := link_at hs.gok hv hq
  have hto' : k.w0.cell? ⟨b4, o4 + q * 2, none⟩ = some (.int .i64 (t : Int)) := by
    rw [hto, ← ht]
    congr 3
    simp [List.getD_eq_getElem?_getD, hv]
  have htc : t < c.length := by rw [hs.len]; exact htl
  have hac : i < c[t].length := by rw [hs.row htl]; omega
  obtain ⟨b1, o1, R, rc, hCA, hb1, hrow, hR, _, _⟩ := RowsAt.at_ hK.2.2.2 t htc
  obtain ⟨b2, o2, rfl, hb2, hval⟩ := IntsR.at_ hR i hac
  have hnC : k.nC = c.length := hK.2.2.2.1.symm
  have hdt : decide (t < c.length) = true := by simpa using htc
  have hda : decide (i < c[t].length) = true := by simpa using hac
  have hdq : decide (q < g.ports[k.v].length) = true := by simpa using hq
  have HE : Hid (c[t][i] = (c.getD (linkF g k.v (q : Int)).to.toNat []).getD (i : Int).toNat 0) := by
    show c[t][i] = (c.getD (linkF g k.v (q : Int)).to.toNat []).getD (i : Int).toNat 0
    rw [e, ht, Int.toNat_natCast, Int.toNat_natCast, getD_eq htc, getD_eq hac]
  rw [← HE.out]
  have HM := h.drew
  have HX := Lib.hid hx
  have hcell := Lib.hid (fun (w' : World) p' st' lps' (hm : PM k w' p' st' lps') => show w'.cell? ⟨k.B, 2, none⟩ = some (.slice (some ⟨b4, o4, none⟩) g.ports[k.v].length k.cK) ∧ w'.cell? ⟨k.B, 3, none⟩ = some (.slice (some ⟨b1, o1, none⟩) c.length k.cC) ∧ w'.cell? ⟨b4, o4 + q * 2, none⟩ = some (.int .i64 (t : Int)) ∧ w'.cell? ⟨b1, o1 + t, none⟩ = some (.slice (some ⟨b2, o2, none⟩) c[t].length rc) ∧ w'.cell? ⟨b2, o2 + i, none⟩ = some (.int .i64 c[t][i]) ∧ k.B < w'.heap.size from by
    obtain ⟨_, _, m2, m3, _, _, _, ml, mb⟩ := hm.cells
    rw [hCA, hnC] at m3
    rw [hKA, hnK] at m2
    exact ⟨m2, m3, (mb.cell hb4).trans hto', (mb.cell hb1).trans hrow, (mb.cell hb2).trans hval, ml⟩)
  clear h hK hs hR hnC hnK hCA hKA hrow hval ha HE hto hto' e ht hx
  go_enter Tryz.func56, Tryz.ntmps56
  go_wp2_with fail
  go_region_held3 (fun w' => w'.cell? ⟨k.B, 2, none⟩ = some (.slice (some ⟨b4, o4, none⟩) g.ports[k.v].length k.cK) ∧ w'.cell? ⟨k.B, 3, none⟩ = some (.slice (some ⟨b1, o1, none⟩) c.length k.cC) ∧ w'.cell? ⟨b4, o4 + q * 2, none⟩ = some (.int .i64 (t : Int)) ∧ w'.cell? ⟨b1, o1 + t, none⟩ = some (.slice (some ⟨b2, o2, none⟩) c[t].length rc) ∧ w'.cell? ⟨b2, o2 + i, none⟩ = some (.int .i64 c[t][i]) ∧ k.B < w'.heap.size) (exact hcell.out _ _ _ _ HM)
    (first
      | (go_simp; go_at_call 111; refine (mPort_any k _ p st lps _ HM HX.out hln).mono ?_; rintro e w' ⟨rfl, hbb⟩; replace HM := HM.keep hbb; clear hbb)
      | (go_simp; go_at_call 54; refine (mPush_any k _ p st lps _ HM hn).mono ?_; rintro e w' ⟨v, rfl, hm⟩; replace HM := hm; clear hm))
  go_wp2_with fail
  go_end0
  exact ⟨_, rfl, HM⟩

set_option maxRecDepth 100000 in
set_option maxHeartbeats 2000000 in
theorem mFact_any (k : Mc) (pr : Prg) (g : Graph) (c : Config) (l : List Term) (hK : McR k pr g c l) (hs : SOK pr g c k.v) (w : World) (p : Nat) (st : List Int) (lps : List (Nat × List Int)) (a x : Int) (h : PM k w p st lps) (hn : st.length ≤ 1000000) (hln : lps.length ≤ 1000000) (ha : 6 ≤ a ∧ a ≤ 17 ∧ a ≠ 12)
    (hx : portM ⟨p, st, lps⟩ = x) (hp : portOK g k.v (nearOp a) x) :
    Calls Tryz.prog 57 #[.pointer (some ⟨k.B, 0, none⟩), .int .i64 a] w (RetM k p (factF g a k.v x :: st) lps) := by
  have hv := hs.node
  have HG := Lib.hid hs.gok
  have HA := Lib.hid ha
  have HP := Lib.hid hp
  have HX := Lib.hid hx
  have HS := Lib.hid hK.2.1
  have HM := h.drew
  have hcell := Lib.hid (fun (w' : World) p' st' lps' (hm : PM k w' p' st' lps') => show w'.cell? ⟨k.B, 1, none⟩ = some (.pointer (some ⟨k.Bs, 0, none⟩)) ∧ w'.cell? ⟨k.B, 4, none⟩ = some (.int .i64 k.v) ∧ k.B < w'.heap.size from by
    obtain ⟨_, m1, _, _, m4, _, _, ml, _⟩ := hm.cells
    exact ⟨m1, m4, ml⟩)
  have hbel := Lib.hid (fun (w' : World) p' st' lps' (hm : PM k w' p' st' lps') => hm.cells.2.2.2.2.2.2.2.2)
  clear h hK hs ha hx hp
  go_enter Tryz.func57, Tryz.ntmps57
  go_wp2_with fail
  go_region_held3 (fun w' => w'.cell? ⟨k.B, 1, none⟩ = some (.pointer (some ⟨k.Bs, 0, none⟩)) ∧ w'.cell? ⟨k.B, 4, none⟩ = some (.int .i64 k.v) ∧ k.B < w'.heap.size) (exact hcell.out _ _ _ _ HM)
    (first
      | (go_simp; go_at_call 111; refine (mPort_any k _ p st lps _ HM HX.out hln).mono ?_; rintro e w' ⟨rfl, hbb⟩; replace HM := HM.keep hbb; clear hbb)
      | (go_simp; go_at_call 112; refine (fact_any k.Bs pr g a k.v x (nearOp a) _ (HS.out.keep (hbel.out _ _ _ _ HM)) HG.out hv HA.out id HP.out).mono ?_; rintro e w' ⟨rfl, hbb⟩; replace HM := HM.keep hbb; clear hbb)
      | (go_simp; go_at_call 54; refine (mPush_any k _ p st lps _ HM hn).mono ?_; rintro e w' ⟨v, rfl, hm⟩; replace HM := hm; clear hm))
  go_wp2_with fail
  go_end0
  exact ⟨_, rfl, HM⟩

set_option maxHeartbeats 1000000 in
theorem mUnary_any (k : Mc) (w : World) (p : Nat) (b : Int) (st : List Int) (lps : List (Nat × List Int)) (a : Int) (h : PM k w p (b :: st) lps) (hn : st.length ≤ 1000000) (ha : a = 18 ∨ a = 19) (hb : Num b) :
    Calls Tryz.prog 58 #[.pointer (some ⟨k.B, 0, none⟩), .int .i64 a] w (RetM k p (unaryF a b :: st) lps) := by
  have hE := unaryR_okM ha hb
  have HM := h
  have HE := Lib.hid hE
  clear h hE ha
  go_enter Tryz.func58, Tryz.ntmps58
  go_wp2_with (first
    | (go_at_call 29; refine (mPop_any k _ p b st lps HM hn).mono ?_; rintro e w' ⟨rfl, hm⟩; replace HM := hm; clear hm)
    | (go_at_call 113; refine (evalUnary_any _ _ _).mono ?_; rintro e w' ⟨rfl, hbb⟩; rw [HE.out]; replace HM := HM.keep hbb; clear hbb)
    | (go_at_call 54; refine (mPush_any k _ p st lps _ HM hn).mono ?_; rintro e w' ⟨v, rfl, hm⟩; replace HM := hm; clear hm))
  go_end0
  exact ⟨_, rfl, HM⟩

set_option maxHeartbeats 1000000 in
theorem mBinary_any (k : Mc) (w : World) (p : Nat) (b c : Int) (st : List Int) (lps : List (Nat × List Int)) (a : Int) (h : PM k w p (b :: c :: st) lps) (hn : st.length + 1 ≤ 1000000) (ha : 30 ≤ a ∧ a ≤ 42) (hb : Num b) (hc : Num c) :
    Calls Tryz.prog 59 #[.pointer (some ⟨k.B, 0, none⟩), .int .i64 a] w (RetM k p (binaryF a c b :: st) lps) := by
  have hE := binaryR_okM ha.1 ha.2 hc hb
  have HM := h
  have HE := Lib.hid hE
  have hn2 : st.length ≤ 1000000 := by omega
  clear h hE ha
  go_enter Tryz.func59, Tryz.ntmps59
  go_wp2_with fail
  refine (mPop_any k _ p b (c :: st) lps HM (by simpa using hn)).mono ?_
  rintro e w' ⟨rfl, hm⟩
  replace HM := hm
  clear hm
  go_wp2_with (first
    | (go_at_call 29; refine (mPop_any k _ p c st lps HM hn2).mono ?_; rintro e w' ⟨rfl, hm⟩; replace HM := hm; clear hm)
    | (go_at_call 114; refine (evalBinary_any _ _ _ _).mono ?_; rintro e w' ⟨rfl, hbb⟩; rw [HE.out]; replace HM := HM.keep hbb; clear hbb)
    | (go_at_call 54; refine (mPush_any k _ p st lps _ HM hn2).mono ?_; rintro e w' ⟨v, rfl, hm⟩; replace HM := hm; clear hm))
  go_end0
  exact ⟨_, rfl, HM⟩

theorem PM.goto {k : Mc} {w : World} {p : Nat} {st : List Int} {lps : List (Nat × List Int)} (h : PM k w p st lps) (q : Nat) : PM k (w.setCell ⟨k.B, 5, none⟩ (.int .i64 q)) q st lps := by
  obtain ⟨A, c, L, lc, fr, hX, rfl⟩ := h
  exact ⟨A, c, L, lc, fr, MX.set hX (by decide) (by decide) 5 _ rfl, rfl⟩
set_option maxHeartbeats 1000000 in
theorem mElse_any (k : Mc) (w : World) (p : Nat) (b : Int) (st : List Int) (lps : List (Nat × List Int)) (q : Nat) (h : PM k w p (b :: st) lps) (hn : st.length ≤ 1000000) :
    Calls Tryz.prog 60 #[.pointer (some ⟨k.B, 0, none⟩), .int .i64 q] w (RetM k (if b = 0 then q else p) st lps) := by
  have HM := h
  clear h
  by_cases hb : b = 0
  · rw [if_pos hb]
    have hb1 : (b == 0) = true := by simpa using hb
    clear hb
    go_enter Tryz.func60, Tryz.ntmps60
    go_wp2_with (go_at_call 29; refine (mPop_any k _ p b st lps HM hn).mono ?_; rintro e w' ⟨rfl, hm⟩; replace HM := hm; clear hm; obtain ⟨_, _, _, _, _, m5, m6, m7, _⟩ := HM.cells)
    go_end0
    exact ⟨_, rfl, HM.goto q⟩
  · rw [if_neg hb]
    have hb1 : (b == 0) = false := by simpa using hb
    clear hb
    go_enter Tryz.func60, Tryz.ntmps60
    go_wp2_with (go_at_call 29; refine (mPop_any k _ p b st lps HM hn).mono ?_; rintro e w' ⟨rfl, hm⟩; replace HM := hm; clear hm)
    go_end0
    exact ⟨_, rfl, HM⟩

set_option maxHeartbeats 1000000 in
theorem mJump_any (k : Mc) (w : World) (p : Nat) (st : List Int) (lps : List (Nat × List Int)) (q : Nat) (h : PM k w p st lps) :
    Calls Tryz.prog 61 #[.pointer (some ⟨k.B, 0, none⟩), .int .i64 q] w (RetM k q st lps) := by
  have HM := h
  clear h
  obtain ⟨_, _, _, _, _, m5, m6, m7, _⟩ := HM.cells
  go_enter Tryz.func61, Tryz.ntmps61
  go_wp2
  go_end0
  exact ⟨_, rfl, HM.goto q⟩

end Go.Proofs.YtaifafljakojnaaGreat

/- Contracts: the methods of the program's machine: each, next. -/
namespace Go.Proofs.YtaifafljakojnaaGreat
open Go.RowKit

theorem loop_infoM : (Tryz.prog.info? 150).map (fun i => (i.zero, i.size, i.bytes)) = some (some (.agg #[.int .i64 0, .slice none 0 0]), 2, 32) := by kernel_rfl
theorem one_loop (x : Int) : ∀ u ∈ (#[Value.int .i64 x, .slice none 0 0] : Array Value).toList, u.oneCell' = true := by simp [Value.oneCell']

set_option maxRecDepth 100000 in
set_option maxHeartbeats 2000000 in
theorem mEach1_any (k : Mc) (w : World) (q : Nat) (st : List Int) (lps : List (Nat × List Int)) (a : Int) (h : PM k w (q + 1) st lps) (hn : lps.length ≤ 1000000) (hK : 0 < k.nK) (hq : q ≤ 1000000) :
    Calls Tryz.prog 62 #[.pointer (some ⟨k.B, 0, none⟩), .int .i64 a] w (RetM k (q + 1) st ((q, []) :: lps)) := by
  obtain ⟨A, c, L, lc, fr, hX, rfl⟩ := h
  rw [List.length_map] at hn
  have hc2 := hX.blk.cell 2 (v := .slice k.K k.nK k.cK) rfl
  have hf := hX.blk.frozen 7
  have hlt := hX.blk.lt
  have hbs := hX.grown.size
  have hle := hX.le0
  have hlt1 := hX.lt1
  have hcell := Lib.hid (fun (w' : World) (hb : Blk w' k.B (machC k (q + 1) (.slice A st.length c) (.slice L fr.length lc)) 69) => show w'.cell? ⟨k.B, 5, none⟩ = some (.int .i64 ((q : Int) + 1)) ∧ w'.cell? ⟨k.B, 7, none⟩ = some (.slice L fr.length lc) ∧ k.B < w'.heap.size from ⟨hb.cell 5 rfl, hb.cell 7 rfl, hb.lt⟩)
  have H := Lib.hid (show MX _ _ _ _ _ _ _ _ w.drew st A c L lc fr from hX.drew)
  have hw1 : IntKind.i64.wrap ((q : Int) + 1 - 1) = q := by rw [IntWalk.i64_in _ (by omega)]; omega
  have hw2 : IntKind.i64.wrap (q : Int) = q := IntWalk.i64_in _ (by omega)
  have hKi : decide ((0 : Int) < k.nK) = true := by simpa using hK
  have hKn : decide (0 < k.nK) = true := by simpa using hK
  obtain ⟨i0, hi0, hz0, hz1, hz2⟩ := info_parts loop_infoM
  clear hX hK
  go_enter Tryz.func62, Tryz.ntmps62
  go_wp2_with fail
  refine AnyE.start (fun w' => w'.cell? ⟨k.B, 5, none⟩ = some (.int .i64 ((q : Int) + 1)) ∧ w'.cell? ⟨k.B, 7, none⟩ = some (.slice L fr.length lc) ∧ k.B < w'.heap.size) 15 (by kernel_rfl) ?_
  have hHeld := hcell.out _ H.out.blk
  (refine AnyE.takeC (i := 0) (v := ?_) (some 12) rfl rfl (by kernel_rfl) (by kernel_rfl) (by kernel_rfl) (by kernel_rfl) (fun _ _ _ h => h) hHeld (Or.inl ⟨by rfl, ?_⟩) ?_; rotate_left 1; focus (intro w' hSw; (try dsimp only at hSw); go_simp; (try with_reducible rfl); done); (try simp only [Act.put, List.setIfInBounds_toArray, List.set_cons_zero, List.set_cons_succ]))
  (refine AnyE.takeC (i := 1) (v := ?_) (some 13) rfl rfl (by kernel_rfl) (by kernel_rfl) (by kernel_rfl) (by kernel_rfl) (fun _ _ _ h => h) hHeld (Or.inl ⟨by rfl, ?_⟩) ?_; rotate_left 1; focus (intro w' hSw; (try dsimp only at hSw); go_simp; (try with_reducible rfl); done); (try simp only [Act.put, List.setIfInBounds_toArray, List.set_cons_zero, List.set_cons_succ]))
  (refine AnyE.takeC (i := 2) (v := ?_) (some 14) rfl rfl (by kernel_rfl) (by kernel_rfl) (by kernel_rfl) (by kernel_rfl) (fun _ _ _ h => h) hHeld (Or.inl ⟨by rfl, ?_⟩) ?_; rotate_left 1; focus (intro w' hSw; (try dsimp only at hSw); go_simp; (try with_reducible rfl); done); (try simp only [Act.put, List.setIfInBounds_toArray, List.set_cons_zero, List.set_cons_succ]))
  (refine AnyE.takeC (i := 3) (v := ?_) (some 15) rfl rfl (by kernel_rfl) (by kernel_rfl) (by kernel_rfl) (by kernel_rfl) (fun _ _ _ h => h) hHeld (Or.inl ⟨by rfl, ?_⟩) ?_; rotate_left 1; focus (intro w' hSw; (try dsimp only at hSw); go_simp; (try with_reducible rfl); done); (try simp only [Act.put, List.setIfInBounds_toArray, List.set_cons_zero, List.set_cons_succ]))
  (refine AnyE.takeC (i := 4) (v := ?_) (some 16) rfl rfl (by kernel_rfl) (by kernel_rfl) (by kernel_rfl) (by kernel_rfl) (fun _ _ _ h => h) hHeld (Or.inl ⟨by rfl, ?_⟩) ?_; rotate_left 1; focus (intro w' hSw; (try dsimp only at hSw); go_simp; (try with_reducible rfl); done); (try simp only [Act.put, List.setIfInBounds_toArray, List.set_cons_zero, List.set_cons_succ]))
  (refine AnyE.takeC (i := 5) (v := ?_) (some 17) rfl rfl (by kernel_rfl) (by kernel_rfl) (by kernel_rfl) (by kernel_rfl) (fun _ _ _ h => h) hHeld (Or.inl ⟨by rfl, ?_⟩) ?_; rotate_left 1; focus (intro w' hSw; (try dsimp only at hSw); go_simp; (try with_reducible rfl); done); (try simp only [Act.put, List.setIfInBounds_toArray, List.set_cons_zero, List.set_cons_succ]))
  (refine AnyE.takeC (i := 6) (v := ?_) (some 18) rfl rfl (by kernel_rfl) (by kernel_rfl) (by kernel_rfl) (by kernel_rfl) (fun _ _ _ h => h) hHeld (Or.inl ⟨by rfl, ?_⟩) ?_; rotate_left 1; focus (intro w' hSw; (try dsimp only at hSw); go_simp; (try with_reducible rfl); done); (try simp only [Act.put, List.setIfInBounds_toArray, List.set_cons_zero, List.set_cons_succ]))
  (refine AnyE.takeC (i := 7) (v := ?_) (some 19) rfl rfl (by kernel_rfl) (by kernel_rfl) (by kernel_rfl) (by kernel_rfl) (fun _ _ _ h => h) hHeld (Or.inl ⟨by rfl, ?_⟩) ?_; rotate_left 1; focus (intro w' hSw; (try dsimp only at hSw); go_simp; (try with_reducible rfl); done); (try simp only [Act.put, List.setIfInBounds_toArray, List.set_cons_zero, List.set_cons_succ]))
  (refine AnyE.takeC (i := 8) (v := ?_) (some 20) rfl rfl (by kernel_rfl) (by kernel_rfl) (by kernel_rfl) (by kernel_rfl) (fun _ _ _ h => h) hHeld (Or.inl ⟨by rfl, ?_⟩) ?_; rotate_left 1; focus (intro w' hSw; (try dsimp only at hSw); go_simp; (try with_reducible rfl); done); (try simp only [Act.put, List.setIfInBounds_toArray, List.set_cons_zero, List.set_cons_succ]))
  (refine AnyE.takeC (i := 9) (v := ?_) (some 21) rfl rfl (by kernel_rfl) (by kernel_rfl) (by kernel_rfl) (by kernel_rfl) (fun _ _ _ h => h) hHeld (Or.inl ⟨by rfl, ?_⟩) ?_; rotate_left 1; focus (intro w' hSw; (try dsimp only at hSw); go_simp; (try with_reducible rfl); done); (try simp only [Act.put, List.setIfInBounds_toArray, List.set_cons_zero, List.set_cons_succ]))
  (refine AnyE.takeC (i := 10) (v := ?_) (some 22) rfl rfl (by kernel_rfl) (by kernel_rfl) (by kernel_rfl) (by kernel_rfl) (fun _ _ _ h => h) hHeld (Or.inl ⟨by rfl, ?_⟩) ?_; rotate_left 1; focus (intro w' hSw; (try dsimp only at hSw); go_simp; (try with_reducible rfl); done); (try simp only [Act.put, List.setIfInBounds_toArray, List.set_cons_zero, List.set_cons_succ]))
  refine AnyE.one (i := 11) (by kernel_rfl) rfl (fun K hK => ?_)
  go_simp
  refine hK.out _ _ (fun _ => hcell.out _ (H.out.blk.alloc _)) ?_
  clear hK K hHeld
  (try simp only [Act.put, List.setIfInBounds_toArray, List.set_cons_zero, List.set_cons_succ])
  refine AnyE.one (i := 12) (by kernel_rfl) rfl (fun K hK => ?_)
  refine step_push _ rfl (.tmp 16) (.tmp 23) 67 rfl k.wT.heap.size 150 i0 (.agg #[.int .i64 0, .slice none 0 0]) 2 32 Tryz.underlying67 hi0 hz0 hz1 hz2 rfl (by decide) L fr.length lc (rowL lpC fr) (by simp [Act.eval]) (MX.keep H.out ((Bel.refl w.drew).alloc (.cells #[.int .i64 q, .slice none 0 0] 150))).rows.loops w.heap.size #[.int .i64 q, .slice none 0 0] 150 (0, 0) (by simp [Act.eval]) (heap_new_drew _ _) rfl (one_loop _) (by unfold maxLen; omega) (by omega) (by simp; omega) ?_
  intro L' lc' w2 hown2 hgr2 hat2
  have H2 := Lib.hid ((MX.keep H.out ((Bel.refl w.drew).alloc _)).pushedL (by decide) (by decide) hown2 hgr2)
  clear hown2 hgr2 hat2
  have hf2 := H2.out.1.frozen 7
  refine hK.out _ _ (fun _ => hcell.out _ H2.out.1) ?_
  clear hK K
  have hHeld := hcell.out _ H2.out.1
  (try simp only [Act.put, List.setIfInBounds_toArray, List.set_cons_zero, List.set_cons_succ])
  (refine AnyE.takeC (i := 13) (v := ?_) (some 25) rfl rfl (by kernel_rfl) (by kernel_rfl) (by kernel_rfl) (by kernel_rfl) (fun _ _ _ h => h) hHeld (Or.inl ⟨by rfl, ?_⟩) ?_; rotate_left 1; focus (intro w' hSw; (try dsimp only at hSw); go_simp; (try with_reducible rfl); done); (try simp only [Act.put, List.setIfInBounds_toArray, List.set_cons_zero, List.set_cons_succ]))
  (refine AnyE.takeC (i := 14) (v := ?_) (some 26) rfl rfl (by kernel_rfl) (by kernel_rfl) (by kernel_rfl) (by kernel_rfl) (fun _ _ _ h => h) hHeld (Or.inl ⟨by rfl, ?_⟩) ?_; rotate_left 1; focus (intro w' hSw; (try dsimp only at hSw); go_simp; (try with_reducible rfl); done); (try simp only [Act.put, List.setIfInBounds_toArray, List.set_cons_zero, List.set_cons_succ]))
  refine AnyE.one (i := 15) (by kernel_rfl) rfl (fun K hK => ?_)
  have hc7 := hHeld.2.1
  have hlt2 := hHeld.2.2
  go_simp
  refine hK.out _ _ (fun h => absurd rfl h) ?_
  clear hK K hHeld
  refine AnyE.done (by kernel_rfl) ?_ _
  go_wp2_with fail
  go_end0
  exact ⟨_, rfl, A, c, L', lc', _, MX.put H2.out.1 H2.out.2.1 hle hlt1 H2.out.2.2.1 H2.out.2.2.2 (by decide) (by decide) 7 _ rfl, rfl⟩

set_option maxRecDepth 100000 in
set_option maxHeartbeats 2000000 in
theorem mEach0_any (k : Mc) (pr : Prg) (g : Graph) (c : Config) (l : List Term) (hM : McR k pr g c l) (w : World) (p : Nat) (st : List Int) (lps : List (Nat × List Int)) (a : Nat) (h : PM k w p st lps) (hn : st.length ≤ 1000000) (hK : k.nK = 0) (ha : a < l.length) (hl : l.length ≤ 1000000) (h1 : 20 ≤ (insAt l a).arg) (h2 : (insAt l a).arg ≤ 29) :
    Calls Tryz.prog 62 #[.pointer (some ⟨k.B, 0, none⟩), .int .i64 a] w (RetM k (a + 1) (foldF (insAt l a).arg [] :: st) lps) := by
  rw [insAt_get ha] at h1 h2 ⊢
  obtain ⟨b, o, hLA, hb, _, harg⟩ := TermsR.at_ hM.1 a ha
  have hnL : k.nL = l.length := hM.1.1.symm
  have HM := h
  obtain ⟨m0, _, m2, _, _, m5, m6, m7, mb⟩ := HM.cells
  rw [hLA, hnL] at m0
  rw [hK] at m2
  have harg' := (mb.cell hb).trans harg
  have HF := Lib.hid (foldR_ok h1 h2 (l := []) (by decide) (fun x hx => by cases hx))
  have hbl := Nat.lt_of_lt_of_le hb mb.size
  clear h hM harg hLA hnL hK h1 h2 hb mb
  go_enter Tryz.func62, Tryz.ntmps62
  go_wp2_with (first
    | (go_at_call 115; refine (evalFold_any none 0 0 [] _ _ SliceR.nil (by omega)).mono ?_; rintro e w' ⟨rfl, rfl⟩; rw [HF.out])
    | (go_at_call 54; refine (mPush_any k _ p st lps _ HM hn).mono ?_; rintro e w' ⟨v, rfl, hm⟩; replace HM := hm; clear hm m0 m2 m5 m6 m7 harg'; obtain ⟨_, _, _, _, _, m5, m6, m7, _⟩ := HM.cells))
  go_end0
  exact ⟨_, rfl, HM.goto (a + 1)⟩

end Go.Proofs.YtaifafljakojnaaGreat

/- Contracts: the method next of the program's machine. -/
namespace Go.Proofs.YtaifafljakojnaaGreat
open Go.RowKit

theorem rowL_set (fc : Frm → List Value) (sz : Nat) (hfc : ∀ f, (fc f).length = sz) (f f' : Frm) (fr : List Frm) (j : Nat) (u : Value) (h : (fc f).set j u = fc f') : (rowL fc (f :: fr)).set (fr.length * sz + j) u = rowL fc (f' :: fr) := by
  rw [rowL_cons, rowL_cons, List.set_append_right _ _ (by rw [rowL_length hfc]; omega), rowL_length hfc, Nat.add_sub_cancel_left, h]
def RetN (k : Mc) (p e0 : Nat) (st vals : List Int) (b a : Int) (r : List (Nat × List Int)) (e : Ending) (w' : World) : Prop := if vals.length + 1 < k.nK then RetM k (e0 + 1) st ((e0, vals ++ [b]) :: r) e w' else RetM k p (foldF a (vals ++ [b]) :: st) r e w'
set_option maxRecDepth 100000 in
set_option maxHeartbeats 4000000 in
theorem mNext_any (k : Mc) (w : World) (p : Nat) (b : Int) (st : List Int) (e0 : Nat) (vals : List Int) (r : List (Nat × List Int)) (a : Int) (h : PM k w p (b :: st) ((e0, vals) :: r)) (hn : st.length ≤ 1000000) (hln : r.length ≤ 1000000) (hv : vals.length < k.nK) (hk : k.nK < 24) (hnum : ∀ y ∈ vals ++ [b], Num y) (ha1 : 20 ≤ a) (ha2 : a ≤ 29) (he : e0 ≤ 1000000) :
    Calls Tryz.prog 63 #[.pointer (some ⟨k.B, 0, none⟩), .int .i64 a] w (RetN k p e0 st vals b a r) := by
  obtain ⟨A, c, L, lc, fr, hX, hl⟩ := h
  cases fr with
  | nil => simp at hl
  | cons f fr =>
  rw [List.map_cons, List.cons.injEq] at hl
  obtain ⟨hl1, rfl⟩ := hl
  rw [List.length_map] at hln
  obtain ⟨q0, pt, vs, V, cv⟩ := f
  simp only [Frm.lp, Prod.mk.injEq] at hl1
  obtain ⟨rfl, rfl⟩ := hl1
  have hlo : w.ownsRow k.wT.heap.size 150 2 (.slice L (fr.length + 1) lc) (fr.length + 1) (rowL lpC (⟨e0, pt, vals, V, cv⟩ :: fr)) := hX.rows.loops
  obtain ⟨g, rfl, hg0, hgl, _, _⟩ := own_at (j := fr.length * 2 + 1) (u := .slice V vals.length cv) hlo (by rw [rowL_last lpC 2 lpC_len _ fr 1]; rfl)
  have hmx := own_cap hlo
  unfold maxLen at hmx
  have hcell := Lib.hid (fun (w' : World) S' (hb : Blk w' k.B (machC k p S' (.slice (some ⟨g, 0, none⟩) (fr.length + 1) lc)) 69) (ho : w'.ownsRow k.wT.heap.size 150 2 (.slice (some ⟨g, 0, none⟩) (fr.length + 1) lc) (fr.length + 1) (rowL lpC (⟨e0, pt, vals, V, cv⟩ :: fr))) => show w'.cell? ⟨k.B, 7, none⟩ = some (.slice (some ⟨g, 0, none⟩) (fr.length + 1) lc) ∧ w'.cell? ⟨g, fr.length * 2 + 1, none⟩ = some (.slice V vals.length cv) ∧ k.B < w'.heap.size ∧ g < w'.heap.size ∧ w'.frozen? ⟨g, fr.length * 2 + 1, none⟩ = false from by
    obtain ⟨g', e1, _, hgl, hcc, hff⟩ := own_at (j := fr.length * 2 + 1) (u := .slice V vals.length cv) ho (by rw [rowL_last lpC 2 lpC_len _ fr 1]; rfl)
    obtain rfl : g = g' := by simpa using e1
    exact ⟨hb.cell 7 rfl, hcc, hb.lt, hgl, hff⟩)
  have c7 := hX.blk.cell 7 (v := .slice (some ⟨g, 0, none⟩) (fr.length + 1) lc) rfl
  have clt := hX.blk.lt
  have hd : (((fr.length : Int) + 1) == 0) = false := by simp; omega
  have hdl : (fr.length : Int) < (fr.length : Int) + 1 := by omega
  have hw1 : IntKind.i64.wrap ((fr.length : Int) + 1 - 1) = fr.length := by rw [IntWalk.i64_in _ (by omega)]; omega
  have hw2 : IntKind.i64.wrap (fr.length : Int) = fr.length := IntWalk.i64_in _ (by omega)
  obtain ⟨j0, hj0, hy0, hy1, hy2⟩ := info_parts int_info
  obtain ⟨i0, hi0, hz0, hz1, hz2⟩ := info_parts loop_infoM
  have hup := run_upto (P := Tryz.prog) Tryz.underlying67 hi0 (some ⟨g, 0, none⟩) (fr.length + 1) lc fr.length (by omega)
  have HUP := Lib.hid hup
  have hle := hX.le0
  have hlt1 := hX.lt1
  have HM : PX k w.drew p (b :: st) A c (some ⟨g, 0, none⟩) lc (⟨e0, pt, vals, V, cv⟩ :: fr) := PX.drew hX
  have HN := Lib.hid hnum
  have HFO := Lib.hid (foldR_ok ha1 ha2 (l := vals ++ [b]) (by simp; omega) hnum)
  have hvl : vals.length ≤ 1000000 := by omega
  clear hX hlo hnum hup hmx
  go_enter Tryz.func63, Tryz.ntmps63
  go_wp2_with fail
  refine AnyE.start (fun w' => w'.cell? ⟨k.B, 7, none⟩ = some (.slice (some ⟨g, 0, none⟩) (fr.length + 1) lc) ∧ w'.cell? ⟨g, fr.length * 2 + 1, none⟩ = some (.slice V vals.length cv) ∧ k.B < w'.heap.size ∧ g < w'.heap.size ∧ w'.frozen? ⟨g, fr.length * 2 + 1, none⟩ = false) 19 (by kernel_rfl) ?_
  have hHeld := hcell.out _ _ HM.blk HM.rows.loops
  (refine AnyE.takeC (i := 0) (v := ?_) (some 13) rfl rfl (by kernel_rfl) (by kernel_rfl) (by kernel_rfl) (by kernel_rfl) (fun _ _ _ h => h) hHeld (Or.inl ⟨by rfl, ?_⟩) ?_; rotate_left 1; focus (intro w' hSw; (try dsimp only at hSw); go_simp; (try with_reducible rfl); done); (try simp only [Act.put, List.setIfInBounds_toArray, List.set_cons_zero, List.set_cons_succ]))
  (refine AnyE.takeC (i := 1) (v := ?_) (some 14) rfl rfl (by kernel_rfl) (by kernel_rfl) (by kernel_rfl) (by kernel_rfl) (fun _ _ _ h => h) hHeld (Or.inl ⟨by rfl, ?_⟩) ?_; rotate_left 1; focus (intro w' hSw; (try dsimp only at hSw); go_simp; (try with_reducible rfl); done); (try simp only [Act.put, List.setIfInBounds_toArray, List.set_cons_zero, List.set_cons_succ]))
  (refine AnyE.takeC (i := 2) (v := ?_) (some 15) rfl rfl (by kernel_rfl) (by kernel_rfl) (by kernel_rfl) (by kernel_rfl) (fun _ _ _ h => h) hHeld (Or.inl ⟨by rfl, ?_⟩) ?_; rotate_left 1; focus (intro w' hSw; (try dsimp only at hSw); go_simp; (try with_reducible rfl); done); (try simp only [Act.put, List.setIfInBounds_toArray, List.set_cons_zero, List.set_cons_succ]))
  (refine AnyE.takeC (i := 3) (v := ?_) (some 16) rfl rfl (by kernel_rfl) (by kernel_rfl) (by kernel_rfl) (by kernel_rfl) (fun _ _ _ h => h) hHeld (Or.inl ⟨by rfl, ?_⟩) ?_; rotate_left 1; focus (intro w' hSw; (try dsimp only at hSw); go_simp; (try with_reducible rfl); done); (try simp only [Act.put, List.setIfInBounds_toArray, List.set_cons_zero, List.set_cons_succ]))
  (refine AnyE.takeC (i := 4) (v := ?_) (some 17) rfl rfl (by kernel_rfl) (by kernel_rfl) (by kernel_rfl) (by kernel_rfl) (fun _ _ _ h => h) hHeld (Or.inl ⟨by rfl, ?_⟩) ?_; rotate_left 1; focus (intro w' hSw; (try dsimp only at hSw); go_simp; (try with_reducible rfl); done); (try simp only [Act.put, List.setIfInBounds_toArray, List.set_cons_zero, List.set_cons_succ]))
  (refine AnyE.takeC (i := 5) (v := ?_) (some 18) rfl rfl (by kernel_rfl) (by kernel_rfl) (by kernel_rfl) (by kernel_rfl) (fun _ _ _ h => h) hHeld (Or.inl ⟨by rfl, ?_⟩) ?_; rotate_left 1; focus (intro w' hSw; (try dsimp only at hSw); go_simp; (try with_reducible rfl); done); (try simp only [Act.put, List.setIfInBounds_toArray, List.set_cons_zero, List.set_cons_succ]))
  (refine AnyE.takeC (i := 6) (v := ?_) (some 19) rfl rfl (by kernel_rfl) (by kernel_rfl) (by kernel_rfl) (by kernel_rfl) (fun _ _ _ h => h) hHeld (Or.inl ⟨by rfl, ?_⟩) ?_; rotate_left 1; focus (intro w' hSw; (try dsimp only at hSw); go_simp; (try with_reducible rfl); done); (try simp only [Act.put, List.setIfInBounds_toArray, List.set_cons_zero, List.set_cons_succ]))
  (refine AnyE.takeC (i := 7) (v := ?_) (some 20) rfl rfl (by kernel_rfl) (by kernel_rfl) (by kernel_rfl) (by kernel_rfl) (fun _ _ _ h => h) hHeld (Or.inl ⟨by rfl, ?_⟩) ?_; rotate_left 1; focus (intro w' hSw; (try dsimp only at hSw); go_simp; (try with_reducible rfl); done); (try simp only [Act.put, List.setIfInBounds_toArray, List.set_cons_zero, List.set_cons_succ]))
  (refine AnyE.takeC (i := 8) (v := ?_) (some 21) rfl rfl (by kernel_rfl) (by kernel_rfl) (by kernel_rfl) (by kernel_rfl) (fun _ _ _ h => h) hHeld (Or.inl ⟨by rfl, ?_⟩) ?_; rotate_left 1; focus (intro w' hSw; (try dsimp only at hSw); go_simp; (try with_reducible rfl); done); (try simp only [Act.put, List.setIfInBounds_toArray, List.set_cons_zero, List.set_cons_succ]))
  (refine AnyE.takeC (i := 9) (v := ?_) (some 22) rfl rfl (by kernel_rfl) (by kernel_rfl) (by kernel_rfl) (by kernel_rfl) (fun _ _ _ h => h) hHeld (Or.inl ⟨by rfl, ?_⟩) ?_; rotate_left 1; focus (intro w' hSw; (try dsimp only at hSw); go_simp; (try with_reducible rfl); done); (try simp only [Act.put, List.setIfInBounds_toArray, List.set_cons_zero, List.set_cons_succ]))
  (refine AnyE.takeC (i := 10) (v := ?_) (some 23) rfl rfl (by kernel_rfl) (by kernel_rfl) (by kernel_rfl) (by kernel_rfl) (fun _ _ _ h => h) hHeld (Or.inl ⟨by rfl, ?_⟩) ?_; rotate_left 1; focus (intro w' hSw; (try dsimp only at hSw); go_simp; (try with_reducible rfl); done); (try simp only [Act.put, List.setIfInBounds_toArray, List.set_cons_zero, List.set_cons_succ]))
  (refine AnyE.takeC (i := 11) (v := ?_) (some 24) rfl rfl (by kernel_rfl) (by kernel_rfl) (by kernel_rfl) (by kernel_rfl) (fun _ _ _ h => h) hHeld (Or.inl ⟨by rfl, ?_⟩) ?_; rotate_left 1; focus (intro w' hSw; (try dsimp only at hSw); go_simp; (try with_reducible rfl); done); (try simp only [Act.put, List.setIfInBounds_toArray, List.set_cons_zero, List.set_cons_succ]))
  (refine AnyE.takeC (i := 12) (v := ?_) (some 25) rfl rfl (by kernel_rfl) (by kernel_rfl) (by kernel_rfl) (by kernel_rfl) (fun _ _ _ h => h) hHeld (Or.inl ⟨by rfl, ?_⟩) ?_; rotate_left 1; focus (intro w' hSw; (try dsimp only at hSw); go_simp; (try with_reducible rfl); done); (try simp only [Act.put, List.setIfInBounds_toArray, List.set_cons_zero, List.set_cons_succ]))
  (refine AnyE.takeC (i := 13) (v := ?_) (some 26) rfl rfl (by kernel_rfl) (by kernel_rfl) (by kernel_rfl) (by kernel_rfl) (fun _ _ _ h => h) hHeld (Or.inl ⟨by rfl, ?_⟩) ?_; rotate_left 1; focus (intro w' hSw; (try dsimp only at hSw); go_simp; (try with_reducible rfl); done); (try simp only [Act.put, List.setIfInBounds_toArray, List.set_cons_zero, List.set_cons_succ]))
  refine AnyE.one (i := 14) (by kernel_rfl) rfl (fun K hK => ?_)
  go_simp
  go_at_call 29
  refine (mPopX_any k _ p b st A c _ lc _ HM hn).mono ?_
  rintro e w1 ⟨rfl, hm⟩
  have H1 := Lib.hid hm
  clear hm HM hHeld
  have hl1 := H1.out.blk.lt
  have hs1 := H1.out.grown.size
  (try go_simp)
  refine hK.out _ _ (fun _ => hcell.out _ _ H1.out.blk H1.out.rows.loops) ?_
  clear hK K
  (try simp only [Act.put, List.setIfInBounds_toArray, List.set_cons_zero, List.set_cons_succ])
  refine AnyE.one (i := 15) (by kernel_rfl) rfl (fun K hK => ?_)
  go_simp
  have H2 := Lib.hid (MX.keep H1.out ((Bel.refl w1).alloc (.cells #[.int .i64 b] 3)))
  refine hK.out _ _ (fun _ => hcell.out _ _ H2.out.blk H2.out.rows.loops) ?_
  clear hK K
  (try simp only [Act.put, List.setIfInBounds_toArray, List.set_cons_zero, List.set_cons_succ])
  refine AnyE.one (i := 16) (by kernel_rfl) rfl (fun K hK => ?_)
  refine step_push _ rfl (.tmp 25) (.tmp 28) 27 rfl k.wT.heap.size 3 j0 (.int .i64 0) 1 8 Tryz.underlying27 hj0 hy0 hy1 hy2 rfl (by decide) V vals.length cv (vals.map (Value.int .i64)) (by simp [Act.eval]) (H2.out.rows.vals _ (List.mem_cons_self ..)) w1.heap.size #[.int .i64 b] 3 (0, 0) (by simp [Act.eval]) (heap_new _ _) rfl (one_int _ _) (by unfold maxLen; omega) (by omega) (by simp; omega) ?_
  intro A' c' w3 hown hgr hat
  have hO3 : OwnM w3 k.wT.heap.size (A', c') (vals ++ [b]) := by
    show w3.ownsRow _ _ _ _ _ _
    rw [List.length_append, List.map_append]
    exact hown
  rw [hd_own] at hgr hat
  rw [hd_own] at hat
  have hV := (H2.out.rows.vals ⟨e0, pt, vals, V, cv⟩ (List.mem_cons_self ..))
  have hB3 : Blk w3 k.B (machC k p (.slice A st.length c) (.slice (some ⟨g, 0, none⟩) (fr.length + 1) lc)) 69 := H2.out.blk.grown hgr (by
    have := H2.out.blk.apart hV (by decide)
    rwa [Hd.own] at this)
  have hR3 := (H2.out.rows.pushV (by decide) hO3 hgr hat).2.1
  have H4 := Lib.hid (MX.setV (f' := ⟨e0, pt, vals ++ [b], A', c'⟩) H2.out (by decide) (by decide) (by decide) hO3 hgr hat rfl rfl (fr.length * 2 + 1) (.slice A' (vals.length + 1) c') (rowL_set lpC 2 lpC_len _ _ fr 1 _ (by simp [lpC])))
  refine hK.out _ _ (fun _ => hcell.out _ _ hB3 hR3) ?_
  clear hK K
  have hHeld := hcell.out _ _ hB3 hR3
  clear hown hgr hat hO3 hV hB3 hR3
  (try simp only [Act.put, List.setIfInBounds_toArray, List.set_cons_zero, List.set_cons_succ])
  (refine AnyE.takeC (i := 17) (v := ?_) (some 30) rfl rfl (by kernel_rfl) (by kernel_rfl) (by kernel_rfl) (by kernel_rfl) (fun _ _ _ h => h) hHeld (Or.inl ⟨by rfl, ?_⟩) ?_; rotate_left 1; focus (intro w' hSw; (try dsimp only at hSw); go_simp; (try with_reducible rfl); done); (try simp only [Act.put, List.setIfInBounds_toArray, List.set_cons_zero, List.set_cons_succ]))
  (refine AnyE.takeC (i := 18) (v := ?_) (some 31) rfl rfl (by kernel_rfl) (by kernel_rfl) (by kernel_rfl) (by kernel_rfl) (fun _ _ _ h => h) hHeld (Or.inl ⟨by rfl, ?_⟩) ?_; rotate_left 1; focus (intro w' hSw; (try dsimp only at hSw); go_simp; (try with_reducible rfl); done); (try simp only [Act.put, List.setIfInBounds_toArray, List.set_cons_zero, List.set_cons_succ]))
  refine AnyE.one (i := 19) (by kernel_rfl) rfl (fun K hK => ?_)
  obtain ⟨_, hc7, hB3, hg3, hf3⟩ := hHeld
  go_simp
  refine hK.out _ _ (fun h => absurd rfl h) ?_
  clear hK K hc7 hB3 hg3 hf3
  refine AnyE.done (by kernel_rfl) ?_ _
  generalize w3.setCell ⟨g, fr.length * 2 + 1, none⟩ (.slice A' (vals.length + 1) c') = wz at *
  have ho4 : wz.ownsRow k.wT.heap.size 150 2 (.slice (some ⟨g, 0, none⟩) (fr.length + 1) lc) (fr.length + 1) (rowL lpC (⟨e0, pt, vals ++ [b], A', c'⟩ :: fr)) := H4.out.rows.loops
  obtain ⟨g', eg, _, _, z0, _⟩ := own_at (j := fr.length * 2 + 0) (u := .int .i64 e0) ho4 (by rw [rowL_last lpC 2 lpC_len _ fr 0]; rfl)
  obtain rfl : g = g' := by simpa using eg
  obtain ⟨g', eg', _, hgz, z1, _⟩ := own_at (j := fr.length * 2 + 1) (u := .slice A' (vals.length + 1) c') ho4 (by rw [rowL_last lpC 2 lpC_len _ fr 1]; simp [lpC])
  obtain rfl : g = g' := by simpa using eg'
  rw [Nat.add_zero] at z0
  have z7 := H4.out.blk.cell 7 (v := .slice (some ⟨g, 0, none⟩) (fr.length + 1) lc) rfl
  have z2 := H4.out.blk.cell 2 (v := .slice k.K k.nK k.cK) rfl
  have zf5 := H4.out.blk.frozen 5
  have zf7 := H4.out.blk.frozen 7
  have z5 := H4.out.blk.cell 5 (v := .int .i64 p) rfl
  have zl := H4.out.blk.lt
  have hwv : IntKind.i64.wrap ((vals.length : Int) + 1) = (vals.length : Int) + 1 := IntWalk.i64_in _ (by omega)
  clear eg eg' ho4 H1 H2 hgl
  by_cases hlt : vals.length + 1 < k.nK
  · have HLT := Lib.hid hlt
    have hdd : decide ((vals.length : Int) + 1 < (k.nK : Int)) = true := by simp; omega
    clear hlt
    go_wp2_with fail
    go_quiet (fail)
    go_wp2_with fail
    go_end0
    unfold RetN
    rw [if_pos HLT.out]
    exact ⟨_, rfl, _, _, _, _, _, MX.set (MX.drewN H4.out _) (by decide) (by decide) 5 _ rfl, rfl⟩
  · have HLT := Lib.hid hlt
    have hdd : decide ((vals.length : Int) + 1 < (k.nK : Int)) = false := by simp; omega
    clear hlt
    have HI := Lib.hid (own_ints (H4.out.rows.vals ⟨e0, pt, vals ++ [b], A', c'⟩ (List.mem_cons_self ..)))
    have HI2 : Hid (IntsR wz A' (vals.length + 1) (vals ++ [b])) := by
      show IntsR wz A' (vals.length + 1) (vals ++ [b])
      have := HI.out
      simpa using this
    have hup := HUP.out
    go_wp2_with fail
    go_quiet (fail)
    have HP : PX k ((wz.drewN nq).setCell ⟨k.B, 7, none⟩ (.slice (some ⟨g, 0, none⟩) fr.length lc)) p st A c (some ⟨g, 0, none⟩) lc fr := MX.put (MX.drewN H4.out nq).blk ((MX.drewN H4.out nq).rows.dropL lpC_len) H4.out.le0 H4.out.lt1 (MX.drewN H4.out nq).bel (MX.drewN H4.out nq).grown (by decide) (by decide) 7 _ rfl
    go_wp2_with (first
      | (go_at_call 115; refine (evalFold_any A' (vals.length + 1) c' (vals ++ [b]) a _ (IntsR.keep HI2.out ((Bel.refl wz).drewN _)) (by omega)).mono ?_; rintro e w' ⟨rfl, rfl⟩; rw [HFO.out])
      | (go_at_call 54; refine (mPushX_any k _ p st A c _ lc fr _ HP hn).mono ?_; rintro e w' ⟨v, A2, c2, rfl, hm⟩; replace HP := hm; clear hm))
    go_end0
    unfold RetN
    rw [if_neg HLT.out]
    exact ⟨_, rfl, _, _, _, _, _, HP, rfl⟩

end Go.Proofs.YtaifafljakojnaaGreat

