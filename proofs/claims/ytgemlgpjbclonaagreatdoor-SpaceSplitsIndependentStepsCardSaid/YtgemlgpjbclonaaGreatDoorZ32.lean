/- Merged of: WRl PP WRm WRn (see NOTES.md). -/
import Derived.Test.YtgemlgpjbclonaaGreatDoorZ31
import Derived.Test.YtgemlgpjbclonaaGreatDoorZ30
set_option linter.unusedSimpArgs false
set_option linter.unnecessarySimpa false
set_option linter.unusedVariables false

/- Contract: the transition system, the program's. -/
namespace Go.Proofs.YtgemlgpjbclonaaGreatDoor
open Go.RowKit

def ArcRowsR := SliceR 1 (RowAt 2 ArcAt)
theorem ArcRowsR.keep {w w' : World} {A : Option Addr} {n : Nat} {xs : List (List (Nat × Int))} (h : ArcRowsR w A n xs) (k : Bel w w') : ArcRowsR w' A n xs := SliceR.keep (RowAt.keeps ArcAt.keeps) h k
/-- A transition system. -/
def SpaceV (w : World) (v : Value) (s : Spc) : Prop :=
 ∃ AE cE AA cA, v = .agg #[.slice AE s.enabled.length cE, .slice AA s.arcs.length cA] ∧ MasksR w AE s.enabled.length s.enabled ∧ ArcRowsR w AA s.arcs.length s.arcs ∧ s.enabled.length ≤ cE ∧ cE ≤ maxLen ∧ s.arcs.length ≤ cA ∧ cA ≤ maxLen
theorem SpaceV.keep {w w' : World} {v : Value} {s : Spc} (h : SpaceV w v s) (k : Bel w w') : SpaceV w' v s := by
 obtain ⟨AE, cE, AA, cA, e, h1, h2, h3⟩ := h
 exact ⟨AE, cE, AA, cA, e, h1.keep k, h2.keep k, h3⟩
def RetBuild (r : Spc × Int) (w : World) (e : Ending) (w' : World) : Prop := ∃ v, e = .returned (.tuple #[v, .int .i64 r.2]) ∧ SpaceV w' v r.1 ∧ Bel w w'
theorem SpaceV.empty (w : World) : SpaceV w (.agg #[.slice none 0 0, .slice none 0 0]) ⟨[], []⟩ := ⟨none, 0, none, 0, rfl, SliceR.nil, SliceR.nil, Nat.le_refl _, by unfold maxLen; decide, Nat.le_refl _, by unfold maxLen; decide⟩
/-- The rows of arcs that are made. -/
def ArcsDone (w : World) (N k : Nat) (hs : List Value) (L : Nat → List (Nat × Int)) : Prop :=
 ∀ u, u < k → ∃ A c, hs[u]? = some (.slice A (L u).length c) ∧ ArcsR w A (L u).length (L u) ∧ (L u).length ≤ c ∧ c ≤ maxLen ∧ ∀ b o, A = some ⟨b, o, none⟩ → N ≤ b
theorem ArcsR.agr {E : Nat → Prop} {w w' : World} {A : Option Addr} {n N : Nat} {xs : List (Nat × Int)} (h : ArcsR w A n xs) (hA : Agr E w w') (hE : ∀ q, E q → q < N) (hN : ∀ b o, A = some ⟨b, o, none⟩ → N ≤ b) : ArcsR w' A n xs :=
 ⟨h.1, fun i x hx => by
  obtain ⟨b, o, e, hb, h1, h2⟩ := h.2 i x hx
  have hne : ¬ E b := fun he => by have := hE b he; have := hN b o e; omega
  exact ⟨b, o, e, Nat.lt_of_lt_of_le hb hA.size, (hA.cell hb hne).trans h1, (hA.cell hb hne).trans h2⟩⟩
theorem ArcsDone.agr {E : Nat → Prop} {w w' : World} {N k : Nat} {hs : List Value} {L : Nat → List (Nat × Int)} (h : ArcsDone w N k hs L) (hA : Agr E w w') (hE : ∀ q, E q → q < N) : ArcsDone w' N k hs L := fun u hu => by
 obtain ⟨A, c, h1, h2, h3, h4, h5⟩ := h u hu
 exact ⟨A, c, h1, h2.agr hA hE h5, h3, h4, h5⟩
theorem Agr.bel' {E : Nat → Prop} {A B : World} (h : Bel A B) : Agr E A B := ⟨h.os, h.tape, h.output, h.size, fun k hk _ => h.block k hk⟩
theorem heap3_0 {w : World} {x y z : Obj} : (((w.alloc x).alloc y).alloc z).drew.heap[w.heap.size]? = some x :=
 (Below.heap_alloc _ _ _ (by simp; omega)).trans ((Below.heap_alloc _ _ _ (by simp)).trans (heap_new w x))
theorem heap3_1 {w : World} {x y z : Obj} : (((w.alloc x).alloc y).alloc z).drew.heap[w.heap.size + 1]? = some y := by
 have := heap_new (w.alloc x) y
 rw [World.size_alloc] at this
 exact (Below.heap_alloc _ _ _ (by simp)).trans this
theorem heap3_2 {w : World} {x y z : Obj} : (((w.alloc x).alloc y).alloc z).drew.heap[w.heap.size + 1 + 1]? = some z := by
 have := heap_new ((w.alloc x).alloc y) z
 rw [World.size_alloc, World.size_alloc] at this
 exact this
theorem own_of_blk {w : World} {g base n size : Nat} {cs : Array Value} {e : TypeId} (h : Blk w g cs e) (hs : cs.size = n * size) (hb : base ≤ g) (hm : n ≤ maxLen) : w.ownsRow base e size (.slice (some ⟨g, 0, none⟩) n n) n cs.toList :=
 ⟨by simpa using hs, .inr ⟨g, n, cs, rfl, hb, h, Nat.le_refl _, hm, hs, List.take_of_length_le (by rw [Array.length_toList, hs]; exact Nat.le_refl _)⟩⟩
theorem total_ok {p : Prg} {g : Graph} {n : Int} (h : (n, 0) = totalF p g) : fitsF p g = 0 ∧ n = sizeF p g := by
 unfold totalF at h
 split at h
 ·rename_i h1; injection h with _ h2; exact absurd h2.symm h1
 split at h
 ·injection h with _ h2; cases h2
 ·rename_i h1 _; injection h with h2 _; exact ⟨by simpa using h1, h2⟩
theorem arcrow_info : (Tryz.prog.info? 54).map (fun i => (i.zero, i.size, i.bytes)) = some (some (.slice none 0 0), 1, 24) := by kernel_rfl
set_option maxRecDepth 100000 in
set_option maxHeartbeats 8000000 in
theorem spaceBuild_any (v1 : Value) (p : Prg) (v2 : Value) (g : Graph) (kind : Int) (w : World) (h : PrgV w v1 p) (h2 : GraphV w v2 g) (hT : Tab32 w) (hL : lightP p = true) (hG : lightG g = true) (hfew : (totalF p g).2 = 0 → sizeF p g ≤ 200 ∧ g.ports.length ≤ 5) :
  Calls Tryz.prog 11 #[v1, v2, .int .i64 kind] w (RetBuild (buildF p g kind) w) := by
 have HPV := Lib.hid (fun w' (k : Bel w w') => h.keep k)
 have HGV := Lib.hid (fun w' (k : Bel w w') => h2.keep k)
 have HT := Lib.hid (fun w' (k : Bel w w') => hT.keep k)
 obtain ⟨A1, k1, A2, k2, rfl, _, _, _, _, _, _⟩ := h
 obtain ⟨A3, k3, A4, k4, rfl, _, _, _, _, _, _⟩ := h2
 have HW := Bel.refl ((w.alloc (.cells #[.string p.name, .slice A1 p.vars.length k1, .slice A2 p.rules.length k2] 25)).alloc (.cells #[.slice A3 g.ids.length k3, .slice A4 g.ports.length k4] 29))
 have HL := Lib.hid hL
 have HGL := Lib.hid hG
 have HFEW := Lib.hid hfew
 clear hL hG hT hfew
 have HF : Hid (buildF p g kind = if (totalF p g).2 ≠ 0 ∧ (totalF p g).2 ≠ 3 then (⟨[], []⟩, (totalF p g).2) else if kindB kind = false then (⟨[], []⟩, 12) else if (totalF p g).2 ≠ 0 then (⟨[], []⟩, (totalF p g).2) else (spaceF p g kind, 0)) := rfl
 obtain ⟨NT, hNT⟩ : ∃ NT, NT = totalF p g := ⟨_, rfl⟩
 obtain ⟨n0, e0⟩ := NT
 rw [← hNT] at HF HFEW
 have HNT := Lib.hid hNT
 clear hNT
 have HX0 : Bel w (((w.alloc (.cells #[.string p.name, .slice A1 p.vars.length k1, .slice A2 p.rules.length k2] 25)).alloc (.cells #[.slice A3 g.ids.length k3, .slice A4 g.ports.length k4] 29)).alloc (.cells #[.slice none 0 0, .slice none 0 0] 35)) := (box2_bel HW).alloc _
 have HSB : Hid (Blk (((w.alloc (.cells #[.string p.name, .slice A1 p.vars.length k1, .slice A2 p.rules.length k2] 25)).alloc (.cells #[.slice A3 g.ids.length k3, .slice A4 g.ports.length k4] 29)).alloc (.cells #[.slice none 0 0, .slice none 0 0] 35)) (w.heap.size + 1 + 1) #[.slice none 0 0, .slice none 0 0] 35) := by
  have := Blk.new ((w.alloc (.cells #[.string p.name, .slice A1 p.vars.length k1, .slice A2 p.rules.length k2] 25)).alloc (.cells #[.slice A3 g.ids.length k3, .slice A4 g.ports.length k4] 29)) #[.slice none 0 0, .slice none 0 0] 35
  rw [World.size_alloc, World.size_alloc] at this
  exact this
 have hend : ∀ (k : Int) (wr : World), Bel w wr → RetBuild (⟨[], []⟩, k) w (.returned (.tuple #[.agg #[.slice none 0 0, .slice none 0 0], .int .i64 k])) wr := fun k wr hb => ⟨_, rfl, SpaceV.empty _, hb⟩
 have HEND := Lib.hid hend
 replace HW := HW.alloc (.cells #[.slice none 0 0, .slice none 0 0] 35)
 clear hend
 by_cases h1 : e0 ≠ 0 ∧ e0 ≠ 3
 ·rw [if_pos h1] at HF
  have d0 : (e0 != 0) = true := by simpa using h1.1
  have d1 : (e0 != 3) = true := by simpa using h1.2
  clear h1
  go_enter Tryz.func11, Tryz.ntmps11
  go_wp2_with (go_at_call 33; refine (memCount_any _ p _ g _ (HPV.out _ (box2_bel HW)) (HGV.out _ (box2_bel HW)) HL.out HGL.out).mono ?_; rintro e wc ⟨rfl, hb⟩; rw [← HNT.out]; have HX := HX0.trans hb; have HB := Blk.keep HSB.out hb; have z0 := HB.cell 0 (v := .slice none 0 0) rfl; have z1 := HB.cell 1 (v := .slice none 0 0) rfl; have f0 := HB.frozen 0; have f1 := HB.frozen 1; have lb := HB.lt; have HBC := Lib.hid HB; clear HB; replace HW := HW.trans hb; clear hb; (try clear p0 p1 p2 g0 g1 gsz); obtain ⟨p0, p1, p2, g0, g1, gsz⟩ := pgbox HW)
  have zz := (Blk.set (Blk.set HBC.out 0 (.slice none 0 0)) 1 (.slice none 0 0))
  have y0 := Blk.cell zz 0 (v := .slice none 0 0) (by rfl)
  have y1 := Blk.cell zz 1 (v := .slice none 0 0) (by rfl)
  refine bodyPost_ret (v := .tuple #[.agg #[.slice none 0 0, .slice none 0 0], .int .i64 e0]) (by simp [results, Tryz.results11, go_sem, y0, y1]; try go_simp) rfl ?_
  rw [HF.out]
  exact HEND.out _ _ ((HX.setCell (by simp; omega) _).setCell (by simp; omega) _)
 ·rw [if_neg h1] at HF
  have hd0 : e0 = 0 ∨ e0 = 3 := by omega
  clear h1
  cases hk : kindB kind with
  | false =>
   have HKD := Lib.hid hk
   rw [hk, if_pos rfl] at HF
   clear hk
   rcases hd0 with rfl | rfl
   all_goals
    go_enter Tryz.func11, Tryz.ntmps11
    go_wp2_with (first
     | (go_at_call 33; refine (memCount_any _ p _ g _ (HPV.out _ (box2_bel HW)) (HGV.out _ (box2_bel HW)) HL.out HGL.out).mono ?_; rintro e wc ⟨rfl, hb⟩; rw [← HNT.out]; have HX := HX0.trans hb; have HB := Blk.keep HSB.out hb; have z0 := HB.cell 0 (v := .slice none 0 0) rfl; have z1 := HB.cell 1 (v := .slice none 0 0) rfl; have f0 := HB.frozen 0; have f1 := HB.frozen 1; have lb := HB.lt; have HBC := Lib.hid HB; clear HB; replace HW := HW.trans hb; clear hb; (try clear p0 p1 p2 g0 g1 gsz); obtain ⟨p0, p1, p2, g0, g1, gsz⟩ := pgbox HW)
     | (go_at_call 34; refine (daemonValid_any kind _).mono ?_; rintro e w' ⟨rfl, rfl⟩; rw [HKD.out]))
    have zz := (Blk.set (Blk.set HBC.out 0 (.slice none 0 0)) 1 (.slice none 0 0))
    have y0 := Blk.cell zz 0 (v := .slice none 0 0) (by rfl)
    have y1 := Blk.cell zz 1 (v := .slice none 0 0) (by rfl)
    refine bodyPost_ret (v := .tuple #[.agg #[.slice none 0 0, .slice none 0 0], .int .i64 12]) (by simp [results, Tryz.results11, go_sem, y0, y1]; try go_simp) rfl ?_
    rw [HF.out]
    exact HEND.out _ _ ((HX.setCell (by simp; omega) _).setCell (by simp; omega) _)
  | true =>
   have HKD := Lib.hid hk
   rw [hk, if_neg (by decide)] at HF
   clear hk
   rcases hd0 with rfl | rfl
   ·rw [if_neg (by simp)] at HF
    obtain ⟨hs2, h5⟩ := HFEW.out rfl
    obtain ⟨hfz, hn0⟩ := total_ok HNT.out
    have HFZ := Lib.hid hfz
    have hsp := size_pos hfz
    have HSZ : Hid (sizeF p g ≤ 32768) := by show _ ≤ _; omega
    obtain ⟨n, hn⟩ := Int.eq_ofNat_of_zero_le (show 0 ≤ sizeF p g by omega)
    rw [hn] at hn0 hs2 hsp
    have HN := Lib.hid hn
    subst hn0
    clear hfz hn
    obtain ⟨i0, hi0, hz0, hz1, hz2⟩ := info_parts u32_info
    obtain ⟨j0, hj0, hy0, hy1, hy2⟩ := info_parts arcrow_info
    obtain ⟨cE, hcE⟩ : ∃ cE, cE = madeCells (Value.int .u32 0).cells (n * i0.size) := ⟨_, rfl⟩
    obtain ⟨cA, hcA⟩ : ∃ cA, cA = madeCells (Value.slice none 0 0).cells (n * j0.size) := ⟨_, rfl⟩
    have hmkE : ∀ w' : World, (Instr.makeSlice 32 (.int .i64 (n : Int)) (.int .i64 (n : Int))).run Tryz.prog w' = .ok (.slice (some ⟨w'.heap.size, 0, none⟩) n n) (w'.alloc (.cells cE 45)) := fun w' => by
     have := run_make (P := Tryz.prog) w' 32 45 i0 (.int .u32 0) Tryz.underlying32 hi0 hz0 .i64 .i64 n n (by omega) (Int.le_refl _) (by rw [hz2]; omega) (by omega)
     simp only [Int.toNat_natCast] at this
     rw [this, hcE]
    have hmkA : ∀ w' : World, (Instr.makeSlice 33 (.int .i64 (n : Int)) (.int .i64 (n : Int))).run Tryz.prog w' = .ok (.slice (some ⟨w'.heap.size, 0, none⟩) n n) (w'.alloc (.cells cA 54)) := fun w' => by
     have := run_make (P := Tryz.prog) w' 33 54 j0 (.slice none 0 0) Tryz.underlying33 hj0 hy0 .i64 .i64 n n (by omega) (Int.le_refl _) (by rw [hy2]; omega) (by omega)
     simp only [Int.toNat_natCast] at this
     rw [this, hcA]
    have HCE := Lib.hid hcE
    have HCA := Lib.hid hcA
    clear hcE hcA
    go_enter Tryz.func11, Tryz.ntmps11
    go_upto_region 9 with (first
     | (go_at_call 33; refine (memCount_any _ p _ g _ (HPV.out _ (box2_bel HW)) (HGV.out _ (box2_bel HW)) HL.out HGL.out).mono ?_; rintro e wc ⟨rfl, hb⟩; rw [← HNT.out]; have HX := HX0.trans hb; have HB := Blk.keep HSB.out hb; have z0 := HB.cell 0 (v := .slice none 0 0) rfl; have z1 := HB.cell 1 (v := .slice none 0 0) rfl; have f0 := HB.frozen 0; have f1 := HB.frozen 1; have lb := HB.lt; have HBC := Lib.hid HB; clear HB; replace HW := HW.trans hb; clear hb; (try clear p0 p1 p2 g0 g1 gsz); obtain ⟨p0, p1, p2, g0, g1, gsz⟩ := pgbox HW)
     | (go_at_call 34; refine (daemonValid_any kind _).mono ?_; rintro e w' ⟨rfl, rfl⟩; rw [HKD.out])
     | (go_at_call 35; refine (newBuilder_any _ p _ g kind _ (HPV.out _ (box2_bel HW)) (HGV.out _ (box2_bel HW)) HL.out HGL.out HFZ.out HSZ.out).mono ?_; rintro e wB ⟨B, rfl, hBR, hb⟩; have HBR := Lib.hid hBR; have HXB := HX.trans hb; have HBB := Lib.hid (HBC.out.keep hb); clear hBR z0 z1 f0 f1 lb; replace HW := HW.trans hb; clear hb; (try clear p0 p1 p2 g0 g1 gsz); obtain ⟨p0, p1, p2, g0, g1, gsz⟩ := pgbox HW))
    go_cut [11] (fun pv wc => ∃ gE gA sB, pv = .pointer (some ⟨sB, 0, none⟩) ∧ Blk wc sB #[.slice (some ⟨gE, 0, none⟩) n n, .slice (some ⟨gA, 0, none⟩) n n] 35 ∧ Blk wc gE cE 45 ∧ Blk wc gA cA 54 ∧ wB.heap.size ≤ gE ∧ wB.heap.size ≤ gA ∧ wB.heap.size ≤ sB ∧ Bel wB wc)
    case first =>
     go_region
     all_goals go_wp2_with fail
     all_goals go_meet
     all_goals (first | exact ⟨wB.heap.size, wB.heap.size + 1, wB.heap.size + 1 + 1, rfl, heap3_2, heap3_0, heap3_1, by omega, by omega, by omega, (((Bel.refl wB).alloc _).alloc _).alloc _ |>.drew⟩ | exact ⟨wB.heap.size, wB.heap.size + 1 + 1, wB.heap.size + 1, rfl, heap3_1, heap3_0, heap3_2, by omega, by omega, by omega, (((Bel.refl wB).alloc _).alloc _).alloc _ |>.drew⟩ | exact ⟨wB.heap.size + 1, wB.heap.size, wB.heap.size + 1 + 1, rfl, heap3_2, heap3_1, heap3_0, by omega, by omega, by omega, (((Bel.refl wB).alloc _).alloc _).alloc _ |>.drew⟩ | exact ⟨wB.heap.size + 1, wB.heap.size + 1 + 1, wB.heap.size, rfl, heap3_0, heap3_1, heap3_2, by omega, by omega, by omega, (((Bel.refl wB).alloc _).alloc _).alloc _ |>.drew⟩ | exact ⟨wB.heap.size + 1 + 1, wB.heap.size, wB.heap.size + 1, rfl, heap3_1, heap3_2, heap3_0, by omega, by omega, by omega, (((Bel.refl wB).alloc _).alloc _).alloc _ |>.drew⟩ | exact ⟨wB.heap.size + 1 + 1, wB.heap.size + 1, wB.heap.size, rfl, heap3_0, heap3_2, heap3_1, by omega, by omega, by omega, (((Bel.refl wB).alloc _).alloc _).alloc _ |>.drew⟩)
    case rest =>
     obtain ⟨gE, gA, sB, rfl, hS, hE, hA, l1, l2, l3, hbc⟩ := hcut
     have HSS := Lib.hid (fun w' (k : Bel wc w') => hS.keep k)
     have HEB := Lib.hid hE
     have HAB := Lib.hid hA
     have HBR2 := Lib.hid hbc
     replace HW := HW.trans hbc
     clear p0 p1 p2 g0 g1 gsz hS hE hA
     obtain ⟨p0, p1, p2, g0, g1, gsz⟩ := pgbox HW
     go_wp2_with (go_at_call 36; refine (memLeast_any _ p _ g _ (HPV.out _ (box2_bel HW)) (HGV.out _ (box2_bel HW)) HL.out HGL.out HFZ.out).mono ?_; rintro e wl ⟨gb, cap, bs, rfl, hR, hb⟩; have HRC := Lib.hid hR; have HWL := Lib.hid hb; clear hR; replace HW := HW.trans hb; clear hb; (try clear p0 p1 p2 g0 g1 gsz); obtain ⟨p0, p1, p2, g0, g1, gsz⟩ := pgbox HW)
     obtain ⟨T, hTe⟩ : ∃ T, T = tableF p g := ⟨_, rfl⟩
     have HTE := Lib.hid hTe
     have hg := (fits_zero HFZ.out).2.1
     have hfp := fits_zero HFZ.out
     have HTL : Hid (T.length = g.ports.length) := by show _ = _; rw [hTe, tableF_length, hg.ids]
     have HTM : Hid (∀ t ∈ T, t.length = p.vars.length) := by
      intro t ht
      rw [hTe] at ht
      unfold tableF at ht
      obtain ⟨v, _, rfl⟩ := List.mem_map.1 ht
      simp [rowF]
     have HTS : Hid (smallN T) := by show smallN T; rw [hTe]; exact table_small HFZ.out
     have HOK : Hid (okN T) := HTS.out.ok
     have HSN : Hid (sizeN T = (n : Int)) := by show _ = _; rw [hTe]; exact HN.out
     have hv10 := (lightP_parts HL.out).2.1
     have hv1 : 1 ≤ p.vars.length := (check_vars' hfp.1)
     have hn24 : g.ports.length ≤ 24 := hg.le
     have hn1 : 1 ≤ g.ports.length := hg.pos
     have HCK : Hid (∀ k : Nat, k < n → memF p g (confK p g k) = 0) := fun k hk => confK_mem HFZ.out (by rw [HN.out]; omega)
     obtain ⟨bm, AN, kn, AT, kt, AP, kp, hBk, hMV, hNT, hTT, hPL⟩ := HBR.out
     have HBK := Lib.hid (fun w' (k : Bel wB w') => hBk.keep k)
     have HTT : Hid (TableR wB AT T.length T) := by show TableR _ _ _ _; rw [HTL.out, hTe]; exact hTT
     clear hBk hMV hNT hTT hPL
     have hrl := HRC.out.row_lt
     have hgbb := own_base HRC.out.own
     have hgEc := HEB.out.lt
     have hgAc := HAB.out.lt
     have hSc := (HSS.out _ (Bel.refl _)).lt
     have hwcl := HWL.out.size
     have hOE : Hid (wl.ownsRow wB.heap.size 45 1 (.slice (some ⟨gE, 0, none⟩) n n) n (maskUpto n 0 (fun u => enabF p g (confK p g u)))) := by
      show World.ownsRow _ _ _ _ _ _ _
      rw [maskUpto_zero]
      have h1 := own_of_blk (n := n) (size := 1) (HEB.out.keep HWL.out) (by rw [HCE.out, size_madeCells, hz1]) l1 (by unfold maxLen; omega)
      rw [HCE.out, hz1, made_one _ rfl] at h1
      exact h1
     have hOA : Hid (wl.ownsRow wB.heap.size 54 1 (.slice (some ⟨gA, 0, none⟩) n n) n (List.replicate n (.slice none 0 0))) := by
      show World.ownsRow _ _ _ _ _ _ _
      have h1 := own_of_blk (n := n) (size := 1) (HAB.out.keep HWL.out) (by rw [HCA.out, size_madeCells, hy1]) l2 (by unfold maxLen; omega)
      rw [HCA.out, hy1, made_one _ rfl] at h1
      exact h1
     have hneS : gE ≠ sB ∧ gA ≠ sB ∧ gE ≠ gA := by
      have e1 := HEB.out
      have e2 := HAB.out
      have e3 := HSS.out _ (Bel.refl _)
      refine ⟨?_, ?_, ?_⟩
      ·rintro rfl; unfold Blk at e1 e3; rw [e1] at e3; injection e3 with e3; injection e3 with _ e3; cases e3
      ·rintro rfl; unfold Blk at e2 e3; rw [e2] at e3; injection e3 with e3; injection e3 with _ e3; cases e3
      ·rintro rfl; unfold Blk at e1 e2; rw [e1] at e2; injection e2 with e2; injection e2 with _ e2; cases e2
     have HRC0 : Hid (0 < n → RowsC wl wB.heap.size (some ⟨gb, 0, none⟩) cap p.vars.length (confK p g 0) bs) := fun _ => by
      have h1 := HRC.out.lower (base' := wB.heap.size) HBR2.out.size
      have e : confK p g 0 = leastN (tableF p g) := confN_zero (by rw [← hTe]; exact HOK.out)
      rw [e]; exact h1
     have HBL := Lib.hid (HBR2.out.trans HWL.out)
     have HSL := Lib.hid (HSS.out _ HWL.out)
     clear hTe p0 p1 p2 g0 g1 gsz HRC HEB HAB
     go_loopg [14, 15, 16, 17, 18, 57] n (fun m t _a _b _c _d z wr => ∃ (k tt : Nat) (hs : List Value), k ≤ n ∧ m = n - k ∧ t = .int .i64 (tt : Int) ∧ tt ≤ 31 * k ∧ z = .int .i64 (k : Int) ∧ Hid (wr.ownsRow wB.heap.size 45 1 (.slice (some ⟨gE, 0, none⟩) n n) n (maskUpto n k (fun u => enabF p g (confK p g u)))) ∧ Hid (wr.ownsRow wB.heap.size 54 1 (.slice (some ⟨gA, 0, none⟩) n n) n hs) ∧ Hid (ArcsDone wr wl.heap.size k hs (fun u => arcsOf p g kind (confK p g u))) ∧ Hid (k < n → RowsC wr wB.heap.size (some ⟨gb, 0, none⟩) cap p.vars.length (confK p g k) bs) ∧ Hid (Blk wr sB #[.slice (some ⟨gE, 0, none⟩) n n, .slice (some ⟨gA, 0, none⟩) n n] 35) ∧ Hid (Bel wB wr) ∧ wl.heap.size ≤ wr.heap.size)
     case atStart => exact ⟨0, 0, _, by omega, rfl, rfl, by omega, rfl, hOE, hOA, fun u hu => absurd hu (by omega), HRC0, HSL, HBL, Nat.le_refl _⟩
     case round =>
      clear hOE hOA HRC0 HSL HBL HW
      obtain ⟨k, tt, hs, hk, rfl, rfl, htt, rfl, HOE, HOA, HAD, HRC, HSB2, HB, hwl⟩ := hrel
      by_cases hlt : k < n
      ·have hd0 : decide (k < n) = true := by simpa using hlt
       have hm := HCK.out k hlt
       have hkn : (k : Int) < sizeF p g := by rw [HN.out]; omega
       have hcl := conf_len hm
       have HCL : Hid ((confK p g k).length = g.ports.length) := hcl
       have HM := Lib.hid hm
       have HNK : Hid ((k : Int) = numF p g (confK p g k)) := (num_confK HFZ.out hkn).symm
       have hal : (arcsOf p g kind (confK p g k)).length ≤ 31 := arcs_len h5 hcl
       have HR := Lib.hid (HRC.out hlt)
       have HCV : Hid (ConfV wr (.slice (some ⟨gb, 0, none⟩) g.ports.length cap) (confK p g k)) := by
        have := HR.out.conf
        rw [HCL.out] at this
        exact this
       have HTW := Lib.hid (HT.out _ (HXB.trans HB.out))
       clear hm hcl hkn
       obtain ⟨La, hLa⟩ : ∃ La, La = arcsOf p g kind (confK p g k) := ⟨_, rfl⟩
       rw [← hLa] at hal
       have HLA := Lib.hid hLa
       clear hLa
       have ht1 : decide ((262144 : Int) < (tt : Int) + (La.length : Int)) = false := by simp; omega
       go_upto_region 19 with (go_at_call 37; refine (state_any B p g kind _ (confK p g k) k _ (HBR.out.keep HB.out) HCV.out HTW.out HM.out HNK.out HL.out (conf_light HM.out HL.out) HSZ.out h5).mono ?_; rw [← HLA.out]; rintro e w1 ⟨RA, ra, rfl, hAR, hra1, hra2, hfr, hb⟩; have HAR := Lib.hid hAR; have HFR := Lib.hid hfr; have HB1 := Lib.hid hb; have HS1 := Lib.hid (HSB2.out.keep hb); have HOE1 := Lib.hid (hb.owns HOE.out); have HOA1 := Lib.hid (hb.owns HOA.out); clear hAR hfr hb)
       have yE := own_cell0 HOE1.out k (by rw [maskUpto_length]; exact hlt)
       have fE := HOE1.out.frozenAt k
       have hsl : hs.length = n := by have := HOA1.out.1; omega
       have yA := own_cell0 HOA1.out k (by omega)
       have fA := HOA1.out.frozenAt k
       have gEl := (own_base HOE1.out).2
       have gAl := (own_base HOA1.out).2
       have s0 := HS1.out.cell 0 (v := .slice (some ⟨gE, 0, none⟩) n n) rfl
       have s1 := HS1.out.cell 1 (v := .slice (some ⟨gA, 0, none⟩) n n) rfl
       have sl := HS1.out.lt
       have hkI : (k : Int) < (n : Int) := by omega
       obtain ⟨ne1, ne2, ne3⟩ := hneS
       go_region
       have HE0 : Hid (maskUpto n (k + 1) (fun u => enabF p g (confK p g u)) = (maskUpto n k (fun u => enabF p g (confK p g u))).set k (.int .u32 (enabF p g (confK p g k) : Int))) := (maskUpto_set n k _).symm
       generalize enabF p g (confK p g k) = Ek at *
       have hAg2 : Agr (fun q => q = gE ∨ q = gA) w1 ((w1.setCell ⟨gE, k, none⟩ (.int .u32 (Ek : Int))).setCell ⟨gA, k, none⟩ (.slice RA La.length ra)) := (Agr.setCell (E := fun q => q = gE ∨ q = gA) w1 ⟨gE, k, none⟩ _ (.inl rfl)).trans (Agr.setCell (E := fun q => q = gE ∨ q = gA) _ ⟨gA, k, none⟩ _ (.inr rfl))
       have hFA : Fr gA (w1.setCell ⟨gE, k, none⟩ (.int .u32 (Ek : Int))) ((w1.setCell ⟨gE, k, none⟩ (.int .u32 (Ek : Int))).setCell ⟨gA, k, none⟩ (.slice RA La.length ra)) := (Fr.refl gA _).set k _
       have hFE : Fr gE w1 (w1.setCell ⟨gE, k, none⟩ (.int .u32 (Ek : Int))) := (Fr.refl gE _).set k _
       have hOE2 : ((w1.setCell ⟨gE, k, none⟩ (.int .u32 (Ek : Int))).setCell ⟨gA, k, none⟩ (.slice RA La.length ra)).ownsRow wB.heap.size 45 1 (.slice (some ⟨gE, 0, none⟩) n n) n (maskUpto n (k + 1) (fun u => enabF p g (confK p g u))) := by
        have h1 := (HOE1.out.stored k (.int .u32 (Ek : Int))).1
        rw [← HE0.out] at h1
        exact own_fr h1 hFA ne3
       have hOA2 : ((w1.setCell ⟨gE, k, none⟩ (.int .u32 (Ek : Int))).setCell ⟨gA, k, none⟩ (.slice RA La.length ra)).ownsRow wB.heap.size 54 1 (.slice (some ⟨gA, 0, none⟩) n n) n (hs.set k (.slice RA La.length ra)) := (own_fr HOA1.out hFE (Ne.symm ne3)).stored k _ |>.1
       have hS2 : Blk ((w1.setCell ⟨gE, k, none⟩ (.int .u32 (Ek : Int))).setCell ⟨gA, k, none⟩ (.slice RA La.length ra)) sB #[.slice (some ⟨gE, 0, none⟩) n n, .slice (some ⟨gA, 0, none⟩) n n] 35 := Blk.other (Blk.other HS1.out (by simp; omega) _) (by simp; omega) _
       have hB2 : Bel wB ((w1.setCell ⟨gE, k, none⟩ (.int .u32 (Ek : Int))).setCell ⟨gA, k, none⟩ (.slice RA La.length ra)) := ((HB.out.trans HB1.out).setCell (by simpa using l1) _).setCell (by simpa using l2) _
       have hz2 : ((w1.setCell ⟨gE, k, none⟩ (.int .u32 (Ek : Int))).setCell ⟨gA, k, none⟩ (.slice RA La.length ra)).heap.size = w1.heap.size := by simp
       have hR2 := (HR.out.keep HB1.out).agr hAg2 (by rintro (h | h) <;> omega) (fun b' hb' => by have := hrl b' hb'; rintro (h | h) <;> omega)
       have hAD2 := (HAD.out.agr (Agr.bel' (E := fun _ => False) HB1.out) (fun q h => h.elim)).agr hAg2 (by rintro q (h | h) <;> omega)
       have hAR2 := HAR.out.agr (N := wr.heap.size) hAg2 (by rintro q (h | h) <;> omega) (fun b o e => HFR.out b o e)
       have hws1 := HB1.out.size
       clear yE fE yA fA gEl gAl s0 s1 sl hAg2 hFA hFE
       generalize (w1.setCell ⟨gE, k, none⟩ (.int .u32 (Ek : Int))).setCell ⟨gA, k, none⟩ (.slice RA La.length ra) = w2 at *
       have hADV := advance_any wB AT kt gb cap p.vars.length T (confK p g k) bs w2.drew HTT.out hB2.drew (hR2.keep (Bel.refl _).drew) (by have := mem_in HM.out; rwa [← HTE.out] at this) HTM.out HTS.out (by rw [HTL.out]; exact hn24) hv10 (by rw [HTL.out]; exact hn1) hv1
       rw [HTL.out, HCL.out] at hADV
       have HADV := Lib.hid hADV
       have HOE2 := Lib.hid hOE2
       have HOA2 := Lib.hid hOA2
       have HS2 := Lib.hid hS2
       have HB2 := Lib.hid hB2
       have HAD2 := Lib.hid hAD2
       have HAR2 := Lib.hid hAR2
       have t3 := (HBK.out _ hB2).cell 3 (v := .slice AT g.ports.length kt) rfl
       have tl := (HBK.out _ hB2).lt
       clear hADV hOE2 hOA2 hS2 hB2 hAD2 hAR2 hR2
       go_wp2_with (go_at_call 38; refine HADV.out.mono ?_; rintro e w3 ⟨⟨va, rfl⟩, hC3, hA3⟩)
       have nr : ∀ N, N < wc.heap.size → ¬ RowB bs N := fun N hN ⟨b', hb', e⟩ => by have := (hrl b' hb').1; omega
       have HADk : Hid (ArcsDone w2 wl.heap.size (k + 1) (hs.set k (.slice RA La.length ra)) (fun u => arcsOf p g kind (confK p g u))) := by
        intro u hu
        by_cases huk : u = k
        ·subst huk
         rw [List.getElem?_set_self (by omega)]
         have e := HLA.out
         dsimp only
         rw [← e]
         exact ⟨RA, ra, rfl, HAR2.out, hra1, hra2, fun b o e => by have := HFR.out b o e; omega⟩
        ·rw [List.getElem?_set_ne (fun e => huk e.symm)]
         exact HAD2.out u (by omega)
       go_roundg (n - (k + 1))
       case rel =>
        refine ⟨k + 1, tt + La.length, hs.set k (.slice RA La.length ra), by omega, rfl, by go_num, by omega, by go_num, ?_, ?_, ?_, ?_, ?_, ?_, ?_⟩
        ·exact own_agrB (show w2.drew.ownsRow _ _ _ _ _ _ from HOE2.out) hA3 (nr _ hgEc)
        ·exact own_agrB (show w2.drew.ownsRow _ _ _ _ _ _ from HOA2.out) hA3 (nr _ hgAc)
        ·exact (show ArcsDone w2.drew _ _ _ _ from HADk.out).agr hA3 (fun q ⟨b', hb', e⟩ => by have := (hrl b' hb').2; omega)
        ·intro hk1
         have e : (advN T (confK p g k)).1 = confK p g (k + 1) := by
          have := advN_conf HOK.out (show (0 : Int) ≤ (k : Int) by omega) (by rw [HSN.out]; omega)
          rw [HTE.out] at this
          unfold confK
          rw [HTE.out, this]; rfl
         rw [← e]; exact hC3
        ·exact hA3.blk (show Blk w2.drew _ _ _ from HS2.out) (nr _ hSc)
        ·exact Agr.belE (A := w2.drew) HB2.out.drew hA3 (fun q ⟨b', hb', e⟩ => by have := (hrl b' hb').1; have := HBR2.out.size; omega)
        ·have := hA3.size
         have e : w2.drew.heap.size = w2.heap.size := rfl
         omega
       case measure => omega
      ·have hd0 : decide (k < n) = false := by simpa using hlt
       obtain rfl : k = n := by omega
       have HB9 := Lib.hid (HBB.out.keep HB.out)
       have q0 := HB9.out.cell 0 (v := .slice none 0 0) rfl
       have q1 := HB9.out.cell 1 (v := .slice none 0 0) rfl
       have qf0 := HB9.out.frozen 0
       have qf1 := HB9.out.frozen 1
       have ql := HB9.out.lt
       have s0 := HSB2.out.cell 0 (v := .slice (some ⟨gE, 0, none⟩) k k) rfl
       have s1 := HSB2.out.cell 1 (v := .slice (some ⟨gA, 0, none⟩) k k) rfl
       have sl := HSB2.out.lt
       have hRB := HBB.out.lt
       go_wp2_with fail
       have zz := (Blk.set (Blk.set HB9.out 0 (.slice (some ⟨gE, 0, none⟩) k k)) 1 (.slice (some ⟨gA, 0, none⟩) k k))
       have y0 := Blk.cell zz 0 (v := .slice (some ⟨gE, 0, none⟩) k k) (by rfl)
       have y1 := Blk.cell zz 1 (v := .slice (some ⟨gA, 0, none⟩) k k) (by rfl)
       refine bodyPost_ret (v := .tuple #[.agg #[.slice (some ⟨gE, 0, none⟩) k k, .slice (some ⟨gA, 0, none⟩) k k], .int .i64 0]) (by simp [results, Tryz.results11, go_sem, y0, y1]; try go_simp) rfl ?_
       rw [HF.out]
       refine ⟨_, rfl, ?_, ((HXB.trans HB.out).setCell (by simp; omega) _).setCell (by simp; omega) _⟩
       have hag : Agr (fun q => q = w.heap.size + 1 + 1) wr ((wr.setCell ⟨w.heap.size + 1 + 1, 0, none⟩ (.slice (some ⟨gE, 0, none⟩) k k)).setCell ⟨w.heap.size + 1 + 1, 1, none⟩ (.slice (some ⟨gA, 0, none⟩) k k)) := (Agr.setCell (E := fun q => q = w.heap.size + 1 + 1) _ _ _ rfl).trans (Agr.setCell (E := fun q => q = w.heap.size + 1 + 1) _ _ _ rfl)
       have hOE9 := own_agrB HOE.out hag (by omega)
       have hOA9 := own_agrB HOA.out hag (by omega)
       have hAD9 := HAD.out.agr hag (fun q h => by omega)
       generalize (wr.setCell ⟨w.heap.size + 1 + 1, 0, none⟩ (.slice (some ⟨gE, 0, none⟩) k k)).setCell ⟨w.heap.size + 1 + 1, 1, none⟩ (.slice (some ⟨gA, 0, none⟩) k k) = wz at *
       have hsz : (sizeF p g).toNat = k := by rw [HN.out]; simp
       unfold spaceF
       rw [hsz]
       refine ⟨some ⟨gE, 0, none⟩, k, some ⟨gA, 0, none⟩, k, by simp, ⟨by simp, fun i x hx => ?_⟩, ⟨by simp, fun i x hx => ?_⟩, by simp, by unfold maxLen; omega, by simp, by unfold maxLen; omega⟩
       ·have hi : i < k := by have := (List.getElem?_eq_some_iff.1 hx).1; simpa using this
        obtain ⟨q, e1, _, q3, q4, _⟩ := own_at hOE9 (maskUpto_at (f := fun u => enabF p g (confK p g u)) hi hi)
        rw [List.getElem?_map, List.getElem?_range hi] at hx
        obtain rfl : enabF p g (confK p g i) = x := by simpa using hx
        exact ⟨q, 0, e1, q3, by unfold MaskAt; simpa using q4⟩
       ·have hi : i < k := by have := (List.getElem?_eq_some_iff.1 hx).1; simpa using this
        obtain ⟨A9, c9, e1, e2, e3, e4, _⟩ := hAD9 i hi
        obtain ⟨q, e5, _, q3, q4, _⟩ := own_at hOA9 e1
        rw [List.getElem?_map, List.getElem?_range hi] at hx
        obtain rfl : arcsOf p g kind (confK p g i) = x := by simpa using hx
        exact ⟨q, 0, e5, q3, A9, c9, by simpa using q4, e2, e3, e4⟩
   ·rw [if_pos (by simp)] at HF
    go_enter Tryz.func11, Tryz.ntmps11
    go_wp2_with (first
     | (go_at_call 33; refine (memCount_any _ p _ g _ (HPV.out _ (box2_bel HW)) (HGV.out _ (box2_bel HW)) HL.out HGL.out).mono ?_; rintro e wc ⟨rfl, hb⟩; rw [← HNT.out]; have HX := HX0.trans hb; have HB := Blk.keep HSB.out hb; have z0 := HB.cell 0 (v := .slice none 0 0) rfl; have z1 := HB.cell 1 (v := .slice none 0 0) rfl; have f0 := HB.frozen 0; have f1 := HB.frozen 1; have lb := HB.lt; have HBC := Lib.hid HB; clear HB; replace HW := HW.trans hb; clear hb; (try clear p0 p1 p2 g0 g1 gsz); obtain ⟨p0, p1, p2, g0, g1, gsz⟩ := pgbox HW)
     | (go_at_call 34; refine (daemonValid_any kind _).mono ?_; rintro e w' ⟨rfl, rfl⟩; rw [HKD.out]))
    have zz := (Blk.set (Blk.set HBC.out 0 (.slice none 0 0)) 1 (.slice none 0 0))
    have y0 := Blk.cell zz 0 (v := .slice none 0 0) (by rfl)
    have y1 := Blk.cell zz 1 (v := .slice none 0 0) (by rfl)
    refine bodyPost_ret (v := .tuple #[.agg #[.slice none 0 0, .slice none 0 0], .int .i64 3]) (by simp [results, Tryz.results11, go_sem, y0, y1]; try go_simp) rfl ?_
    rw [HF.out]
    exact HEND.out _ _ ((HX.setCell (by simp; omega) _).setCell (by simp; omega) _)

end Go.Proofs.YtgemlgpjbclonaaGreatDoor

/- Transition systems that are well-formed, plain. -/
namespace Go.Proofs.YtgemlgpjbclonaaGreatDoor

def arcsB (E : Nat) (n : Int) : Nat → List (Nat × Int) → Bool
 | _, [] => true
 | b, x :: l => decide (b < x.1) && within32 x.1 E && decide (0 ≤ x.2) && decide (x.2 < n) && arcsB E n x.1 l
def stateB8 (E : Nat) (n : Int) (l : List (Nat × Int)) : Bool := decide (E < 16777216) && (decide (E ≠ 0) == decide (0 < l.length)) && arcsB E n 0 l
def validS (s : Spc) : Bool := decide (1 ≤ s.enabled.length) && decide (s.arcs.length = s.enabled.length) && (List.range s.enabled.length).all fun k => stateB8 (s.enabled.getD k 0) s.enabled.length (s.arcs.getD k [])
/-- All sets are sets of 32 nodes. -/
def wfS (s : Spc) : Prop := (∀ E ∈ s.enabled, E < 4294967296) ∧ ∀ l ∈ s.arcs, ∀ x ∈ l, x.1 < 4294967296
def lightS (s : Spc) : Bool := decide (s.enabled.length ≤ 200) && decide (s.arcs.length ≤ 200) && s.arcs.all fun l => decide (l.length ≤ 70)
theorem lightS_parts {s : Spc} (h : lightS s = true) : s.enabled.length ≤ 200 ∧ s.arcs.length ≤ 200 ∧ ∀ l ∈ s.arcs, l.length ≤ 70 := by
 unfold lightS at h
 simp only [Bool.and_eq_true, decide_eq_true_eq, List.all_eq_true] at h
 exact ⟨h.1.1, h.1.2, h.2⟩
theorem arcsB_at {E : Nat} {n : Int} {b i : Nat} {l : List (Nat × Int)} (hi : i < l.length) : arcsB E n b (l.drop i) = (decide (b < l[i].1) && within32 l[i].1 E && decide (0 ≤ l[i].2) && decide (l[i].2 < n) && arcsB E n l[i].1 (l.drop (i + 1))) := by
 rw [List.drop_eq_getElem_cons hi]; rfl
theorem arcsB_end {E : Nat} {n : Int} {b : Nat} {l : List (Nat × Int)} : arcsB E n b (l.drop l.length) = true := by rw [List.drop_length]; rfl

end Go.Proofs.YtgemlgpjbclonaaGreatDoor

/- Contracts: whether a transition system is well-formed, the program's. -/
namespace Go.Proofs.YtgemlgpjbclonaaGreatDoor
open Go.RowKit

theorem ArcsR.at_ {w : World} {A : Option Addr} {n : Nat} {xs : List (Nat × Int)} (h : ArcsR w A n xs) (k : Nat) (hk : k < xs.length) :
  ∃ b o, A = some ⟨b, o, none⟩ ∧ b < w.heap.size ∧ w.cell? ⟨b, o + k * 2, none⟩ = some (.int .u32 (xs[k].1 : Int)) ∧ w.cell? ⟨b, o + k * 2 + 1, none⟩ = some (.int .i64 xs[k].2) := SliceR.at_ h k hk
theorem ArcRowsR.at_ {w : World} {A : Option Addr} {n : Nat} {xs : List (List (Nat × Int))} (h : ArcRowsR w A n xs) (k : Nat) (hk : k < xs.length) :
  ∃ b o R c, A = some ⟨b, o, none⟩ ∧ b < w.heap.size ∧ w.cell? ⟨b, o + k, none⟩ = some (.slice R xs[k].length c) ∧ ArcsR w R xs[k].length xs[k] ∧ xs[k].length ≤ c ∧ c ≤ maxLen := RowsAt.at_ h k hk

set_option maxRecDepth 100000 in
set_option maxHeartbeats 4000000 in
theorem stateValid_any (E : Nat) (A : Option Addr) (c : Nat) (l : List (Nat × Int)) (n : Int) (w : World) (hA : ArcsR w A l.length l) (hE : E < 4294967296) (hx : ∀ x ∈ l, x.1 < 4294967296) (hl : l.length ≤ 70) :
  Calls Tryz.prog 60 #[.int .u32 (E : Int), .slice A l.length c, .int .i64 n] w fun e w' => e = .returned (.bool (stateB8 E n l)) ∧ Bel w w' := by
 have HF : Hid (stateB8 E n l = (decide (E < 16777216) && (decide (E ≠ 0) == decide (0 < l.length)) && arcsB E n 0 l)) := rfl
 have HA := Lib.hid (fun w' (k : Bel w w') => hA.keep k)
 have HX := Lib.hid hx
 have HB := Bel.refl w
 clear hA hx
 by_cases h24 : E < 16777216
 ·have q : (E : Int) / 16777216 = 0 := by omega
  rw [decide_eq_true h24] at HF
  by_cases hm : (decide (E ≠ 0) == decide (0 < l.length)) = true
  ·rw [hm] at HF
   obtain ⟨eb, e1, e2⟩ : ∃ eb : Bool, ((E : Int) != 0) = eb ∧ decide (0 < l.length) = eb := by
    refine ⟨_, rfl, ?_⟩
    have h1 : decide (E ≠ 0) = decide (0 < l.length) := by simpa using hm
    have h2 : ((E : Int) != 0) = decide (E ≠ 0) := by by_cases h : E = 0 <;> simp [h]
    rw [h2, h1]
   have e3 : (!eb == eb) = false := by cases eb <;> rfl
   clear hm
   go_enter Tryz.func60, Tryz.ntmps60
   go_wp2_with fail
   go_loopg [7, 9, 23] l.length (fun m b _a z wr => ∃ (i bf : Nat), i ≤ l.length ∧ m = l.length - i ∧ b = .int .u32 (bf : Int) ∧ bf < 4294967296 ∧ z = .int .i64 (i : Int) ∧ Hid (arcsB E n bf (l.drop i) = arcsB E n 0 l) ∧ Bel w wr)
   case atStart => exact ⟨0, 0, by omega, rfl, rfl, by omega, rfl, by show _ = _; simp, HB⟩
   case round =>
    clear HB e1 e2 e3 q
    obtain ⟨i, bf, hi, rfl, rfl, hbf, rfl, HQ, HB⟩ := hrel
    by_cases hlt : i < l.length
    ·have hd0 : decide (i < l.length) = true := by simpa using hlt
     obtain ⟨b, o, rfl, hbl, c0, c1⟩ := (HA.out _ HB).at_ i hlt
     have hx1 := HX.out _ (List.getElem_mem hlt)
     rw [arcsB_at hlt] at HQ
     obtain ⟨S, hS⟩ : ∃ S, S = l[i].1 := ⟨_, rfl⟩
     obtain ⟨T, hT⟩ : ∃ T, T = l[i].2 := ⟨_, rfl⟩
     rw [← hS] at hx1 c0
     rw [← hT] at c1
     simp only [← hS, ← hT] at HQ
     clear hS hT
     by_cases a1 : bf < S
     ·have d1 : decide (S ≤ bf) = false := by simp; omega
      have HD := diffF_zero (T := E) hx1
      have hbn := bits_andNot S E
      rw [decide_eq_true a1] at HQ
      cases hw : within32 S E with
      | false =>
       rw [hw] at HQ HD
       have hz : ((diffF S E : Int) != 0) = true := by simp at HD ⊢; omega
       have hz' : (diffF S E != 0) = true := by simp at HD ⊢; omega
       clear hw HD
       go_wp2_with fail
       go_ret
       refine ⟨ret_bool ?_, HB.alloc _⟩
       rw [HF.out, ← HQ.out]; rfl
      | true =>
       rw [hw] at HQ HD
       have hz : ((diffF S E : Int) != 0) = false := by simp at HD ⊢; omega
       have hz' : (diffF S E != 0) = false := by simp at HD ⊢; omega
       clear hw HD
       by_cases a2 : 0 ≤ T
       ·have d2 : decide (T < 0) = false := by simp; omega
        rw [decide_eq_true a2] at HQ
        by_cases a3 : T < n
        ·have d3 : decide (n ≤ T) = false := by simp; omega
         rw [decide_eq_true a3] at HQ
         clear a1 a2 a3
         go_wp2_with fail
         go_roundg (l.length - (i + 1))
         case rel => exact ⟨i + 1, S, by omega, rfl, rfl, hx1, by go_num, by have := HQ.out; show _ = _; simpa using this, HB.alloc _⟩
         case measure => omega
        ·have d3 : decide (n ≤ T) = true := by simp; omega
         rw [decide_eq_false a3] at HQ
         clear a1 a2 a3
         go_wp2_with fail
         go_ret
         refine ⟨ret_bool ?_, HB.alloc _⟩
         rw [HF.out, ← HQ.out]; rfl
       ·have d2 : decide (T < 0) = true := by simp; omega
        rw [decide_eq_false a2] at HQ
        clear a1 a2
        go_wp2_with fail
        go_ret
        refine ⟨ret_bool ?_, HB.alloc _⟩
        rw [HF.out, ← HQ.out]; rfl
     ·have d1 : decide (S ≤ bf) = true := by simp; omega
      rw [decide_eq_false a1] at HQ
      clear a1
      go_wp2_with fail
      go_ret
      refine ⟨ret_bool ?_, HB.alloc _⟩
      rw [HF.out, ← HQ.out]; rfl
    ·have hd0 : decide (i < l.length) = false := by simpa using hlt
     obtain rfl : i = l.length := by omega
     rw [arcsB_end] at HQ
     go_wp2_with fail
     go_ret
     refine ⟨ret_bool ?_, HB⟩
     rw [HF.out, ← HQ.out]; rfl
  ·have hm' : (decide (E ≠ 0) == decide (0 < l.length)) = false := by simpa using hm
   rw [hm'] at HF
   obtain ⟨eb, e1, e2⟩ : ∃ eb : Bool, ((E : Int) != 0) = eb ∧ decide (0 < l.length) = !eb := by
    refine ⟨_, rfl, ?_⟩
    have h1 : decide (E ≠ 0) ≠ decide (0 < l.length) := by simpa using hm
    have h2 : ((E : Int) != 0) = decide (E ≠ 0) := by by_cases h : E = 0 <;> simp [h]
    rw [h2]
    revert h1
    cases decide (E ≠ 0) <;> cases decide (0 < l.length) <;> simp
   clear hm hm'
   go_enter Tryz.func60, Tryz.ntmps60
   go_wp2_with fail
   go_ret
   exact ⟨ret_bool (by rw [HF.out]; rfl), HB⟩
 ·have q : ((E : Int) / 16777216 != 0) = true := by simp; omega
  rw [decide_eq_false h24] at HF
  clear h24
  go_enter Tryz.func60, Tryz.ntmps60
  go_wp2_with fail
  go_ret
  exact ⟨ret_bool (by rw [HF.out]; rfl), HB⟩

theorem validS_next {s : Spc} {k : Nat} (_ : k < s.enabled.length) : ((List.range (k + 1)).all fun k => stateB8 (s.enabled.getD k 0) s.enabled.length (s.arcs.getD k [])) = (((List.range k).all fun k => stateB8 (s.enabled.getD k 0) s.enabled.length (s.arcs.getD k [])) && stateB8 (s.enabled.getD k 0) s.enabled.length (s.arcs.getD k [])) := by
 rw [List.range_succ, List.all_append]; simp
theorem all_stop {f : Nat → Bool} {n k : Nat} (hk : k < n) (h : f k = false) : (List.range n).all f = false := by
 rw [Bool.eq_false_iff]
 intro ha
 rw [List.all_eq_true] at ha
 rw [ha k (List.mem_range.2 hk)] at h
 cases h
set_option maxRecDepth 100000 in
set_option maxHeartbeats 600000 in
theorem spaceValid_any (v : Value) (s : Spc) (w : World) (h : SpaceV w v s) (hwf : wfS s) (hl : lightS s = true) :
  Calls Tryz.prog 32 #[v] w fun e w' => e = .returned (.bool (validS s)) ∧ Bel w w' := by
 obtain ⟨l1, l2, l3⟩ := lightS_parts hl
 have HF : Hid (validS s = (decide (1 ≤ s.enabled.length) && decide (s.arcs.length = s.enabled.length) && (List.range s.enabled.length).all fun k => stateB8 (s.enabled.getD k 0) s.enabled.length (s.arcs.getD k []))) := rfl
 obtain ⟨AE, cE, AA, cA, rfl, hE, hA, _, _, _, _⟩ := h
 have HE := Lib.hid (fun w' (k : Bel w w') => hE.keep k)
 have HA := Lib.hid (fun w' (k : Bel w w') => hA.keep k)
 have HWF := Lib.hid hwf
 have HL3 := Lib.hid l3
 have HW := Bel.refl (w.alloc (.cells #[.slice AE s.enabled.length cE, .slice AA s.arcs.length cA] 35))
 clear hE hA hwf hl l3
 by_cases h1 : 1 ≤ s.enabled.length
 ·have d1 : decide (s.enabled.length < 1) = false := decide_eq_false (by omega)
  have d1I : decide ((s.enabled.length : Int) < 1) = false := decide_eq_false (by omega)
  have d2I : decide ((32768 : Int) < (s.enabled.length : Int)) = false := decide_eq_false (by omega)
  have d2 : decide (32768 < s.enabled.length) = false := by simp; omega
  rw [decide_eq_true h1] at HF
  by_cases h2 : s.arcs.length = s.enabled.length
  ·have d3 : (((s.arcs.length : Nat) : Int) != ((s.enabled.length : Nat) : Int)) = false := by simp; omega
   have d3' : (s.arcs.length != s.enabled.length) = false := by simp; omega
   rw [decide_eq_true h2] at HF
   have H2 := Lib.hid h2
   clear h2
   go_enter Tryz.func32, Tryz.ntmps32
   go_wp2_with fail
   go_loopg [4, 5, 23] s.enabled.length (fun m t _a z wr => ∃ (k tt : Nat), k ≤ s.enabled.length ∧ m = s.enabled.length - k ∧ t = .int .i64 (tt : Int) ∧ tt ≤ 70 * k ∧ z = .int .i64 (k : Int) ∧ Hid (((List.range k).all fun k => stateB8 (s.enabled.getD k 0) s.enabled.length (s.arcs.getD k [])) = true) ∧ Bel (w.alloc (.cells #[.slice AE s.enabled.length cE, .slice AA s.arcs.length cA] 35)) wr)
   case atStart => exact ⟨0, 0, by omega, rfl, rfl, by omega, rfl, rfl, HW⟩
   case round =>
    clear HW d3 d3'
    obtain ⟨k, tt, hk, rfl, rfl, htt, rfl, HI, HW⟩ := hrel
    have q0 := box_cell HW 0 (v := .slice AE s.enabled.length cE) rfl
    have q1 := box_cell HW 1 (v := .slice AA s.arcs.length cA) rfl
    have ql := box_lt HW
    by_cases hlt : k < s.enabled.length
    ·have hd0 : decide (k < s.enabled.length) = true := by simpa using hlt
     have hltA : k < s.arcs.length := by rw [H2.out]; exact hlt
     obtain ⟨bE, oE, rfl, hbE, k0⟩ := (HE.out _ (Bel.refl w)).at_ k hlt
     obtain ⟨bA, oA, R, rc, rfl, hbA, k1, hR, _, _⟩ := (HA.out _ (Bel.refl w)).at_ k hltA
     have HR := Lib.hid (fun w' (k : Bel w w') => hR.keep k)
     have HST : Hid (stateB8 (s.enabled.getD k 0) s.enabled.length (s.arcs.getD k []) = stateB8 s.enabled[k] s.enabled.length s.arcs[k]) := by show _ = _; rw [getD_eq hlt, getD_eq hltA]
     have hE32 := HWF.out.1 _ (List.getElem_mem hlt)
     have HX := Lib.hid (HWF.out.2 _ (List.getElem_mem hltA))
     have hll := HL3.out _ (List.getElem_mem hltA)
     have hkA : (k : Int) < (s.arcs.length : Int) := by omega
     have hkE : (k : Int) < (s.enabled.length : Int) := by omega
     clear hR
     generalize s.arcs[k] = l at *
     generalize s.enabled[k] = E at *
     have hcell := Lib.hid (fun w3 (kk : Bel (w.alloc (.cells #[.slice (some ⟨bE, oE, none⟩) s.enabled.length cE, .slice (some ⟨bA, oA, none⟩) s.arcs.length cA] 35)) w3) => show w3.cell? ⟨w.heap.size, 0, none⟩ = some (.slice (some ⟨bE, oE, none⟩) s.enabled.length cE) ∧ w3.cell? ⟨w.heap.size, 1, none⟩ = some (.slice (some ⟨bA, oA, none⟩) s.arcs.length cA) ∧ w3.cell? ⟨bE, oE + k, none⟩ = some (.int .u32 (E : Int)) ∧ w3.cell? ⟨bA, oA + k, none⟩ = some (.slice R l.length rc) ∧ w.heap.size < w3.heap.size ∧ bE < w3.heap.size ∧ bA < w3.heap.size from ⟨box_cell kk 0 rfl, box_cell kk 1 rfl, ((box_bel kk).cell hbE).trans k0, ((box_bel kk).cell hbA).trans k1, box_lt kk, Nat.lt_of_lt_of_le hbE (box_bel kk).size, Nat.lt_of_lt_of_le hbA (box_bel kk).size⟩)
     obtain ⟨_, _, _, x1, _, _, xA⟩ := hcell.out _ HW
     have d4 : decide ((262144 : Int) < (tt : Int) + (l.length : Int)) = false := decide_eq_false (by omega)
     have d4' : decide (262144 < tt + l.length) = false := decide_eq_false (by omega)
     clear k0 k1
     cases hs : stateB8 E s.enabled.length l with
     | true =>
      go_upto_region 9 with fail
      replace HW := HW.drew
      go_region_held3 (fun w3 => w3.cell? ⟨w.heap.size, 0, none⟩ = some (.slice (some ⟨bE, oE, none⟩) s.enabled.length cE) ∧ w3.cell? ⟨w.heap.size, 1, none⟩ = some (.slice (some ⟨bA, oA, none⟩) s.arcs.length cA) ∧ w3.cell? ⟨bE, oE + k, none⟩ = some (.int .u32 (E : Int)) ∧ w3.cell? ⟨bA, oA + k, none⟩ = some (.slice R l.length rc) ∧ w.heap.size < w3.heap.size ∧ bE < w3.heap.size ∧ bA < w3.heap.size) (exact hcell.out _ HW) (first | (go_simp; go_at_call 60; refine (stateValid_any E R rc l s.enabled.length _ (HR.out _ (box_bel HW)) hE32 HX.out hll).mono ?_; rintro e w' ⟨rfl, hb⟩; rw [hs]; replace HW := HW.trans hb; clear hb))
      go_wp2_with fail
      go_roundg (s.enabled.length - (k + 1))
      case rel =>
       refine ⟨k + 1, tt + l.length, by omega, rfl, by go_num, by omega, by go_num, ?_, HW⟩
       show _ = _
       rw [validS_next hlt, HI.out, HST.out, hs]; rfl
      case measure => omega
     | false =>
      have HSF := Lib.hid hs
      go_upto_region 9 with fail
      replace HW := HW.drew
      go_region_held3 (fun w3 => w3.cell? ⟨w.heap.size, 0, none⟩ = some (.slice (some ⟨bE, oE, none⟩) s.enabled.length cE) ∧ w3.cell? ⟨w.heap.size, 1, none⟩ = some (.slice (some ⟨bA, oA, none⟩) s.arcs.length cA) ∧ w3.cell? ⟨bE, oE + k, none⟩ = some (.int .u32 (E : Int)) ∧ w3.cell? ⟨bA, oA + k, none⟩ = some (.slice R l.length rc) ∧ w.heap.size < w3.heap.size ∧ bE < w3.heap.size ∧ bA < w3.heap.size) (exact hcell.out _ HW) (first | (go_simp; go_at_call 60; refine (stateValid_any E R rc l s.enabled.length _ (HR.out _ (box_bel HW)) hE32 HX.out hll).mono ?_; rintro e w' ⟨rfl, hb⟩; rw [hs]; replace HW := HW.trans hb; clear hb))
      go_wp2_with fail
      go_ret
      refine ⟨ret_bool ?_, box_bel HW⟩
      rw [HF.out, all_stop (f := fun k => stateB8 (s.enabled.getD k 0) s.enabled.length (s.arcs.getD k [])) hlt (by rw [HST.out]; exact HSF.out)]; rfl
    ·have hd0 : decide (k < s.enabled.length) = false := by simpa using hlt
     obtain rfl : k = s.enabled.length := by omega
     go_wp2_with fail
     go_ret
     exact ⟨ret_bool (by rw [HF.out, HI.out]; rfl), box_bel HW⟩
  ·have d3 : (((s.arcs.length : Nat) : Int) != ((s.enabled.length : Nat) : Int)) = true := by simp; omega
   have d3' : (s.arcs.length != s.enabled.length) = true := by simp; omega
   rw [decide_eq_false h2] at HF
   clear h2
   go_enter Tryz.func32, Tryz.ntmps32
   go_wp2_with fail
   go_ret
   exact ⟨ret_bool (by rw [HF.out]; rfl), box_bel HW⟩
 ·have d1 : decide (s.enabled.length < 1) = true := decide_eq_true (by omega)
  have d1I : decide ((s.enabled.length : Int) < 1) = true := decide_eq_true (by omega)
  rw [decide_eq_false h1] at HF
  clear h1
  go_enter Tryz.func32, Tryz.ntmps32
  go_wp2_with fail
  go_ret
  exact ⟨ret_bool (by rw [HF.out]; rfl), box_bel HW⟩

end Go.Proofs.YtgemlgpjbclonaaGreatDoor

/- The sanity check of the laws of layer 18. -/
namespace Go.Proofs.YtgemlgpjbclonaaGreatDoor
open Go.RowKit

def exS : Spc := (buildF exP exG 3).1
theorem exS_err : (buildF exP exG 3).2 = 0 := by decide +kernel
theorem exS_len : exS.enabled.length = 4 ∧ exS.arcs.length = 4 := by decide +kernel
theorem exS_arcs : exS.arcs[3]? = some [(1, 1), (2, 2), (3, 0)] := by decide +kernel
theorem exS_valid : validS exS = true := by decide +kernel
theorem exS_light : lightS exS = true := by decide +kernel
theorem exS_wf : wfS exS := by unfold wfS; decide +kernel
theorem exS_few : (totalF exP exG).2 = 0 → sizeF exP exG ≤ 200 ∧ exG.ports.length ≤ 5 := by decide +kernel
theorem exS_lt : lightP exP = true ∧ lightG exG = true := by decide +kernel
def RetExB (w : World) (e : Ending) (w' : World) : Prop := ∃ AE cE b o cA b3 o3 c3, e = .returned (.tuple #[.agg #[.slice AE 4 cE, .slice (some ⟨b, o, none⟩) 4 cA], .int .i64 0]) ∧
 SpaceV w' (.agg #[.slice AE 4 cE, .slice (some ⟨b, o, none⟩) 4 cA]) exS ∧ b < w'.heap.size ∧ b3 < w'.heap.size ∧ w'.cell? ⟨b, o + 3, none⟩ = some (.slice (some ⟨b3, o3, none⟩) 3 c3) ∧
 w'.cell? ⟨b3, o3, none⟩ = some (.int .u32 1) ∧ w'.cell? ⟨b3, o3 + 1, none⟩ = some (.int .i64 1) ∧ w'.cell? ⟨b3, o3 + 4, none⟩ = some (.int .u32 3) ∧ w'.cell? ⟨b3, o3 + 4 + 1, none⟩ = some (.int .i64 0) ∧ Bel w w'
theorem exBuild_any (v1 v2 : Value) (w : World) (h1 : PrgV w v1 exP) (h2 : GraphV w v2 exG) (hT : Tab32 w) : Calls Tryz.prog 11 #[v1, v2, .int .i64 3] w (RetExB w) := by
 have h := spaceBuild_any v1 exP v2 exG 3 w h1 h2 hT exS_lt.1 exS_lt.2 exS_few
 refine h.mono ?_
 rintro e w' ⟨v, rfl, hS, hb⟩
 rw [exS_err]
 change SpaceV w' v exS at hS
 have hS' := hS
 obtain ⟨AE, cE, AA, cA, rfl, hE, hA, _, _, _, _⟩ := hS'
 have h3 : 3 < exS.arcs.length := by rw [exS_len.2]; decide
 obtain ⟨b, o, R, c3, rfl, hbl, k0, hR, _, _⟩ := hA.at_ 3 h3
 have e3 : exS.arcs[3] = [(1, 1), (2, 2), (3, 0)] := by
  have := exS_arcs
  rw [List.getElem?_eq_getElem h3] at this
  exact Option.some.inj this
 rw [e3] at k0 hR
 obtain ⟨b3, o3, rfl, hb3, c0, c1⟩ := hR.at_ 0 (by decide)
 obtain ⟨b', o', e', _, c4, c5⟩ := hR.at_ 2 (by decide)
 obtain ⟨rfl, rfl⟩ : b3 = b' ∧ o3 = o' := by simpa using e'
 rw [exS_len.1, exS_len.2] at hS ⊢
 exact ⟨AE, cE, b, o, cA, b3, o3, c3, rfl, hS, hbl, hb3, k0, by simpa using c0, by simpa using c1, c4, c5, hb⟩
set_option maxRecDepth 100000 in
set_option maxHeartbeats 4000000 in
theorem awake18_any (w : World) (hT : Tab32 w) : Calls Tryz.prog 10 #[] w fun e w' => e = .returned (.bool true) ∧ Bel w w' := by
 have HT := Lib.hid (fun w' (k : Bel w w') => hT.keep k)
 clear hT
 go_enter Tryz.func10, Tryz.ntmps10
 go_wp2_with (first
  | (go_at_call 31; refine (example18_any _).mono ?_; rintro e w1 ⟨vp, vg, rfl, hp, hg, hb1w⟩; have HP := Lib.hid (fun w' (k : Bel w1 w') => hp.keep k); have HG := Lib.hid (fun w' (k : Bel w1 w') => hg.keep k); obtain ⟨A1, k1, A2, k2, rfl, _, _, _, _, _, _⟩ := hp; obtain ⟨A3, k3, A4, k4, rfl, _, _, _, _, _, _⟩ := hg; have HB : Bel w1 w1 := Bel.refl w1)
  | (go_at_call 11; go_must (refine (exBuild_any _ _ _ (HP.out _ (by repeat' (first | exact HB | refine Bel.alloc ?_ _))) (HG.out _ (by repeat' (first | exact HB | refine Bel.alloc ?_ _))) (HT.out _ (hb1w.trans (by repeat' (first | exact HB | refine Bel.alloc ?_ _))))).mono ?_; rintro e w2 ⟨AE, cE, b, o, cA, b3, o3, c3, rfl, hS, hbl, hb3, q0, q1, q2, q3, q4, hb2⟩; have HS := Lib.hid (fun w' (k : Bel w2 w') => hS.keep k); have HB2 : Bel w w2 := hb1w.trans (Bel.trans (by repeat' (first | exact HB | refine Bel.alloc ?_ _)) hb2); clear hb2 hS))
  | (go_at_call 32; go_must (refine (spaceValid_any _ exS _ (HS.out _ (by repeat' (first | exact Bel.refl _ | refine Bel.alloc ?_ _))) exS_wf exS_light).mono ?_; rintro e w3 ⟨rfl, hb3w⟩; rw [exS_valid]; have HB3 : Bel w w3 := HB2.trans (Bel.trans (by repeat' (first | exact Bel.refl _ | refine Bel.alloc ?_ _)) hb3w); clear hb3w)))
 go_ret
 exact ⟨rfl, HB3⟩

end Go.Proofs.YtgemlgpjbclonaaGreatDoor

