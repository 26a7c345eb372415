/- Merged of: P18h WRh PN WSf (see NOTES.md). -/
import Derived.Test.YtgemlgpjbclonaaGreatDoorZ26
import Derived.Test.YtgemlgpjbclonaaGreatDoorZ27
import Derived.BigQuiet
import Derived.Test.YtgemlgpjbclonaaGreatDoorZ19
import Derived.Test.YtgemlgpjbclonaaGreatDoorZ02
import Derived.Test.YtgemlgpjbclonaaGreatDoorZ21
set_option linter.unusedSimpArgs false
set_option linter.unnecessarySimpa false
set_option linter.unusedVariables false

/- The rows of places as they are filled, from the last value on, plain. -/
namespace Go.Proofs.YtgemlgpjbclonaaGreatDoor

def plRow (t : List (Int × Int)) (M : Int) (x : Nat) : List Int := List.replicate x 0 ++ placesL M (t.drop x)
theorem placesL_length : ∀ (M : Int) (t : List (Int × Int)), (placesL M t).length = t.length
 | _, [] => rfl
 | M, _ :: t => by show _ + 1 = _ + 1; rw [placesL_length M t]
theorem placesN_length : ∀ (T : List (List (Int × Int))), (placesN T).length = T.length
 | [] => rfl
 | _ :: T => by show _ + 1 = _ + 1; rw [placesN_length T]
theorem plRow_length {t : List (Int × Int)} {M : Int} {x : Nat} (hx : x ≤ t.length) : (plRow t M x).length = t.length := by
 unfold plRow; rw [List.length_append, List.length_replicate, placesL_length, List.length_drop]; omega
theorem plRow_start (t : List (Int × Int)) (M : Int) : plRow t M t.length = List.replicate t.length 0 := by
 unfold plRow; rw [List.drop_length]; simp [placesL]
theorem plRow_zero (t : List (Int × Int)) (M : Int) : plRow t M 0 = placesL M t := by simp [plRow]
theorem plRow_set {t : List (Int × Int)} {M : Int} {x : Nat} (hx : x < t.length) : (plRow t M (x + 1)).set x (sizeL (t.drop (x + 1)) * M) = plRow t M x := by
 unfold plRow
 have hd : t.drop x = t[x] :: t.drop (x + 1) := (List.drop_eq_getElem_cons hx)
 rw [hd, List.replicate_succ', List.append_assoc, List.set_append_right _ _ (by simp), List.length_replicate, Nat.sub_self]
 rfl
theorem placesN_at : ∀ {T : List (List (Int × Int))} {v : Nat} (hv : v < T.length), (placesN T)[v]? = some (placesL (sizeN (T.drop (v + 1))) T[v])
 | t :: T, 0, _ => by simp [placesN]
 | t :: T, v + 1, hv => by
  have := placesN_at (T := T) (v := v) (by simpa using hv)
  simpa [placesN] using this
theorem placesL_get : ∀ (M : Int) (t : List (Int × Int)) (x : Nat) (h : x < (placesL M t).length), (placesL M t)[x] = sizeL (t.drop (x + 1)) * M
 | _, [], _, h => by simp [placesL] at h
 | _, _ :: _, 0, _ => rfl
 | M, _ :: t, x + 1, h => placesL_get M t x (by simpa [placesL] using h)

end Go.Proofs.YtgemlgpjbclonaaGreatDoor

/- Contract: the program's builder of transition systems. -/
namespace Go.Proofs.YtgemlgpjbclonaaGreatDoor
open Go.RowKit

def bldCells (bm : Nat) (AN : Option Addr) (n kn : Nat) (kind : Int) (AT : Option Addr) (kt : Nat) (pv : Value) : Array Value :=
 #[.pointer (some ⟨bm, 0, none⟩), .slice AN n kn, .int .i64 kind, .slice AT n kt, pv]
def BuilderR (w : World) (B : Nat) (p : Prg) (g : Graph) (kind : Int) : Prop :=
 ∃ bm AN kn AT kt AP kp, Blk w B (bldCells bm AN g.ports.length kn kind AT kt (.slice AP g.ports.length kp)) 79 ∧
  MoverR w bm p g ∧ NetR w AN g ∧ TableR w AT g.ports.length (tableF p g) ∧ RowsR w AP g.ports.length (placesN (tableF p g))
theorem BuilderR.keep {w w' : World} {B : Nat} {p : Prg} {g : Graph} {kind : Int} (h : BuilderR w B p g kind) (k : Bel w w') : BuilderR w' B p g kind := by
 obtain ⟨bm, AN, kn, AT, kt, AP, kp, h1, h2, h3, h4, h5⟩ := h
 exact ⟨bm, AN, kn, AT, kt, AP, kp, h1.keep k, h2.keep k, h3.keep k, h4.keep k, h5.keep k⟩
def RetBuilder (p : Prg) (g : Graph) (kind : Int) (w : World) (e : Ending) (w' : World) : Prop := ∃ B, e = .returned (.pointer (some ⟨B, 0, none⟩)) ∧ BuilderR w' B p g kind ∧ Bel w w'
/-- The rows that are done: from v on. -/
def PlDone (w : World) (m gb v : Nat) (hs : List Value) (T : List (List (Int × Int))) : Prop :=
 ∀ u, v ≤ u → u < T.length → ∃ gu, hs[u]? = some (.slice (some ⟨gu, 0, none⟩) m m) ∧ gu ≠ gb ∧ gu < w.heap.size ∧ ∀ x i, ((placesN T).getD u [])[i]? = some x → w.cell? ⟨gu, i, none⟩ = some (.int .i64 x)
theorem PlDone.kept {w w' : World} {m gb v : Nat} {hs : List Value} {T : List (List (Int × Int))} (h : PlDone w m gb v hs T) (hf : Fr gb w w') : PlDone w' m gb v hs T := fun u hu hu2 => by
 obtain ⟨gu, h1, h2, h3, h4⟩ := h u hu hu2
 exact ⟨gu, h1, h2, Nat.lt_of_lt_of_le h3 hf.1, fun x i hx => (hf.cell h3 h2).trans (h4 x i hx)⟩
set_option maxRecDepth 100000 in
set_option maxHeartbeats 4000000 in
theorem newBuilder_any (v1 : Value) (p : Prg) (v2 : Value) (g : Graph) (kind : Int) (w : World) (h : PrgV w v1 p) (h2 : GraphV w v2 g) (hL : lightP p = true) (hG : lightG g = true) (hf : fitsF p g = 0) (hsz : sizeF p g ≤ 32768) :
  Calls Tryz.prog 35 #[v1, v2, .int .i64 kind] w (RetBuilder p g kind w) := by
 have HPV := Lib.hid (fun w' (k : Bel w w') => h.keep k)
 have HGV := Lib.hid (fun w' (k : Bel w w') => h2.keep k)
 obtain ⟨A1, k1, A2, k2, rfl, _, _, _, _, _, _⟩ := h
 obtain ⟨A3, k3, A4, k4, rfl, _, _, _, _, _, _⟩ := h2
 have HW := Bel.refl ((w.alloc (.cells #[.string p.name, .slice A1 p.vars.length k1, .slice A2 p.rules.length k2] 25)).alloc (.cells #[.slice A3 g.ids.length k3, .slice A4 g.ports.length k4] 29))
 have hcell := Lib.hid (fun w' (kk : Bel ((w.alloc (.cells #[.string p.name, .slice A1 p.vars.length k1, .slice A2 p.rules.length k2] 25)).alloc (.cells #[.slice A3 g.ids.length k3, .slice A4 g.ports.length k4] 29)) w') => pgbox kk)
 have hv10 := (lightP_parts hL).2.1
 obtain ⟨h1, h3, _⟩ := fits_zero hf
 have HC := Lib.hid h1
 have HG := Lib.hid h3
 have HGL := Lib.hid hG
 have hn24 : g.ports.length ≤ 24 := h3.le
 have HTL : Hid ((tableF p g).length = g.ports.length) := by show _ = _; rw [tableF_length, h3.ids]
 have HM : Hid (∀ t ∈ tableF p g, t.length = p.vars.length) := by
  intro t ht
  unfold tableF at ht
  obtain ⟨v, _, rfl⟩ := List.mem_map.1 ht
  simp [rowF]
 have HS := Lib.hid (table_small hf)
 have HSZ := Lib.hid hsz
 have HMV : Hid True := trivial
 have HNT : Hid True := trivial
 have HT : Hid True := trivial
 obtain ⟨i0, hi0, hz0, hz1, hz2⟩ := info_parts rows_infoB
 obtain ⟨j0, hj0, hy0, hy1, hy2⟩ := info_parts int_info
 clear hL hG hf hsz h1 h3
 go_enter Tryz.func35, Tryz.ntmps35
 go_wp2_with fail
 replace HW := HW.drew
 go_region_held3 (fun w' => w'.cell? ⟨w.heap.size, 0, none⟩ = some (.string p.name) ∧ w'.cell? ⟨w.heap.size, 1, none⟩ = some (.slice A1 p.vars.length k1) ∧ w'.cell? ⟨w.heap.size, 2, none⟩ = some (.slice A2 p.rules.length k2) ∧ w'.cell? ⟨w.heap.size + 1, 0, none⟩ = some (.slice A3 g.ids.length k3) ∧ w'.cell? ⟨w.heap.size + 1, 1, none⟩ = some (.slice A4 g.ports.length k4) ∧ w.heap.size + 1 < w'.heap.size) (first | exact hcell.out _ HW | exact hcell.out _ (HW.alloc _)) (first
  | (go_simp; go_at_call 64; refine (newMover_any _ p _ g _ (HPV.out _ (box2_bel HW)) (HGV.out _ (box2_bel HW)) HC.out HG.out HGL.out).mono ?_; rintro e w' ⟨bm, rfl, hMV, hb⟩; replace HMV := Lib.hid hMV; (try replace HT := Lib.hid (TableR.keep HT.out hb)); (try replace HNT := Lib.hid (NetR.keep HNT.out hb)); replace HW := HW.trans hb; clear hb hMV)
  | (go_simp; go_at_call 65; refine (newNet_any _ g _ (HGV.out _ (box2_bel HW)) HG.out).mono ?_; rintro e w' ⟨AN, kn, rfl, hNT, _, _, hb⟩; replace HNT := Lib.hid hNT; (try replace HT := Lib.hid (TableR.keep HT.out hb)); (try replace HMV := Lib.hid (MoverR.keep HMV.out hb)); replace HW := HW.trans hb; clear hb hNT)
  | (go_simp; go_at_call 63; refine (table_any _ p _ g _ (HPV.out _ (box2_bel HW)) (HGV.out _ (box2_bel HW)) HC.out HG.out HGL.out).mono ?_; rintro e w' ⟨tv, rfl, htv, hb⟩; obtain ⟨AT, kt, rfl, hTR, _⟩ := (id htv : TableV _ _ _); rw [HTL.out] at hTR; replace HT := Lib.hid hTR; (try replace HMV := Lib.hid (MoverR.keep HMV.out hb)); (try replace HNT := Lib.hid (NetR.keep HNT.out hb)); replace HW := HW.trans hb; clear hb htv hTR))
 rw [HTL.out]
 have HBk := Lib.hid (Blk.new w' (bldCells bm AN g.ports.length kn kind AT kt (.slice none 0 0)) 79)
 have HB0 := Lib.hid ((Bel.refl w').alloc (.cells (bldCells bm AN g.ports.length kn kind AT kt (.slice none 0 0)) 79))
 have HW0 := Lib.hid HW
 have hszw := (box2_bel HW).size
 replace HW := HW.alloc (.cells (bldCells bm AN g.ports.length kn kind AT kt (.slice none 0 0)) 79)
 have z3 := HBk.out.cell 3 (v := .slice AT g.ports.length kt) rfl
 have zl := HBk.out.lt
 have ez : (w'.alloc (.cells (bldCells bm AN g.ports.length kn kind AT kt (.slice none 0 0)) 79)).heap.size = w'.heap.size + 1 := by simp
 obtain ⟨B, hB⟩ : ∃ B, B = w'.heap.size := ⟨_, rfl⟩
 obtain ⟨wx, hwx⟩ : ∃ wx, wx = w'.alloc (.cells (bldCells bm AN g.ports.length kn kind AT kt (.slice none 0 0)) 79) := ⟨_, rfl⟩
 rw [← hwx, ← hB] at HBk z3 zl ez
 rw [← hwx] at HB0 HW
 rw [show (w'.alloc (.cells #[.pointer (some ⟨bm, 0, none⟩), .slice AN g.ports.length kn, .int .i64 kind, .slice AT g.ports.length kt, .slice none 0 0] 79)) = wx from hwx.symm, ← hB]
 have HBW : Hid (w.heap.size + 1 < B ∧ w'.heap.size ≤ B) := by
  refine ⟨?_, by omega⟩
  rw [hB]; have := HW0.out.size; simp at this; omega
 have HW9 := Lib.hid (box2_bel HW0.out)
 clear hwx hszw HW0 hB
 go_wp2_with (at_make; refine wpList_make _ rfl 50 (.tmp 27) (.tmp 27) rfl wx.heap.size 26 i0 (.slice none 0 0) 1 Tryz.underlying50 hi0 hz0 hz1 .i64 .i64 g.ports.length rfl rfl (by rw [hz2]; omega) (by unfold maxLen; omega) (Nat.le_refl _) ?_; intro gb w1 hown hb; rw [made_one _ rfl] at hown; have HO := Lib.hid hown; have HBk1 := Lib.hid (HBk.out.keep hb); have z4 := HBk1.out.cell 4 (v := .slice none 0 0) rfl; have zf := HBk1.out.frozen 4; have zl1 := HBk1.out.lt; have z31 := HBk1.out.cell 3 (v := .slice AT g.ports.length kt) rfl; replace HB0 := Lib.hid (HB0.out.trans hb); have HW1 := HW.trans hb; clear hown hb z3)
 have hgb := own_base HO.out
 have hnB : B ≠ gb := by omega
 have HO2 := Lib.hid (own_other_cell HO.out (a := ⟨B, 4, none⟩) (by simp; omega) (.slice (some ⟨gb, 0, none⟩) g.ports.length g.ports.length))
 have HBk2 : Hid (Blk (w1.setCell ⟨B, 4, none⟩ (.slice (some ⟨gb, 0, none⟩) g.ports.length g.ports.length)) B (bldCells bm AN g.ports.length kn kind AT kt (.slice (some ⟨gb, 0, none⟩) g.ports.length g.ports.length)) 79) := HBk1.out.set 4 _
 have HB2 := Lib.hid (HB0.out.setCell (p := ⟨B, 4, none⟩) HBW.out.2 (.slice (some ⟨gb, 0, none⟩) g.ports.length g.ports.length))
 have HGB : Hid (w'.heap.size ≤ gb ∧ B < gb) := by refine ⟨?_, by omega⟩; have := HBW.out.2; omega
 clear HO HBk HBk1 HB0 z4 zf zl zl1 z31 HW HW1 hgb ez
 generalize w1.setCell ⟨B, 4, none⟩ (.slice (some ⟨gb, 0, none⟩) g.ports.length g.ports.length) = w2 at *
 obtain ⟨T, hTe⟩ : ∃ T, T = tableF p g := ⟨_, rfl⟩
 have HTE := Lib.hid hTe
 rw [← hTe] at HT HTL HM HS
 have HTZ : Hid (sizeN T ≤ 32768) := by have := HSZ.out; unfold sizeF at this; rw [← hTe] at this; exact this
 clear hTe
 go_loopg [8, 9, 10] g.ports.length (fun k pl zv _x wr => ∃ (v : Nat) (hs : List Value) (z : Int), v ≤ g.ports.length ∧ k = v ∧ pl = .int .i64 (sizeN (T.drop v)) ∧ zv = .int .i64 z ∧ z = (v : Int) - 1 ∧ Hid (wr.ownsRow wx.heap.size 26 1 (.slice (some ⟨gb, 0, none⟩) g.ports.length g.ports.length) g.ports.length hs) ∧ Hid (PlDone wr p.vars.length gb v hs T) ∧ Hid (Blk wr B (bldCells bm AN g.ports.length kn kind AT kt (.slice (some ⟨gb, 0, none⟩) g.ports.length g.ports.length)) 79) ∧ Hid (Bel w' wr))
 case atStart =>
  refine ⟨g.ports.length, _, _, Nat.le_refl _, rfl, ?_, rfl, rfl, HO2, fun u h1 h2 => ?_, HBk2, HB2⟩
  ·rw [← HTL.out, List.drop_length]; rfl
  ·have := HTL.out; omega
 case round =>
  clear HO2 HBk2 HB2
  obtain ⟨wo, rfl⟩ : ∃ wo : World, wo = wr := ⟨_, rfl⟩
  obtain ⟨v, hs, z, hv, hkv, rfl, rfl, hz, HO, HD, HBk, HB⟩ := hrel
  obtain rfl := hkv.symm
  cases v with
  | zero =>
   have d0 : decide (0 ≤ z) = false := by simp; omega
   have HEND := Lib.hid (HB.out)
   go_wp2_with fail
   go_ret
   have hB := HB.out
   refine ⟨B, rfl, ⟨bm, AN, kn, AT, kt, some ⟨gb, 0, none⟩, g.ports.length, HBk.out, HMV.out.keep hB, HNT.out.keep hB, ?_, ?_⟩, HW9.out.trans hB⟩
   ·rw [← HTE.out]; exact TableR.keep HT.out hB
   ·rw [← HTE.out]
    refine ⟨by rw [placesN_length, HTL.out], fun i x hx => ?_⟩
    have hi : i < T.length := by have := (List.getElem?_eq_some_iff.1 hx).1; rwa [placesN_length] at this
    obtain ⟨gu, h1, h2, h3, h4⟩ := HD.out i (Nat.zero_le _) hi
    obtain ⟨g', e1, _, hlt', hcell, _⟩ := own_at HO.out h1
    obtain rfl : gb = g' := by simpa using e1
    have hrow : (placesN T).getD i [] = x := by rw [List.getD_eq_getElem?_getD, hx]; rfl
    have hxl : x.length = p.vars.length := by
     rw [placesN_at hi] at hx
     obtain rfl := Option.some.inj hx
     rw [placesL_length, HM.out _ (List.getElem_mem hi)]
    refine ⟨gb, 0, rfl, hlt', some ⟨gu, 0, none⟩, p.vars.length, ?_, ⟨rfl, fun j y hy => ⟨gu, 0, rfl, h3, ?_⟩⟩, by omega, by unfold maxLen; omega⟩
    ·rw [hxl, Nat.zero_add, Nat.mul_one]; exact hcell
    ·have := h4 y j (by rw [hrow]; exact hy)
     unfold IntAt
     rwa [Nat.zero_add, Nat.mul_one]
  | succ u =>
   obtain rfl : z = (u : Int) := by omega
   have d0 : decide ((0 : Int) ≤ (u : Int)) = true := by simp
   clear hz
   have hut : u < T.length := by rw [HTL.out]; omega
   have hlt : decide (u < g.ports.length) = true := by simp; omega
   have hltI : (u : Int) < (g.ports.length : Int) := by omega
   have hl := HM.out _ (List.getElem_mem hut)
   obtain ⟨b, o, R, rc, rfl, hb, hc, hPR, _, _⟩ := TableR.at_ (n := g.ports.length) (HT.out) u hut
   rw [hl] at hc
   have HTC := Lib.hid (fun w3 (k : Bel w' w3) => show w3.cell? ⟨b, o + u, none⟩ = some (.slice R p.vars.length rc) ∧ b < w3.heap.size from ⟨(k.cell hb).trans hc, Nat.lt_of_lt_of_le hb k.size⟩)
   have HPR := Lib.hid hPR
   have hbg : b ≠ gb := by have := HGB.out; omega
   clear hb hc hPR
   obtain ⟨hc, hb⟩ := HTC.out _ HB.out
   have z3 := HBk.out.cell 3 (v := .slice (some ⟨b, o, none⟩) g.ports.length kt) rfl
   have z4 := HBk.out.cell 4 (v := .slice (some ⟨gb, 0, none⟩) g.ports.length g.ports.length) rfl
   have zl := HBk.out.lt
   have hgl := (own_base HO.out).2
   have hsl : hs.length = g.ports.length := by have := HO.out.1; omega
   obtain ⟨w1, hmk, hown, hgrw⟩ := run_make_full (P := Tryz.prog) wo.drew wo.heap.size 26 3 j0 (.int .i64 0) 1 Tryz.underlying26 hj0 hy0 hy1 .i64 .i64 p.vars.length (by rw [hy2]; omega) (by unfold maxLen; omega) (by simp)
   have ewz : wo.drew.heap.size = wo.heap.size := rfl
   rw [made_one _ rfl, ewz] at hown
   rw [ewz] at hmk
   have HR := Lib.hid hown
   have HB1 := Lib.hid (((Bel.refl wo).drew).grown hgrw (fun k hk => by cases hk))
   have HO1 := Lib.hid (HB1.out.owns HO.out)
   have y1 := own_cell0 HO1.out u (by omega)
   have y2 := HO1.out.frozenAt u
   have hgl1 := (own_base HO1.out).2
   clear hown hgrw
   have hcell := Lib.hid (fun w3 (kk : Fr gb wo w3) => show w3.cell? ⟨B, 3, none⟩ = some (.slice (some ⟨b, o, none⟩) g.ports.length kt) ∧ w3.cell? ⟨B, 4, none⟩ = some (.slice (some ⟨gb, 0, none⟩) g.ports.length g.ports.length) ∧ w3.cell? ⟨b, o + u, none⟩ = some (.slice R p.vars.length rc) ∧ B < w3.heap.size ∧ gb < w3.heap.size ∧ b < w3.heap.size from ⟨(kk.cell zl hnB).trans z3, (kk.cell zl hnB).trans z4, (kk.cell hb hbg).trans hc, Nat.lt_of_lt_of_le zl kk.1, Nat.lt_of_lt_of_le hgl kk.1, Nat.lt_of_lt_of_le hb kk.1⟩)
   have HG0 := (Fr.refl gb wo).drew
   have HG1 := Fr.of_bel (g := gb) HB1.out
   go_wp2_with fail
   go_region_held3 (fun w3 => w3.cell? ⟨B, 3, none⟩ = some (.slice (some ⟨b, o, none⟩) g.ports.length kt) ∧ w3.cell? ⟨B, 4, none⟩ = some (.slice (some ⟨gb, 0, none⟩) g.ports.length g.ports.length) ∧ w3.cell? ⟨b, o + u, none⟩ = some (.slice R p.vars.length rc) ∧ B < w3.heap.size ∧ gb < w3.heap.size ∧ b < w3.heap.size)
    (first | exact hcell.out _ HG0 | exact hcell.out _ HG1 | exact hcell.out _ (HG1.set _ _)) (fail)
   have hne : gb ≠ wo.heap.size := by omega
   have HO2 := Lib.hid (HO1.out.stored u (.slice (some ⟨wo.heap.size, 0, none⟩) p.vars.length p.vars.length)).1
   have HF1 := HG1.set u (.slice (some ⟨wo.heap.size, 0, none⟩) p.vars.length p.vars.length)
   have HR2 : Hid ((w1.setCell ⟨gb, u, none⟩ (.slice (some ⟨wo.heap.size, 0, none⟩) p.vars.length p.vars.length)).ownsRow wo.heap.size 3 1 (.slice (some ⟨wo.heap.size, 0, none⟩) p.vars.length p.vars.length) p.vars.length ((plRow T[u] (sizeN (T.drop (u + 1))) p.vars.length).map (Value.int .i64))) := by
    have e : (plRow T[u] (sizeN (T.drop (u + 1))) p.vars.length).map (Value.int .i64) = List.replicate p.vars.length (.int .i64 0) := by
     have := plRow_start T[u] (sizeN (T.drop (u + 1)))
     rw [hl] at this
     rw [this, List.map_replicate]
    show World.ownsRow _ _ _ _ _ _ _
    rw [e]
    exact own_fr HR.out ((Fr.refl gb w1).set u (.slice (some ⟨wo.heap.size, 0, none⟩) p.vars.length p.vars.length)) (Ne.symm hne)
   have HBk2 : Hid (Blk (w1.setCell ⟨gb, u, none⟩ (.slice (some ⟨wo.heap.size, 0, none⟩) p.vars.length p.vars.length)) B (bldCells bm (AN) g.ports.length kn kind (some ⟨b, o, none⟩) kt (.slice (some ⟨gb, 0, none⟩) g.ports.length g.ports.length)) 79) := (HBk.out.keep HB1.out).other (by simpa using hnB) _
   have HB2 := Lib.hid ((HB.out.trans HB1.out).setCell (p := ⟨gb, u, none⟩) HGB.out.1 (.slice (some ⟨wo.heap.size, 0, none⟩) p.vars.length p.vars.length))
   obtain ⟨hc, hb⟩ := HTC.out _ HB2.out
   have z3 := HBk2.out.cell 3 (v := .slice (some ⟨b, o, none⟩) g.ports.length kt) rfl
   have zl := HBk2.out.lt
   clear HG0 HG1 hmk hcell HO1 HR HB1 y1 y2 hgl1 hgl z4 hc hb z3 zl ewz
   obtain ⟨hc, hb⟩ := HTC.out _ HB2.out
   have z3 := HBk2.out.cell 3 (v := .slice (some ⟨b, o, none⟩) g.ports.length kt) rfl
   have zl := HBk2.out.lt
   generalize hgr : wo.heap.size = gr at *
   generalize w1.setCell ⟨gb, u, none⟩ (.slice (some ⟨gr, 0, none⟩) p.vars.length p.vars.length) = w2 at *
   go_wp2_with fail
   clear hc hb z3 zl
   have hgrB : B < gr := by rw [← hgr]; exact HBk.out.lt
   have hgrg : gb < gr := by rw [← hgr]; exact (own_base HO.out).2
   have hgrb : b < gr := by rw [← hgr]; exact (HTC.out _ HB.out).2
   have HGW : Hid (w'.heap.size ≤ gr) := by show _ ≤ _; rw [← hgr]; exact HB.out.size
   have hgrw : wo.heap.size ≤ gr := by omega
   clear hgr
   have HF1' := Lib.hid HF1
   have HM1 : Hid (∃ M, M = sizeN (T.drop (u + 1))) := ⟨_, rfl⟩
   obtain ⟨M, hM⟩ := HM1.out
   have HSW := Lib.hid (fun x => size_within HS.out.ok HTZ.out hut x)
   rw [← hM] at HR2 HSW
   rw [← hM]
   have HMM := Lib.hid hM
   clear hM HM1
   go_loopg [8, 10] p.vars.length (fun k pl zx ws => ∃ (x : Nat) (z2 : Int), x ≤ p.vars.length ∧ k = x ∧ pl = .int .i64 (sizeL (T[u].drop x) * M) ∧ zx = .int .i64 z2 ∧ z2 = (x : Int) - 1 ∧ Hid (ws.ownsRow gr 3 1 (.slice (some ⟨gr, 0, none⟩) p.vars.length p.vars.length) p.vars.length ((plRow T[u] M x).map (Value.int .i64))) ∧ Hid (ws.ownsRow wx.heap.size 26 1 (.slice (some ⟨gb, 0, none⟩) g.ports.length g.ports.length) g.ports.length (hs.set u (.slice (some ⟨gr, 0, none⟩) p.vars.length p.vars.length))) ∧ Hid (Blk ws B (bldCells bm AN g.ports.length kn kind (some ⟨b, o, none⟩) kt (.slice (some ⟨gb, 0, none⟩) g.ports.length g.ports.length)) 79) ∧ Fr gb wo ws ∧ Hid (Bel w' ws))
   case atStart =>
    refine ⟨p.vars.length, _, Nat.le_refl _, rfl, ?_, rfl, rfl, HR2, HO2, HBk2, HF1'.out, HB2⟩
    rw [← hl, List.drop_length]
    show _ = Value.int _ (1 * M)
    rw [Int.one_mul]
   case round =>
    clear HR2 HO2 HBk2 HF1 HF1' HB2
    obtain ⟨x, z2, hx, hkx, rfl, rfl, hz, HR, HO2, HBk2, HF, HB2⟩ := hrel
    obtain rfl := hkx.symm
    cases x with
    | zero =>
     have d2 : decide (0 ≤ z2) = false := by simp; omega
     go_wp2_with fail
     go_roundg u
     case rel =>
      refine ⟨u, _, _, by omega, rfl, ?_, rfl, by omega, HO2, ?_, HBk2, HB2⟩
      ·rw [sizeN_at hut, HMM.out]
      intro y hy1 hy2
      by_cases hyu : y = u
      ·subst hyu
       refine ⟨gr, List.getElem?_set_self (by omega), by omega, (own_base HR.out).2, fun x i hx => ?_⟩
       have hR := HR.out
       rw [plRow_zero] at hR
       rw [List.getD_eq_getElem?_getD, placesN_at hut, ← HMM.out] at hx
       obtain ⟨q1, e1, _, _, yy, _⟩ := own_at hR (j := i) (u := .int .i64 x) (by rw [List.getElem?_map]; rw [show (placesL M T[y])[i]? = some x from hx]; rfl)
       obtain rfl : gr = q1 := by simpa using e1
       exact yy
      ·obtain ⟨gu, h1, h2, h3, h4⟩ := (HD.out.kept HF) y (by omega) hy2
       exact ⟨gu, by rw [List.getElem?_set_ne (fun e => hyu e.symm)]; exact h1, h2, h3, h4⟩
     case measure => omega
    | succ y =>
     obtain rfl : z2 = (y : Int) := by omega
     clear hz
     have d2 : decide ((0 : Int) ≤ (y : Int)) = true := by simp
     have hyt : y < T[u].length := by rw [hl]; omega
     have hyI : (y : Int) < (p.vars.length : Int) := by omega
     have HPU := Lib.hid (plRow_set (M := M) hyt)
     obtain ⟨b1, o1, rfl, hb1, k0, k1⟩ := HPR.out.at_ y hyt
     obtain ⟨hc, hb⟩ := HTC.out _ HB2.out
     rw [← HB2.out.cell hb1] at k0 k1
     have hb1r : b1 < gr := Nat.lt_of_lt_of_le hb1 HGW.out
     replace hb1 := Nat.lt_of_lt_of_le hb1 HB2.out.size
     have z3 := HBk2.out.cell 3 (v := .slice (some ⟨b, o, none⟩) g.ports.length kt) rfl
     have z4 := HBk2.out.cell 4 (v := .slice (some ⟨gb, 0, none⟩) g.ports.length g.ports.length) rfl
     have zl := HBk2.out.lt
     have hh : wr.cell? ⟨gb, u, none⟩ = some (.slice (some ⟨gr, 0, none⟩) p.vars.length p.vars.length) := by
      have := own_cell0 HO2.out u (by simp; omega)
      simpa using this
     have hgl := (own_base HO2.out).2
     have hgrl := (own_base HR.out).2
     have hy0 := own_cell0 HR.out y (by rw [List.length_map, plRow_length (by omega)]; exact hyt)
     have hyf := HR.out.frozenAt y
     have hsw1 := HSW.out (y + 1)
     have hsw0 := HSW.out y
     have hwd := HS.out.width hut hyt
     have hbn := HS.out.at_ hut hyt
     rw [sizeL_at hyt] at hsw0
     obtain ⟨Q, hQ⟩ : ∃ Q, Q = sizeL (T[u].drop (y + 1)) * M := ⟨_, rfl⟩
     have hQ2 : (T[u][y].2 - T[u][y].1 + 1) * sizeL (T[u].drop (y + 1)) * M = Q * (T[u][y].2 - T[u][y].1 + 1) := by rw [hQ, Int.mul_assoc, Int.mul_comm]
     rw [hQ2] at hsw0
     rw [← hQ] at hsw1 HPU
     rw [← hQ]
     have HQ2 := Lib.hid hQ2
     clear hQ hQ2
     have hmr := mul_range (a := Q) (b := T[u][y].2 - T[u][y].1 + 1) (A := 32768) (B := 90000) (by omega) hsw1.2 (by omega) hwd.2
     go_wp2_with fail
     have HFs := (Fr.refl gr wr).set y (.int .i64 Q)
     have HR3 : Hid ((wr.setCell ⟨gr, y, none⟩ (.int .i64 Q)).ownsRow gr 3 1 (.slice (some ⟨gr, 0, none⟩) p.vars.length p.vars.length) p.vars.length ((plRow T[u] M y).map (Value.int .i64))) := by
      have := (HR.out.stored y (.int .i64 Q)).1
      rw [← List.map_set, HPU.out] at this
      exact this
     have HO3 := Lib.hid (own_fr HO2.out HFs (by omega))
     have HBk3 : Hid (Blk (wr.setCell ⟨gr, y, none⟩ (.int .i64 Q)) B (bldCells bm AN g.ports.length kn kind (some ⟨b, o, none⟩) kt (.slice (some ⟨gb, 0, none⟩) g.ports.length g.ports.length)) 79) := HBk2.out.other (by simp; omega) _
     have HF3 := Lib.hid (HF.setNew (p := ⟨gr, y, none⟩) (by simp; omega) (.int .i64 Q))
     have HB3 := Lib.hid (HB2.out.setCell (p := ⟨gr, y, none⟩) HGW.out (.int .i64 Q))
     have c0 := (HFs.cell (o := o1 + y * 2) hb1 (by omega)).trans k0
     have c1 := (HFs.cell (o := o1 + y * 2 + 1) hb1 (by omega)).trans k1
     have c2 := (HFs.cell (o := o + u) hb (by omega)).trans hc
     have c3 := (HFs.cell (o := 3) zl (by omega)).trans z3
     have l1 := Nat.lt_of_lt_of_le hb1 HFs.1
     have l2 := Nat.lt_of_lt_of_le hb HFs.1
     have l3 := Nat.lt_of_lt_of_le zl HFs.1
     clear HFs z3 z4 zl hh hgl hgrl hy0 hyf hc hb hb1 k0 k1
     generalize wr.setCell ⟨gr, y, none⟩ (.int .i64 Q) = wq at *
     go_quiet (fail)
     go_wp2_with fail
     go_roundg y
     case rel =>
      refine ⟨y, _, by omega, rfl, ?_, rfl, by omega, Bel.owns ((Bel.refl _).drewN _) HR3.out, Bel.owns ((Bel.refl _).drewN _) HO3.out, HBk3.out.keep ((Bel.refl _).drewN _), HF3.out.drewN _, HB3.out.drewN _⟩
      rw [sizeL_at hyt, HQ2.out]
     case measure => omega

end Go.Proofs.YtgemlgpjbclonaaGreatDoor

/- How the number of a configuration grows with the moves of its nodes, plain; the rows of arcs as they are filled. -/
namespace Go.Proofs.YtgemlgpjbclonaaGreatDoor

/-! ### Growth of one node -/
def gF (p : Prg) (g : Graph) (c : Config) (v : Nat) : Int :=
 if 0 ≤ firstF p.rules g c v then dotL ((placesN (tableF p g)).getD v []) (moveF p g c v) (c.getD v []) else 0
/-- As far as the values before x go. -/
def dotT (P D C : List Int) (x : Nat) : Int := dotL (P.take x) (D.take x) (C.take x)
theorem dotT_zero (P D C : List Int) : dotT P D C 0 = 0 := by simp [dotT, dotL]
theorem dotL_snoc : ∀ (P D C : List Int) (a b c : Int), P.length = D.length → D.length = C.length → dotL (P ++ [a]) (D ++ [b]) (C ++ [c]) = dotL P D C + (b - c) * a
 | [], [], [], a, b, c, _, _ => by simp [dotL]
 | p :: P, d :: D, e :: C, a, b, c, h1, h2 => by
  have ih := dotL_snoc P D C a b c (by simpa using h1) (by simpa using h2)
  show (d - e) * p + dotL (P ++ [a]) (D ++ [b]) (C ++ [c]) = (d - e) * p + dotL P D C + (b - c) * a
  rw [ih, Int.add_assoc]
 | [], _ :: _, _, _, _, _, h, _ => by simp at h
 | _ :: _, [], _, _, _, _, h, _ => by simp at h
 | [], [], _ :: _, _, _, _, _, h => by simp at h
 | _ :: _, _ :: _, [], _, _, _, _, h => by simp at h
theorem dotT_succ {P D C : List Int} {x : Nat} (h1 : x < P.length) (h2 : x < D.length) (h3 : x < C.length) : dotT P D C (x + 1) = dotT P D C x + (D[x] - C[x]) * P[x] := by
 unfold dotT
 rw [List.take_succ_eq_append_getElem h1, List.take_succ_eq_append_getElem h2, List.take_succ_eq_append_getElem h3, dotL_snoc _ _ _ _ _ _ (by simp; omega) (by simp; omega)]
theorem dotT_full {P D C : List Int} {x : Nat} (h1 : P.length = x) (h2 : D.length = x) (h3 : C.length = x) : dotT P D C x = dotL P D C := by
 unfold dotT; rw [List.take_of_length_le (by omega), List.take_of_length_le (by omega), List.take_of_length_le (by omega)]
theorem mul_abs {a b A B : Int} (h1 : -A ≤ a) (h2 : a ≤ A) (h3 : 0 ≤ b) (h4 : b ≤ B) (hA : 0 ≤ A) : -(A * B) ≤ a * b ∧ a * b ≤ A * B := by
 have h5 := Int.mul_le_mul_of_nonneg_right h2 h3
 have h6 := Int.mul_le_mul_of_nonneg_right h1 h3
 have h7 := Int.mul_le_mul_of_nonneg_left h4 hA
 rw [Int.neg_mul] at h6
 omega
/-- All values of all rows are small. -/
structure RowSm (P D C : List Int) (n : Nat) : Prop where
 lp : P.length = n
 ld : D.length = n
 lc : C.length = n
 le : n ≤ 10
 p : ∀ x (h : x < P.length), 0 ≤ P[x] ∧ P[x] ≤ 32768
 d : ∀ x (h : x < D.length) (h' : x < C.length), -90000 ≤ D[x] - C[x] ∧ D[x] - C[x] ≤ 90000
 di : ∀ x (h : x < D.length), -90000 ≤ D[x] ∧ D[x] ≤ 90000
 ci : ∀ x (h : x < C.length), -90000 ≤ C[x] ∧ C[x] ≤ 90000
theorem RowSm.term {P D C : List Int} {n : Nat} (h : RowSm P D C n) {x : Nat} (hx : x < n) : -2949120000 ≤ (D[x]'(by rw [h.ld]; exact hx) - C[x]'(by rw [h.lc]; exact hx)) * P[x]'(by rw [h.lp]; exact hx) ∧ (D[x]'(by rw [h.ld]; exact hx) - C[x]'(by rw [h.lc]; exact hx)) * P[x]'(by rw [h.lp]; exact hx) ≤ 2949120000 := by
 have hp := h.p x (by rw [h.lp]; exact hx)
 have hd := h.d x (by rw [h.ld]; exact hx) (by rw [h.lc]; exact hx)
 have := mul_abs (A := 90000) (B := 32768) hd.1 hd.2 hp.1 hp.2 (by decide)
 omega
theorem RowSm.part {P D C : List Int} {n : Nat} (h : RowSm P D C n) : ∀ x : Nat, x ≤ n → -(x * 2949120000 : Int) ≤ dotT P D C x ∧ dotT P D C x ≤ x * 2949120000
 | 0, _ => by rw [dotT_zero]; simp
 | x + 1, hx => by
  have ih := h.part x (by omega)
  have ht := h.term (x := x) (by omega)
  rw [dotT_succ (by rw [h.lp]; omega) (by rw [h.ld]; omega) (by rw [h.lc]; omega)]
  omega
theorem gF_row {p : Prg} {g : Graph} {c : Config} (hm : memF p g c = 0) (hsz : sizeF p g ≤ 32768) (hL : p.vars.length ≤ 10) {v : Nat} (hv : v < c.length) (hen : 0 ≤ firstF p.rules g c v) :
  RowSm ((placesN (tableF p g)).getD v []) (moveF p g c v) (c.getD v []) p.vars.length := by
 have hf := (mem_zero hm).1
 have hS := table_small hf
 have hcl := conf_len hm
 have hg := (fits_zero hf).2.1
 have hvt : v < (tableF p g).length := by rw [tableF_length, hg.ids, ← hcl]; exact hv
 have hrow : (tableF p g)[v].length = p.vars.length := tableF_row hvt
 have hin := mem_in hm
 have h1 := (inN_iff.1 hin).2 v hv hvt
 have hst := inL_iff.1 h1
 have hst2 := stateB_iff.1 (move_state hm hv hen)
 have e1 : c.getD v [] = c[v] := getD_eq hv
 have e2 : (placesN (tableF p g)).getD v [] = placesL (sizeN ((tableF p g).drop (v + 1))) (tableF p g)[v] := by
  rw [List.getD_eq_getElem?_getD, placesN_at hvt]; rfl
 have e3 : rowF p g v = (tableF p g)[v] := by simp [tableF]
 rw [e3] at hst2
 have bnd : ∀ {l : List Int}, (l.length = (tableF p g)[v].length ∧ ∀ i, (h1 : i < l.length) → (h2 : i < (tableF p g)[v].length) → (tableF p g)[v][i].1 ≤ l[i] ∧ l[i] ≤ (tableF p g)[v][i].2) → ∀ i (h : i < l.length), -4096 ≤ l[i] ∧ l[i] ≤ 80000 := by
  intro l hl i hi
  have h2 : i < (tableF p g)[v].length := by rw [← hl.1]; exact hi
  have h3 := hl.2 i hi h2
  have h4 := hS.at_ hvt h2
  omega
 have bd := bnd hst2
 have bc := bnd hst
 rw [e1, e2]
 refine ⟨by rw [placesL_length, hrow], by rw [hst2.1, hrow], by rw [hst.1, hrow], hL, fun x hx => ?_, fun x h h' => ?_, fun x h => ?_, fun x h => ?_⟩
 ·have hx' : x < (tableF p g)[v].length := by rwa [placesL_length] at hx
  have hpx : (placesL (sizeN ((tableF p g).drop (v + 1))) (tableF p g)[v])[x] = sizeL ((tableF p g)[v].drop (x + 1)) * sizeN ((tableF p g).drop (v + 1)) := placesL_get _ _ x hx
  rw [hpx]
  have := size_within (table_ok hf) hsz hvt (x + 1)
  omega
 ·have a1 := bd x h
  have a2 := bc x h'
  omega
 ·have a1 := bd x h; omega
 ·have a1 := bc x h; omega
theorem gF_bound {p : Prg} {g : Graph} {c : Config} (hm : memF p g c = 0) (hsz : sizeF p g ≤ 32768) (hL : p.vars.length ≤ 10) {v : Nat} (hv : v < c.length) : -29491200000 ≤ gF p g c v ∧ gF p g c v ≤ 29491200000 := by
 unfold gF
 by_cases hen : 0 ≤ firstF p.rules g c v
 ·rw [if_pos hen]
  have h := gF_row hm hsz hL hv hen
  have h2 := h.part _ (Nat.le_refl _)
  rw [dotT_full h.lp h.ld h.lc] at h2
  omega
 ·rw [if_neg hen]; omega
/-- The number behind a step. -/
theorem to_num {p : Prg} {g : Graph} {c : Config} (hm : memF p g c = 0) {S : Nat} (hS : S < 4294967296) (hw : within32 S (enabF p g c) = true) :
  numF p g (stepCF p g c S) = numF p g c + ((elemsF S).map (gF p g c)).sum := by
 have hf := (mem_zero hm).1
 have hg := (fits_zero hf).2.1
 have hcl := conf_len hm
 have hle := hg.le
 have hen : ∀ v, v < c.length → S.testBit v = true → 0 ≤ firstF p.rules g c v := fun v hv hb => by
  have := within32_iff.1 hw v (by omega) hb
  rw [enabF_bit] at this
  simp at this
  exact this.2
 have hlt : S < 2 ^ c.length := by
  apply Nat.lt_pow_two_of_testBit
  intro i hi
  cases hb : S.testBit i with
  | false => rfl
  | true =>
   have := within32_iff.1 hw i (bit_lt hS hb) hb
   rw [enabF_bit] at this
   simp at this
   omega
 unfold numF
 rw [grow_num _ _ _ (mem_in hm) (mem_in (step_mem hm hen))]
 congr 1
 refine grow_set (n := c.length) (by omega) hlt (by rw [placesN_length, tableF_length, hg.ids, hcl]) (stepCF_length _ _ _ _) rfl (fun v hv hb => ?_) (fun v hv hb => ?_)
 ·rw [stepCF_at p g c S hv, if_pos hb]; unfold gF; rw [if_pos (hen v hv hb)]
 ·rw [stepCF_at p g c S hv, hb]; rfl
theorem sum_within {l : List Nat} {f : Nat → Int} {B : Int} (h : ∀ v ∈ l, -B ≤ f v ∧ f v ≤ B) : -(l.length * B : Int) ≤ (l.map f).sum ∧ (l.map f).sum ≤ l.length * B := by
 induction l with
 | nil => simp
 | cons v l ih =>
  have h1 := h v (List.mem_cons_self ..)
  have h2 := ih fun w hw => h w (List.mem_cons_of_mem _ hw)
  have e : ((l.length + 1 : Nat) : Int) * B = (l.length : Int) * B + B := by rw [Int.natCast_add, Int.add_mul]; simp
  rw [List.map_cons, List.sum_cons, List.length_cons, e]
  omega

/-- What is among the choices is a part of the enabled nodes. -/
theorem choices_part {g : Graph} {kind : Int} {E T : Nat} (hE : E < 4294967296) (h : T ∈ (choicesF g kind E).1) : T < 4294967296 ∧ within32 T E = true := by
 have key : T &&& E = T → T < 4294967296 ∧ within32 T E = true := fun e => by
  have hlt : T < 4294967296 := by have := partW_le e; omega
  exact ⟨hlt, (part_within hlt hE).1 e⟩
 unfold choicesF at h
 split at h
 ·cases h
 split at h
 ·obtain ⟨v, hv, rfl⟩ := List.mem_map.1 h
  obtain ⟨hv1, hv2⟩ := mem_elemsF.1 hv
  refine ⟨two_lt hv1, ?_⟩
  rw [within32_iff]; intro u _ hu
  rw [two_bit] at hu
  obtain rfl : v = u := by simpa using hu
  exact hv2
 split at h
 ·obtain rfl : T = E := by simpa using h
  exact key (Nat.and_self _)
 split at h
 ·cases h
 ·rename_i h0 _ _ _
  have h1 := (List.mem_filter.1 h).1
  have h2 := (mem_partsFrom hE (E - lsb E + 1) _ (by omega) lsb_part (lsb_ne hE h0) T).1 h1
  exact key h2.2

/-! ### Rows of arcs -/
def arcCells (x : Nat × Int) : List Value := [.int .u32 (x.1 : Int), .int .i64 x.2]
theorem arcCells_at (l : List (Nat × Int)) (i : Nat) (x : Nat × Int) (h : l[i]? = some x) : (l.flatMap arcCells)[i * 2]? = some (.int .u32 (x.1 : Int)) ∧ (l.flatMap arcCells)[i * 2 + 1]? = some (.int .i64 x.2) := by
 induction l generalizing i with
 | nil => simp at h
 | cons y l ih =>
  cases i with
  | zero =>
   obtain rfl : y = x := by simpa using h
   simp [arcCells]
  | succ i =>
   have := ih i (by simpa using h)
   rw [show (i + 1) * 2 + 1 = (i * 2 + 1) + 1 + 1 by omega, show (i + 1) * 2 = i * 2 + 1 + 1 by omega]
   simpa [arcCells] using this
theorem arcCells_set1 (l : List (Nat × Int)) (i : Nat) (x : Nat × Int) (y : Int) (h : l[i]? = some x) : (l.flatMap arcCells).set (i * 2 + 1) (.int .i64 y) = (l.set i (x.1, y)).flatMap arcCells := by
 induction l generalizing i with
 | nil => simp at h
 | cons z l ih =>
  cases i with
  | zero =>
   obtain rfl : z = x := by simpa using h
   simp [arcCells]
  | succ i =>
   have := ih i (by simpa using h)
   rw [show (i + 1) * 2 + 1 = (i * 2 + 1) + 1 + 1 by omega]
   simpa [arcCells] using this
theorem arcCells_set (l : List (Nat × Int)) (i : Nat) (x : Nat × Int) (h : i < l.length) : ((l.flatMap arcCells).set (i * 2) (.int .u32 (x.1 : Int))).set (i * 2 + 1) (.int .i64 x.2) = (l.set i x).flatMap arcCells := by
 induction l generalizing i with
 | nil => simp at h
 | cons z l ih =>
  cases i with
  | zero => simp [arcCells]
  | succ i =>
   have := ih i (by simpa using h)
   rw [show (i + 1) * 2 + 1 = (i * 2 + 1) + 1 + 1 by omega, show (i + 1) * 2 = i * 2 + 1 + 1 by omega]
   simpa [arcCells] using this
theorem arcCells_length (l : List (Nat × Int)) : (l.flatMap arcCells).length = l.length * 2 := by
 induction l with
 | nil => rfl
 | cons z l ih => rw [List.flatMap_cons, List.length_append, ih, List.length_cons]; simp [arcCells]; omega
theorem arcCells_zero (m : Nat) : (List.replicate m ((0, 0) : Nat × Int)).flatMap arcCells = (madeCells (Value.agg #[.int .u32 0, .int .i64 0]).cells (m * 2)).toList := by
 apply List.ext_getElem?
 intro i
 by_cases hi : i < m * 2
 ·have h1 : (List.replicate m ((0, 0) : Nat × Int))[i / 2]? = some (0, 0) := by rw [List.getElem?_replicate, if_pos (by omega)]
  obtain ⟨f1, f2⟩ := arcCells_at _ (i / 2) _ h1
  have hm : (madeCells (Value.agg #[.int .u32 0, .int .i64 0]).cells (m * 2)).toList[i]? = some (if i % 2 = 0 then .int .u32 0 else .int .i64 0) := by
   simp [madeCells, Value.cells, hi]
   rcases Nat.mod_two_eq_zero_or_one i with h | h <;> simp [h]
  rw [hm]
  rcases Nat.mod_two_eq_zero_or_one i with h | h
  ·rw [if_pos h, show i = i / 2 * 2 by omega]; exact f1
  ·rw [if_neg (by omega)]; conv => lhs; rw [show i = i / 2 * 2 + 1 by omega]
   exact f2
 ·rw [List.getElem?_eq_none (by rw [arcCells_length]; simp; omega), List.getElem?_eq_none (by simp [madeCells]; omega)]
/-- As far as the arcs before i are done. -/
def fillA (L : List (Nat × Int)) (i : Nat) : List (Nat × Int) := L.take i ++ List.replicate (L.length - i) (0, 0)
theorem fillA_zero (L : List (Nat × Int)) : fillA L 0 = List.replicate L.length (0, 0) := by simp [fillA]
theorem fillA_full (L : List (Nat × Int)) : fillA L L.length = L := by simp [fillA]
theorem fillA_length {L : List (Nat × Int)} {i : Nat} (h : i ≤ L.length) : (fillA L i).length = L.length := by simp [fillA]; omega
theorem fillA_set {L : List (Nat × Int)} {i : Nat} (h : i < L.length) : (fillA L i).set i L[i] = fillA L (i + 1) := by
 unfold fillA
 rw [List.set_append_right _ _ (by simp; omega), List.length_take, Nat.min_eq_left (Nat.le_of_lt h), Nat.sub_self, show L.length - i = (L.length - (i + 1)) + 1 by omega, List.replicate_succ, List.set_cons_zero]
 conv => rhs; rw [List.take_succ_eq_append_getElem h, List.append_assoc]
 rfl

end Go.Proofs.YtgemlgpjbclonaaGreatDoor

/- Contracts: the reference's Bring, first, enabled, Rule, Enabled. -/
namespace Go.Proofs.YtgemlgpjbclonaaGreatDoor
open Go.RowKit

theorem mem_pos14 {p : Prg} {g : Graph} {c : Config} (hm : memF p g c = 0) : 0 < c.length := by
 obtain ⟨f1, f2⟩ := mem_zero hm
 rw [(confB_iff.1 f2).1, tableF_length, (fits_zero f1).2.1.ids]
 exact (fits_zero f1).2.1.pos
set_option maxRecDepth 100000 in
set_option maxHeartbeats 4000000 in
theorem refBring_any (v1 : Value) (p : Prg) (v2 : Value) (g : Graph) (i q : Nat) (x : Int) (w : World) (h : PrgV w v1 p) (h2 : GraphV w v2 g) (hf : fitsF p g = 0) (hi : i < g.ports.length) (hq : q < p.vars.length) (hG : lightG g = true) :
  Calls Tryz.prog 80 #[v1, v2, .int .i64 i, .int .i64 q, .int .i64 x] w fun e w' => e = .returned (.int .i64 (bringF p.vars[q].kind (boundsF p.vars[q] g i) x)) ∧ Bel w w' := by
 have HPV := Lib.hid (fun w' (k : Bel w w') => h.keep k)
 have HGV := Lib.hid (fun w' (k : Bel w w') => h2.keep k)
 obtain ⟨A1, k1, A2, k2, rfl, hV, _, _, _, _, _⟩ := h
 obtain ⟨A3, k3, A4, k4, rfl, _, _, _, _, _, _⟩ := h2
 have HV := Lib.hid (fun w' (k : Bel w w') => VarsR.keep hV k)
 have HW := Bel.refl ((w.alloc (.cells #[.string p.name, .slice A1 p.vars.length k1, .slice A2 p.rules.length k2] 25)).alloc (.cells #[.slice A3 g.ids.length k3, .slice A4 g.ports.length k4] 29))
 obtain ⟨f1, f2⟩ := fits_bounds hf (List.getElem_mem hq) i
 have HN := Lib.hid (List.all_eq_true.1 (check_numbers (fits_zero hf).1).1 _ (List.getElem_mem hq))
 have HGO := Lib.hid (fits_zero hf).2.1
 have HGL := Lib.hid hG
 have HF := Lib.hid (bringF_ref (kind := p.vars[q].kind) f1 x)
 have hdq : decide (q < p.vars.length) = true := by simpa using hq
 obtain ⟨bV, oV, rfl, hbV, _, cV, _⟩ := hV.at_ q hq
 have hbV' : bV < ((w.alloc (.cells #[.string p.name, .slice (some ⟨bV, oV, none⟩) p.vars.length k1, .slice A2 p.rules.length k2] 25)).alloc (.cells #[.slice A3 g.ids.length k3, .slice A4 g.ports.length k4] 29)).heap.size := by simp; omega
 obtain ⟨lo, hlo⟩ : ∃ lo, (boundsF p.vars[q] g i).1 = lo := ⟨_, rfl⟩
 obtain ⟨hi', hhi⟩ : ∃ hi', (boundsF p.vars[q] g i).2 = hi' := ⟨_, rfl⟩
 have HLO := Lib.hid hlo
 have HHI := Lib.hid hhi
 rw [hlo, hhi] at HF
 clear hV hf hG f1 f2 hlo hhi
 by_cases hk : p.vars[q].kind = 3
 ·have hkb : (p.vars[q].kind == 3) = true := by simpa using hk
  by_cases hr : lo ≤ x ∧ x ≤ hi'
  ·rw [if_neg (by intro h; exact h.2 hr)] at HF
   have hdr : inB x lo hi' = true := inB_iff.2 hr
   obtain ⟨m, hm, hm'⟩ := ite_max x lo
   obtain ⟨m2, hm2, hm2'⟩ := ite_min m hi'
   have HFV : Hid (bringF p.vars[q].kind (boundsF p.vars[q] g i) x = m2) := by show _ = _; rw [HF.out]; omega
   clear hm' hm2' hk hr
   go_enter Tryz.func80, Tryz.ntmps80
   go_wp2_with (first
    | (go_at_call 75; refine (ends_any _ p _ g i q _ (HPV.out _ (box2_bel HW)) (HGV.out _ (box2_bel HW)) hq HN.out HGO.out hi HGL.out).mono ?_; rintro e w' ⟨rfl, hb⟩; rw [HLO.out, HHI.out]; replace HW := HW.trans hb; have cV' := ((box2_bel HW).cell hbV).trans cV; clear hb; obtain ⟨p0, p1, p2, g0, g1, gsz⟩ := pgbox HW)
    | (go_at_call 45; refine (in01_any _ _ _ _).mono ?_; rintro e w' ⟨rfl, rfl⟩))
   go_ret
   exact ⟨ret_int HFV.out.symm, box2_bel HW⟩
  ·rw [if_pos ⟨hk, hr⟩] at HF
   have hdr : inB x lo hi' = false := inB_false (by omega)
   clear hk hr
   go_enter Tryz.func80, Tryz.ntmps80
   go_wp2_with (first
    | (go_at_call 75; refine (ends_any _ p _ g i q _ (HPV.out _ (box2_bel HW)) (HGV.out _ (box2_bel HW)) hq HN.out HGO.out hi HGL.out).mono ?_; rintro e w' ⟨rfl, hb⟩; rw [HLO.out, HHI.out]; replace HW := HW.trans hb; have cV' := ((box2_bel HW).cell hbV).trans cV; clear hb; obtain ⟨p0, p1, p2, g0, g1, gsz⟩ := pgbox HW)
    | (go_at_call 45; refine (in01_any _ _ _ _).mono ?_; rintro e w' ⟨rfl, rfl⟩))
   go_ret
   exact ⟨ret_int HF.out.symm, box2_bel HW⟩
 ·have hkb : (p.vars[q].kind == 3) = false := by simpa using hk
  rw [if_neg (fun h => hk h.1)] at HF
  obtain ⟨m, hm, hm'⟩ := ite_max x lo
  obtain ⟨m2, hm2, hm2'⟩ := ite_min m hi'
  have HFV : Hid (bringF p.vars[q].kind (boundsF p.vars[q] g i) x = m2) := by show _ = _; rw [HF.out]; omega
  clear hm' hm2' hk
  go_enter Tryz.func80, Tryz.ntmps80
  go_wp2_with (first
   | (go_at_call 75; refine (ends_any _ p _ g i q _ (HPV.out _ (box2_bel HW)) (HGV.out _ (box2_bel HW)) hq HN.out HGO.out hi HGL.out).mono ?_; rintro e w' ⟨rfl, hb⟩; rw [HLO.out, HHI.out]; replace HW := HW.trans hb; have cV' := ((box2_bel HW).cell hbV).trans cV; clear hb; obtain ⟨p0, p1, p2, g0, g1, gsz⟩ := pgbox HW)
   | (go_at_call 45; refine (in01_any _ _ _ _).mono ?_; rintro e w' ⟨rfl, rfl⟩))
  go_ret
  exact ⟨ret_int HFV.out.symm, box2_bel HW⟩

set_option maxRecDepth 100000 in
set_option maxHeartbeats 4000000 in
theorem refFirst_any (v1 : Value) (p : Prg) (v2 : Value) (g : Graph) (v3 : Value) (c : Config) (v : Nat) (w : World) (h : PrgV w v1 p) (h2 : GraphV w v2 g) (h3 : ConfV w v3 c) (hs : SOK p g c v) (hL : lightP p = true) :
  Calls Tryz.prog 79 #[v1, v2, v3, .int .i64 v] w fun e w' => e = .returned (.int .i64 (firstF p.rules g c v)) ∧ Bel w w' := by
 have hR : ∃ A1 k1 A2 k2, v1 = .agg #[.string p.name, .slice A1 p.vars.length k1, .slice A2 p.rules.length k2] ∧ RulesR w A2 p.rules.length p.rules := by
  obtain ⟨A1, k1, A2, k2, e, _, _, _, hR, _, _⟩ := h
  exact ⟨A1, k1, A2, k2, e, hR⟩
 obtain ⟨A1r, k1r, A2r, k2r, eR, hR⟩ := hR
 have HPV := Lib.hid (fun w' (k : Bel w w') => h.keep k)
 have HGV := Lib.hid (fun w' (k : Bel w w') => h2.keep k)
 have HCV := Lib.hid (fun w' (k : Bel w w') => h3.keep k)
 obtain ⟨A1, k1, A2, k2, rfl, _, _, _, _, _, _⟩ := h
 obtain ⟨A3, k3, A4, k4, rfl, _, _, _, _, _, _⟩ := h2
 obtain ⟨A5, k5, rfl, _, _, _⟩ := h3
 have HW := Bel.refl ((w.alloc (.cells #[.string p.name, .slice A1 p.vars.length k1, .slice A2 p.rules.length k2] 25)).alloc (.cells #[.slice A3 g.ids.length k3, .slice A4 g.ports.length k4] 29))
 obtain ⟨⟨rfl, rfl⟩, rfl, rfl⟩ : (A1 = A1r ∧ k1 = k1r) ∧ A2 = A2r ∧ k2 = k2r := by simpa using eR
 have HR := Lib.hid (fun w' (k : Bel w w') => RulesR.keep hR k)
 have HK := Lib.hid hs
 have HE := Lib.hid (fun (i : Nat) (hi : i < p.rules.length) => guard_eok (fits_zero hs.fits).1 hL hi)
 have hr16 := (lightP_parts hL).2.2.1
 have hcell := Lib.hid (fun w' (kk : Bel ((w.alloc (.cells #[.string p.name, .slice A1 p.vars.length k1, .slice A2 p.rules.length k2] 25)).alloc (.cells #[.slice A3 g.ids.length k3, .slice A4 g.ports.length k4] 29)) w') => pgbox kk)
 clear hs hL hR eR
 go_enter Tryz.func79, Tryz.ntmps79
 go_wp2
 go_loopg [9] p.rules.length (fun m z wr => ∃ i : Nat, i ≤ p.rules.length ∧ m = p.rules.length - i ∧ z = .int .i64 i ∧ Hid ((p.rules.take i).all (fun r => !(trueAt g c v r.guard)) = true) ∧ Bel ((w.alloc (.cells #[.string p.name, .slice A1 p.vars.length k1, .slice A2 p.rules.length k2] 25)).alloc (.cells #[.slice A3 g.ids.length k3, .slice A4 g.ports.length k4] 29)) wr)
 case atStart => exact ⟨0, by omega, rfl, rfl, rfl, HW⟩
 case round =>
  clear HW
  obtain ⟨i, hi, rfl, rfl, HI, HW⟩ := hrel
  obtain ⟨p0, p1, p2, g0, g1, gsz⟩ := pgbox HW
  by_cases hlt : i < p.rules.length
  ·have hd0 : decide (i < p.rules.length) = true := by simpa using hlt
   obtain ⟨bR, oR, G, gc, SS, sc, rfl, hbR, _, cg, _, hTG, _, _, _, _, _⟩ := (HR.out _ (Bel.refl w)).at_ i hlt
   have HTG := Lib.hid (fun w' (k : Bel w w') => TermsR.keep hTG k)
   have hcell2 := Lib.hid (fun w' (kk : Bel ((w.alloc (.cells #[.string p.name, .slice A1 p.vars.length k1, .slice (some ⟨bR, oR, none⟩) p.rules.length k2] 25)).alloc (.cells #[.slice A3 g.ids.length k3, .slice A4 g.ports.length k4] 29)) w') => show w'.cell? ⟨w.heap.size, 2, none⟩ = some (.slice (some ⟨bR, oR, none⟩) p.rules.length k2) ∧ w'.cell? ⟨w.heap.size + 1, 0, none⟩ = some (.slice A3 g.ids.length k3) ∧ w'.cell? ⟨w.heap.size + 1, 1, none⟩ = some (.slice A4 g.ports.length k4) ∧ w'.cell? ⟨bR, oR + i * 3 + 1, none⟩ = some (.slice G p.rules[i].guard.length gc) ∧ w.heap.size + 1 < w'.heap.size ∧ bR < w'.heap.size from by
    obtain ⟨_, _, q2, q3, q4, q5⟩ := pgbox kk
    have hb := box2_bel kk
    exact ⟨q2, q3, q4, (hb.cell hbR).trans cg, q5, Nat.lt_of_lt_of_le hbR hb.size⟩)
   clear hTG cg
   have hE := HE.out i hlt
   cases hq : trueAt g c v p.rules[i].guard with
   | true =>
    have HF := Lib.hid (firstF_found hlt HI.out hq)
    have HQ : Hid ((evalF g c v (-1) (treeOf p.rules[i].guard) != 0) = true) := hq
    have HEI := Lib.hid hE
    clear hq hE
    go_wp2_with fail
    replace HW := HW.drew
    go_region_held3 (fun w' => w'.cell? ⟨w.heap.size, 2, none⟩ = some (.slice (some ⟨bR, oR, none⟩) p.rules.length k2) ∧ w'.cell? ⟨w.heap.size + 1, 0, none⟩ = some (.slice A3 g.ids.length k3) ∧ w'.cell? ⟨w.heap.size + 1, 1, none⟩ = some (.slice A4 g.ports.length k4) ∧ w'.cell? ⟨bR, oR + i * 3 + 1, none⟩ = some (.slice G p.rules[i].guard.length gc) ∧ w.heap.size + 1 < w'.heap.size ∧ bR < w'.heap.size) (exact hcell2.out _ HW) (first
     | (go_simp; go_at_call 81; refine (at_any p g c v HK.out (treeOf p.rules[i].guard) false (-1) _ _ _ _ p.rules[i].guard 0 _ (HGV.out _ (box2_bel HW)) (HCV.out _ (box2_bel HW)) (HTG.out _ (box2_bel HW)) (At.whole HEI.out.ok HEI.out.terms) HEI.out.arg HEI.out.len HEI.out.bound portOK_false).mono ?_; rintro e w' ⟨rfl, hb⟩; replace HW := HW.trans hb; clear hb))
    rw [HQ.out]
    go_wp2_with fail
    go_ret
    exact ⟨ret_int HF.out.symm, box2_bel HW⟩
   | false =>
    have HI2 := Lib.hid (all_take_succ hlt HI.out (by rw [hq]; rfl))
    have HQ : Hid ((evalF g c v (-1) (treeOf p.rules[i].guard) != 0) = false) := hq
    have HEI := Lib.hid hE
    clear hq hE
    go_wp2_with fail
    replace HW := HW.drew
    go_region_held3 (fun w' => w'.cell? ⟨w.heap.size, 2, none⟩ = some (.slice (some ⟨bR, oR, none⟩) p.rules.length k2) ∧ w'.cell? ⟨w.heap.size + 1, 0, none⟩ = some (.slice A3 g.ids.length k3) ∧ w'.cell? ⟨w.heap.size + 1, 1, none⟩ = some (.slice A4 g.ports.length k4) ∧ w'.cell? ⟨bR, oR + i * 3 + 1, none⟩ = some (.slice G p.rules[i].guard.length gc) ∧ w.heap.size + 1 < w'.heap.size ∧ bR < w'.heap.size) (exact hcell2.out _ HW) (first
     | (go_simp; go_at_call 81; refine (at_any p g c v HK.out (treeOf p.rules[i].guard) false (-1) _ _ _ _ p.rules[i].guard 0 _ (HGV.out _ (box2_bel HW)) (HCV.out _ (box2_bel HW)) (HTG.out _ (box2_bel HW)) (At.whole HEI.out.ok HEI.out.terms) HEI.out.arg HEI.out.len HEI.out.bound portOK_false).mono ?_; rintro e w' ⟨rfl, hb⟩; replace HW := HW.trans hb; clear hb))
    rw [HQ.out]
    go_wp2_with fail
    go_roundg (p.rules.length - (i + 1))
    case rel => exact ⟨i + 1, by omega, rfl, by go_num, HI2, HW⟩
    case measure => omega
  ·have hd0 : decide (i < p.rules.length) = false := by simpa using hlt
   have HF : Hid (firstF p.rules g c v = -1) := by
    refine firstF_none ?_
    have := HI.out
    rwa [List.take_of_length_le (by omega)] at this
   go_wp2_with fail
   go_ret
   exact ⟨ret_int HF.out.symm, box2_bel HW⟩

set_option maxRecDepth 100000 in
set_option maxHeartbeats 4000000 in
theorem refEnab_any (v1 : Value) (p : Prg) (v2 : Value) (g : Graph) (v3 : Value) (c : Config) (w : World) (h : PrgV w v1 p) (h2 : GraphV w v2 g) (h3 : ConfV w v3 c) (hm : memF p g c = 0) (hL : lightP p = true) :
  Calls Tryz.prog 49 #[v1, v2, v3] w fun e w' => e = .returned (.int .u32 (enabF p g c : Nat)) ∧ Bel w w' := by
 have HPV := Lib.hid (fun w' (k : Bel w w') => h.keep k)
 have HGV := Lib.hid (fun w' (k : Bel w w') => h2.keep k)
 have HCV := Lib.hid (fun w' (k : Bel w w') => h3.keep k)
 obtain ⟨A1, k1, A2, k2, rfl, _, _, _, _, _, _⟩ := h
 obtain ⟨A3, k3, A4, k4, rfl, _, _, _, _, _, _⟩ := h2
 obtain ⟨A5, k5, rfl, _, _, _⟩ := h3
 have HW := Bel.refl ((w.alloc (.cells #[.string p.name, .slice A1 p.vars.length k1, .slice A2 p.rules.length k2] 25)).alloc (.cells #[.slice A3 g.ids.length k3, .slice A4 g.ports.length k4] 29))
 have hle : c.length ≤ 24 := by rw [conf_len hm]; exact (fits_zero (mem_zero hm).1).2.1.le
 have HK := Lib.hid (fun v (hv : v < c.length) => mem_sok hm hv)
 have HL := Lib.hid hL
 have HE : Hid (enabF p g c = setF c.length fun v => decide (0 ≤ firstF p.rules g c v)) := rfl
 clear hm hL
 go_enter Tryz.func49, Tryz.ntmps49
 go_wp2
 go_loopg [7, 8] c.length (fun m s z wr => ∃ v : Nat, v ≤ c.length ∧ m = c.length - v ∧ z = .int .i64 v ∧ s = .int .u32 (setF v fun v => decide (0 ≤ firstF p.rules g c v) : Nat) ∧ Bel ((w.alloc (.cells #[.string p.name, .slice A1 p.vars.length k1, .slice A2 p.rules.length k2] 25)).alloc (.cells #[.slice A3 g.ids.length k3, .slice A4 g.ports.length k4] 29)) wr)
 case atStart => exact ⟨0, by omega, rfl, rfl, rfl, HW⟩
 case round =>
  clear HW
  obtain ⟨v, hv, rfl, rfl, rfl, HW⟩ := hrel
  obtain ⟨p0, p1, p2, g0, g1, gsz⟩ := pgbox HW
  have hsl := setF_lt32 (fun v => decide (0 ≤ firstF p.rules g c v)) (show v ≤ 32 by omega)
  by_cases hlt : v < c.length
  ·have hd0 : decide (v < c.length) = true := by simpa using hlt
   cases hb : decide (0 ≤ firstF p.rules g c v) with
   | true =>
    go_wp2_with (go_at_call 79; refine (refFirst_any _ p _ g _ c v _ (HPV.out _ (box2_bel HW)) (HGV.out _ (box2_bel HW)) (HCV.out _ (box2_bel HW)) (HK.out v hlt) HL.out).mono ?_; rintro e w' ⟨rfl, hbb⟩; replace HW := HW.trans hbb; clear hbb)
    go_roundg (c.length - (v + 1))
    case rel => exact ⟨v + 1, by omega, rfl, by go_num, by rw [setF_succ, hb, if_pos rfl, bits_set hsl (by omega)], HW⟩
    case measure => omega
   | false =>
    go_wp2_with (go_at_call 79; refine (refFirst_any _ p _ g _ c v _ (HPV.out _ (box2_bel HW)) (HGV.out _ (box2_bel HW)) (HCV.out _ (box2_bel HW)) (HK.out v hlt) HL.out).mono ?_; rintro e w' ⟨rfl, hbb⟩; replace HW := HW.trans hbb; clear hbb)
    go_roundg (c.length - (v + 1))
    case rel => exact ⟨v + 1, by omega, rfl, by go_num, by rw [setF_succ, hb]; rfl, HW⟩
    case measure => omega
  ·have hd0 : decide (v < c.length) = false := by simpa using hlt
   obtain rfl : v = c.length := by omega
   go_wp2_with fail
   go_ret
   exact ⟨ret_int (by rw [HE.out]), box2_bel HW⟩

set_option maxRecDepth 100000 in
set_option maxHeartbeats 4000000 in
theorem refEnabled_any (v1 : Value) (p : Prg) (v2 : Value) (g : Graph) (v3 : Value) (c : Config) (w : World) (h : PrgV w v1 p) (h2 : GraphV w v2 g) (h3 : ConfV w v3 c) (hL : lightP p = true) (hG : lightG g = true) (hC : lightC c = true) :
  Calls Tryz.prog 22 #[v1, v2, v3] w fun e w' => e = .returned (.int .u32 (enabledF p g c : Nat)) ∧ Bel w w' := by
 have HPV := Lib.hid (fun w' (k : Bel w w') => h.keep k)
 have HGV := Lib.hid (fun w' (k : Bel w w') => h2.keep k)
 have HCV := Lib.hid (fun w' (k : Bel w w') => h3.keep k)
 obtain ⟨A1, k1, A2, k2, rfl, _, _, _, _, _, _⟩ := h
 obtain ⟨A3, k3, A4, k4, rfl, _, _, _, _, _, _⟩ := h2
 obtain ⟨A5, k5, rfl, _, _, _⟩ := h3
 have HW := Bel.refl ((w.alloc (.cells #[.string p.name, .slice A1 p.vars.length k1, .slice A2 p.rules.length k2] 25)).alloc (.cells #[.slice A3 g.ids.length k3, .slice A4 g.ports.length k4] 29))
 have HL := Lib.hid hL
 have HGL := Lib.hid hG
 have HCL := Lib.hid hC
 clear hL hG hC
 have HF : Hid (enabledF p g c = if memF p g c ≠ 0 then 0 else enabF p g c) := rfl
 cases hm : decide (memF p g c = 0) with
 | false =>
  rw [if_pos (of_decide_eq_false hm)] at HF
  go_enter Tryz.func22, Tryz.ntmps22
  go_wp2_with (go_at_call 48; refine (refMemValid_any _ p _ g _ c _ (HPV.out _ (box2_bel HW)) (HGV.out _ (box2_bel HW)) (HCV.out _ (box2_bel HW)) HL.out HGL.out HCL.out).mono ?_; rintro e w' ⟨rfl, hb⟩; rw [hm]; replace HW := HW.trans hb; clear hb; (try clear p0 p1 p2 g0 g1 gsz); obtain ⟨p0, p1, p2, g0, g1, gsz⟩ := pgbox HW)
  go_ret
  exact ⟨ret_int (by rw [HF.out]; rfl), box2_bel HW⟩
 | true =>
  have hm0 := of_decide_eq_true hm
  rw [if_neg (by simpa using hm0)] at HF
  have HM := Lib.hid hm0
  clear hm0
  go_enter Tryz.func22, Tryz.ntmps22
  go_wp2_with (first
   | (go_at_call 48; refine (refMemValid_any _ p _ g _ c _ (HPV.out _ (box2_bel HW)) (HGV.out _ (box2_bel HW)) (HCV.out _ (box2_bel HW)) HL.out HGL.out HCL.out).mono ?_; rintro e w' ⟨rfl, hb⟩; rw [hm]; replace HW := HW.trans hb; clear hb; (try clear p0 p1 p2 g0 g1 gsz); obtain ⟨p0, p1, p2, g0, g1, gsz⟩ := pgbox HW)
   | (go_at_call 49; refine (refEnab_any _ p _ g _ c _ (HPV.out _ (box2_bel HW)) (HGV.out _ (box2_bel HW)) (HCV.out _ (box2_bel HW)) HM.out HL.out).mono ?_; rintro e w' ⟨rfl, hb⟩; replace HW := HW.trans hb; clear hb; (try clear p0 p1 p2 g0 g1 gsz); obtain ⟨p0, p1, p2, g0, g1, gsz⟩ := pgbox HW))
  go_ret
  exact ⟨ret_int (by rw [HF.out]), box2_bel HW⟩


end Go.Proofs.YtgemlgpjbclonaaGreatDoor

