/- Merged of: PMb WRa RwC WRg (see NOTES.md). -/
import Derived.Test.YtgemlgpjbclonaaGreatDoorZ25
import Derived.Test.YtgemlgpjbclonaaGreatDoorZ26
import Derived.Test.YtgemlgpjbclonaaGreatDoorZ22
import Derived.Test.YtgemlgpjbclonaaGreatDoorZ23
import Derived.Test.YtgemlgpjbclonaaGreatDoorZ01
import Derived.Shelf.Abstract
set_option linter.unusedSimpArgs false
set_option linter.unnecessarySimpa false
set_option linter.unusedVariables false

/- The table of bounds, plain: its size, its shape. -/
namespace Go.Proofs.YtgemlgpjbclonaaGreatDoor

def smallN (T : List (List (Int × Int))) : Prop := ∀ t ∈ T, ∀ b ∈ t, -4096 ≤ b.1 ∧ b.1 ≤ 4096 ∧ b.1 ≤ b.2 ∧ b.2 ≤ 80000
theorem table_small {p : Prg} {g : Graph} (hf : fitsF p g = 0) : smallN (tableF p g) := by
 intro t ht b hb
 unfold tableF at ht
 obtain ⟨v, hv, rfl⟩ := List.mem_map.1 ht
 unfold rowF at hb
 obtain ⟨x, hx, rfl⟩ := List.mem_map.1 hb
 obtain ⟨h1, h2, h3⟩ := fits_zero hf
 have hv' : v < g.ports.length := by rw [← h2.ids]; exact List.mem_range.1 hv
 obtain ⟨a1, a2, a3, a4⟩ := bounds_small (List.all_eq_true.1 (check_numbers h1).1 x hx) h2 hv'
 exact ⟨a1, a2, (fits_bounds hf hx v).1, a4⟩
theorem tableF_row {p : Prg} {g : Graph} {v : Nat} (hv : v < (tableF p g).length) : ((tableF p g)[v]).length = p.vars.length := by simp [tableF, rowF]
theorem smallN.ok {T : List (List (Int × Int))} (h : smallN T) : okN T := fun t ht b hb => (h t ht b hb).2.2.1
theorem smallN.width {T : List (List (Int × Int))} (h : smallN T) {v : Nat} (hv : v < T.length) {j : Nat} (hj : j < T[v].length) : 1 ≤ T[v][j].2 - T[v][j].1 + 1 ∧ T[v][j].2 - T[v][j].1 + 1 ≤ 90000 := by
 have := h _ (List.getElem_mem hv) _ (List.getElem_mem hj)
 omega
theorem smallN.at_ {T : List (List (Int × Int))} (h : smallN T) {v : Nat} (hv : v < T.length) {j : Nat} (hj : j < T[v].length) : -4096 ≤ T[v][j].1 ∧ T[v][j].1 ≤ 4096 ∧ T[v][j].1 ≤ T[v][j].2 ∧ T[v][j].2 ≤ 80000 :=
 h _ (List.getElem_mem hv) _ (List.getElem_mem hj)
/-- The count, as it is returned. -/
def cntP (s : Int) : Int × Int := if 32768 < s then (0, 3) else (s, 0)
theorem totalF_fits {p : Prg} {g : Graph} (hf : fitsF p g = 0) : totalF p g = cntP (sizeF p g) := by
 unfold totalF cntP; rw [if_neg (by simpa using hf)]
theorem sizeL_at {t : List (Int × Int)} {j : Nat} (hj : j < t.length) : sizeL (t.drop j) = (t[j].2 - t[j].1 + 1) * sizeL (t.drop (j + 1)) := by
 rw [List.drop_eq_getElem_cons hj]; rfl
theorem sizeN_at {T : List (List (Int × Int))} {v : Nat} (hv : v < T.length) : sizeN (T.drop v) = sizeL T[v] * sizeN (T.drop (v + 1)) := by
 rw [List.drop_eq_getElem_cons hv]; rfl

/-- How far the product has come. -/
def Prod (T : List (List (Int × Int))) (v j : Nat) (r : Int) : Prop := 1 ≤ r ∧ r ≤ 32768 ∧ r * (sizeL ((T.getD v []).drop j) * sizeN (T.drop (v + 1))) = sizeN T
def ProdN (T : List (List (Int × Int))) (v : Nat) (r : Int) : Prop := 1 ≤ r ∧ r ≤ 32768 ∧ r * sizeN (T.drop v) = sizeN T
theorem ProdN.start (T : List (List (Int × Int))) : ProdN T 0 1 := ⟨by decide, by decide, by rw [List.drop_zero, Int.one_mul]⟩
theorem ProdN.row {T : List (List (Int × Int))} {v : Nat} {r : Int} (h : ProdN T v r) (hv : v < T.length) : Prod T v 0 r := by
 obtain ⟨h1, h2, h3⟩ := h
 refine ⟨h1, h2, ?_⟩
 rw [List.getD_eq_getElem?_getD, List.getElem?_eq_getElem hv, Option.getD_some, List.drop_zero, ← sizeN_at hv]; exact h3
theorem Prod.done {T : List (List (Int × Int))} {v : Nat} {r : Int} (hv : v < T.length) (h : Prod T v T[v].length r) : ProdN T (v + 1) r := by
 obtain ⟨h1, h2, h3⟩ := h
 refine ⟨h1, h2, ?_⟩
 rw [List.getD_eq_getElem?_getD, List.getElem?_eq_getElem hv, Option.getD_some, List.drop_length] at h3
 rw [← h3]; show _ = r * (1 * _); rw [Int.one_mul]
theorem Prod.step {T : List (List (Int × Int))} {v j : Nat} {r : Int} (ho : okN T) (hv : v < T.length) (hj : j < T[v].length) (h : Prod T v j r) :
  (32768 < r * (T[v][j].2 - T[v][j].1 + 1) → 32768 < sizeN T) ∧ (r * (T[v][j].2 - T[v][j].1 + 1) ≤ 32768 → Prod T v (j + 1) (r * (T[v][j].2 - T[v][j].1 + 1))) := by
 obtain ⟨h1, h2, h3⟩ := h
 have e : T.getD v [] = T[v] := by rw [List.getD_eq_getElem?_getD, List.getElem?_eq_getElem hv, Option.getD_some]
 rw [e, sizeL_at hj, Int.mul_assoc, ← Int.mul_assoc r] at h3
 have hok : okL T[v] := ho _ (List.getElem_mem hv)
 have hb := hok _ (List.getElem_mem hj)
 have hr : r ≤ r * (T[v][j].2 - T[v][j].1 + 1) := mul_ge h1 (by omega)
 have h4 := sizeL_pos (okL_drop hok (j + 1))
 have h5 := sizeN_pos (okN_drop ho (v + 1))
 have h6 := Int.mul_pos h4 h5
 have h7 := mul_ge (r := r * (T[v][j].2 - T[v][j].1 + 1)) (s := sizeL (T[v].drop (j + 1)) * sizeN (T.drop (v + 1))) (by omega) (by omega)
 refine ⟨fun h => by omega, fun h => ⟨by omega, h, by rw [e]; exact h3⟩⟩
theorem ProdN.end_ {T : List (List (Int × Int))} {r : Int} (h : ProdN T T.length r) : cntP (sizeN T) = (r, 0) := by
 obtain ⟨h1, h2, h3⟩ := h
 rw [List.drop_length] at h3
 have : r = sizeN T := by rw [← h3]; show r = r * 1; rw [Int.mul_one]
 unfold cntP; rw [if_neg (by omega), this]
theorem cntP_big {s : Int} (h : 32768 < s) : cntP s = (0, 3) := if_pos h
theorem check_vars' {p : Prg} (h : checkF p = 0) : 1 ≤ p.vars.length := by
 unfold checkF at h
 split at h
 ·cases h
 ·omega

end Go.Proofs.YtgemlgpjbclonaaGreatDoor

/- Contracts: the program's count of configurations. -/
namespace Go.Proofs.YtgemlgpjbclonaaGreatDoor
open Go.RowKit

set_option maxRecDepth 100000 in
set_option maxHeartbeats 2000000 in
theorem cntProg_any (A : Option Addr) (c : Nat) (T : List (List (Int × Int))) (w : World) (hT : TableR w A T.length T) (hs : smallN T) (hn : T.length ≤ 24) (hm : ∀ t ∈ T, t.length ≤ 10) :
  Calls Tryz.prog 62 #[.slice A T.length c] w fun e w' => e = .returned (.tuple #[.int .i64 (cntP (sizeN T)).1, .int .i64 (cntP (sizeN T)).2]) ∧ Bel w w' := by
 have HT := Lib.hid (fun w' (k : Bel w w') => hT.keep k)
 have HS := Lib.hid hs
 have HM := Lib.hid hm
 have HW := Bel.refl w
 clear hT hs hm
 go_enter Tryz.func62, Tryz.ntmps62
 go_wp2_with fail
 go_loopg [4, 6, 8, 11] T.length (fun m x _y _z z wr => ∃ (v : Nat) (r : Int), v ≤ T.length ∧ m = T.length - v ∧ x = .int .i64 r ∧ z = .int .i64 v ∧ Hid (ProdN T v r) ∧ Bel w wr)
 case atStart => exact ⟨0, 1, by omega, rfl, rfl, rfl, ProdN.start T, HW⟩
 case round =>
  clear HW
  obtain ⟨v, r, hv, rfl, rfl, rfl, HP, HW⟩ := hrel
  by_cases hlt : v < T.length
  ·have hd0 : decide (v < T.length) = true := by simpa using hlt
   obtain ⟨b, o, R, rc, rfl, hbl, hcell, hR, _, _⟩ := (HT.out _ HW).at_ v hlt
   have HR := Lib.hid (fun w' (k : Bel wr w') => PairsR.keep hR k)
   have hle := HM.out _ (List.getElem_mem hlt)
   have HP0 := Lib.hid (HP.out.row hlt)
   clear hR
   obtain ⟨wo, rfl⟩ : ∃ wo : World, wo = wr := ⟨_, rfl⟩
   have HWo := Bel.refl wo
   go_wp2_with fail
   go_loopg [4, 8, 17] T[v].length (fun m x _y z ws => ∃ (j : Nat) (r : Int), j ≤ T[v].length ∧ m = T[v].length - j ∧ x = .int .i64 r ∧ z = .int .i64 j ∧ Hid (Prod T v j r) ∧ Bel wo ws)
   case atStart => exact ⟨0, r, by omega, rfl, rfl, rfl, HP0, HWo⟩
   case round =>
    clear HWo HP0 HP hcell hbl
    obtain ⟨j, r, hj, rfl, rfl, rfl, HP, HWo⟩ := hrel
    by_cases hlt2 : j < T[v].length
    ·have hd2 : decide (j < T[v].length) = true := by simpa using hlt2
     obtain ⟨b1, o1, rfl, hb1, c0, c1⟩ := (HR.out _ HWo).at_ j hlt2
     have hwd := HS.out.width hlt hlt2
     have hbn := HS.out.at_ hlt hlt2
     have hr1 := HP.out.1
     have hr2 := HP.out.2.1
     obtain ⟨hp1, hp2⟩ := HP.out.step HS.out.ok hlt hlt2
     have hmr := mul_range (a := r) (b := T[v][j].2 - T[v][j].1 + 1) (A := 32768) (B := 90000) (by omega) hr2 (by omega) hwd.2
     have HP1 := Lib.hid hp1
     have HP2 := Lib.hid hp2
     clear hp1 hp2
     by_cases hbig : 32768 < r * (T[v][j].2 - T[v][j].1 + 1)
     ·have hd3 : decide (32768 < r * (T[v][j].2 - T[v][j].1 + 1)) = true := by simpa using hbig
      have hE := Lib.hid (cntP_big (HP1.out hbig))
      clear hbig
      go_wp2_with fail
      go_ret2
      exact ⟨by rw [hE.out]; rfl, (HW.trans HWo).alloc _⟩
     ·have hd3 : decide (32768 < r * (T[v][j].2 - T[v][j].1 + 1)) = false := by simpa using hbig
      have HQ := Lib.hid (HP2.out (by omega))
      clear hbig
      go_wp2_with fail
      go_roundg (T[v].length - (j + 1))
      case rel => exact ⟨j + 1, _, by omega, rfl, rfl, by go_num, HQ, HWo.alloc _⟩
      case measure => omega
    ·have hd2 : decide (j < T[v].length) = false := by simpa using hlt2
     obtain rfl : j = T[v].length := by omega
     go_wp2_with fail
     go_roundg (T.length - (v + 1))
     case rel => exact ⟨v + 1, r, by omega, rfl, rfl, by go_num, HP.out.done hlt, HW.trans HWo⟩
     case measure => omega
  ·have hd0 : decide (v < T.length) = false := by simpa using hlt
   obtain rfl : v = T.length := by omega
   have HE := Lib.hid HP.out.end_
   go_wp2_with fail
   go_ret2
   exact ⟨by rw [HE.out]; rfl, HW⟩

set_option maxRecDepth 100000 in
set_option maxHeartbeats 2000000 in
theorem memCount_any (v1 : Value) (p : Prg) (v2 : Value) (g : Graph) (w : World) (h : PrgV w v1 p) (h2 : GraphV w v2 g) (hL : lightP p = true) (hG : lightG g = true) :
  Calls Tryz.prog 33 #[v1, v2] w fun e w' => e = .returned (.tuple #[.int .i64 (totalF p g).1, .int .i64 (totalF p g).2]) ∧ Bel w w' := by
 have HPV := Lib.hid (fun w' (k : Bel w w') => h.keep k)
 have HGV := Lib.hid (fun w' (k : Bel w w') => h2.keep k)
 obtain ⟨A1, k1, A2, k2, rfl, _, _, _, _, _, _⟩ := h
 obtain ⟨A3, k3, A4, k4, rfl, _, _, _, _, _, _⟩ := h2
 have HW := Bel.refl ((w.alloc (.cells #[.string p.name, .slice A1 p.vars.length k1, .slice A2 p.rules.length k2] 25)).alloc (.cells #[.slice A3 g.ids.length k3, .slice A4 g.ports.length k4] 29))
 have HL := Lib.hid hL
 have HGL := Lib.hid hG
 clear hL hG
 have hv10 := (lightP_parts HL.out).2.1
 by_cases hf : fitsF p g = 0
 ·have HF := Lib.hid hf
  have HE := Lib.hid (totalF_fits hf)
  obtain ⟨h1, h3, _⟩ := fits_zero hf
  have H1 := Lib.hid h1
  have H3 := Lib.hid h3
  have hle : (tableF p g).length ≤ 24 := by rw [tableF_length, h3.ids]; exact h3.le
  have HS := Lib.hid (table_small hf)
  have HM : Hid (∀ t ∈ tableF p g, t.length ≤ 10) := by
   intro t ht
   unfold tableF at ht
   obtain ⟨v, _, rfl⟩ := List.mem_map.1 ht
   simp [rowF]; exact hv10
  clear hf h1 h3
  go_enter Tryz.func33, Tryz.ntmps33
  go_wp2_with (first
   | (go_at_call 61; refine (fits_any _ p _ g _ (HPV.out _ (box2_bel HW)) (HGV.out _ (box2_bel HW)) HL.out HGL.out).mono ?_; rintro e w' ⟨rfl, hb⟩; rw [HF.out]; replace HW := HW.trans hb; clear hb; (try clear p0 p1 p2 g0 g1 gsz); obtain ⟨p0, p1, p2, g0, g1, gsz⟩ := pgbox HW)
   | (go_at_call 63; refine (table_any _ p _ g _ (HPV.out _ (box2_bel HW)) (HGV.out _ (box2_bel HW)) H1.out H3.out HGL.out).mono ?_; rintro e w' ⟨tv, rfl, htv, hb⟩; obtain ⟨AT, kt, rfl, hTR, _⟩ := (id htv : TableV _ _ _); replace HW := HW.trans hb; clear hb; (try clear p0 p1 p2 g0 g1 gsz); obtain ⟨p0, p1, p2, g0, g1, gsz⟩ := pgbox HW)
   | (go_at_call 62; refine (cntProg_any AT kt (tableF p g) _ hTR HS.out hle HM.out).mono ?_; rintro e w' ⟨rfl, hb⟩; replace HW := HW.trans hb; clear hb; (try clear p0 p1 p2 g0 g1 gsz); obtain ⟨p0, p1, p2, g0, g1, gsz⟩ := pgbox HW))
  go_ret2
  exact ⟨by rw [HE.out]; rfl, box2_bel HW⟩
 ·have hfb : (fitsF p g != 0) = true := by simpa using hf
  have HE : Hid (totalF p g = (0, fitsF p g)) := by show _ = _; unfold totalF; rw [if_pos (by simpa using hf)]
  clear hf
  go_enter Tryz.func33, Tryz.ntmps33
  go_wp2_with (go_at_call 61; refine (fits_any _ p _ g _ (HPV.out _ (box2_bel HW)) (HGV.out _ (box2_bel HW)) HL.out HGL.out).mono ?_; rintro e w' ⟨rfl, hb⟩; replace HW := HW.trans hb; clear hb; (try clear p0 p1 p2 g0 g1 gsz); obtain ⟨p0, p1, p2, g0, g1, gsz⟩ := pgbox HW)
  go_ret2
  exact ⟨by rw [HE.out]; rfl, box2_bel HW⟩

end Go.Proofs.YtgemlgpjbclonaaGreatDoor

/- A configuration of the call's own, its rows too. -/
namespace Go.Proofs.YtgemlgpjbclonaaGreatDoor
open Go.RowKit

def rowVals (n : Nat) (bs : List (Nat × Nat)) : List Value := bs.map fun b => Value.slice (some ⟨b.1, 0, none⟩) n b.2
theorem rowVals_get {n : Nat} {bs : List (Nat × Nat)} {u : Nat} {b : Nat × Nat} (h : bs[u]? = some b) : (rowVals n bs)[u]? = some (.slice (some ⟨b.1, 0, none⟩) n b.2) := by
 unfold rowVals; rw [List.getElem?_map, h]; rfl
/-- A configuration of the call's own, its rows too. -/
structure RowsC (w : World) (base : Nat) (B : Option Addr) (cap n : Nat) (d : Config) (bs : List (Nat × Nat)) : Prop where
 own : w.ownsRow base 26 1 (.slice B d.length cap) d.length (rowVals n bs)
 rows : ∀ (u : Nat) (x : List Int), d[u]? = some x → ∃ b, bs[u]? = some b ∧ w.ownsRow base 3 1 (.slice (some ⟨b.1, 0, none⟩) n b.2) n (x.map (Value.int .i64))
 apart : ∀ (u v : Nat) (a b : Nat × Nat), bs[u]? = some a → bs[v]? = some b → u ≠ v → a.1 ≠ b.1
theorem RowsC.nil (w : World) (base n : Nat) : RowsC w base none 0 n [] [] := ⟨World.ownsRow_nil _ _ _ _, fun u x h => by simp at h, fun u v a b h => by simp at h⟩
theorem RowsC.keep {w w' : World} {base cap n : Nat} {B : Option Addr} {d : Config} {bs : List (Nat × Nat)} (h : RowsC w base B cap n d bs) (k : Bel w w') : RowsC w' base B cap n d bs :=
 ⟨k.owns h.own, fun u x hx => by
  obtain ⟨b, h1, h2⟩ := h.rows u x hx
  exact ⟨b, h1, k.owns h2⟩, h.apart⟩
theorem RowsC.length {w : World} {base cap n : Nat} {B : Option Addr} {d : Config} {bs : List (Nat × Nat)} (h : RowsC w base B cap n d bs) : bs.length = d.length := by
 have := h.own.1
 unfold rowVals at this
 rw [List.length_map] at this
 omega
theorem RowsC.off {w : World} {base cap n m cap' g : Nat} {B : Option Addr} {d : Config} {bs : List (Nat × Nat)} (h : RowsC w base B cap n d bs) {l : List Value} (hr : w.ownsRow base 3 1 (.slice (some ⟨g, 0, none⟩) m cap') m l) : some g ≠ (Value.slice B d.length cap).ownBlock := by
 rcases own_other h.own hr (by decide) with e | e
 ·simp [Value.ownBlock] at e
 ·simpa [Value.ownBlock] using e
theorem RowsC.push {w w3 w' : World} {base cap n : Nat} {B : Option Addr} {d : Config} {bs : List (Nat × Nat)} (h : RowsC w base B cap n d bs) (hbase : base ≤ w.heap.size) {l : List Int} {g c : Nat} {m : Nat} (hm : d.length = m)
  (hN : w3.ownsRow w.heap.size 3 1 (.slice (some ⟨g, 0, none⟩) n c) n (l.map (Value.int .i64))) (hb : Bel w w3) {o : Obj}
  {B' : Option Addr} {cap' : Nat} (hown : w'.ownsRow base 26 1 (.slice B' (m + 1) cap') (m + 1) (rowVals n bs ++ [.slice (some ⟨g, 0, none⟩) n c])) (hgr : (w3.alloc o).grownBy w' (Value.slice B m cap).ownBlock) :
  RowsC w' base B' cap' n (d ++ [l]) (bs ++ [(g, c)]) := by
 subst hm
 have hk := h.keep hb
 have hlen := h.length
 have hg : Gr (Value.slice B d.length cap).ownBlock w3 w' := (Gr.of_bel ((Bel.refl w3).alloc o)).trans (Gr.grown hgr)
 have hN' := own_lower hN hbase
 have hgl := (own_base hN).1
 refine ⟨by rw [List.length_append]; unfold rowVals at *; rw [List.map_append]; exact hown, fun u x hx => ?_, fun u v a b ha hv huv => ?_⟩
 ·by_cases hu : u < d.length
  ·rw [List.getElem?_append_left hu] at hx
   obtain ⟨b, h1, h2⟩ := hk.rows u x hx
   exact ⟨b, by rw [List.getElem?_append_left (by omega)]; exact h1, own_gr h2 hg (hk.off h2)⟩
  ·have hul : u = d.length := by
    have := (List.getElem?_eq_some_iff.1 hx).1
    simp at this; omega
   subst hul
   rw [List.getElem?_append_right (Nat.le_refl _)] at hx
   obtain rfl : l = x := by simpa using hx
   exact ⟨(g, c), by rw [List.getElem?_append_right (by omega), hlen]; simp, own_gr hN' hg (hk.off hN')⟩
 ·have old : ∀ (u : Nat) (a : Nat × Nat), u < d.length → bs[u]? = some a → a.1 < w.heap.size := fun u a hu ha => by
   obtain ⟨b, h1, h2⟩ := h.rows u d[u] (List.getElem?_eq_getElem hu)
   rw [h1] at ha
   injection ha with ha
   subst ha
   exact own_lt h2
  have new : ∀ (u : Nat) (a : Nat × Nat), ¬ u < d.length → (bs ++ [(g, c)])[u]? = some a → u = d.length ∧ a = (g, c) := fun u a hu ha => by
   have h1 := (List.getElem?_eq_some_iff.1 ha).1
   simp at h1
   have h2 : u = d.length := by omega
   subst h2
   rw [List.getElem?_append_right (by omega), hlen] at ha
   exact ⟨rfl, by simpa using ha.symm⟩
  by_cases h1 : u < d.length
  ·rw [List.getElem?_append_left (by omega)] at ha
   by_cases h2 : v < d.length
   ·rw [List.getElem?_append_left (by omega)] at hv
    exact h.apart u v a b ha hv huv
   ·obtain ⟨_, rfl⟩ := new v b h2 hv
    have := old u a h1 ha
    show a.1 ≠ g
    omega
  ·obtain ⟨e1, rfl⟩ := new u a h1 ha
   by_cases h2 : v < d.length
   ·rw [List.getElem?_append_left (by omega)] at hv
    have := old v b h2 hv
    show g ≠ b.1
    omega
   ·obtain ⟨e2, _⟩ := new v b h2 hv
    omega
theorem RowsC.conf {w : World} {base cap n g : Nat} {d : Config} {bs : List (Nat × Nat)} (h : RowsC w base (some ⟨g, 0, none⟩) cap n d bs) : ConfV w (.slice (some ⟨g, 0, none⟩) d.length cap) d := by
 obtain ⟨h1, h2⟩ := own_cap h.own
 refine ⟨_, _, rfl, ⟨rfl, fun u x hx => ?_⟩, h1, h2⟩
 obtain ⟨b, k1, k2⟩ := h.rows u x hx
 obtain ⟨g', e1, _, hlt, hc, _⟩ := own_at h.own (rowVals_get k1)
 obtain rfl : g = g' := by simpa using e1
 obtain ⟨rfl, k3⟩ := own_newI k2
 exact ⟨g, 0, rfl, hlt, _, b.2, by rw [Nat.zero_add, Nat.mul_one]; exact hc, k3.1, k3.2.1, k3.2.2.1⟩
theorem RowsC.form {w : World} {base cap n : Nat} {B : Option Addr} {d : Config} {bs : List (Nat × Nat)} (h : RowsC w base B cap n d bs) (hd : 0 < d.length) : ∃ g, B = some ⟨g, 0, none⟩ := by
 obtain ⟨g, cap', hv, _⟩ := h.own.form hd
 injection hv with hA
 exact ⟨g, hA⟩
/-- One value of a row is another one. -/
theorem RowsC.put {w : World} {base cap n g : Nat} {d : Config} {bs : List (Nat × Nat)} (h : RowsC w base (some ⟨g, 0, none⟩) cap n d bs) {u : Nat} {b : Nat × Nat} {x : List Int} (hb : bs[u]? = some b) (hx : d[u]? = some x) (i : Nat) (y : Int) :
  RowsC (w.setCell ⟨b.1, i, none⟩ (.int .i64 y)) base (some ⟨g, 0, none⟩) cap n (d.set u (x.set i y)) bs := by
 have hFr : Fr b.1 w (w.setCell ⟨b.1, i, none⟩ (.int .i64 y)) := (Fr.refl b.1 w).set i _
 obtain ⟨b', h1, h2⟩ := h.rows u x hx
 rw [hb] at h1
 injection h1 with h1
 subst h1
 have hne := h.off h2
 refine ⟨by rw [List.length_set]; exact own_fr h.own hFr (fun e => hne (by rw [e]; rfl)), fun v z hz => ?_, h.apart⟩
 have hu : u < d.length := (List.getElem?_eq_some_iff.1 hx).1
 by_cases he : u = v
 ·subst he
  rw [List.getElem?_set_self hu] at hz
  injection hz with hz
  subst hz
  refine ⟨b, hb, ?_⟩
  rw [List.map_set]
  exact (h2.stored i _).1
 ·rw [List.getElem?_set_ne he] at hz
  obtain ⟨b2, k1, k2⟩ := h.rows v z hz
  exact ⟨b2, k1, own_fr k2 hFr (h.apart v u b2 b k1 hb (fun e => he e.symm))⟩

/-- A configuration of the call's own whose first rows are made. -/
structure BldC (w : World) (base gb n m : Nat) (d : Config) (bs : List (Nat × Nat)) : Prop where
 own : w.ownsRow base 26 1 (.slice (some ⟨gb, 0, none⟩) n n) n (rowVals m bs ++ List.replicate (n - d.length) (.slice none 0 0))
 rows : ∀ (u : Nat) (x : List Int), d[u]? = some x → ∃ b, bs[u]? = some b ∧ w.ownsRow base 3 1 (.slice (some ⟨b.1, 0, none⟩) m b.2) m (x.map (Value.int .i64))
 apart : ∀ (u v : Nat) (a b : Nat × Nat), bs[u]? = some a → bs[v]? = some b → u ≠ v → a.1 ≠ b.1
 len : bs.length = d.length
theorem BldC.keep {w w' : World} {base gb n m : Nat} {d : Config} {bs : List (Nat × Nat)} (h : BldC w base gb n m d bs) (k : Bel w w') : BldC w' base gb n m d bs :=
 ⟨k.owns h.own, fun u x hx => by
  obtain ⟨b, h1, h2⟩ := h.rows u x hx
  exact ⟨b, h1, k.owns h2⟩, h.apart, h.len⟩
theorem BldC.off {w : World} {base gb n m : Nat} {d : Config} {bs : List (Nat × Nat)} (h : BldC w base gb n m d bs) {m' g cap' : Nat} {l : List Value} (hr : w.ownsRow base 3 1 (.slice (some ⟨g, 0, none⟩) m' cap') m' l) : g ≠ gb := by
 rcases own_other h.own hr (by decide) with e | e
 ·simp [Value.ownBlock] at e
 ·simpa [Value.ownBlock] using e
theorem BldC.start {w : World} {base gb n m : Nat} (h : w.ownsRow base 26 1 (.slice (some ⟨gb, 0, none⟩) n n) n (List.replicate n (.slice none 0 0))) : BldC w base gb n m [] [] :=
 ⟨by simpa [rowVals] using h, fun u x hx => by simp at hx, fun u v a b ha => by simp at ha, rfl⟩
/-- A row more. -/
theorem BldC.push {w w1 : World} {base gb n m : Nat} {d : Config} {bs : List (Nat × Nat)} (h : BldC w base gb n m d bs) (hd : d.length < n) (hbase : base ≤ w.heap.size) (hb : Bel w w1) {gr c : Nat} {l : List Int}
  (hN : w1.ownsRow w.heap.size 3 1 (.slice (some ⟨gr, 0, none⟩) m c) m (l.map (Value.int .i64))) :
  BldC (w1.setCell ⟨gb, d.length, none⟩ (.slice (some ⟨gr, 0, none⟩) m c)) base gb n m (d ++ [l]) (bs ++ [(gr, c)]) := by
 have hk := h.keep hb
 have hlen := h.len
 have hN' := own_lower hN hbase
 have hgl := (own_base hN).1
 have hFr : Fr gb w1 (w1.setCell ⟨gb, d.length, none⟩ (.slice (some ⟨gr, 0, none⟩) m c)) := (Fr.refl gb w1).set _ _
 refine ⟨?_, fun u x hx => ?_, fun u v a b ha hv huv => ?_, by simp [hlen]⟩
 ·have h1 := (hk.own.stored d.length (.slice (some ⟨gr, 0, none⟩) m c)).1
  have e : (rowVals m bs ++ List.replicate (n - d.length) (Value.slice none 0 0)).set d.length (.slice (some ⟨gr, 0, none⟩) m c) = rowVals m (bs ++ [(gr, c)]) ++ List.replicate (n - (d ++ [l]).length) (.slice none 0 0) := by
   have hr : (rowVals m bs).length = d.length := by unfold rowVals; rw [List.length_map, hlen]
   rw [List.set_append_right _ _ (by omega), hr, Nat.sub_self, show n - d.length = (n - (d.length + 1)) + 1 by omega, List.replicate_succ, List.set_cons_zero]
   unfold rowVals
   rw [List.map_append, List.append_assoc, List.length_append]; rfl
  rw [e] at h1
  exact h1
 ·by_cases hu : u < d.length
  ·rw [List.getElem?_append_left hu] at hx
   obtain ⟨b, h1, h2⟩ := hk.rows u x hx
   exact ⟨b, by rw [List.getElem?_append_left (by omega)]; exact h1, own_fr h2 hFr (hk.off h2)⟩
  ·have hul : u = d.length := by
    have := (List.getElem?_eq_some_iff.1 hx).1
    simp at this; omega
   subst hul
   rw [List.getElem?_append_right (Nat.le_refl _)] at hx
   obtain rfl : l = x := by simpa using hx
   exact ⟨(gr, c), by rw [List.getElem?_append_right (by omega), hlen]; simp, own_fr hN' hFr (hk.off hN')⟩
 ·have old : ∀ (u : Nat) (a : Nat × Nat), u < d.length → bs[u]? = some a → a.1 < w.heap.size := fun u a hu ha => by
   obtain ⟨b, h1, h2⟩ := h.rows u d[u] (List.getElem?_eq_getElem hu)
   rw [h1] at ha
   injection ha with ha
   subst ha
   exact own_lt h2
  have new : ∀ (u : Nat) (a : Nat × Nat), ¬ u < d.length → (bs ++ [(gr, c)])[u]? = some a → u = d.length ∧ a = (gr, c) := fun u a hu ha => by
   have h1 := (List.getElem?_eq_some_iff.1 ha).1
   simp at h1
   have h2 : u = d.length := by omega
   subst h2
   rw [List.getElem?_append_right (by omega), hlen] at ha
   exact ⟨rfl, by simpa using ha.symm⟩
  by_cases h1 : u < d.length
  ·rw [List.getElem?_append_left (by omega)] at ha
   by_cases h2 : v < d.length
   ·rw [List.getElem?_append_left (by omega)] at hv
    exact h.apart u v a b ha hv huv
   ·obtain ⟨_, rfl⟩ := new v b h2 hv
    have := old u a h1 ha
    show a.1 ≠ gr
    omega
  ·obtain ⟨e1, rfl⟩ := new u a h1 ha
   by_cases h2 : v < d.length
   ·rw [List.getElem?_append_left (by omega)] at hv
    have := old v b h2 hv
    show gr ≠ b.1
    omega
   ·obtain ⟨e2, _⟩ := new v b h2 hv
    omega
theorem BldC.put {w : World} {base gb n m : Nat} {d : Config} {bs : List (Nat × Nat)} (h : BldC w base gb n m d bs) {u : Nat} {b : Nat × Nat} {x : List Int} (hb : bs[u]? = some b) (hx : d[u]? = some x) (i : Nat) (y : Int) :
  BldC (w.setCell ⟨b.1, i, none⟩ (.int .i64 y)) base gb n m (d.set u (x.set i y)) bs := by
 have hFr : Fr b.1 w (w.setCell ⟨b.1, i, none⟩ (.int .i64 y)) := (Fr.refl b.1 w).set i _
 obtain ⟨b', h1, h2⟩ := h.rows u x hx
 rw [hb] at h1
 injection h1 with h1
 subst h1
 have hne := h.off h2
 refine ⟨by rw [List.length_set]; exact own_fr h.own hFr (fun e => hne e.symm), fun v z hz => ?_, h.apart, by rw [List.length_set]; exact h.len⟩
 have hu : u < d.length := (List.getElem?_eq_some_iff.1 hx).1
 by_cases he : u = v
 ·subst he
  rw [List.getElem?_set_self hu] at hz
  injection hz with hz
  subst hz
  refine ⟨b, hb, ?_⟩
  rw [List.map_set]
  exact (h2.stored i _).1
 ·rw [List.getElem?_set_ne he] at hz
  obtain ⟨b2, k1, k2⟩ := h.rows v z hz
  exact ⟨b2, k1, own_fr k2 hFr (h.apart v u b2 b k1 hb (fun e => he e.symm))⟩
theorem BldC.done {w : World} {base gb n m : Nat} {d : Config} {bs : List (Nat × Nat)} (h : BldC w base gb n m d bs) (hd : d.length = n) : RowsC w base (some ⟨gb, 0, none⟩) n m d bs := by
 refine ⟨?_, h.rows, h.apart⟩
 have h1 := h.own
 rw [hd, Nat.sub_self, List.replicate_zero, List.append_nil] at h1
 rw [hd]; exact h1
theorem BldC.head {w : World} {base gb n m : Nat} {d : Config} {bs : List (Nat × Nat)} (h : BldC w base gb n m d bs) {u : Nat} {b : Nat × Nat} (hb : bs[u]? = some b) : w.cell? ⟨gb, u, none⟩ = some (.slice (some ⟨b.1, 0, none⟩) m b.2) := by
 have hu : u < bs.length := (List.getElem?_eq_some_iff.1 hb).1
 obtain ⟨g', e1, _, _, hc, _⟩ := own_at h.own (j := u) (u := .slice (some ⟨b.1, 0, none⟩) m b.2) (by
  rw [List.getElem?_append_left (by unfold rowVals; rw [List.length_map]; exact hu)]
  exact rowVals_get hb)
 obtain rfl : gb = g' := by simpa using e1
 exact hc
theorem BldC.free {w : World} {base gb n m : Nat} {d : Config} {bs : List (Nat × Nat)} (h : BldC w base gb n m d bs) (hd : d.length < n) : w.cell? ⟨gb, d.length, none⟩ = some (.slice none 0 0) := by
 obtain ⟨g', e1, _, _, hc, _⟩ := own_at h.own (j := d.length) (u := .slice none 0 0) (by
  have hr : (rowVals m bs).length = d.length := by unfold rowVals; rw [List.length_map, h.len]
  rw [List.getElem?_append_right (by omega), hr, Nat.sub_self, List.getElem?_replicate, if_pos (by omega)])
 obtain rfl : gb = g' := by simpa using e1
 exact hc
theorem RowsC.head {w : World} {base cap n g : Nat} {d : Config} {bs : List (Nat × Nat)} (h : RowsC w base (some ⟨g, 0, none⟩) cap n d bs) {u : Nat} {b : Nat × Nat} (hb : bs[u]? = some b) : w.cell? ⟨g, u, none⟩ = some (.slice (some ⟨b.1, 0, none⟩) n b.2) := by
 obtain ⟨g', e1, _, _, hc, _⟩ := own_at h.own (rowVals_get hb)
 obtain rfl : g = g' := by simpa using e1
 exact hc

end Go.Proofs.YtgemlgpjbclonaaGreatDoor

/- Contracts: a configuration out of the values of a function; the least configuration, the program's. -/
namespace Go.Proofs.YtgemlgpjbclonaaGreatDoor
open Go.RowKit

def bldF (n m : Nat) (val : Nat → Nat → Int) : Config := (List.range n).map fun v => (List.range m).map fun x => val v x
def rowP (m : Nat) (val : Nat → Int) (j : Nat) : List Int := (List.range m).map fun x => if x < j then val x else 0
theorem rowP_zero (m : Nat) (val : Nat → Int) : (rowP m val 0).map (Value.int .i64) = List.replicate m (.int .i64 0) := by
 apply List.ext_getElem
 ·simp [rowP]
 ·intro i h1 h2; simp [rowP]
theorem rowP_length (m : Nat) (val : Nat → Int) (j : Nat) : (rowP m val j).length = m := by simp [rowP]
theorem rowP_set (m : Nat) (val : Nat → Int) (j : Nat) : (rowP m val j).set j (val j) = rowP m val (j + 1) := by
 apply List.ext_getElem
 ·simp [rowP]
 ·intro i h1 h2
  rw [List.getElem_set]
  by_cases h : j = i
  ·subst h; rw [if_pos rfl]; simp [rowP]
  ·rw [if_neg h]
   simp only [rowP, List.getElem_map, List.getElem_range]
   by_cases hi : i < j
   ·rw [if_pos hi, if_pos (by omega)]
   ·rw [if_neg hi, if_neg (by omega)]
theorem rowP_full (m : Nat) (val : Nat → Int) : rowP m val m = (List.range m).map fun x => val x := by
 unfold rowP
 refine List.map_congr_left fun x hx => ?_
 rw [if_pos (List.mem_range.1 hx)]
theorem bldF_succ (n m : Nat) (val : Nat → Nat → Int) : bldF (n + 1) m val = bldF n m val ++ [(List.range m).map fun x => val n x] := by
 unfold bldF; rw [List.range_succ, List.map_append]; rfl
theorem bldF_length (n m : Nat) (val : Nat → Nat → Int) : (bldF n m val).length = n := by simp [bldF]

def RetRows (m : Nat) (d : Config) (w : World) (e : Ending) (w' : World) : Prop := ∃ gb cap bs, e = .returned (.slice (some ⟨gb, 0, none⟩) d.length cap) ∧ RowsC w' w.heap.size (some ⟨gb, 0, none⟩) cap m d bs ∧ Bel w w'
theorem rows_infoB : (Tryz.prog.info? 26).map (fun i => (i.zero, i.size, i.bytes)) = some (some (.slice none 0 0), 1, 24) := by kernel_rfl
set_option maxRecDepth 100000 in
set_option maxHeartbeats 4000000 in
theorem memBuild_any (f : FuncId) (caps : Array Value) (val : Nat → Nat → Int) (m : Nat) (A : Option Addr) (c : Nat) (T : List (List (Int × Int))) (w : World) (hT : TableR w A T.length T) (hm : ∀ t ∈ T, t.length = m) (hn : T.length ≤ 24) (hm10 : m ≤ 10)
  (hf : ∀ v x w', v < T.length → x < m → Bel w w' → Calls Tryz.prog f (#[.int .i64 (v : Int), .int .i64 (x : Int)] ++ caps) w' fun e w2 => e = .returned (.int .i64 (val v x)) ∧ w' = w2)
  (hcall : ∀ a b w', (callFunc f (#[a, b] ++ caps)).run Tryz.prog w' = .ok (.enter f (#[a, b] ++ caps)) w') :
  Calls Tryz.prog 66 #[.slice A T.length c, .func (.func f) #[] caps] w (RetRows m (bldF T.length m val) w) := by
 have HT := Lib.hid (fun w' (k : Bel w w') => hT.keep k)
 have HM := Lib.hid hm
 have HF := Lib.hid hf
 have HW := Bel.refl w
 obtain ⟨i0, hi0, hz0, hz1, hz2⟩ := info_parts rows_infoB
 obtain ⟨j0, hj0, hy0, hy1, hy2⟩ := info_parts int_info
 clear hT hm hf
 go_enter Tryz.func66, Tryz.ntmps66
 go_wp2_with (at_make; refine wpList_make _ rfl 50 (.tmp 9) (.tmp 9) rfl w.heap.size 26 i0 (.slice none 0 0) 1 Tryz.underlying50 hi0 hz0 hz1 .i64 .i64 T.length rfl rfl (by rw [hz2]; omega) (by unfold maxLen; omega) (Nat.le_refl _) ?_; intro gb w1 hown hb; have HW := hb; rw [made_one _ rfl] at hown; have HO := Lib.hid hown; clear hown hb)
 have HD : Hid (BldC w1 w.heap.size gb T.length m (bldF 0 m val) []) := BldC.start HO.out
 have hgb1 := (own_base HO.out).1
 clear HO
 go_loopg [6, 7, 13] T.length (fun k _x _y z wr => ∃ (v : Nat) (bs : List (Nat × Nat)), v ≤ T.length ∧ k = T.length - v ∧ z = .int .i64 v ∧ Hid (BldC wr w.heap.size gb T.length m (bldF v m val) bs) ∧ Bel w wr)
 case atStart => exact ⟨0, [], by omega, rfl, rfl, HD, HW⟩
 case round =>
  clear HW HD
  obtain ⟨wo, rfl⟩ : ∃ wo : World, wo = wr := ⟨_, rfl⟩
  obtain ⟨v, bs, hv, rfl, rfl, HD, HW⟩ := hrel
  by_cases hlt : v < T.length
  ·have hd0 : decide (v < T.length) = true := by simpa using hlt
   obtain ⟨b, o, R, rc, rfl, hb, hcell, _, _, _⟩ := (HT.out _ (Bel.refl w)).at_ v hlt
   rw [HM.out _ (List.getElem_mem hlt)] at hcell
   have HTC := Lib.hid (fun w' (k : Bel w w') => show w'.cell? ⟨b, o + v, none⟩ = some (.slice R m rc) ∧ b < w'.heap.size from ⟨(k.cell hb).trans hcell, Nat.lt_of_lt_of_le hb k.size⟩)
   clear hcell hb
   obtain ⟨hcell, hb⟩ := HTC.out _ HW
   have HLV := Lib.hid (bldF_length v m val)
   have hfz := HD.out.own.frozenAt v
   have hgl := (own_base HD.out.own).2
   go_wp2_with (at_make; refine wpList_make _ rfl 26 (.tmp 22) (.tmp 22) rfl wo.heap.size 3 j0 (.int .i64 0) 1 Tryz.underlying26 hj0 hy0 hy1 .i64 .i64 m rfl rfl (by rw [hy2]; omega) (by unfold maxLen; omega) (Nat.le_refl _) ?_; intro gr w1 hown hb1; rw [made_one _ rfl, ← rowP_zero m (val v)] at hown; have HP := Lib.hid (HD.out.push (by rw [HLV.out]; exact hlt) HW.size hb1 hown); rw [HLV.out] at HP; have hfz1 := (HD.out.keep hb1).own.frozenAt v; have hfr1 := (HD.out.keep hb1).free (by rw [HLV.out]; exact hlt); rw [HLV.out] at hfr1; have hgl1 := Nat.lt_of_lt_of_le hgl hb1.size; have HW1 := (HW.trans hb1).setCell (p := ⟨gb, v, none⟩) hgb1 (.slice (some ⟨gr, 0, none⟩) m m); have hgr := own_base hown; clear hown hb1 hcell hb hfz; obtain ⟨hcell, hb⟩ := HTC.out _ HW1)
   clear hgr hfz1 hfr1 hcell hb hgl1
   generalize hw2 : w1.setCell ⟨gb, v, none⟩ (.slice (some ⟨gr, 0, none⟩) m m) = w2 at *
   clear hw2
   go_loopg [7, 30] m (fun k _x z ws => ∃ j : Nat, j ≤ m ∧ k = m - j ∧ z = .int .i64 j ∧ Hid (BldC ws w.heap.size gb T.length m (bldF v m val ++ [rowP m (val v) j]) (bs ++ [(gr, m)])) ∧ Bel w ws)
   case atStart => exact ⟨0, by omega, rfl, rfl, HP, HW1⟩
   case round =>
    clear HP HW1 HD HW hgl
    obtain ⟨j, hj, rfl, rfl, HP, HW⟩ := hrel
    by_cases hlt2 : j < m
    ·have hd2 : decide (j < m) = true := by simpa using hlt2
     have hbl : bs.length = v := by
      have := HP.out.len
      simp [bldF_length] at this; exact this
     have hbg : (bs ++ [(gr, m)])[v]? = some (gr, m) := by rw [List.getElem?_append_right (by omega), hbl]; simp
     have hxg : (bldF v m val ++ [rowP m (val v) j])[v]? = some (rowP m (val v) j) := by rw [List.getElem?_append_right (by rw [bldF_length]; exact Nat.le_refl _), bldF_length]; simp
     have hhead := HP.out.head hbg
     obtain ⟨b', hb', hrow⟩ := HP.out.rows v _ hxg
     rw [hbg] at hb'
     injection hb' with hb'
     subst hb'
     have hfz := hrow.frozenAt j
     have hyj := own_cell0 hrow j (by simp [rowP_length]; exact hlt2)
     have hgrl := (own_base hrow).2
     have hgrb := (own_base hrow).1
     have hgbl := (own_base HP.out.own).2
     have hne : gb ≠ gr := Ne.symm (HP.out.off hrow)
     have HPUT : Hid (∀ y : Int, BldC (wr.setCell ⟨gr, j, none⟩ (.int .i64 y)) w.heap.size gb T.length m (bldF v m val ++ [(rowP m (val v) j).set j y]) (bs ++ [(gr, m)])) := fun y => by
      have := HP.out.put hbg hxg j y
      rw [List.set_append_right _ _ (by rw [bldF_length]; exact Nat.le_refl _), bldF_length, Nat.sub_self] at this
      exact this
     have HC := Lib.hid (HF.out v j wr.drew hlt hlt2 HW.drew)
     clear hbg hxg hrow
     go_wp2_with fail
     have HG := (Fr.refl gr wr).drew
     have hcell := Lib.hid (fun w' (kk : Fr gr wr w') => show w'.cell? ⟨gb, v, none⟩ = some (.slice (some ⟨gr, 0, none⟩) m m) ∧ gb < w'.heap.size ∧ gr < w'.heap.size from ⟨(kk.cell hgbl hne).trans hhead, Nat.lt_of_lt_of_le hgbl kk.1, Nat.lt_of_lt_of_le hgrl kk.1⟩)
     go_region_held3 (fun w' => w'.cell? ⟨gb, v, none⟩ = some (.slice (some ⟨gr, 0, none⟩) m m) ∧ gb < w'.heap.size ∧ gr < w'.heap.size) (first | exact hcell.out _ HG | exact hcell.out _ (HG.set _ _)) (first | (go_simp; refine HC.out.mono ?_; rintro e w4 ⟨rfl, rfl⟩))
     go_wp2_with fail
     go_roundg (m - (j + 1))
     case rel =>
      refine ⟨j + 1, by omega, rfl, by go_num, ?_, (HW.drew).setCell (by simpa using hgrb) _⟩
      have := HPUT.out (val v j)
      rw [rowP_set] at this
      exact this.keep (Bel.refl _).drew
     case measure => omega
    ·have hd2 : decide (j < m) = false := by simpa using hlt2
     obtain rfl : m = j := by omega
     go_wp2_with fail
     go_roundg (T.length - (v + 1))
     case rel =>
      refine ⟨v + 1, bs ++ [(gr, m)], by omega, rfl, by go_num, ?_, HW⟩
      have := HP.out
      rw [rowP_full, ← bldF_succ] at this
      exact this
     case measure => omega
  ·have hd0 : decide (v < T.length) = false := by simpa using hlt
   obtain rfl : v = T.length := by omega
   have HR := Lib.hid (HD.out.done (bldF_length _ _ _))
   go_wp2_with fail
   go_ret
   exact ⟨gb, T.length, bs, by rw [bldF_length]; rfl, HR.out, HW⟩

/-- What the least configuration reads. -/
def leastV (T : List (List (Int × Int))) (v x : Nat) : Int := ((T.getD v []).getD x (0, 0)).1
theorem leastV_at {T : List (List (Int × Int))} {v x : Nat} (hv : v < T.length) (hx : x < T[v].length) : leastV T v x = T[v][x].1 := by
 unfold leastV
 rw [List.getD_eq_getElem?_getD, List.getD_eq_getElem?_getD, List.getElem?_eq_getElem hv, Option.getD_some, List.getElem?_eq_getElem hx, Option.getD_some]
theorem bldF_least {T : List (List (Int × Int))} {m : Nat} (hm : ∀ t ∈ T, t.length = m) : bldF T.length m (leastV T) = leastN T := by
 apply List.ext_getElem
 ·simp [bldF, leastN]
 ·intro v h1 h2
  have hv : v < T.length := by simpa [bldF] using h1
  have hl := hm _ (List.getElem_mem hv)
  apply List.ext_getElem
  ·simp [bldF, leastN, leastL, hl]
  ·intro x h3 h4
   have hx : x < T[v].length := by simpa [bldF, hl] using h3
   simp [bldF, leastN, leastL, leastV_at hv hx]
set_option maxRecDepth 100000 in
theorem least1_any (B : Nat) (A : Option Addr) (c : Nat) (T : List (List (Int × Int))) (v x : Nat) (w : World) (hB : Boxed w B 77 (.slice A T.length c)) (hT : TableR w A T.length T) (hv : v < T.length) (hx : x < T[v].length) (_ : T.length ≤ 24) (_ : T[v].length ≤ 10) :
  Calls Tryz.prog 67 #[.int .i64 (v : Int), .int .i64 (x : Int), .pointer (some ⟨B, 0, none⟩)] w fun e w2 => e = .returned (.int .i64 (leastV T v x)) ∧ w = w2 := by
 obtain ⟨c1, f1, l1⟩ := boxed_cell0 hB
 obtain ⟨b, o, R, rc, rfl, hb, hcell, hR, _, _⟩ := hT.at_ v hv
 obtain ⟨b1, o1, rfl, hb1, k0, k1⟩ := hR.at_ x hx
 rw [leastV_at hv hx]
 clear hB hT hR
 go_enter Tryz.func67, Tryz.ntmps67
 go_wp2_with fail
 go_ret
 exact ⟨rfl, rfl⟩
def RetLeast (p : Prg) (g : Graph) (w : World) (e : Ending) (w' : World) : Prop :=
 ∃ gb cap bs, e = .returned (.tuple #[.slice (some ⟨gb, 0, none⟩) g.ports.length cap, .int .i64 0]) ∧ RowsC w' w.heap.size (some ⟨gb, 0, none⟩) cap p.vars.length (leastN (tableF p g)) bs ∧ Bel w w'
theorem RowsC.lower {w : World} {base base' cap n : Nat} {B : Option Addr} {d : Config} {bs : List (Nat × Nat)} (h : RowsC w base B cap n d bs) (hb : base' ≤ base) : RowsC w base' B cap n d bs :=
 ⟨own_lower h.own hb, fun u x hx => by
  obtain ⟨b, h1, h2⟩ := h.rows u x hx
  exact ⟨b, h1, own_lower h2 hb⟩, h.apart⟩
set_option maxRecDepth 100000 in
set_option maxHeartbeats 2000000 in
theorem memLeast_any (v1 : Value) (p : Prg) (v2 : Value) (g : Graph) (w : World) (h : PrgV w v1 p) (h2 : GraphV w v2 g) (hL : lightP p = true) (hG : lightG g = true) (hf : fitsF p g = 0) :
  Calls Tryz.prog 36 #[v1, v2] w (RetLeast p g w) := by
 have HPV := Lib.hid (fun w' (k : Bel w w') => h.keep k)
 have HGV := Lib.hid (fun w' (k : Bel w w') => h2.keep k)
 obtain ⟨A1, k1, A2, k2, rfl, _, _, _, _, _, _⟩ := h
 obtain ⟨A3, k3, A4, k4, rfl, _, _, _, _, _, _⟩ := h2
 have HW := Bel.refl ((w.alloc (.cells #[.string p.name, .slice A1 p.vars.length k1, .slice A2 p.rules.length k2] 25)).alloc (.cells #[.slice A3 g.ids.length k3, .slice A4 g.ports.length k4] 29))
 have HL := Lib.hid hL
 have HGL := Lib.hid hG
 clear hL hG
 have hv10 := (lightP_parts HL.out).2.1
 have HF := Lib.hid hf
 obtain ⟨h1, h3, _⟩ := fits_zero hf
 have H1 := Lib.hid h1
 have H3 := Lib.hid h3
 have hle : (tableF p g).length ≤ 24 := by rw [tableF_length, h3.ids]; exact h3.le
 have HTL : Hid ((tableF p g).length = g.ports.length) := by show _ = _; rw [tableF_length, h3.ids]
 have HM : Hid (∀ t ∈ tableF p g, t.length = p.vars.length) := by
  intro t ht
  unfold tableF at ht
  obtain ⟨v, _, rfl⟩ := List.mem_map.1 ht
  simp [rowF]
 clear hf h1 h3
 go_enter Tryz.func36, Tryz.ntmps36
 go_wp2_with (first
  | (go_at_call 61; refine (fits_any _ p _ g _ (HPV.out _ (box2_bel HW)) (HGV.out _ (box2_bel HW)) HL.out HGL.out).mono ?_; rintro e w' ⟨rfl, hb⟩; rw [HF.out]; replace HW := HW.trans hb; clear hb; (try clear p0 p1 p2 g0 g1 gsz); obtain ⟨p0, p1, p2, g0, g1, gsz⟩ := pgbox HW)
  | (go_at_call 63; refine (table_any _ p _ g _ (HPV.out _ (box2_bel HW)) (HGV.out _ (box2_bel HW)) H1.out H3.out HGL.out).mono ?_; rintro e w1 ⟨tv, rfl, htv, hb⟩; obtain ⟨AT, kt, rfl, hTR, _⟩ := (id htv : TableV _ _ _); have HTR := Lib.hid (fun w' (k : Bel w1 w') => TableR.keep hTR k); clear hTR htv; replace HW := HW.trans hb; clear hb; (try clear p0 p1 p2 g0 g1 gsz); obtain ⟨p0, p1, p2, g0, g1, gsz⟩ := pgbox HW)
  | (go_at_call 66; go_must (refine (memBuild_any 67 #[.pointer (some ⟨w1.heap.size, 0, none⟩)] (leastV (tableF p g)) p.vars.length AT kt (tableF p g) _ (HTR.out _ ((Bel.refl w1).alloc _)) HM.out hle hv10 (fun v x w' hv hx hk => least1_any w1.heap.size AT kt (tableF p g) v x w' (Blk.keep (Boxed.new w1 77 (.slice AT (tableF p g).length kt)) hk) (HTR.out _ (((Bel.refl w1).alloc _).trans hk)) hv (by rw [HM.out _ (List.getElem_mem hv)]; exact hx) hle (by rw [HM.out _ (List.getElem_mem hv)]; exact hv10)) (fun a b w' => enters_of Tryz.func67 (by kernel_rfl) rfl _ _)).mono ?_; rintro e w2 ⟨gb, cap, bs, rfl, hR, hb⟩; rw [bldF_least HM.out] at hR; have HR := Lib.hid (hR.lower (base' := w.heap.size) (by have := HW.size; simp at this ⊢; omega)); replace HW := HW.alloc (.cells #[.slice AT (tableF p g).length kt] 77); clear hR; replace HW := HW.trans hb; clear hb; (try clear p0 p1 p2 g0 g1 gsz); obtain ⟨p0, p1, p2, g0, g1, gsz⟩ := pgbox HW)))
 go_ret2
 exact ⟨gb, cap, bs, by rw [bldF_length, HTL.out]; rfl, HR.out, box2_bel HW⟩

end Go.Proofs.YtgemlgpjbclonaaGreatDoor

