/- Merged of: WDd WMa WMb W11d (see NOTES.md). -/
import Derived.Test.YtgemlgpjbclonaaGreatDoorZ16
import Derived.Test.YtgemlgpjbclonaaGreatDoorZ12
set_option linter.unusedSimpArgs false
set_option linter.unnecessarySimpa false
set_option linter.unusedVariables false

/- Contracts: Table. -/
namespace Go.Proofs.YtgemlgpjbclonaaGreatDoor
open Go.RowKit

/-- All blocks but one are as they were. -/
def Fr (g : Nat) (a b : World) : Prop := a.heap.size ≤ b.heap.size ∧ ∀ k, k < a.heap.size → k ≠ g → b.heap[k]? = a.heap[k]?
theorem Fr.refl (g : Nat) (a : World) : Fr g a a := ⟨Nat.le_refl _, fun _ _ _ => rfl⟩
theorem Fr.trans {g : Nat} {a b c : World} (h : Fr g a b) (k : Fr g b c) : Fr g a c := ⟨Nat.le_trans h.1 k.1, fun i hi hg => (k.2 i (Nat.lt_of_lt_of_le hi h.1) hg).trans (h.2 i hi hg)⟩
theorem Fr.of_bel {g : Nat} {a b : World} (h : Bel a b) : Fr g a b := ⟨h.size, fun k hk _ => h.block k hk⟩
theorem Fr.alloc {g : Nat} {a b : World} (h : Fr g a b) (o : Obj) : Fr g a (b.alloc o) := h.trans (Fr.of_bel ((Bel.refl b).alloc o))
theorem Fr.drew {g : Nat} {a b : World} (h : Fr g a b) : Fr g a b.drew := h
theorem Fr.drewN {g : Nat} {a b : World} (h : Fr g a b) (n : Nat) : Fr g a (b.drewN n) := h
theorem Fr.set {g : Nat} {a b : World} (h : Fr g a b) (o : Nat) (v : Value) : Fr g a (b.setCell ⟨g, o, none⟩ v) :=
 h.trans ⟨by simp, fun k hk hg => Below.heap_setCell _ _ _ _ hg⟩
theorem Fr.setNew {g : Nat} {a b : World} (h : Fr g a b) {p : Addr} (hp : a.heap.size ≤ p.block) (v : Value) : Fr g a (b.setCell p v) :=
 ⟨by have := h.1; simpa using this, fun k hk hg => (Below.heap_setCell _ _ _ _ (by omega)).trans (h.2 k hk hg)⟩
theorem Fr.cell {g : Nat} {a b : World} (h : Fr g a b) {k o : Nat} (hk : k < a.heap.size) (hg : k ≠ g) : b.cell? ⟨k, o, none⟩ = a.cell? ⟨k, o, none⟩ := by
 unfold World.cell?; rw [h.2 k hk hg]
/-- From a frame whose one block is new. -/
theorem Fr.newer {g g' : Nat} {a b c : World} (h : Fr g a b) (hg : a.heap.size ≤ g') (k : Fr g' b c) : Fr g a c :=
 ⟨Nat.le_trans h.1 k.1, fun i hi hne => (k.2 i (Nat.lt_of_lt_of_le hi h.1) (by omega)).trans (h.2 i hi hne)⟩

def PairAt (w : World) (b o : Nat) (x : Int × Int) : Prop := w.cell? ⟨b, o, none⟩ = some (.int .i64 x.1) ∧ w.cell? ⟨b, o + 1, none⟩ = some (.int .i64 x.2)
theorem PairAt.keeps : Keeps PairAt := fun _ _ _ _ _ k hb h => ⟨(k.cell hb).trans h.1, (k.cell hb).trans h.2⟩
def PairsR := SliceR 2 PairAt
def TableR := SliceR 1 (RowAt 2 PairAt)
theorem TableR.keep {w w' : World} {A : Option Addr} {n : Nat} {xs : List (List (Int × Int))} (h : TableR w A n xs) (k : Bel w w') : TableR w' A n xs := SliceR.keep (RowAt.keeps PairAt.keeps) h k
theorem PairsR.keep {w w' : World} {A : Option Addr} {n : Nat} {xs : List (Int × Int)} (h : PairsR w A n xs) (k : Bel w w') : PairsR w' A n xs := SliceR.keep PairAt.keeps h k
theorem TableR.at_ {w : World} {A : Option Addr} {n : Nat} {xs : List (List (Int × Int))} (h : TableR w A n xs) (k : Nat) (hk : k < xs.length) :
  ∃ b o R c, A = some ⟨b, o, none⟩ ∧ b < w.heap.size ∧ w.cell? ⟨b, o + k, none⟩ = some (.slice R xs[k].length c) ∧ PairsR w R xs[k].length xs[k] ∧ xs[k].length ≤ c ∧ c ≤ maxLen := RowsAt.at_ h k hk
theorem PairsR.at_ {w : World} {A : Option Addr} {n : Nat} {xs : List (Int × Int)} (h : PairsR w A n xs) (k : Nat) (hk : k < xs.length) :
  ∃ b o, A = some ⟨b, o, none⟩ ∧ b < w.heap.size ∧ w.cell? ⟨b, o + k * 2, none⟩ = some (.int .i64 xs[k].1) ∧ w.cell? ⟨b, o + k * 2 + 1, none⟩ = some (.int .i64 xs[k].2) := SliceR.at_ h k hk
def TableV (w : World) (v : Value) (t : List (List (Int × Int))) : Prop := ∃ A c, v = .slice A t.length c ∧ TableR w A t.length t ∧ t.length ≤ c ∧ c ≤ maxLen
theorem TableV.keep {w w' : World} {v : Value} {t : List (List (Int × Int))} (h : TableV w v t) (k : Bel w w') : TableV w' v t := by
 obtain ⟨A, c, e, h1, h2⟩ := h
 exact ⟨A, c, e, h1.keep k, h2⟩

def rowF (p : Prg) (g : Graph) (v : Nat) : List (Int × Int) := p.vars.map fun x => boundsF x g v
def tableF (p : Prg) (g : Graph) : List (List (Int × Int)) := (List.range g.ids.length).map (rowF p g)
def RetTable (t : List (List (Int × Int))) (w : World) (e : Ending) (w' : World) : Prop := ∃ v, e = .returned v ∧ TableV w' v t ∧ Bel w w'

/-- The rows that are done. -/
def RowsDone (w : World) (m gb v : Nat) (hs : List Value) (t : List (List (Int × Int))) : Prop :=
 ∀ u, u < v → ∃ gu, hs[u]? = some (.slice (some ⟨gu, 0, none⟩) m m) ∧ gu ≠ gb ∧ gu < w.heap.size ∧ ∀ x i, (t.getD u [])[i]? = some x → PairAt w gu (i * 2) x
theorem RowsDone.kept {w w' : World} {m gb v : Nat} {hs : List Value} {t : List (List (Int × Int))} (h : RowsDone w m gb v hs t) (hf : Fr gb w w') : RowsDone w' m gb v hs t := fun u hu => by
 obtain ⟨gu, h1, h2, h3, h4⟩ := h u hu
 exact ⟨gu, h1, h2, Nat.lt_of_lt_of_le h3 hf.1, fun x i hx => ⟨(hf.cell h3 h2).trans (h4 x i hx).1, (hf.cell h3 h2).trans (h4 x i hx).2⟩⟩

theorem own_fr {w w' : World} {base : Nat} {e : TypeId} {size gb n c g : Nat} {xs : List Value} (h : w.ownsRow base e size (.slice (some ⟨gb, 0, none⟩) n c) n xs) (hf : Fr g w w') (hne : gb ≠ g) : w'.ownsRow base e size (.slice (some ⟨gb, 0, none⟩) n c) n xs := by
 refine ⟨h.1, ?_⟩
 rcases h.2 with ⟨hv, _⟩ | ⟨g', cap, cur, hv, hb, hg, hr⟩
 ·cases hv
 ·right
  refine ⟨g', cap, cur, hv, hb, ?_, hr⟩
  injection hv with hA; injection hA with hA; injection hA with hA; subst hA
  rw [hf.2 gb (lt_of_block hg) hne]; exact hg
theorem own_cell0 {w : World} {base : Nat} {e : TypeId} {g n c : Nat} {xs : List Value} (h : w.ownsRow base e 1 (.slice (some ⟨g, 0, none⟩) n c) n xs) (j : Nat) (hj : j < xs.length) : w.cell? ⟨g, j, none⟩ = some xs[j] := by
 obtain ⟨g', e1, _, _, h1, _⟩ := own_at h (List.getElem?_eq_getElem hj)
 obtain rfl : g = g' := by simpa using e1
 exact h1
def fillT (l : List Term) (k : Nat) : List Term := l.take k ++ List.replicate (l.length - k) ⟨0, 0⟩
theorem fillT_zero (l : List Term) : fillT l 0 = List.replicate l.length ⟨0, 0⟩ := by simp [fillT]
theorem fillT_full (l : List Term) (k : Nat) (h : l.length ≤ k) : fillT l k = l := by simp [fillT, List.take_of_length_le h, show l.length - k = 0 by omega]
theorem fillT_length (l : List Term) (k : Nat) : (fillT l k).length = l.length := by simp [fillT]; omega
theorem fillT_get (l : List Term) (k : Nat) (h : k < l.length) : (fillT l k)[k]? = some ⟨0, 0⟩ := by
 unfold fillT
 rw [List.getElem?_append_right (by simp; omega)]
 rw [List.length_take, Nat.min_eq_left (Nat.le_of_lt h), Nat.sub_self, List.getElem?_replicate, if_pos (by omega)]
theorem fillT_succ (l : List Term) (k : Nat) (h : k < l.length) : (fillT l k).set k l[k] = fillT l (k + 1) := by
 unfold fillT
 rw [List.set_append_right _ _ (by simp; omega), List.length_take, Nat.min_eq_left (Nat.le_of_lt h), Nat.sub_self, show l.length - k = (l.length - (k + 1)) + 1 by omega, List.replicate_succ, List.set_cons_zero]
 conv => rhs; rw [List.take_succ_eq_append_getElem h, List.append_assoc]
 rfl
theorem termCells_set2 (es : List Term) (k : Nat) (t : Term) (h : k < es.length) : ((es.flatMap termCells).set (k * 2) (.int .i64 t.op)).set (k * 2 + 1) (.int .i64 t.arg) = (es.set k t).flatMap termCells := by
 induction es generalizing k with
 | nil => simp at h
 | cons x es ih =>
  cases k with
  | zero => simp [termCells]
  | succ k =>
   have := ih k (by simpa using h)
   rw [show (k + 1) * 2 + 1 = (k * 2 + 1) + 1 + 1 by omega, show (k + 1) * 2 = k * 2 + 1 + 1 by omega]
   simpa [termCells] using this
theorem zeros_cells (m : Nat) : (List.replicate m (⟨0, 0⟩ : Term)).flatMap termCells = List.replicate (m * 2) (.int .i64 0) := by
 induction m with
 | zero => rfl
 | succ m ih => rw [List.replicate_succ, List.flatMap_cons, ih, show (m + 1) * 2 = m * 2 + 1 + 1 by omega, List.replicate_succ, List.replicate_succ]; rfl
theorem made_pair (m : Nat) : (madeCells (Value.agg #[.int .i64 0, .int .i64 0]).cells (m * 2)).toList = (List.replicate m (⟨0, 0⟩ : Term)).flatMap termCells := by
 rw [zeros_cells, List.eq_replicate_iff]
 refine ⟨by simp [madeCells], fun b hb => ?_⟩
 simp [madeCells, Value.cells] at hb
 obtain ⟨i, hi, rfl⟩ := hb
 rcases Nat.mod_two_eq_zero_or_one i with h | h <;> simp [h]

theorem hdr_info : (Tryz.prog.info? 118).map (fun i => (i.zero, i.size, i.bytes)) = some (some (.slice none 0 0), 1, 24) := by kernel_rfl
theorem pair_info : (Tryz.prog.info? 119).map (fun i => (i.zero, i.size, i.bytes)) = some (some (.agg #[.int .i64 0, .int .i64 0]), 2, 16) := by kernel_rfl

set_option maxRecDepth 100000 in
set_option maxHeartbeats 4000000 in
theorem table_any (v : Value) (p : Prg) (v2 : Value) (g : Graph) (w : World) (h : PrgV w v p) (h2 : GraphV w v2 g) (hc : checkF p = 0) (hg : GOK g) (hG : lightG g = true) :
  Calls Tryz.prog 63 #[v, v2] w (RetTable (tableF p g) w) := by
 have HGV := Lib.hid (fun w' (k : Bel w w') => h2.keep k)
 obtain ⟨A, k, A2, k2, rfl, hV, _, _, _, _, _⟩ := h
 obtain ⟨A3, k3, A4, k4, rfl, _, _, _, _, _, _⟩ := h2
 have HV := Lib.hid (fun w' (k : Bel w w') => VarsR.keep hV k); clear hV
 obtain ⟨cn, c1, c6, _⟩ := check_numbers hc
 have HCN := Lib.hid cn
 have HGO := Lib.hid hg
 have HGL := Lib.hid hG
 have hn : g.ids.length ≤ 24 := by rw [hg.ids]; exact hg.le
 obtain ⟨i0, hi0, hz0, hz1, hz2⟩ := info_parts hdr_info
 obtain ⟨j0, hj0, hy0, hy1, hy2⟩ := info_parts pair_info
 have HT : Hid (∀ u, u < g.ids.length → (tableF p g).getD u [] = rowF p g u) := fun u hu => by
  unfold tableF; simp [List.getD_eq_getElem?_getD, hu]
 clear cn hc hg hG
 go_enter Tryz.func63, Tryz.ntmps63
 go_wp2_with (at_make; refine wpList_make _ rfl 77 (.tmp 11) (.tmp 11) rfl (w.heap.size + 1 + 1) 118 i0 (.slice none 0 0) 1 Tryz.underlying77 hi0 hz0 hz1 .i64 .i64 g.ids.length rfl rfl (by rw [hz2]; omega) (by unfold maxLen; omega) (by simp) ?_; intro gb w1 hown hb; have HW := hb; rw [made_one _ rfl] at hown; have HO := Lib.hid hown; clear hown hb)
 obtain ⟨hgb1, hgb2⟩ := own_base HO.out
 obtain ⟨p0, p1, p2, g0, g1, gsz⟩ := pgbox HW
 go_wp2
 clear p0 p1 p2 g0 g1 gsz
 go_loopg [6, 7, 8, 15] g.ids.length (fun m _x _y _u z wr => ∃ (v : Nat) (hs : List Value), v ≤ g.ids.length ∧ m = g.ids.length - v ∧ z = .int .i64 v ∧ Hid (wr.ownsRow (w.heap.size + 1 + 1) 118 1 (.slice (some ⟨gb, 0, none⟩) g.ids.length g.ids.length) g.ids.length hs) ∧ Hid (RowsDone wr p.vars.length gb v hs (tableF p g)) ∧ Bel ((w.alloc (.cells #[.string p.name, .slice A p.vars.length k, .slice A2 p.rules.length k2] 25)).alloc (.cells #[.slice A3 g.ids.length k3, .slice A4 g.ports.length k4] 29)) wr)
 case atStart => exact ⟨0, _, by omega, rfl, rfl, HO, fun u hu => absurd hu (by omega), HW⟩
 case round =>
  clear HO HW hgb2
  obtain ⟨wo, rfl⟩ : ∃ wo : World, wo = wr := ⟨_, rfl⟩
  obtain ⟨v, hs, hv, rfl, rfl, HO, HD, HW⟩ := hrel
  by_cases hlt : v < g.ids.length
  ·have hd0 : decide (v < g.ids.length) = true := by simpa using hlt
   obtain ⟨p0, p1, p2, g0, g1, gsz⟩ := pgbox HW
   have hwo : w.heap.size + 1 < wo.heap.size := gsz
   have hsl : hs.length = g.ids.length := by have := HO.out.1; omega
   have hfr0 := Fr.refl gb wo
   have hvp : v < g.ports.length := by rw [← HGO.out.ids]; exact hlt
   obtain ⟨row, hrow⟩ : ∃ row : List Term, row = (rowF p g v).map (fun x => (⟨x.1, x.2⟩ : Term)) := ⟨_, rfl⟩
   have hrl : row.length = p.vars.length := by rw [hrow]; simp [rowF]
   have HROW := Lib.hid hrow
   have HRL := Lib.hid hrl
   clear hrow hrl
   go_wp2_with (at_make; refine wpList_make _ rfl 118 (.tmp 22) (.tmp 22) rfl wo.heap.size 119 j0 (.agg #[.int .i64 0, .int .i64 0]) 2 Tryz.underlying118 hj0 hy0 hy1 .i64 .i64 p.vars.length rfl rfl (by rw [hy2]; omega) (by unfold maxLen; omega) (Nat.le_refl _) ?_; intro gr w1 hown hb; rw [made_pair] at hown; have HR := Lib.hid hown; have HB1 := Lib.hid hb; have HO1 := Lib.hid (hb.owns HO.out); have y1 := own_cell0 HO1.out v (by omega); have y2 := HO1.out.frozenAt v; have ygb := (own_base HO1.out).2; have hgr := own_base hown; have HW1 := (HW.trans hb).setCell (p := ⟨gb, v, none⟩) (by simp; omega) (.slice (some ⟨gr, 0, none⟩) p.vars.length p.vars.length); clear p0 p1 p2 g0 g1 gsz; obtain ⟨p0, p1, p2, g0, g1, gsz⟩ := pgbox HW1; clear hown hb)
   have HO2 := Lib.hid (HO1.out.stored v (.slice (some ⟨gr, 0, none⟩) p.vars.length p.vars.length)).1
   have hne : gb ≠ gr := by have := (own_base HO.out).2; omega
   have HF1 := ((Fr.of_bel (g := gb) HB1.out).set v (.slice (some ⟨gr, 0, none⟩) p.vars.length p.vars.length))
   have HR2 := Lib.hid (own_fr HR.out ((Fr.refl gb w1).set v (.slice (some ⟨gr, 0, none⟩) p.vars.length p.vars.length)) (Ne.symm hne))
   have hgr0 := (own_base HR.out).1
   clear HO1 HR HB1 y1 y2 ygb hgr p0 p1 p2 g0 g1 gsz hd0
   generalize hw2 : w1.setCell ⟨gb, v, none⟩ (.slice (some ⟨gr, 0, none⟩) p.vars.length p.vars.length) = w2 at *
   clear hw2
   go_loopg [7, 8, 28] p.vars.length (fun m _x _y z ws => ∃ j : Nat, j ≤ p.vars.length ∧ m = p.vars.length - j ∧ z = .int .i64 j ∧ Hid (ws.ownsRow wo.heap.size 119 2 (.slice (some ⟨gr, 0, none⟩) p.vars.length p.vars.length) p.vars.length ((fillT row j).flatMap termCells)) ∧ Hid (ws.ownsRow (w.heap.size + 1 + 1) 118 1 (.slice (some ⟨gb, 0, none⟩) g.ids.length g.ids.length) g.ids.length (hs.set v (.slice (some ⟨gr, 0, none⟩) p.vars.length p.vars.length))) ∧ Fr gb wo ws ∧ Bel ((w.alloc (.cells #[.string p.name, .slice A p.vars.length k, .slice A2 p.rules.length k2] 25)).alloc (.cells #[.slice A3 g.ids.length k3, .slice A4 g.ports.length k4] 29)) ws)
   case atStart =>
    refine ⟨0, by omega, rfl, rfl, ?_, HO2, HF1, HW1⟩
    show World.ownsRow _ _ _ _ _ _ _
    rw [fillT_zero, HRL.out]; exact HR2.out
   case round =>
    clear HO2 HF1 HW1 HR2 HW
    obtain ⟨j, hj, rfl, rfl, HR, HO2, HF, HW⟩ := hrel
    by_cases hlt2 : j < p.vars.length
    ·have hd0 : decide (j < p.vars.length) = true := by simpa using hlt2
     obtain ⟨p0, p1, p2, g0, g1, gsz⟩ := pgbox HW
     obtain ⟨b, o, rfl, hb, c0, c1', c2, c3, c4, c5⟩ := (HV.out _ (box2_bel HW)).at_ j hlt2
     have HNX := Lib.hid (List.all_eq_true.1 HCN.out _ (List.getElem_mem hlt2))
     have hrj : row[j]'(by rw [HRL.out]; exact hlt2) = ⟨(boundsF p.vars[j] g v).1, (boundsF p.vars[j] g v).2⟩ := by
      have := HROW.out
      subst this
      simp [rowF]
     have HRJ := Lib.hid hrj; clear hrj
     have hhd : wr.cell? ⟨gb, v, none⟩ = some (.slice (some ⟨gr, 0, none⟩) p.vars.length p.vars.length) := by
      have := own_cell0 HO2.out v (by simp; omega)
      simpa using this
     have hgbl := (own_base HO2.out).2
     have hgrl := (own_base HR.out).2
     have HW1 := HW.alloc (.cells #[.string p.vars[j].name, .int .i64 p.vars[j].kind, .int .i64 p.vars[j].lo, .int .i64 p.vars[j].hi, .int .i64 p.vars[j].perNode, .int .i64 p.vars[j].perID] 85)
     have HG := (Fr.refl gr (wr.alloc (.cells #[.string p.vars[j].name, .int .i64 p.vars[j].kind, .int .i64 p.vars[j].lo, .int .i64 p.vars[j].hi, .int .i64 p.vars[j].perNode, .int .i64 p.vars[j].perID] 85))).drew
     have HR1 := Lib.hid (HR.out.alloc (.cells #[.string p.vars[j].name, .int .i64 p.vars[j].kind, .int .i64 p.vars[j].lo, .int .i64 p.vars[j].hi, .int .i64 p.vars[j].perNode, .int .i64 p.vars[j].perID] 85)).drew
     have hcell := Lib.hid (fun w' (kk : Fr gr (wr.alloc (.cells #[.string p.vars[j].name, .int .i64 p.vars[j].kind, .int .i64 p.vars[j].lo, .int .i64 p.vars[j].hi, .int .i64 p.vars[j].perNode, .int .i64 p.vars[j].perID] 85)) w') => by
      have hB := (Bel.refl wr).alloc (.cells #[.string p.vars[j].name, .int .i64 p.vars[j].kind, .int .i64 p.vars[j].lo, .int .i64 p.vars[j].hi, .int .i64 p.vars[j].perNode, .int .i64 p.vars[j].perID] 85)
      have hbx := Blk.new wr #[.string p.vars[j].name, .int .i64 p.vars[j].kind, .int .i64 p.vars[j].lo, .int .i64 p.vars[j].hi, .int .i64 p.vars[j].perNode, .int .i64 p.vars[j].perID] 85
      have hsz := kk.1
      simp only [World.size_alloc] at hsz
      have hn1 : wr.heap.size ≠ gr := by omega
      have hn2 : w.heap.size + 1 ≠ gr := by omega
      exact show w'.cell? ⟨gb, v, none⟩ = some (.slice (some ⟨gr, 0, none⟩) p.vars.length p.vars.length) ∧ w'.cell? ⟨wr.heap.size, 0, none⟩ = some (.string p.vars[j].name) ∧ w'.cell? ⟨wr.heap.size, 1, none⟩ = some (.int .i64 p.vars[j].kind) ∧ w'.cell? ⟨wr.heap.size, 2, none⟩ = some (.int .i64 p.vars[j].lo) ∧ w'.cell? ⟨wr.heap.size, 3, none⟩ = some (.int .i64 p.vars[j].hi) ∧ w'.cell? ⟨wr.heap.size, 4, none⟩ = some (.int .i64 p.vars[j].perNode) ∧ w'.cell? ⟨wr.heap.size, 5, none⟩ = some (.int .i64 p.vars[j].perID) ∧ w'.cell? ⟨w.heap.size + 1, 0, none⟩ = some (.slice A3 g.ids.length k3) ∧ w'.cell? ⟨w.heap.size + 1, 1, none⟩ = some (.slice A4 g.ports.length k4) ∧ gb < w'.heap.size ∧ wr.heap.size < w'.heap.size ∧ w.heap.size + 1 < w'.heap.size ∧ gr < w'.heap.size from
       ⟨(kk.cell (by simp; omega) hne).trans ((hB.cell hgbl).trans hhd), (kk.cell (by simp) hn1).trans (hbx.cell 0 rfl), (kk.cell (by simp) hn1).trans (hbx.cell 1 rfl), (kk.cell (by simp) hn1).trans (hbx.cell 2 rfl), (kk.cell (by simp) hn1).trans (hbx.cell 3 rfl), (kk.cell (by simp) hn1).trans (hbx.cell 4 rfl), (kk.cell (by simp) hn1).trans (hbx.cell 5 rfl), (kk.cell (by simp; omega) hn2).trans ((hB.cell (by omega)).trans g0), (kk.cell (by simp; omega) hn2).trans ((hB.cell (by omega)).trans g1), by omega, by omega, by omega, by omega⟩)
     have hfg := fillT_get row j (by rw [HRL.out]; exact hlt2)
     obtain ⟨f1, f2⟩ := termCells_at _ j _ hfg
     have HF1' := Lib.hid f1
     have HF2' := Lib.hid f2
     have hjm : j * 2 < p.vars.length * 2 := by omega
     have hdv : decide (v < g.ids.length) = true := by simpa using hlt
     clear hfg f1 f2
     go_wp2_with fail
     replace HW1 := HW1.drew
     go_region_held3 (fun w' => w'.cell? ⟨gb, v, none⟩ = some (.slice (some ⟨gr, 0, none⟩) p.vars.length p.vars.length) ∧ w'.cell? ⟨wr.heap.size, 0, none⟩ = some (.string p.vars[j].name) ∧ w'.cell? ⟨wr.heap.size, 1, none⟩ = some (.int .i64 p.vars[j].kind) ∧ w'.cell? ⟨wr.heap.size, 2, none⟩ = some (.int .i64 p.vars[j].lo) ∧ w'.cell? ⟨wr.heap.size, 3, none⟩ = some (.int .i64 p.vars[j].hi) ∧ w'.cell? ⟨wr.heap.size, 4, none⟩ = some (.int .i64 p.vars[j].perNode) ∧ w'.cell? ⟨wr.heap.size, 5, none⟩ = some (.int .i64 p.vars[j].perID) ∧ w'.cell? ⟨w.heap.size + 1, 0, none⟩ = some (.slice A3 g.ids.length k3) ∧ w'.cell? ⟨w.heap.size + 1, 1, none⟩ = some (.slice A4 g.ports.length k4) ∧ gb < w'.heap.size ∧ wr.heap.size < w'.heap.size ∧ w.heap.size + 1 < w'.heap.size ∧ gr < w'.heap.size)
      (first | exact hcell.out _ HG | exact hcell.out _ (HG.set _ _) | exact hcell.out _ ((HG.set _ _).set _ _))
      (first | (go_simp; go_at_call 86; refine (bounds_any p.vars[j] _ g v _ (HGV.out _ (box2_bel HW1)) HNX.out HGO.out hvp HGL.out).mono ?_; rintro e w4 ⟨rfl, hbb⟩; replace HW1 := HW1.trans hbb; replace HG := HG.trans (Fr.of_bel hbb); replace HR1 := Lib.hid (hbb.owns HR1.out); clear hbb; have y1 := (own_at HR1.out HF1'.out); have y2 := (own_at HR1.out HF2'.out); obtain ⟨q1, e1, _, _, y1, z1⟩ := y1; obtain ⟨q2, e2, _, _, y2, z2⟩ := y2; obtain rfl : gr = q1 := (by simpa using e1); obtain rfl : gr = q2 := (by simpa using e2); clear e1 e2))
     go_wp2_with fail
     go_roundg (p.vars.length - (j + 1))
     case rel =>
      have hst := ((HR1.out.stored (j * 2) (.int .i64 (boundsF p.vars[j] g v).1)).1.stored (j * 2 + 1) (.int .i64 (boundsF p.vars[j] g v).2)).1
      have e2 := termCells_set2 (fillT row j) j (row[j]'(by rw [HRL.out]; exact hlt2)) (by rw [fillT_length, HRL.out]; exact hlt2)
      rw [fillT_succ _ _ (by rw [HRL.out]; exact hlt2), HRJ.out] at e2
      rw [e2] at hst
      refine ⟨j + 1, by omega, rfl, by go_num, hst, ?_, ?_, ?_⟩
      ·exact own_fr (HO2.out.alloc _) ((HG.set _ _).set _ _) hne
      ·exact (HF.alloc _).newer hgr0 ((HG.set _ _).set _ _)
      ·exact (HW1.setCell (by simp; omega) _).setCell (by simp; omega) _
     case measure => omega
    ·have hd0 : decide (j < p.vars.length) = false := by simpa using hlt2
     obtain rfl : j = p.vars.length := by omega
     go_wp2_with fail
     go_roundg (g.ids.length - (v + 1))
     case rel =>
      refine ⟨v + 1, _, by omega, rfl, by go_num, HO2, ?_, HW⟩
      intro u hu
      rcases Nat.lt_or_ge u v with h | h
      ·obtain ⟨gu, h1, h2, h3, h4⟩ := (HD.out.kept HF) u h
       exact ⟨gu, by rw [List.getElem?_set_ne (by omega)]; exact h1, h2, h3, h4⟩
      ·obtain rfl : u = v := by omega
       refine ⟨gr, by rw [List.getElem?_set_self (by omega)], Ne.symm hne, (own_base HR.out).2, fun x i hx => ?_⟩
       have hR := HR.out
       rw [fillT_full _ _ (by rw [HRL.out]; exact Nat.le_refl _)] at hR
       rw [HT.out _ hlt] at hx
       obtain ⟨f1, f2⟩ := termCells_at row i ⟨x.1, x.2⟩ (by rw [HROW.out, List.getElem?_map, hx]; rfl)
       obtain ⟨q1, e1, _, _, y1, _⟩ := own_at hR f1
       obtain ⟨q2, e2, _, _, y2, _⟩ := own_at hR f2
       obtain rfl : gr = q1 := by simpa using e1
       obtain rfl : gr = q2 := by simpa using e2
       exact ⟨y1, y2⟩
     case measure => omega
  ·have hd0 : decide (v < g.ids.length) = false := by simpa using hlt
   go_wp2_with fail
   go_ret
   have hl : (tableF p g).length = g.ids.length := by simp [tableF]
   refine ⟨_, rfl, ⟨some ⟨gb, 0, none⟩, g.ids.length, by rw [hl]; rfl, ⟨rfl, fun u x hx => ?_⟩, by omega, by unfold maxLen; omega⟩, box2_bel HW⟩
   have hu : u < g.ids.length := by have := (List.getElem?_eq_some_iff.1 hx).1; omega
   obtain ⟨gu, h1, h2, h3, h4⟩ := HD.out u (by omega)
   obtain ⟨g', e1, _, hlt', hcell, _⟩ := own_at HO.out h1
   obtain rfl : gb = g' := by simpa using e1
   have hrow : (tableF p g).getD u [] = x := by rw [List.getD_eq_getElem?_getD, hx]; rfl
   have hxl : x.length = p.vars.length := by rw [← hrow, HT.out u hu]; simp [rowF]
   refine ⟨gb, 0, rfl, hlt', some ⟨gu, 0, none⟩, p.vars.length, ?_, ⟨rfl, fun i y hy => ⟨gu, 0, rfl, h3, ?_⟩⟩, by omega, by unfold maxLen; omega⟩
   ·rw [hxl, Nat.zero_add, Nat.mul_one]; exact hcell
   ·have := h4 y i (by rw [hrow]; exact hy)
    rwa [Nat.zero_add]

end Go.Proofs.YtgemlgpjbclonaaGreatDoor

/- Contracts: State, within, Check and Valid of configurations. -/
namespace Go.Proofs.YtgemlgpjbclonaaGreatDoor
open Go.RowKit

def stateB (row : List (Int × Int)) (s : List Int) : Bool := decide (s.length = row.length) && (List.range s.length).all fun i => decide ((row.getD i (0, 0)).1 ≤ s.getD i 0 ∧ s.getD i 0 ≤ (row.getD i (0, 0)).2)
def confB (t : List (List (Int × Int))) (c : Config) : Bool := decide (c.length = t.length) && (List.range c.length).all fun v => stateB (t.getD v []) (c.getD v [])
def memF (p : Prg) (g : Graph) (c : Config) : Int := if fitsF p g ≠ 0 then fitsF p g else if confB (tableF p g) c = false then 10 else 0

theorem stateB_iff {row : List (Int × Int)} {s : List Int} : stateB row s = true ↔ s.length = row.length ∧ ∀ i, (h1 : i < s.length) → (h2 : i < row.length) → row[i].1 ≤ s[i] ∧ s[i] ≤ row[i].2 := by
 unfold stateB
 simp only [Bool.and_eq_true, decide_eq_true_eq, List.all_eq_true, List.mem_range]
 constructor
 ·rintro ⟨h1, h2⟩
  refine ⟨h1, fun i a b => ?_⟩
  have := h2 i a
  rwa [getD_eq a, getD_eq b] at this
 ·rintro ⟨h1, h2⟩
  refine ⟨h1, fun i a => ?_⟩
  have := h2 i a (by omega)
  rwa [getD_eq a, getD_eq (by omega)]
theorem confB_iff {t : List (List (Int × Int))} {c : Config} : confB t c = true ↔ c.length = t.length ∧ ∀ v, (h1 : v < c.length) → (h2 : v < t.length) → stateB t[v] c[v] = true := by
 unfold confB
 simp only [Bool.and_eq_true, decide_eq_true_eq, List.all_eq_true, List.mem_range]
 constructor
 ·rintro ⟨h1, h2⟩
  refine ⟨h1, fun i a b => ?_⟩
  have := h2 i a
  rwa [getD_eq a, getD_eq b] at this
 ·rintro ⟨h1, h2⟩
  refine ⟨h1, fun i a => ?_⟩
  have := h2 i a (by omega)
  rwa [getD_eq a, getD_eq (by omega)]
theorem confB_false {t : List (List (Int × Int))} {c : Config} (h : ¬ (c.length = t.length ∧ ∀ v, (h1 : v < c.length) → (h2 : v < t.length) → stateB t[v] c[v] = true)) : confB t c = false := by
 rw [Bool.eq_false_iff]; intro hb; exact h (confB_iff.1 hb)
theorem nat_bne {a b : Nat} (h : a ≠ b) : (a != b) = true ∧ ((a : Int) != (b : Int)) = true := ⟨by simpa using h, by simp; omega⟩
theorem lightC_parts {c : Config} (h : lightC c = true) : c.length ≤ 30 ∧ ∀ r ∈ c, r.length ≤ 10 := by
 unfold lightC at h
 simp at h
 exact h



theorem fits_zero {p : Prg} {g : Graph} (h : fitsF p g = 0) : checkF p = 0 ∧ GOK g ∧ p.vars.all (fitsVar g) = true := by
 unfold fitsF at h
 split at h
 ·cases h
 ·rename_i h1
  split at h
  ·cases h
  ·rename_i h2
   split at h
   ·cases h
   ·rename_i h3
    exact ⟨by simpa using h1, (graphB_iff g).1 (by simpa using h2), by simpa using h3⟩



end Go.Proofs.YtgemlgpjbclonaaGreatDoor

/- Contracts: the reference's Check and Valid of configurations. -/
namespace Go.Proofs.YtgemlgpjbclonaaGreatDoor
open Go.RowKit

theorem tableF_length (p : Prg) (g : Graph) : (tableF p g).length = g.ids.length := by simp [tableF]
theorem tableF_at {p : Prg} {g : Graph} {v : Nat} (h : v < (tableF p g).length) : (tableF p g)[v] = rowF p g v := by simp [tableF]
theorem rowF_length (p : Prg) (g : Graph) (v : Nat) : (rowF p g v).length = p.vars.length := by simp [rowF]
theorem rowF_at {p : Prg} {g : Graph} {v i : Nat} (h : i < (rowF p g v).length) : (rowF p g v)[i] = boundsF (p.vars[i]'(by rw [rowF_length] at h; exact h)) g v := by simp [rowF]

set_option maxRecDepth 100000 in
set_option maxHeartbeats 4000000 in
theorem refMemCheck_any (v : Value) (p : Prg) (v2 : Value) (g : Graph) (v3 : Value) (c : Config) (w : World) (h : PrgV w v p) (h2 : GraphV w v2 g) (h3 : ConfV w v3 c) (hL : lightP p = true) (hG : lightG g = true) (hC : lightC c = true) :
  Calls Tryz.prog 52 #[v, v2, v3] w fun e w' => e = .returned (.int .i64 (memF p g c)) ∧ Bel w w' := by
 have HPV := Lib.hid (fun w' (k : Bel w w') => h.keep k)
 have HGV := Lib.hid (fun w' (k : Bel w w') => h2.keep k)
 obtain ⟨A, k, A2, k2, rfl, _, _, _, _, _, _⟩ := h
 obtain ⟨A3, k3, A4, k4, rfl, _, _, _, _, _, _⟩ := h2
 obtain ⟨A5, k5, rfl, hCR, _, _⟩ := h3
 have HCR := Lib.hid (fun w' (k : Bel w w') => RowsR.keep hCR k); clear hCR
 have HL := Lib.hid hL
 have HGL := Lib.hid hG
 obtain ⟨l1, l2⟩ := lightC_parts hC
 have HL2 := Lib.hid l2
 clear hL hG hC l2
 have HW := Bel.refl ((w.alloc (.cells #[.string p.name, .slice A p.vars.length k, .slice A2 p.rules.length k2] 25)).alloc (.cells #[.slice A3 g.ids.length k3, .slice A4 g.ports.length k4] 29))
 by_cases hf : fitsF p g = 0
 ·obtain ⟨f1, f2, _⟩ := fits_zero hf
  have HF1 := Lib.hid (check_numbers f1)
  have HF2 := Lib.hid f2
  have HFZ := Lib.hid hf
  have HM : Hid (memF p g c = if confB (tableF p g) c = false then 10 else 0) := by show memF p g c = _; unfold memF; rw [if_neg (by simpa using hf)]
  have HTL : Hid ((tableF p g).length = g.ports.length) := by show (tableF p g).length = _; rw [tableF_length, f2.ids]
  clear hf f1 f2
  have hv6 := HF1.out.2.2.1
  by_cases hn : c.length = g.ports.length
  ·have hb : (c.length != c.length) = false := by simp
   have HN := Lib.hid hn
   rw [← hn] at HGV HW ⊢
   clear hn
   go_enter Tryz.func52, Tryz.ntmps52
   go_wp2_with (go_at_call 43; refine (refFits_any _ p _ g _ (HPV.out _ (box2_bel HW)) (HGV.out _ (box2_bel HW)) HL.out HGL.out).mono ?_; rintro e w' ⟨rfl, hb⟩; rw [HFZ.out]; replace HW := HW.trans hb; clear hb; obtain ⟨p0, p1, p2, g0, g1, gsz⟩ := pgbox HW)
   clear hb p0 p1 p2 g0 g1 gsz
   go_loopg [8, 9, 10, 11] c.length (fun m z _y _x _u wr => ∃ j : Nat, j ≤ c.length ∧ m = c.length - j ∧ z = .int .i64 j ∧ Hid (∀ i, i < j → (h1 : i < c.length) → stateB (rowF p g i) c[i] = true) ∧ Bel ((w.alloc (.cells #[.string p.name, .slice A p.vars.length k, .slice A2 p.rules.length k2] 25)).alloc (.cells #[.slice A3 g.ids.length k3, .slice A4 c.length k4] 29)) wr)
   case atStart => exact ⟨0, by omega, rfl, rfl, fun i hi => absurd hi (by omega), HW⟩
   case round =>
    clear HW
    obtain ⟨v, hv, rfl, rfl, HJ, HW⟩ := hrel
    obtain ⟨p0, p1, p2, g0, g1, gsz⟩ := pgbox HW
    by_cases hlt : v < c.length
    ·have hd0 : decide (v < c.length) = true := by simpa using hlt
     have hvp : v < g.ports.length := by rw [← HN.out]; exact hlt
     obtain ⟨b, o, R, rc, rfl, hb, hc, hI, _, _⟩ := (HCR.out _ (box2_bel HW)).at_ v hlt
     have hrl := HL2.out _ (List.getElem_mem hlt)
     by_cases hnl : c[v].length = p.vars.length
     ·have hb1 : (c[v].length != p.vars.length) = false := by simpa using hnl
      have hb2 : ((c[v].length : Int) != (p.vars.length : Int)) = false := by simp; omega
      have HNL := Lib.hid hnl
      clear hnl
      go_wp2_with fail
      go_quiet (fail)
      go_wp2_with fail
      clear hb1 hb2 p0 p1 p2 g0 g1 gsz hd0 hb hc hI
      go_loopg [9, 10, 11] c[v].length (fun m z _y _x ws => ∃ j : Nat, j ≤ c[v].length ∧ m = c[v].length - j ∧ z = .int .i64 j ∧ Hid (∀ i, i < j → (h1 : i < c[v].length) → (h2 : i < (rowF p g v).length) → (rowF p g v)[i].1 ≤ c[v][i] ∧ c[v][i] ≤ (rowF p g v)[i].2) ∧ Bel ((w.alloc (.cells #[.string p.name, .slice A p.vars.length k, .slice A2 p.rules.length k2] 25)).alloc (.cells #[.slice A3 g.ids.length k3, .slice A4 c.length k4] 29)) ws)
      case atStart => exact ⟨0, by omega, rfl, rfl, fun i hi => absurd hi (by omega), HW.drewN _⟩
      case round =>
       clear HW
       obtain ⟨j, hj, rfl, rfl, HQ, HW⟩ := hrel
       obtain ⟨p0, p1, p2, g0, g1, gsz⟩ := pgbox HW
       obtain ⟨b', o', R', rc', e', hb, hc, hI, _, _⟩ := (HCR.out _ (box2_bel HW)).at_ v hlt
       obtain ⟨rfl, rfl⟩ : b = b' ∧ o = o' := by simpa using e'
       clear e'
       by_cases hlt2 : j < c[v].length
       ·have hd0 : decide (j < c[v].length) = true := by simpa using hlt2
        have hjv : j < p.vars.length := by rw [← HNL.out]; exact hlt2
        have hjr : j < (rowF p g v).length := by rw [rowF_length]; exact hjv
        have HRE := Lib.hid (rowF_at hjr)
        have HNX := Lib.hid (List.all_eq_true.1 HF1.out.1 _ (List.getElem_mem hjv))
        have hdv : decide (v < c.length) = true := by simpa using hlt
        go_wp2_with fail
        refine (ends_any _ p _ g v j _ (HPV.out _ (box2_bel HW)) (HGV.out _ (box2_bel HW)) hjv HNX.out HF2.out hvp HGL.out).mono ?_
        rintro e w' ⟨rfl, hbe⟩
        rw [← HRE.out]
        replace HW := HW.trans hbe
        clear hbe p0 p1 p2 g0 g1 gsz hb hc hI
        obtain ⟨p0, p1, p2, g0, g1, gsz⟩ := pgbox HW
        obtain ⟨b', o', R2, rc2, e', hb, hc, hI, _, _⟩ := (HCR.out _ (box2_bel HW)).at_ v hlt
        obtain ⟨rfl, rfl⟩ : b = b' ∧ o = o' := by simpa using e'
        clear e'
        obtain ⟨b3, o3, rfl, hb3, hc3⟩ := hI.at_ j hlt2
        by_cases hin : (rowF p g v)[j].1 ≤ c[v][j] ∧ c[v][j] ≤ (rowF p g v)[j].2
        ·have d1 : inB c[v][j] (rowF p g v)[j].1 (rowF p g v)[j].2 = true := inB_true hin.1 hin.2
         have HIN := Lib.hid hin; clear hin
         go_wp2_with (go_at_call 45; refine (in01_any _ _ _ _).mono ?_; rintro e w' ⟨rfl, rfl⟩)
         go_roundg (c[v].length - (j + 1))
         case rel =>
          refine ⟨j + 1, by omega, rfl, by go_num, ?_, HW⟩
          intro i hi a1 a2
          rcases Nat.lt_or_ge i j with h | h
          ·exact HQ.out i h a1 a2
          ·obtain rfl : i = j := by omega
           exact HIN.out
         case measure => omega
        ·have d1 : inB c[v][j] (rowF p g v)[j].1 (rowF p g v)[j].2 = false := inB_false (by omega)
         have HCF : Hid (confB (tableF p g) c = false) := confB_false fun hh => by
          have h3 := hh.2 v hlt (by rw [HTL.out]; exact hvp)
          rw [tableF_at] at h3
          exact hin ((stateB_iff.1 h3).2 j hlt2 hjr)
         rw [HCF.out, if_pos rfl] at HM
         clear hin
         go_wp2_with (go_at_call 45; refine (in01_any _ _ _ _).mono ?_; rintro e w' ⟨rfl, rfl⟩)
         go_ret
         exact ⟨ret_int HM.out.symm, box2_bel HW⟩
       ·have hd0 : decide (j < c[v].length) = false := by simpa using hlt2
        have hdv : decide (v < c.length) = true := by simpa using hlt
        go_wp2_with fail
        go_roundg (c.length - (v + 1))
        case rel =>
         refine ⟨v + 1, by omega, rfl, by go_num, ?_, HW⟩
         intro i hi a1
         rcases Nat.lt_or_ge i v with h | h
         ·exact HJ.out i h a1
         ·obtain rfl : i = v := by omega
          rw [stateB_iff]
          exact ⟨by rw [rowF_length, HNL.out], fun q b1 b2 => HQ.out q (by omega) b1 b2⟩
        case measure => omega
     ·obtain ⟨n1, n2⟩ := nat_bne hnl
      have HCF : Hid (confB (tableF p g) c = false) := confB_false fun hh => by
       have h3 := hh.2 v hlt (by rw [HTL.out]; exact hvp)
       rw [tableF_at] at h3
       have := (stateB_iff.1 h3).1
       rw [rowF_length] at this
       exact hnl this
      rw [HCF.out, if_pos rfl] at HM
      clear hnl
      go_wp2_with fail
      go_quiet (fail)
      go_wp2_with fail
      go_ret
      exact ⟨ret_int HM.out.symm, (box2_bel HW).drewN _⟩
    ·have hd0 : decide (v < c.length) = false := by simpa using hlt
     have HCF : Hid (confB (tableF p g) c = true) := by
      show confB (tableF p g) c = true
      rw [confB_iff]
      refine ⟨by rw [HTL.out, HN.out], fun i a1 a2 => ?_⟩
      rw [tableF_at]
      exact HJ.out i (by omega) a1
     rw [HCF.out, if_neg (by decide)] at HM
     go_wp2_with fail
     go_ret
     exact ⟨ret_int HM.out.symm, box2_bel HW⟩
  ·obtain ⟨n1, n2⟩ := nat_bne hn
   have HCF : Hid (confB (tableF p g) c = false) := confB_false fun hh => hn (by rw [hh.1, HTL.out])
   rw [HCF.out, if_pos rfl] at HM
   clear hn
   go_enter Tryz.func52, Tryz.ntmps52
   go_wp2_with (go_at_call 43; refine (refFits_any _ p _ g _ (HPV.out _ (box2_bel HW)) (HGV.out _ (box2_bel HW)) HL.out HGL.out).mono ?_; rintro e w' ⟨rfl, hb⟩; rw [HFZ.out]; replace HW := HW.trans hb; clear hb; obtain ⟨p0, p1, p2, g0, g1, gsz⟩ := pgbox HW)
   go_ret
   exact ⟨ret_int HM.out.symm, box2_bel HW⟩
 ·have HM : Hid (memF p g c = fitsF p g) := by show memF p g c = _; unfold memF; rw [if_pos hf]
  have hfb : (fitsF p g != 0) = true := by simpa using hf
  go_enter Tryz.func52, Tryz.ntmps52
  go_wp2_with (go_at_call 43; refine (refFits_any _ p _ g _ (HPV.out _ (box2_bel HW)) (HGV.out _ (box2_bel HW)) HL.out HGL.out).mono ?_; rintro e w' ⟨rfl, hb⟩; replace HW := HW.trans hb; clear hb)
  go_ret
  exact ⟨ret_int HM.out.symm, box2_bel HW⟩

theorem refMemValid_any (v : Value) (p : Prg) (v2 : Value) (g : Graph) (v3 : Value) (c : Config) (w : World) (h : PrgV w v p) (h2 : GraphV w v2 g) (h3 : ConfV w v3 c) (hL : lightP p = true) (hG : lightG g = true) (hC : lightC c = true) :
  Calls Tryz.prog 48 #[v, v2, v3] w fun e w' => e = .returned (.bool (decide (memF p g c = 0))) ∧ Bel w w' := by
 have HPV := Lib.hid (fun w' (k : Bel w w') => h.keep k)
 have HGV := Lib.hid (fun w' (k : Bel w w') => h2.keep k)
 have HCV := Lib.hid (fun w' (k : Bel w w') => h3.keep k)
 obtain ⟨A, k, A2, k2, rfl, _, _, _, _, _, _⟩ := h
 obtain ⟨A3, k3, A4, k4, rfl, _, _, _, _, _, _⟩ := h2
 obtain ⟨A5, k5, rfl, _, _, _⟩ := h3
 have HW := Bel.refl ((w.alloc (.cells #[.string p.name, .slice A p.vars.length k, .slice A2 p.rules.length k2] 25)).alloc (.cells #[.slice A3 g.ids.length k3, .slice A4 g.ports.length k4] 29))
 go_enter Tryz.func48, Tryz.ntmps48
 go_wp2_with (go_at_call 52; refine (refMemCheck_any _ p _ g _ c _ (HPV.out _ (box2_bel HW)) (HGV.out _ (box2_bel HW)) (HCV.out _ (box2_bel HW)) hL hG hC).mono ?_; rintro e w' ⟨rfl, hb⟩; replace HW := HW.trans hb; clear hb)
 go_ret
 exact ⟨ret_bool (by rw [Bool.eq_iff_iff]; simp), box2_bel HW⟩

end Go.Proofs.YtgemlgpjbclonaaGreatDoor

/- Contracts of the reference's fold, and of Fold of both. -/
namespace Go.Proofs.YtgemlgpjbclonaaGreatDoor
open Go.RowKit

/-- What the reference's loop has gathered, and what is still to come. -/
structure Gathered (l : List Int) (k : Nat) (yes first least great second sum : Int) : Prop where
 yes : yes + countF (l.drop k) = countF l
 first : (first < 0 → first = -1 ∧ firstGo (l.drop k) k = firstGo l 0) ∧ (0 ≤ first → first = firstGo l 0)
 least : (l.drop k).foldl min least = minF l
 two : twoGo (l.drop k) great second = twoF l
 ord : second ≤ great
 sum : (l.drop k).foldl (· + ·) sum = sumF l

theorem gathered_zero (l : List Int) : Gathered l 0 0 (-1) 1073741824 (-1073741824) (-1073741824) 0 :=
 ⟨by simp, ⟨fun _ => ⟨rfl, rfl⟩, fun h => by omega⟩, rfl, rfl, by omega, rfl⟩

theorem gathered_succ {l : List Int} {k : Nat} {yes first least great second sum : Int} (h : Gathered l k yes first least great second sum) (hk : k < l.length) :
  Gathered l (k + 1) (if l[k] = 0 then yes else yes + 1) (if l[k] ≠ 0 ∧ first < 0 then (k : Int) else first) (min least l[k]) (max great l[k]) (max second (min great l[k])) (sum + l[k]) := by
 have hd := List.drop_eq_getElem_cons hk
 obtain ⟨h1, ⟨h2a, h2b⟩, h3, h4, h5, h6⟩ := h
 rw [hd] at h1 h3 h4 h6
 rw [countF_cons] at h1
 refine ⟨?_, ?_, ?_, ?_, ?_, ?_⟩
 ·split <;> simp_all <;> omega
 ·constructor
  ·intro hf
   split at hf
   ·omega
   ·rename_i hc
    rw [if_neg hc]
    obtain ⟨e1, e2⟩ := h2a hf
    refine ⟨e1, ?_⟩
    rw [hd] at e2
    simp only [firstGo] at e2
    rw [if_neg (by intro h0; exact hc ⟨h0, hf⟩)] at e2
    exact e2
  ·intro hf
   split
   ·rename_i hc
    obtain ⟨e1, e2⟩ := h2a hc.2
    rw [hd] at e2
    simp only [firstGo] at e2
    rw [if_pos hc.1] at e2
    exact e2
   ·rename_i hc
    rw [if_neg hc] at hf
    exact h2b hf
 ·rw [List.foldl_cons] at h3; exact h3
 ·simp only [twoGo] at h4
  by_cases hg : great < l[k]
  ·rw [if_pos hg] at h4
   rw [show max great l[k] = l[k] by omega, show max second (min great l[k]) = great by omega]
   exact h4
  ·rw [if_neg hg] at h4
   rw [show max great l[k] = great by omega, show max second (min great l[k]) = max second l[k] by omega]
   exact h4
 ·omega
 ·rw [List.foldl_cons] at h6; exact h6

set_option maxRecDepth 100000 in
set_option maxHeartbeats 1000000 in
theorem refFold_any (A : Option Addr) (n c : Nat) (l : List Int) (op : Int) (w : World) (h : IntsR w A n l) (hl : n ≤ 1000) (h1 : 20 ≤ op) (h2 : op ≤ 29) (hn : ∀ x ∈ l, Num x) :
  Calls Tryz.prog 103 #[.int .i64 op, .slice A n c] w fun e w' => e = .returned (.int .i64 (foldF op l)) ∧ w = w' := by
 obtain rfl := h.1
 have H := Lib.hid h; clear h
 have HN := Lib.hid hn; clear hn
 have HC : Hid (op = 20 ∨ op = 21 ∨ op = 22 ∨ op = 23 ∨ op = 24 ∨ op = 25 ∨ op = 26 ∨ op = 27 ∨ op = 28 ∨ op = 29) := by show _ ∨ _; omega
 clear h1 h2
 go_enter Tryz.func103, Tryz.ntmps103
 go_wp2_with fail
 go_loopg [5, 6, 7, 8, 9, 10, 11] l.length (fun g yv fv lv gv sv mv iv wr => ∃ (k : Nat) (yes first least great second sum : Int), k + g = l.length ∧ 0 ≤ yes ∧ yes ≤ k ∧ -(1073741824 * k) ≤ sum ∧ sum ≤ 1073741824 * k ∧ Hid (Gathered l k yes first least great second sum) ∧
  yv = .int .i64 yes ∧ fv = .int .i64 first ∧ lv = .int .i64 least ∧ gv = .int .i64 great ∧ sv = .int .i64 second ∧ mv = .int .i64 sum ∧ iv = .int .i64 k ∧ w = wr)
 case atStart => exact ⟨0, 0, -1, _, _, _, 0, by omega, by omega, by omega, by omega, by omega, gathered_zero l, rfl, rfl, rfl, rfl, rfl, rfl, rfl, rfl⟩
 case round =>
  obtain ⟨k, yes, first, least, great, second, sum, hk, hy1, hy2, hs1, hs2, HG, rfl, rfl, rfl, rfl, rfl, rfl, rfl, rfl⟩ := hrel
  by_cases hlt : k < l.length
  ·obtain ⟨b, o, rfl, hb, hc⟩ := H.out.at_ k hlt
   have HS := Lib.hid (gathered_succ HG.out hlt)
   have hx := HN.out l[k] (List.getElem_mem _)
   unfold Num at hx
   obtain ⟨hx1, hx2⟩ := hx
   generalize l[k] = x at *
   obtain ⟨m1, hm1, hm1'⟩ := ite_min least x
   obtain ⟨m2, hm2, hm2'⟩ := ite_min great x
   obtain ⟨m3, hm3, hm3'⟩ := ite_max second m2
   obtain ⟨m4, hm4, hm4'⟩ := ite_max great x
   have HS2 := HS.out
   rw [← hm1', ← hm2', ← hm3', ← hm4'] at HS2
   have HS3 := Lib.hid HS2; clear HS2 HS hm1' hm2' hm3' hm4'
   by_cases h0 : x = 0
   ·have hz : (x != 0) = false := by simpa using h0
    have HS4 : Hid (Gathered l (k + 1) yes first m1 m4 m3 (sum + x)) := by
     have := HS3.out
     rw [if_pos h0, if_neg (by simp [h0])] at this
     exact this
    clear h0
    go_wp2_with fail
    go_roundg (gk - 1)
    case rel => exact ⟨k + 1, yes, first, m1, m4, m3, sum + x, by omega, by omega, by omega, by omega, by omega, HS4, rfl, rfl, rfl, rfl, rfl, rfl, by go_num, rfl⟩
    case measure => omega
   ·have hz : (x != 0) = true := by simpa using h0
    by_cases hf : first < 0
    ·have hfd : decide (first < 0) = true := by simpa using hf
     have HS4 : Hid (Gathered l (k + 1) (yes + 1) k m1 m4 m3 (sum + x)) := by
      have := HS3.out
      rw [if_neg h0, if_pos ⟨h0, hf⟩] at this
      exact this
     clear h0 hf
     go_wp2_with fail
     go_roundg (gk - 1)
     case rel => exact ⟨k + 1, yes + 1, k, m1, m4, m3, sum + x, by omega, by omega, by omega, by omega, by omega, HS4, rfl, rfl, rfl, rfl, rfl, rfl, by go_num, rfl⟩
     case measure => omega
    ·have hfd : decide (first < 0) = false := by simpa using hf
     have HS4 : Hid (Gathered l (k + 1) (yes + 1) first m1 m4 m3 (sum + x)) := by
      have := HS3.out
      rw [if_neg h0, if_neg (fun h => hf h.2)] at this
      exact this
     clear h0 hf
     go_wp2_with fail
     go_roundg (gk - 1)
     case rel => exact ⟨k + 1, yes + 1, first, m1, m4, m3, sum + x, by omega, by omega, by omega, by omega, by omega, HS4, rfl, rfl, rfl, rfl, rfl, rfl, by go_num, rfl⟩
     case measure => omega
  ·obtain ⟨g1, ⟨g2a, g2b⟩, g3, g4, g5, g6⟩ := HG.out
   rw [List.drop_eq_nil_of_le (by omega)] at g1 g2a g3 g4 g6
   have e1 : yes = countF l := by simpa [countF] using g1
   have e2 : first = firstGo l 0 := by
    by_cases hf : first < 0
    ·obtain ⟨a, b⟩ := g2a hf; rw [a, ← b]; rfl
    ·exact g2b (by omega)
   have e3 : least = minF l := g3
   have e4 : twoF l = (great, second) := g4.symm
   have e5 : sum = sumF l := g6
   clear g1 g2a g2b g3 g4 g5 g6 HG
   have E1 := Lib.hid e1; have E2 := Lib.hid e2; have E3 := Lib.hid e3; have E4 := Lib.hid e4; have E5 := Lib.hid e5
   clear e1 e2 e3 e4 e5
   have hcl := cntGe_le l 0
   rcases HC.out with h | h | h | h | h | h | h | h | h | h
   case inr.inr.inr.inr.inr.inr.inr.inl =>
    subst h
    go_wp2_with fail
    go_loopg [12] (cntGe l 0) (fun g rv wr => ∃ (q : Int), 0 ≤ q ∧ q + g = cntGe l 0 ∧ cntGe l q ≤ g ∧ Hid (mexGo l g q = mexF l) ∧ rv = .int .i64 q ∧ w = wr)
    case atStart => exact ⟨0, by omega, by omega, Nat.le_refl _, rfl, rfl, rfl⟩
    case round =>
     obtain ⟨q, hq0, hq, hg, HZ, rfl, rfl⟩ := hrel
     by_cases hm : q ∈ l
     ·have hc := cntGe_lt hm
      obtain ⟨g, rfl⟩ : ∃ g, gk = g + 1 := ⟨gk - 1, by omega⟩
      have HZ2 : Hid (mexGo l g (q + 1) = mexF l) := by
       have := HZ.out
       simp only [mexGo] at this
       rw [if_pos hm] at this
       exact this
      have hd : decide (q ∈ l) = true := decide_eq_true hm
      have hk6 : q ≤ 1000000 := by omega
      clear hm
      go_wp2_with (go_at_call 126; refine (occurs_any _ _ _ l _ _ H.out hl).mono ?_; rintro e w' ⟨rfl, rfl⟩; rw [hd])
      go_roundg g
      case rel => exact ⟨q + 1, by omega, by omega, by omega, HZ2, rfl, rfl⟩
      case measure => omega
     ·have HZ2 : Hid (q = mexF l) := by
       have := HZ.out
       cases gk with
       | zero => exact this
       | succ g => simp only [mexGo] at this; rw [if_neg hm] at this; exact this
      have hd : decide (q ∈ l) = false := decide_eq_false hm
      clear hm
      go_wp2_with (go_at_call 126; refine (occurs_any _ _ _ l _ _ H.out hl).mono ?_; rintro e w' ⟨rfl, rfl⟩; rw [hd])
      go_ret
      exact ⟨ret_int HZ2.out, rfl⟩
   case inr.inr.inr.inr.inr.inr.inr.inr.inr =>
    subst h
    clear E1 E2 E3 E4 E5
    by_cases h0 : l.length = 0
    ·have HZ : Hid ((0 : Int) = foldF 29 l) := by show _ = _; rw [List.length_eq_zero_iff.1 h0]; rfl
     have hb0 : ((l.length : Int) == 0) = true := by simp; exact List.length_eq_zero_iff.1 h0
     go_wp2_with fail
     go_ret
     exact ⟨ret_int HZ.out, rfl⟩
    ·obtain ⟨b, o, rfl, hb, hc⟩ := H.out.at_ 0 (by omega)
     have HZ : Hid (l[0]'(by omega) = foldF 29 l) := by
      show _ = _
      cases l with
      | nil => simp at h0
      | cons x l => rfl
     have hc' : w.cell? ⟨b, o, none⟩ = some (.int .i64 (l[0]'(by omega))) := by simpa using hc
     clear hc
     have hb0 : ((l.length : Int) == 0) = false := by simp; intro hh; rw [hh] at h0; exact h0 rfl
     have hpos : 0 < l.length := by omega
     generalize (l[0]'(by omega) : Int) = x0 at *
     clear h0
     go_wp2_with fail
     go_ret
     exact ⟨ret_int HZ.out, rfl⟩
   all_goals
    subst h
    go_wp2_with (first
     | (go_at_call 124; refine (refTruth_any _ _).mono ?_; rintro e w' ⟨rfl, rfl⟩)
     | (go_at_call 125; refine (refSaturate_any _ _).mono ?_; rintro e w' ⟨rfl, rfl⟩))
    go_ret
    refine ⟨ret_int ?_, rfl⟩
    simp only [foldF]
    first
     | (rw [E1.out]; rfl)
     | (rw [E2.out]; rfl)
     | (rw [E3.out]; rfl)
     | (rw [E4.out]; rfl)
     | (rw [E5.out]; rfl)



end Go.Proofs.YtgemlgpjbclonaaGreatDoor

