/- Merged of: WSp (see NOTES.md). -/
import Derived.Test.YtibfjhhadbkkgaaGreatYWSo
import Derived.Test.YtibfjhhadbkkgaaGreatZ21
import Derived.Test.YtibfjhhadbkkgaaGreatYW11e
set_option linter.unusedSimpArgs false
set_option linter.unnecessarySimpa false
set_option linter.unusedVariables false

/- The reference's Copy: rows of the call's own in pairwise different blocks; two values of a row change places. -/
namespace Go.Proofs.YtibfjhhadbkkgaaGreat
open Go.RowKit

def rowVals (n : Nat) (bs : List (Nat × Nat)) : List Value := bs.map fun b => Value.slice (some ⟨b.1, 0, none⟩) n b.2
theorem rowVals_get {n : Nat} {bs : List (Nat × Nat)} {u : Nat} {b : Nat × Nat} (h : bs[u]? = some b) : (rowVals n bs)[u]? = some (.slice (some ⟨b.1, 0, none⟩) n b.2) := by
  unfold rowVals; rw [List.getElem?_map, h]; rfl
/-- A configuration of the call's own, its rows too. -/
structure RowsC (w : World) (base : Nat) (B : Option Addr) (cap n : Nat) (d : Config) (bs : List (Nat × Nat)) : Prop where
  own : w.ownsRow base 26 1 (.slice B d.length cap) d.length (rowVals n bs)
  rows : ∀ (u : Nat) (x : List Int), d[u]? = some x → ∃ b, bs[u]? = some b ∧ w.ownsRow base 3 1 (.slice (some ⟨b.1, 0, none⟩) n b.2) n (x.map (Value.int .i64))
  apart : ∀ (u v : Nat) (a b : Nat × Nat), bs[u]? = some a → bs[v]? = some b → u ≠ v → a.1 ≠ b.1
theorem RowsC.nil (w : World) (base n : Nat) : RowsC w base none 0 n [] [] := ⟨World.ownsRow_nil _ _ _ _, fun u x h => by simp at h, fun u v a b h => by simp at h⟩
theorem RowsC.keep {w w' : World} {base cap n : Nat} {B : Option Addr} {d : Config} {bs : List (Nat × Nat)} (h : RowsC w base B cap n d bs) (k : Bel w w') : RowsC w' base B cap n d bs :=
  ⟨k.owns h.own, fun u x hx => by
    obtain ⟨b, h1, h2⟩ := h.rows u x hx
    exact ⟨b, h1, k.owns h2⟩, h.apart⟩
theorem RowsC.length {w : World} {base cap n : Nat} {B : Option Addr} {d : Config} {bs : List (Nat × Nat)} (h : RowsC w base B cap n d bs) : bs.length = d.length := by
  have := h.own.1
  unfold rowVals at this
  rw [List.length_map] at this
  omega
theorem RowsC.off {w : World} {base cap n m cap' g : Nat} {B : Option Addr} {d : Config} {bs : List (Nat × Nat)} (h : RowsC w base B cap n d bs) {l : List Value} (hr : w.ownsRow base 3 1 (.slice (some ⟨g, 0, none⟩) m cap') m l) : some g ≠ (Value.slice B d.length cap).ownBlock := by
  rcases own_other h.own hr (by decide) with e | e
  · simp [Value.ownBlock] at e
  · simpa [Value.ownBlock] using e
theorem RowsC.push {w w3 w' : World} {base cap n : Nat} {B : Option Addr} {d : Config} {bs : List (Nat × Nat)} (h : RowsC w base B cap n d bs) (hbase : base ≤ w.heap.size) {l : List Int} {g c : Nat} {m : Nat} (hm : d.length = m)
    (hN : w3.ownsRow w.heap.size 3 1 (.slice (some ⟨g, 0, none⟩) n c) n (l.map (Value.int .i64))) (hb : Bel w w3) {o : Obj}
    {B' : Option Addr} {cap' : Nat} (hown : w'.ownsRow base 26 1 (.slice B' (m + 1) cap') (m + 1) (rowVals n bs ++ [.slice (some ⟨g, 0, none⟩) n c])) (hgr : (w3.alloc o).grownBy w' (Value.slice B m cap).ownBlock) :
    RowsC w' base B' cap' n (d ++ [l]) (bs ++ [(g, c)]) := by
  subst hm
  have hk := h.keep hb
  have hlen := h.length
  have hg : Gr (Value.slice B d.length cap).ownBlock w3 w' := (Gr.of_bel ((Bel.refl w3).alloc o)).trans (Gr.grown hgr)
  have hN' := own_lower hN hbase
  have hgl := (own_base hN).1
  refine ⟨by rw [List.length_append]; unfold rowVals at *; rw [List.map_append]; exact hown, fun u x hx => ?_, fun u v a b ha hv huv => ?_⟩
  · by_cases hu : u < d.length
    · rw [List.getElem?_append_left hu] at hx
      obtain ⟨b, h1, h2⟩ := hk.rows u x hx
      exact ⟨b, by rw [List.getElem?_append_left (by omega)]; exact h1, own_gr h2 hg (hk.off h2)⟩
    · have hul : u = d.length := by
        have := (List.getElem?_eq_some_iff.1 hx).1
        simp at this; omega
      subst hul
      rw [List.getElem?_append_right (Nat.le_refl _)] at hx
      obtain rfl : l = x := by simpa using hx
      exact ⟨(g, c), by rw [List.getElem?_append_right (by omega), hlen]; simp, own_gr hN' hg (hk.off hN')⟩
  · have old : ∀ (u : Nat) (a : Nat × Nat), u < d.length → bs[u]? = some a → a.1 < w.heap.size := fun u a hu ha => by
      obtain ⟨b, h1, h2⟩ := h.rows u d[u] (List.getElem?_eq_getElem hu)
      rw [h1] at ha
      injection ha with ha
      subst ha
      exact own_lt h2
    have new : ∀ (u : Nat) (a : Nat × Nat), ¬ u < d.length → (bs ++ [(g, c)])[u]? = some a → u = d.length ∧ a = (g, c) := fun u a hu ha => by
      have h1 := (List.getElem?_eq_some_iff.1 ha).1
      simp at h1
      have h2 : u = d.length := by omega
      subst h2
      rw [List.getElem?_append_right (by omega), hlen] at ha
      exact ⟨rfl, by simpa using ha.symm⟩
    by_cases h1 : u < d.length
    · rw [List.getElem?_append_left (by omega)] at ha
      by_cases h2 : v < d.length
      · rw [List.getElem?_append_left (by omega)] at hv
        exact h.apart u v a b ha hv huv
      · obtain ⟨_, rfl⟩ := new v b h2 hv
        have := old u a h1 ha
        show a.1 ≠ g
        omega
    · obtain ⟨e1, rfl⟩ := new u a h1 ha
      by_cases h2 : v < d.length
      · rw [List.getElem?_append_left (by omega)] at hv
        have := old v b h2 hv
        show g ≠ b.1
        omega
      · obtain ⟨e2, _⟩ := new v b h2 hv
        omega
theorem RowsC.conf {w : World} {base cap n g : Nat} {d : Config} {bs : List (Nat × Nat)} (h : RowsC w base (some ⟨g, 0, none⟩) cap n d bs) : ConfV w (.slice (some ⟨g, 0, none⟩) d.length cap) d := by
  obtain ⟨h1, h2⟩ := own_cap h.own
  refine ⟨_, _, rfl, ⟨rfl, fun u x hx => ?_⟩, h1, h2⟩
  obtain ⟨b, k1, k2⟩ := h.rows u x hx
  obtain ⟨g', e1, _, hlt, hc, _⟩ := own_at h.own (rowVals_get k1)
  obtain rfl : g = g' := by simpa using e1
  obtain ⟨rfl, k3⟩ := own_newI k2
  exact ⟨g, 0, rfl, hlt, _, b.2, by rw [Nat.zero_add, Nat.mul_one]; exact hc, k3.1, k3.2.1, k3.2.2.1⟩
theorem RowsC.form {w : World} {base cap n : Nat} {B : Option Addr} {d : Config} {bs : List (Nat × Nat)} (h : RowsC w base B cap n d bs) (hd : 0 < d.length) : ∃ g, B = some ⟨g, 0, none⟩ := by
  obtain ⟨g, cap', hv, _⟩ := h.own.form hd
  injection hv with hA
  exact ⟨g, hA⟩
/-- Two values of a row change places. -/
theorem RowsC.swap {w : World} {base cap n g : Nat} {d : Config} {bs : List (Nat × Nat)} (h : RowsC w base (some ⟨g, 0, none⟩) cap n d bs) {u : Nat} {b : Nat × Nat} {x : List Int} (hb : bs[u]? = some b) (hx : d[u]? = some x) (i k : Nat) :
    RowsC ((w.setCell ⟨b.1, i, none⟩ (.int .i64 (x.getD k 0))).setCell ⟨b.1, k, none⟩ (.int .i64 (x.getD i 0))) base (some ⟨g, 0, none⟩) cap n (d.set u (swapG 0 x i k)) bs := by
  have hFr : Fr b.1 w ((w.setCell ⟨b.1, i, none⟩ (.int .i64 (x.getD k 0))).setCell ⟨b.1, k, none⟩ (.int .i64 (x.getD i 0))) := ((Fr.refl b.1 w).set i _).set k _
  obtain ⟨b', h1, h2⟩ := h.rows u x hx
  rw [hb] at h1
  injection h1 with h1
  subst h1
  have hne := h.off h2
  refine ⟨by rw [List.length_set]; exact own_fr h.own hFr (fun e => hne (by rw [e]; rfl)), fun v y hy => ?_, h.apart⟩
  have hu : u < d.length := (List.getElem?_eq_some_iff.1 hx).1
  by_cases he : u = v
  · subst he
    rw [List.getElem?_set_self hu] at hy
    injection hy with hy
    subst hy
    refine ⟨b, hb, ?_⟩
    unfold swapG
    rw [List.map_set, List.map_set]
    exact ((h2.stored i _).1.stored k _).1
  · rw [List.getElem?_set_ne he] at hy
    obtain ⟨b2, k1, k2⟩ := h.rows v y hy
    exact ⟨b2, k1, own_fr k2 hFr (h.apart v u b2 b k1 hb (fun e => he e.symm))⟩
/-- As far as the rows have been turned. -/
def swpC (c : Config) (i k v : Nat) : Config := (c.take v).map (swapG 0 · i k) ++ c.drop v
theorem swpC_length (c : Config) (i k v : Nat) : (swpC c i k v).length = c.length := by simp [swpC]; omega
theorem swpC_zero (c : Config) (i k : Nat) : swpC c i k 0 = c := by simp [swpC]
theorem swpC_full (c : Config) (i k : Nat) : swpC c i k c.length = renC c i k := by simp [swpC, renC]
theorem swpC_at (c : Config) (i k v j : Nat) : (swpC c i k v)[j]? = if j < v then c[j]?.map (swapG 0 · i k) else c[j]? := by
  unfold swpC
  rw [List.getElem?_append, List.length_map, List.length_take]
  by_cases hj : j < v
  · rw [if_pos hj]
    by_cases hc : j < c.length
    · rw [if_pos (by omega), List.getElem?_map, List.getElem?_take_of_lt hj]
    · rw [if_neg (by omega), List.getElem?_eq_none (by simp; omega), List.getElem?_eq_none (by omega)]; rfl
  · rw [if_neg hj]
    by_cases hc : j < min v c.length
    · omega
    · rw [if_neg hc, List.getElem?_drop]
      by_cases hvc : v ≤ c.length
      · congr 1; omega
      · rw [List.getElem?_eq_none (by omega), List.getElem?_eq_none (by omega)]
theorem swpC_succ (c : Config) (i k v : Nat) (h : v < c.length) : (swpC c i k v).set v (swapG 0 c[v] i k) = swpC c i k (v + 1) := by
  apply List.ext_getElem?
  intro j
  rw [List.getElem?_set, swpC_at, swpC_at, swpC_length]
  by_cases he : v = j
  · subst he
    rw [if_pos rfl, if_pos h, if_pos (by omega), List.getElem?_eq_getElem h]; rfl
  · rw [if_neg he]
    by_cases hj : j < v
    · rw [if_pos hj, if_pos (by omega)]
    · rw [if_neg hj, if_neg (by omega)]
theorem swapG_comm (x : List Int) {i k : Nat} (hi : i < x.length) (hk : k < x.length) : swapG 0 x k i = swapG 0 x i k := by
  apply List.ext_getElem?
  intro j
  rw [swapG_get hk hi, swapG_get hi hk]
  unfold sg
  by_cases h1 : i = j <;> by_cases h2 : k = j
  · rw [if_pos h1, if_pos h2, h1, h2]
  · rw [if_pos h1, if_neg h2, if_pos h1]
  · rw [if_neg h1, if_pos h2, if_pos h2]
  · rw [if_neg h1, if_neg h2, if_neg h2, if_neg h1]

def RetRowsC (n : Nat) (d : Config) (w : World) (e : Ending) (w' : World) : Prop := ∃ g cap bs, e = .returned (.slice (some ⟨g, 0, none⟩) d.length cap) ∧ RowsC w' w.heap.size (some ⟨g, 0, none⟩) cap n d bs ∧ Bel w w'

set_option maxRecDepth 100000 in
set_option maxHeartbeats 2000000 in
theorem refCopy2_any (v : Value) (c : Config) (n : Nat) (w : World) (h : ConfV w v c) (hL : lightC c = true) (hpos : 0 < c.length) (hn : ∀ x ∈ c, x.length = n) (hn0 : 0 < n) :
    Calls Tryz.prog 20 #[v] w (RetRowsC n c w) := by
  obtain ⟨A, k, rfl, hR, _, _⟩ := h
  have HR := Lib.hid (fun w' (kk : Bel w w') => hR.keep kk)
  obtain ⟨l1, l2⟩ := lightC_parts hL
  have HL2 := Lib.hid l2
  have HN0 := Lib.hid hn
  clear hR l2 hL hn
  obtain ⟨i0, hi0, hz0, hz1, hz2⟩ := info_parts rows_infoC
  obtain ⟨j0, hj0, hy0, hy1, hy2⟩ := info_parts int_infoC
  have HW := Bel.refl w
  go_enter Tryz.func20, Tryz.ntmps20
  go_wp2
  go_loopg [3, 4] c.length (fun m x z wr => ∃ (v : Nat) (B : Option Addr) (cb : Nat) (bs : List (Nat × Nat)), v ≤ c.length ∧ m = c.length - v ∧ x = .slice B v cb ∧ z = .int .i64 v ∧ Hid (RowsC wr w.heap.size B cb n (c.take v) bs) ∧ Bel w wr)
  case atStart => exact ⟨0, none, 0, [], by omega, rfl, rfl, rfl, RowsC.nil _ _ _, HW⟩
  case round =>
    clear HW
    obtain ⟨v, B, cb, bs, hv, rfl, rfl, rfl, HO, HW⟩ := hrel
    by_cases hlt : v < c.length
    · have hd0 : decide (v < c.length) = true := by simpa using hlt
      obtain ⟨b, o, R, rc, rfl, hbl, hcell, hI, _, _⟩ := (HR.out _ HW).at_ v hlt
      have hle := HL2.out _ (List.getElem_mem hlt)
      have hln : Hid (c[v].length = n) := HN0.out _ (List.getElem_mem hlt)
      have HI := Lib.hid hI
      have HT : Hid ((c.take v).length = v) := by show _ = _; rw [List.length_take]; omega
      clear hI
      go_wp2_with (first
        | (at_builtin; refine wpList_extend _ rfl (.const (.slice none 0 0)) (.tmp 15) 26 rfl wr.heap.size 3 j0 (.int .i64 0) 1 8 Tryz.underlying26 hj0 hy0 hy1 hy2 rfl (by decide) none 0 0 [] rfl (World.ownsRow_nil _ _ _ _) R c[v].length rc (c[v].map (Value.int .i64)) rfl HI.out.cells (int_cells_one _) (by unfold maxLen; omega) (by omega) (Nat.le_refl _) ?_; intro A3 c3 w3 hown3 hgr3 _; rw [List.nil_append, Nat.zero_add] at hown3; have hb3 := (Bel.refl wr).grown hgr3 (fun k hk => by cases hk); obtain ⟨g3, rfl⟩ : ∃ g3, A3 = some ⟨g3, 0, none⟩ := (by have h3 := hln.out; obtain ⟨gm, cap, hv', _⟩ := hown3.form (by omega); injection hv' with hA; exact ⟨gm, hA⟩); have HN := Lib.hid hown3; have HO3 := Lib.hid (HO.out.keep hb3); have HOV := Lib.hid (own_len HO3.out.own HT.out); have HB3 := Lib.hid hb3; have hszr := HW.size; replace HW := HW.trans hb3; clear hown3 hgr3 hb3)
        | (at_builtin; refine wpList_push _ rfl (.tmp 11) (.tmp 17) 30 rfl w.heap.size 26 i0 (.slice none 0 0) 1 24 Tryz.underlying30 hi0 hz0 hz1 hz2 rfl (by decide) B v cb (rowVals n bs) rfl (HOV.out.alloc _) w3.heap.size #[.slice (some ⟨g3, 0, none⟩) c[v].length c3] 26 (0, 0) rfl (heap_new _ _) rfl (one_slice _ _ _) (by unfold maxLen; omega) (by omega) (by have := HW.size; simp; omega) ?_; intro B4 c4 w4 hown4 hgr4 hat4; have HP : Hid (RowsC w4 w.heap.size B4 c4 n (c.take v ++ [c[v]]) (bs ++ [(g3, c3)])) := (by show RowsC _ _ _ _ _ _ _; have hN1 := HN.out; have e := hln.out; rw [e] at hN1; simp only [e] at hown4; exact HO.out.push hszr HT.out hN1 HB3.out hown4 hgr4); replace HW := (HW.alloc _).push (HOV.out.alloc _) hgr4; clear hown4 hgr4 hat4))
      go_roundg (c.length - (v + 1))
      case rel =>
        refine ⟨v + 1, B4, c4, bs ++ [(g3, c3)], by omega, rfl, rfl, by go_num, ?_, HW⟩
        show RowsC _ _ _ _ _ _ _
        rw [List.take_succ_eq_append_getElem hlt]
        exact HP.out
      case measure => omega
    · have hd0 : decide (v < c.length) = false := by simpa using hlt
      obtain rfl : v = c.length := by omega
      go_wp2_with fail
      go_ret
      have hO := HO.out
      rw [List.take_of_length_le (Nat.le_refl _)] at hO
      obtain ⟨gb, rfl⟩ := hO.form hpos
      exact ⟨gb, _, bs, rfl, hO, HW⟩

end Go.Proofs.YtibfjhhadbkkgaaGreat

