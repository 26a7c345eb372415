/- Merged of: WEh (see NOTES.md). -/
import Derived.Test.YtaifafljakojnaaGreatYWEg
set_option linter.unusedSimpArgs false
set_option linter.unnecessarySimpa false
set_option linter.unusedVariables false

/- Contracts: the program's walk: aggregate and value. -/
namespace Go.Proofs.YtaifafljakojnaaGreat
open Go.RowKit

def ValueOk (p : Prg) (g : Graph) (c : Config) (v : Nat) (x : Ex) : Prop :=
  ∀ (b : Bool) (port : Int) (K : Nat) (A : Option Addr) (ce : Nat) (es : List Term) (k : Nat) (w : World), WalkR w K p g c v A ce es → x.At es k → (∀ t ∈ es, argF t p.vars.length = true) → es.length ≤ 1000 → boundOK b x → portOK g v b port →
    Calls Tryz.prog 106 #[.pointer (some ⟨K, 0, none⟩), .int .i64 k, .int .i64 port] w fun e w' => e = .returned (.tuple #[.int .i64 (evalF g c v port x), .int .i64 ((k + x.len : Nat) : Int)]) ∧ Bel w w'

theorem run_arr (V n : Nat) (h : n ≤ 24) (w : World) : (Instr.sliceAt 176 (.pointer (some ⟨V, 0, none⟩)) none (some (.int .i64 (n : Int))) none).run Tryz.prog w = .ok (.slice (some ⟨V, 0, none⟩) n 24) w := by
  obtain ⟨j0, hj0, _⟩ := info_parts int_info
  simp [Instr.sliceAt, run_underlying Tryz.underlying176, Instr.sliceBounds, Instr.sliceBound, asIntOf, h, sizeOf, typeInfo, hj0, Instr.sureAddr, Addr.add]
/-- An array of 24 numbers, whose first are laid. -/
def arrC (l : List Int) : Array Value := ((l ++ List.replicate (24 - l.length) 0).map (Value.int .i64)).toArray
theorem arrC_get (l : List Int) (j : Nat) (h : l.length = j) (hj : j < 24) : (arrC l)[j]? = some (.int .i64 0) := by
  unfold arrC
  rw [List.getElem?_toArray, List.getElem?_map, List.getElem?_append_right (by omega), List.getElem?_replicate, if_pos (by omega)]
  rfl
theorem arrC_at (l : List Int) (i : Nat) (x : Int) (h : l[i]? = some x) : (arrC l)[i]? = some (.int .i64 x) := by
  unfold arrC
  rw [List.getElem?_toArray, List.getElem?_map, List.getElem?_append_left (List.getElem?_eq_some_iff.1 h).1, h]
  rfl
theorem arrC_set (l : List Int) (j : Nat) (x : Int) (h : l.length = j) (hj : j < 24) : (arrC l).setIfInBounds j (.int .i64 x) = arrC (l ++ [x]) := by
  unfold arrC
  rw [List.setIfInBounds_toArray]
  congr 1
  rw [← List.map_set, List.set_append_right _ _ (by omega), h, Nat.sub_self, show 24 - j = (24 - (j + 1)) + 1 by omega, List.replicate_succ, List.set_cons_zero]
  simp [h]
set_option maxRecDepth 100000 in
set_option maxHeartbeats 4000000 in
theorem aggr_any (p : Prg) (g : Graph) (c : Config) (v : Nat) (a : Ex) (ih : ValueOk p g c v a) (hs : SOK p g c v) (op : Int) (K : Nat) (A : Option Addr) (ce : Nat) (es : List Term) (k : Nat) (w : World) (hW : WalkR w K p g c v A ce es) (hat : a.At es (k + 1)) (hend : endF es (k : Int) = ((k + 1 + a.len : Nat) : Int)) (harg : ∀ t ∈ es, argF t p.vars.length = true) (hlen : es.length ≤ 1000) (hbo : boundOK true a) (hop1 : 20 ≤ op) (hop2 : op ≤ 29) :
    Calls Tryz.prog 134 #[.pointer (some ⟨K, 0, none⟩), .int .i64 op, .int .i64 k] w fun e w' => e = .returned (.tuple #[.int .i64 (foldF op ((List.range (g.ports.getD v []).length).map fun (q : Nat) => evalF g c v (q : Int) a)), .int .i64 ((k + 1 + a.len : Nat) : Int)]) ∧ Bel w w' := by
  have HWK := Lib.hid (fun w' (k : Bel w w') => hW.keep k)
  have HIH := Lib.hid ih
  have HS := Lib.hid hs
  obtain ⟨B, AC, kc, hK, hS, hC, hT⟩ := hW
  obtain ⟨A1, k1, A2, k2, A3, k3, A4, k4, gb, hB, _, hGV, _⟩ := hS
  obtain ⟨A', k', A2', k2', eG, _, _, _, hP, _, _⟩ := hGV
  obtain ⟨⟨rfl, rfl⟩, rfl, rfl⟩ : (A3 = A' ∧ k3 = k') ∧ A4 = A2' ∧ k4 = k2' := by simpa using eG
  have y0 := hK.cell 0 (v := .pointer (some ⟨B, 0, none⟩)) rfl
  have y2 := hK.cell 2 (v := .int .i64 v) rfl
  have y3 := hK.cell 3 (v := .slice A es.length ce) rfl
  have yl := hK.lt
  have z4 := hB.cell 4 (v := .slice A4 g.ports.length k4) rfl
  have zl := hB.lt
  have hv := hs.node
  obtain ⟨b3, o3, R3, rc3, rfl, hb3, hrow3, _, _, _⟩ := hP.at_ v hv
  have hdp : decide (v < g.ports.length) = true := by simpa using hv
  have hbd := At.bound hat
  have HT := Lib.hid (fun w' (k : Bel w w') => TermsR.keep hT k)
  have HAT := Lib.hid hat
  have HE := Lib.hid hend
  clear hend
  have HARG := Lib.hid harg
  have HBO := Lib.hid hbo
  have hrl : g.ports[v].length ≤ 24 := by have := linksOK_len hv (hs.gok.links v hv); have := hs.gok.le; omega
  have HPK : Hid (∀ q : Nat, q < g.ports[v].length → portOK g v true (q : Int)) := fun q hq _ => ⟨q, rfl, by rw [getD_eq hv]; exact hq⟩
  have HNN : Hid (∀ y ∈ (List.range g.ports[v].length).map fun (q : Nat) => evalF g c v (q : Int) a, Num y) := by
    intro y hy
    obtain ⟨q, hq, rfl⟩ := List.mem_map.1 hy
    exact eval_num hs hat.1 (fun t ht => harg t (terms_mem hat t ht)) hbo (HPK.out q (List.mem_range.1 hq))
  rw [getD_eq hv]
  have HY := Lib.hid (fun w' (kk : Bel w w') => And.intro ((kk.cell yl).trans y0) (And.intro ((kk.cell yl).trans y2) (And.intro ((kk.cell yl).trans y3) (Nat.lt_of_lt_of_le yl kk.size))))
  clear hK hB eG hC hP ih hs hT hat harg hbo
  go_enter Tryz.func134, Tryz.ntmps134
  go_wp2_with fail
  go_quiet (fail)
  go_wp2_with fail
  have HV : Hid (Blk ((w.alloc (.cells (arrC ((List.range 0).map fun (q : Nat) => evalF g c v (q : Int) a)) 176)).drewN nq) w.heap.size (arrC ((List.range 0).map fun (q : Nat) => evalF g c v (q : Int) a)) 176) := (Blk.new w _ _).drewN _
  have HB := ((Bel.refl w).alloc (.cells (arrC ((List.range 0).map fun (q : Nat) => evalF g c v (q : Int) a)) 176)).drewN nq
  clear y0 y2 y3 z4 hrow3
  go_loopg [7, 10, 27] g.ports[v].length (fun m s _x z wr => ∃ (j : Nat), j ≤ g.ports[v].length ∧ m = g.ports[v].length - j ∧ z = .int .i64 j ∧ s = .int .i64 (if j = 0 then 0 else ((k + 1 + a.len : Nat) : Int)) ∧ Hid (Blk wr w.heap.size (arrC ((List.range j).map fun (q : Nat) => evalF g c v (q : Int) a)) 176) ∧ Bel w wr)
  case atStart => exact ⟨0, by omega, rfl, rfl, rfl, HV, HB⟩
  case round =>
    clear HV HB
    obtain ⟨j, hj, rfl, rfl, rfl, HV, HB⟩ := hrel
    obtain ⟨y0, y2, y3, yl2⟩ := HY.out _ HB
    by_cases hlt2 : j < g.ports[v].length
    · have hd0 : decide (j < g.ports[v].length) = true := by simpa using hlt2
      have hd1 : decide (j < 24) = true := by simp; omega
      have hl : ((List.range j).map fun (q : Nat) => evalF g c v (q : Int) a).length = j := by simp
      have HST : Hid (((List.range (j + 1)).map fun (q : Nat) => evalF g c v (q : Int) a) = ((List.range j).map fun (q : Nat) => evalF g c v (q : Int) a) ++ [evalF g c v (j : Int) a]) := by
        show ((List.range (j + 1)).map fun (q : Nat) => evalF g c v (q : Int) a) = _
        rw [List.range_succ, List.map_append]; rfl
      go_wp2_with (go_at_call 106; refine (HIH.out true (j : Int) K A ce es (k + 1) _ (HWK.out _ HB) HAT.out HARG.out hlen HBO.out (HPK.out j hlt2)).mono ?_; rintro e w4 ⟨rfl, hbb⟩; replace HB := HB.trans hbb; replace HV := Lib.hid (HV.out.keep hbb); clear hbb; have q1 := HV.out.cell j (arrC_get _ j hl (by omega)); have q2 := HV.out.frozen j; have q3 := HV.out.lt)
      go_roundg (g.ports[v].length - (j + 1))
      case rel =>
        refine ⟨j + 1, by omega, rfl, by go_num, by simp, ?_, HB.setCell (by simp) _⟩
        have h1 := HV.out.set j (.int .i64 (evalF g c v (j : Int) a))
        rw [arrC_set _ j _ hl (by omega)] at h1
        show Blk _ _ _ _
        rw [HST.out]; exact h1
      case measure => omega
    · have hd0 : decide (j < g.ports[v].length) = false := by simpa using hlt2
      obtain rfl : j = g.ports[v].length := by omega
      have HI : Hid (IntsR wr (some ⟨w.heap.size, 0, none⟩) g.ports[v].length ((List.range g.ports[v].length).map fun (q : Nat) => evalF g c v (q : Int) a)) := by
        refine ⟨by simp, fun i x hx => ⟨_, 0, rfl, HV.out.lt, ?_⟩⟩
        have h1 := HV.out.cell i (v := .int .i64 x) (arrC_at _ i x hx)
        rwa [Nat.zero_add, Nat.mul_one]
      have hsl := run_arr w.heap.size g.ports[v].length hrl wr
      by_cases h0 : g.ports[v].length = 0
      · rw [if_pos h0]
        have hd2 : ((g.ports[v].length : Int) == 0) = true := by simpa using h0
        have hd3 : (g.ports[v].length == 0) = true := by simpa using h0
        clear h0
        go_wp2_with (first
          | (go_at_call 96; refine (end_any _ _ _ es _ _ (HT.out _ HB) (by omega)).mono ?_; rintro e w' ⟨rfl, rfl⟩; rw [HE.out])
          | (go_at_call 145; refine (fold_any _ _ _ _ op _ HI.out (by omega) hop1 hop2 HNN.out).mono ?_; rintro e w' ⟨rfl, rfl⟩))
        go_ret2
        exact ⟨rfl, HB⟩
      · rw [if_neg h0]
        have hd2 : ((g.ports[v].length : Int) == 0) = false := by simpa using h0
        have hd3 : (g.ports[v].length == 0) = false := by simpa using h0
        clear h0
        go_wp2_with (first
          | (go_at_call 145; refine (fold_any _ _ _ _ op _ HI.out (by omega) hop1 hop2 HNN.out).mono ?_; rintro e w' ⟨rfl, rfl⟩))
        go_ret2
        exact ⟨rfl, HB⟩

end Go.Proofs.YtaifafljakojnaaGreat

