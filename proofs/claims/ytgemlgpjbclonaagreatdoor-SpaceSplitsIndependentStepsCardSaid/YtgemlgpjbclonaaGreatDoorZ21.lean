/- Merged of: WEg WEh WEi WEj (see NOTES.md). -/
import Derived.Test.YtgemlgpjbclonaaGreatDoorZ20
set_option linter.unusedSimpArgs false
set_option linter.unnecessarySimpa false
set_option linter.unusedVariables false

/- Contracts: the program's walk: leaf. -/
namespace Go.Proofs.YtgemlgpjbclonaaGreatDoor
open Go.RowKit

/-- A walk over an expression at a node. -/
def WalkR (w : World) (K : Nat) (p : Prg) (g : Graph) (c : Config) (v : Nat) (A : Option Addr) (ce : Nat) (es : List Term) : Prop :=
 ∃ B AC kc, Blk w K #[.pointer (some ⟨B, 0, none⟩), .slice AC c.length kc, .int .i64 v, .slice A es.length ce] 171 ∧ SceneR w B p g ∧ ConfV w (.slice AC c.length kc) c ∧ TermsR w A es.length es
theorem WalkR.keep {w w' : World} {K : Nat} {p : Prg} {g : Graph} {c : Config} {v : Nat} {A : Option Addr} {ce : Nat} {es : List Term} (h : WalkR w K p g c v A ce es) (k : Bel w w') : WalkR w' K p g c v A ce es := by
 obtain ⟨B, AC, kc, h1, h2, h3, h4⟩ := h
 exact ⟨B, AC, kc, h1.keep k, h2.keep k, h3.keep k, TermsR.keep h4 k⟩

set_option maxRecDepth 100000 in
set_option maxHeartbeats 4000000 in
theorem leafV_any (K : Nat) (p : Prg) (g : Graph) (c : Config) (v : Nat) (A : Option Addr) (ce : Nat) (es : List Term) (port : Int) (t : Term) (b : Bool) (w : World) (hW : WalkR w K p g c v A ce es) (hs : SOK p g c v) (har : arity t.op = 0) (ha : argF t p.vars.length = true) (hb : nearOp t.op = true → b = true) (hp : portOK g v b port) :
  Calls Tryz.prog 135 #[.pointer (some ⟨K, 0, none⟩), .agg #[.int .i64 t.op, .int .i64 t.arg], .int .i64 port] w fun e w' => e = .returned (.int .i64 (leafF g c v port t)) ∧ Bel w w' := by
 have hr := (arity_bounds t.op).1 har
 obtain ⟨B, AC, kc, hK, hS, hC, _⟩ := hW
 have HSC := Lib.hid (fun w' (k : Bel w w') => hS.keep k)
 obtain ⟨A1, k1, A2, k2, A3, k3, A4, k4, gb, hB, _, hGV, _⟩ := hS
 obtain ⟨A', k', A2', k2', eG, _, _, _, hP, _, _⟩ := hGV
 obtain ⟨⟨rfl, rfl⟩, rfl, rfl⟩ : (A3 = A' ∧ k3 = k') ∧ A4 = A2' ∧ k4 = k2' := by simpa using eG
 obtain ⟨AC', kc', eC, hC, _, _⟩ := hC
 obtain ⟨rfl, rfl⟩ : AC = AC' ∧ kc = kc' := by simpa using eC
 have y0 := hK.cell 0 (v := .pointer (some ⟨B, 0, none⟩)) rfl
 have y1 := hK.cell 1 (v := .slice AC c.length kc) rfl
 have y2 := hK.cell 2 (v := .int .i64 v) rfl
 have yl := hK.lt
 have z4 := hB.cell 4 (v := .slice A4 g.ports.length k4) rfl
 have zl := hB.lt
 obtain ⟨op, arg⟩ := t
 dsimp only at *
 have hv := hs.node
 have hvc : v < c.length := by rw [hs.len]; exact hv
 have hdv : decide (v < c.length) = true := by simpa using hvc
 have HB := (Bel.refl w).alloc (.cells #[.int .i64 op, .int .i64 arg] 110)
 clear hK hB eG eC
 rcases leaf_op hr with hq | rfl | rfl | hq
 ·clear hP hC hb hp har
  have HF : Hid (leafF g c v port ⟨op, arg⟩ = if op = 1 then arg else if op = 2 then 1 else if op = 3 then 0 else -1) := by
   show leafF g c v port ⟨op, arg⟩ = _
   unfold leafF
   rcases hq with rfl | rfl | rfl | rfl <;> simp
  rcases hq with rfl | rfl | rfl | rfl
  all_goals
   go_enter Tryz.func135, Tryz.ntmps135
   go_wp2
   go_ret
   exact ⟨ret_int HF.out.symm, HB⟩
 ·obtain ⟨a1, a2⟩ := arg_var ha (.inl rfl)
  obtain ⟨a, rfl⟩ := Int.eq_ofNat_of_zero_le a1
  have hac : a < c[v].length := by rw [hs.row hv]; omega
  obtain ⟨b1, o1, R, rc, rfl, hb1, hrow, hR, _, _⟩ := hC.at_ v hvc
  obtain ⟨b2, o2, rfl, hb2, hval⟩ := hR.at_ a hac
  have HF : Hid (leafF g c v port ⟨5, (a : Int)⟩ = c[v][a]) := by
   show (c.getD v []).getD (a : Int).toNat 0 = _
   rw [Int.toNat_natCast, getD_eq hvc, getD_eq hac]
  have hda : decide (a < c[v].length) = true := by simpa using hac
  clear hP hC hb hp har hR ha
  go_enter Tryz.func135, Tryz.ntmps135
  go_wp2
  go_quiet (fail)
  go_wp2
  go_ret
  exact ⟨ret_int HF.out.symm, HB.drewN _⟩
 ·obtain ⟨a1, a2⟩ := arg_var ha (.inr rfl)
  obtain ⟨a, rfl⟩ := Int.eq_ofNat_of_zero_le a1
  obtain ⟨q, rfl, hq⟩ := hp (hb (by unfold nearOp; simp))
  rw [getD_eq hv] at hq
  obtain ⟨e, t, ht, htl, _⟩ := link_at hs.gok hv hq
  obtain ⟨b3, o3, R3, rc3, rfl, hb3, hrow3, hL3, _, _⟩ := hP.at_ v hv
  obtain ⟨b4, o4, rfl, hb4, hto, _⟩ := hL3.at_ q hq
  rw [ht] at hto
  have htc : t < c.length := by rw [hs.len]; exact htl
  have hac : a < c[t].length := by rw [hs.row htl]; omega
  obtain ⟨b1, o1, R, rc, rfl, hb1, hrow, hR, _, _⟩ := hC.at_ t htc
  obtain ⟨b2, o2, rfl, hb2, hval⟩ := hR.at_ a hac
  have HF : Hid (leafF g c v (q : Int) ⟨12, (a : Int)⟩ = c[t][a]) := by
   show (c.getD (linkF g v q).to.toNat []).getD (a : Int).toNat 0 = _
   rw [e, ht, Int.toNat_natCast, Int.toNat_natCast, getD_eq htc, getD_eq hac]
  have hda : decide (a < c[t].length) = true := by simpa using hac
  have hdt : decide (t < c.length) = true := by simpa using htc
  have hdp : decide (v < g.ports.length) = true := by simpa using hv
  have hdq : decide (q < g.ports[v].length) = true := by simpa using hq
  clear hP hC hb hp har hR ha hL3 e ht
  go_enter Tryz.func135, Tryz.ntmps135
  go_wp2
  go_quiet (fail)
  go_wp2
  go_ret
  exact ⟨ret_int HF.out.symm, HB.drewN _⟩
 ·have HF : Hid (leafF g c v port ⟨op, arg⟩ = factF g op v port) := by
   show leafF g c v port ⟨op, arg⟩ = _
   unfold leafF
   dsimp only
   rw [if_neg (by omega), if_neg (by omega), if_neg (by omega), if_neg (by omega), if_neg (by omega), if_neg (by omega)]
  have e1 : (op == 1) = false := by simp; omega
  have e2 : (op == 2) = false := by simp; omega
  have e3 : (op == 3) = false := by simp; omega
  have e4 : (op == 4) = false := by simp; omega
  have e5 : (op == 5) = false := by simp; omega
  have e12 : (op == 12) = false := by simp; omega
  have HG := Lib.hid hs.gok
  have HQ := Lib.hid hq
  have HBB := Lib.hid hb
  have HPP := Lib.hid hp
  have hcell := Lib.hid (fun w' (kk : Bel (w.alloc (.cells #[.int .i64 op, .int .i64 arg] 110)) w') => And.intro (((box_bel kk).cell yl).trans y0) (And.intro (((box_bel kk).cell yl).trans y2) (And.intro (box_cell kk 0 (v := .int .i64 op) rfl) (box_lt kk))))
  clear hP hC hb hp har ha hq
  replace HB := Bel.refl (w.alloc (.cells #[.int .i64 op, .int .i64 arg] 110))
  go_enter Tryz.func135, Tryz.ntmps135
  go_wp2_with fail
  replace HB := HB.drew
  go_region_held3 (fun w' => w'.cell? ⟨K, 0, none⟩ = some (.pointer (some ⟨B, 0, none⟩)) ∧ w'.cell? ⟨K, 2, none⟩ = some (.int .i64 v) ∧ w'.cell? ⟨w.heap.size, 0, none⟩ = some (.int .i64 op) ∧ w.heap.size < w'.heap.size) (exact hcell.out _ HB)
   (first | (go_simp; go_at_call 149; refine (fact_any B p g op v port b _ (HSC.out _ (box_bel HB)) HG.out hv HQ.out HBB.out HPP.out).mono ?_; rintro e w' ⟨rfl, hbb⟩; replace HB := HB.trans hbb; clear hbb))
  go_wp2_with fail
  go_ret
  exact ⟨ret_int HF.out.symm, box_bel HB⟩

end Go.Proofs.YtgemlgpjbclonaaGreatDoor

/- Contracts: the program's walk: aggregate and value. -/
namespace Go.Proofs.YtgemlgpjbclonaaGreatDoor
open Go.RowKit

def ValueOk (p : Prg) (g : Graph) (c : Config) (v : Nat) (x : Ex) : Prop :=
 ∀ (b : Bool) (port : Int) (K : Nat) (A : Option Addr) (ce : Nat) (es : List Term) (k : Nat) (w : World), WalkR w K p g c v A ce es → x.At es k → (∀ t ∈ es, argF t p.vars.length = true) → es.length ≤ 1000 → boundOK b x → portOK g v b port →
  Calls Tryz.prog 115 #[.pointer (some ⟨K, 0, none⟩), .int .i64 k, .int .i64 port] w fun e w' => e = .returned (.tuple #[.int .i64 (evalF g c v port x), .int .i64 ((k + x.len : Nat) : Int)]) ∧ Bel w w'

theorem run_arr (V n : Nat) (h : n ≤ 24) (w : World) : (Instr.sliceAt 121 (.pointer (some ⟨V, 0, none⟩)) none (some (.int .i64 (n : Int))) none).run Tryz.prog w = .ok (.slice (some ⟨V, 0, none⟩) n 24) w := by
 obtain ⟨j0, hj0, _⟩ := info_parts int_info
 simp [Instr.sliceAt, run_underlying Tryz.underlying121, Instr.sliceBounds, Instr.sliceBound, asIntOf, h, sizeOf, typeInfo, hj0, Instr.sureAddr, Addr.add]
/-- An array of 24 numbers, whose first are laid. -/
def arrC (l : List Int) : Array Value := ((l ++ List.replicate (24 - l.length) 0).map (Value.int .i64)).toArray
theorem arrC_get (l : List Int) (j : Nat) (h : l.length = j) (hj : j < 24) : (arrC l)[j]? = some (.int .i64 0) := by
 unfold arrC
 rw [List.getElem?_toArray, List.getElem?_map, List.getElem?_append_right (by omega), List.getElem?_replicate, if_pos (by omega)]
 rfl
theorem arrC_at (l : List Int) (i : Nat) (x : Int) (h : l[i]? = some x) : (arrC l)[i]? = some (.int .i64 x) := by
 unfold arrC
 rw [List.getElem?_toArray, List.getElem?_map, List.getElem?_append_left (List.getElem?_eq_some_iff.1 h).1, h]
 rfl
theorem arrC_set (l : List Int) (j : Nat) (x : Int) (h : l.length = j) (hj : j < 24) : (arrC l).setIfInBounds j (.int .i64 x) = arrC (l ++ [x]) := by
 unfold arrC
 rw [List.setIfInBounds_toArray]
 congr 1
 rw [← List.map_set, List.set_append_right _ _ (by omega), h, Nat.sub_self, show 24 - j = (24 - (j + 1)) + 1 by omega, List.replicate_succ, List.set_cons_zero]
 simp [h]
set_option maxRecDepth 100000 in
set_option maxHeartbeats 4000000 in
theorem aggr_any (p : Prg) (g : Graph) (c : Config) (v : Nat) (a : Ex) (ih : ValueOk p g c v a) (hs : SOK p g c v) (op : Int) (K : Nat) (A : Option Addr) (ce : Nat) (es : List Term) (k : Nat) (w : World) (hW : WalkR w K p g c v A ce es) (hat : a.At es (k + 1)) (hend : endF es (k : Int) = ((k + 1 + a.len : Nat) : Int)) (harg : ∀ t ∈ es, argF t p.vars.length = true) (hlen : es.length ≤ 1000) (hbo : boundOK true a) (hop1 : 20 ≤ op) (hop2 : op ≤ 29) :
  Calls Tryz.prog 137 #[.pointer (some ⟨K, 0, none⟩), .int .i64 op, .int .i64 k] w fun e w' => e = .returned (.tuple #[.int .i64 (foldF op ((List.range (g.ports.getD v []).length).map fun (q : Nat) => evalF g c v (q : Int) a)), .int .i64 ((k + 1 + a.len : Nat) : Int)]) ∧ Bel w w' := by
 have HWK := Lib.hid (fun w' (k : Bel w w') => hW.keep k)
 have HIH := Lib.hid ih
 have HS := Lib.hid hs
 obtain ⟨B, AC, kc, hK, hS, hC, hT⟩ := hW
 obtain ⟨A1, k1, A2, k2, A3, k3, A4, k4, gb, hB, _, hGV, _⟩ := hS
 obtain ⟨A', k', A2', k2', eG, _, _, _, hP, _, _⟩ := hGV
 obtain ⟨⟨rfl, rfl⟩, rfl, rfl⟩ : (A3 = A' ∧ k3 = k') ∧ A4 = A2' ∧ k4 = k2' := by simpa using eG
 have y0 := hK.cell 0 (v := .pointer (some ⟨B, 0, none⟩)) rfl
 have y2 := hK.cell 2 (v := .int .i64 v) rfl
 have y3 := hK.cell 3 (v := .slice A es.length ce) rfl
 have yl := hK.lt
 have z4 := hB.cell 4 (v := .slice A4 g.ports.length k4) rfl
 have zl := hB.lt
 have hv := hs.node
 obtain ⟨b3, o3, R3, rc3, rfl, hb3, hrow3, _, _, _⟩ := hP.at_ v hv
 have hdp : decide (v < g.ports.length) = true := by simpa using hv
 have hbd := At.bound hat
 have HT := Lib.hid (fun w' (k : Bel w w') => TermsR.keep hT k)
 have HAT := Lib.hid hat
 have HE := Lib.hid hend
 clear hend
 have HARG := Lib.hid harg
 have HBO := Lib.hid hbo
 have hrl : g.ports[v].length ≤ 24 := by have := linksOK_len hv (hs.gok.links v hv); have := hs.gok.le; omega
 have HPK : Hid (∀ q : Nat, q < g.ports[v].length → portOK g v true (q : Int)) := fun q hq _ => ⟨q, rfl, by rw [getD_eq hv]; exact hq⟩
 have HNN : Hid (∀ y ∈ (List.range g.ports[v].length).map fun (q : Nat) => evalF g c v (q : Int) a, Num y) := by
  intro y hy
  obtain ⟨q, hq, rfl⟩ := List.mem_map.1 hy
  exact eval_num hs hat.1 (fun t ht => harg t (terms_mem hat t ht)) hbo (HPK.out q (List.mem_range.1 hq))
 rw [getD_eq hv]
 have HY := Lib.hid (fun w' (kk : Bel w w') => And.intro ((kk.cell yl).trans y0) (And.intro ((kk.cell yl).trans y2) (And.intro ((kk.cell yl).trans y3) (Nat.lt_of_lt_of_le yl kk.size))))
 clear hK hB eG hC hP ih hs hT hat harg hbo
 go_enter Tryz.func137, Tryz.ntmps137
 go_wp2_with fail
 go_quiet (fail)
 go_wp2_with fail
 have HV : Hid (Blk ((w.alloc (.cells (arrC ((List.range 0).map fun (q : Nat) => evalF g c v (q : Int) a)) 121)).drewN nq) w.heap.size (arrC ((List.range 0).map fun (q : Nat) => evalF g c v (q : Int) a)) 121) := (Blk.new w _ _).drewN _
 have HB := ((Bel.refl w).alloc (.cells (arrC ((List.range 0).map fun (q : Nat) => evalF g c v (q : Int) a)) 121)).drewN nq
 clear y0 y2 y3 z4 hrow3
 go_loopg [7, 10, 27] g.ports[v].length (fun m s _x z wr => ∃ (j : Nat), j ≤ g.ports[v].length ∧ m = g.ports[v].length - j ∧ z = .int .i64 j ∧ s = .int .i64 (if j = 0 then 0 else ((k + 1 + a.len : Nat) : Int)) ∧ Hid (Blk wr w.heap.size (arrC ((List.range j).map fun (q : Nat) => evalF g c v (q : Int) a)) 121) ∧ Bel w wr)
 case atStart => exact ⟨0, by omega, rfl, rfl, rfl, HV, HB⟩
 case round =>
  clear HV HB
  obtain ⟨j, hj, rfl, rfl, rfl, HV, HB⟩ := hrel
  obtain ⟨y0, y2, y3, yl2⟩ := HY.out _ HB
  by_cases hlt2 : j < g.ports[v].length
  ·have hd0 : decide (j < g.ports[v].length) = true := by simpa using hlt2
   have hd1 : decide (j < 24) = true := by simp; omega
   have hl : ((List.range j).map fun (q : Nat) => evalF g c v (q : Int) a).length = j := by simp
   have HST : Hid (((List.range (j + 1)).map fun (q : Nat) => evalF g c v (q : Int) a) = ((List.range j).map fun (q : Nat) => evalF g c v (q : Int) a) ++ [evalF g c v (j : Int) a]) := by
    show ((List.range (j + 1)).map fun (q : Nat) => evalF g c v (q : Int) a) = _
    rw [List.range_succ, List.map_append]; rfl
   go_wp2_with (go_at_call 115; refine (HIH.out true (j : Int) K A ce es (k + 1) _ (HWK.out _ HB) HAT.out HARG.out hlen HBO.out (HPK.out j hlt2)).mono ?_; rintro e w4 ⟨rfl, hbb⟩; replace HB := HB.trans hbb; replace HV := Lib.hid (HV.out.keep hbb); clear hbb; have q1 := HV.out.cell j (arrC_get _ j hl (by omega)); have q2 := HV.out.frozen j; have q3 := HV.out.lt)
   go_roundg (g.ports[v].length - (j + 1))
   case rel =>
    refine ⟨j + 1, by omega, rfl, by go_num, by simp, ?_, HB.setCell (by simp) _⟩
    have h1 := HV.out.set j (.int .i64 (evalF g c v (j : Int) a))
    rw [arrC_set _ j _ hl (by omega)] at h1
    show Blk _ _ _ _
    rw [HST.out]; exact h1
   case measure => omega
  ·have hd0 : decide (j < g.ports[v].length) = false := by simpa using hlt2
   obtain rfl : j = g.ports[v].length := by omega
   have HI : Hid (IntsR wr (some ⟨w.heap.size, 0, none⟩) g.ports[v].length ((List.range g.ports[v].length).map fun (q : Nat) => evalF g c v (q : Int) a)) := by
    refine ⟨by simp, fun i x hx => ⟨_, 0, rfl, HV.out.lt, ?_⟩⟩
    have h1 := HV.out.cell i (v := .int .i64 x) (arrC_at _ i x hx)
    rwa [Nat.zero_add, Nat.mul_one]
   have hsl := run_arr w.heap.size g.ports[v].length hrl wr
   by_cases h0 : g.ports[v].length = 0
   ·rw [if_pos h0]
    have hd2 : ((g.ports[v].length : Int) == 0) = true := by simpa using h0
    have hd3 : (g.ports[v].length == 0) = true := by simpa using h0
    clear h0
    go_wp2_with (first
     | (go_at_call 151; refine (end_any _ _ _ es _ _ (HT.out _ HB) (by omega)).mono ?_; rintro e w' ⟨rfl, rfl⟩; rw [HE.out])
     | (go_at_call 152; refine (fold_any _ _ _ _ op _ HI.out (by omega) hop1 hop2 HNN.out).mono ?_; rintro e w' ⟨rfl, rfl⟩))
    go_ret2
    exact ⟨rfl, HB⟩
   ·rw [if_neg h0]
    have hd2 : ((g.ports[v].length : Int) == 0) = false := by simpa using h0
    have hd3 : (g.ports[v].length == 0) = false := by simpa using h0
    clear h0
    go_wp2_with (first
     | (go_at_call 152; refine (fold_any _ _ _ _ op _ HI.out (by omega) hop1 hop2 HNN.out).mono ?_; rintro e w' ⟨rfl, rfl⟩))
    go_ret2
    exact ⟨rfl, HB⟩

end Go.Proofs.YtgemlgpjbclonaaGreatDoor

/- Contract: the program's walk: value. -/
namespace Go.Proofs.YtgemlgpjbclonaaGreatDoor
open Go.RowKit

set_option maxRecDepth 100000 in
set_option maxHeartbeats 4000000 in
theorem value_any (p : Prg) (g : Graph) (c : Config) (v : Nat) (hs : SOK p g c v) (x : Ex) : ValueOk p g c v x := by
 induction x with
 | leaf t =>
  intro b port K A ce es k w hW hat harg hlen hbo hpo
  have hlt := At.lt hat
  obtain ⟨hh, har⟩ := At.leaf hat
  have HWK := Lib.hid (fun w' (k : Bel w w') => hW.keep k)
  obtain ⟨B, AC, kc, hK, _, _, hT⟩ := hW
  have y3 := hK.cell 3 (v := .slice A es.length ce) rfl
  have yl := hK.lt
  obtain ⟨b1, o1, rfl, hb1, c1, c2⟩ := hT.at_ k hlt
  have hhe : es[k] = t := by rw [List.getElem?_eq_getElem hlt] at hh; simpa using hh
  rw [hhe] at c1 c2
  have HARG := Lib.hid (show argF t p.vars.length = true by rw [← hhe]; exact harg _ (List.getElem_mem hlt))
  have hr := (arity_bounds t.op).1 har
  have HAR := Lib.hid har
  have HBO := Lib.hid (show nearOp t.op = true → b = true from hbo)
  have HPO := Lib.hid hpo
  have HS := Lib.hid hs
  have HB := (Bel.refl w).alloc (.cells #[.int .i64 t.op, .int .i64 t.arg] 110)
  have hdk : decide (k < es.length) = true := by simpa using hlt
  have hd17 : decide (t.op ≤ 17) = true := by simpa using hr.2
  clear hh hhe harg hT har hat hbo hpo hK hs hr
  go_enter Tryz.func115, Tryz.ntmps115
  go_wp2_with (go_at_call 135; refine (leafV_any K p g c v _ ce es port t b _ (HWK.out _ HB) HS.out HAR.out HARG.out HBO.out HPO.out).mono ?_; rintro e w' ⟨rfl, hbb⟩; replace HB := HB.trans hbb; clear hbb)
  go_ret2
  exact ⟨rfl, HB⟩
 | un t a ih =>
  intro b port K A ce es k w hW hat harg hlen hbo hpo
  have hlt := At.lt hat
  have hend := At.endF hat
  have hbd := At.bound hat
  obtain ⟨hh, har, ha⟩ := At.un hat
  have HWK := Lib.hid (fun w' (k : Bel w w') => hW.keep k)
  obtain ⟨B, AC, kc, hK, _, _, hT⟩ := hW
  have y3 := hK.cell 3 (v := .slice A es.length ce) rfl
  have yl := hK.lt
  obtain ⟨b1, o1, rfl, hb1, c1, c2⟩ := hT.at_ k hlt
  have hhe : es[k] = t := by rw [List.getElem?_eq_getElem hlt] at hh; simpa using hh
  rw [hhe] at c1 c2
  have HARG := Lib.hid harg
  have HS := Lib.hid hs
  have HPO := Lib.hid hpo
  have HBX := Bel.refl (w.alloc (.cells #[.int .i64 t.op, .int .i64 t.arg] 110))
  have hdk : decide (k < es.length) = true := by simpa using hlt
  have hr := (arity_bounds t.op).2.1 har
  have hd17 : decide (t.op ≤ 17) = false := by simp; omega
  have HIH := Lib.hid ih
  have HATA := Lib.hid ha
  have HNA := Lib.hid (fun (b' : Bool) (q : Int) (h1 : boundOK b' a) (h2 : portOK g v b' q) => eval_num hs ha.1 (fun t ht => harg t (terms_mem ha t ht)) h1 h2)
  have HLN : Hid (k + (Ex.un t a).len = k + 1 + a.len) := by show k + (Ex.un t a).len = _; simp [Ex.len, Ex.terms]; omega
  cases hag : aggregate t.op with
  | true =>
   have HBO : Hid (boundOK true a) := by
    have hb' : boundOK (b || aggregate t.op) a := hbo
    rw [hag, Bool.or_true] at hb'; exact hb'
   have HE : Hid (evalF g c v port (.un t a) = foldF t.op ((List.range (g.ports.getD v []).length).map fun (q : Nat) => evalF g c v (q : Int) a)) := by
    show evalF g c v port (.un t a) = _
    simp only [evalF, hag, if_true]
   obtain ⟨hop1, hop2⟩ : 20 ≤ t.op ∧ t.op ≤ 29 := by unfold aggregate at hag; exact of_decide_eq_true hag
   have hd19 : decide (t.op ≤ 19) = false := by simp; omega
   have hd29 : decide (t.op ≤ 29) = true := by simpa using hop2
   have HEND : Hid (endF es (k : Int) = ((k + 1 + a.len : Nat) : Int)) := by show endF es (k : Int) = _; rw [hend, HLN.out]
   clear hh hhe harg hT har hat hbo hpo hK hs hr ih ha hag hend
   go_enter Tryz.func115, Tryz.ntmps115
   go_wp2_with (go_at_call 137; refine (aggr_any p g c v a HIH.out HS.out t.op K _ ce es k _ (HWK.out _ (box_bel HBX)) HATA.out HEND.out HARG.out hlen HBO.out hop1 hop2).mono ?_; rintro e w' ⟨rfl, hbb⟩; replace HBX := HBX.trans hbb; clear hbb)
   go_ret2
   rw [HE.out, HLN.out]
   exact ⟨rfl, box_bel HBX⟩
  | false =>
   have HBO : Hid (boundOK b a) := by
    have hb' : boundOK (b || aggregate t.op) a := hbo
    rw [hag, Bool.or_false] at hb'; exact hb'
   have HE : Hid (evalF g c v port (.un t a) = unaryF t.op (evalF g c v port a)) := by
    show evalF g c v port (.un t a) = _
    simp only [evalF, hag]; rfl
   have hd19 : decide (t.op ≤ 19) = true := by unfold aggregate at hag; simp at hag ⊢; omega
   clear hh hhe harg hT har hat hbo hpo hK hs hr ih ha hag hend
   go_enter Tryz.func115, Tryz.ntmps115
   go_wp2_with (first
    | (go_at_call 115; refine (HIH.out b port K _ ce es (k + 1) _ (HWK.out _ (box_bel HBX)) HATA.out HARG.out hlen HBO.out HPO.out).mono ?_; rintro e w' ⟨rfl, hbb⟩; replace HBX := HBX.trans hbb; clear hbb; have q0 := box_cell HBX 0 (v := .int .i64 t.op) rfl; have q1 := box_lt HBX)
    | (go_at_call 136; refine (unary_any _ _ _ (HNA.out b port HBO.out HPO.out)).mono ?_; rintro e w' ⟨rfl, rfl⟩))
   go_ret2
   rw [HE.out, HLN.out]
   exact ⟨rfl, box_bel HBX⟩
 | bin t x y ihx ihy =>
  intro b port K A ce es k w hW hat harg hlen hbo hpo
  have hlt := At.lt hat
  have hend := At.endF hat
  have hbd := At.bound hat
  obtain ⟨hh, har, hx, hy⟩ := At.bin hat
  have HWK := Lib.hid (fun w' (k : Bel w w') => hW.keep k)
  obtain ⟨B, AC, kc, hK, _, _, hT⟩ := hW
  have y3 := hK.cell 3 (v := .slice A es.length ce) rfl
  have yl := hK.lt
  obtain ⟨b1, o1, rfl, hb1, c1, c2⟩ := hT.at_ k hlt
  have hhe : es[k] = t := by rw [List.getElem?_eq_getElem hlt] at hh; simpa using hh
  rw [hhe] at c1 c2
  have HARG := Lib.hid harg
  have HS := Lib.hid hs
  have HPO := Lib.hid hpo
  have HBX := Bel.refl (w.alloc (.cells #[.int .i64 t.op, .int .i64 t.arg] 110))
  have hdk : decide (k < es.length) = true := by simpa using hlt
  have hr := (arity_bounds t.op).2.2.1 har
  have hd17 : decide (t.op ≤ 17) = false := by simp; omega
  have hd19 : decide (t.op ≤ 19) = false := by simp; omega
  have hd29 : decide (t.op ≤ 29) = false := by simp; omega
  have hd42 : decide (t.op ≤ 42) = true := by simp; omega
  obtain ⟨hop1, hop2⟩ : 30 ≤ t.op ∧ t.op ≤ 42 := by omega
  have HX := Lib.hid ihx
  have HY := Lib.hid ihy
  have HAX := Lib.hid hx
  have HAY := Lib.hid hy
  have HBO := Lib.hid (show boundOK b x ∧ boundOK b y from hbo)
  have HNX := Lib.hid (eval_num hs hx.1 (fun t ht => harg t (terms_mem hx t ht)) HBO.out.1 hpo)
  have HNY := Lib.hid (eval_num hs hy.1 (fun t ht => harg t (terms_mem hy t ht)) HBO.out.2 hpo)
  have HLN : Hid (k + (Ex.bin t x y).len = k + 1 + x.len + y.len) := by show k + (Ex.bin t x y).len = _; simp [Ex.len, Ex.terms]; omega
  clear hh hhe harg hT har hat hbo hpo hK hs hr ihx ihy hx hy hend
  go_enter Tryz.func115, Tryz.ntmps115
  go_wp2_with (first
   | (go_at_call 115; refine (HX.out b port K _ ce es (k + 1) _ (HWK.out _ (box_bel HBX)) HAX.out HARG.out hlen HBO.out.1 HPO.out).mono ?_; rintro e w' ⟨rfl, hbb⟩; replace HBX := HBX.trans hbb; clear hbb; clear HX)
   | (go_at_call 115; refine (HY.out b port K _ ce es (k + 1 + x.len) _ (HWK.out _ (box_bel HBX)) HAY.out HARG.out hlen HBO.out.2 HPO.out).mono ?_; rintro e w' ⟨rfl, hbb⟩; replace HBX := HBX.trans hbb; clear hbb; have q0 := box_cell HBX 0 (v := .int .i64 t.op) rfl; have q1 := box_lt HBX)
   | (go_at_call 138; refine (binary_any _ _ _ _ hop1 hop2 HNX.out HNY.out).mono ?_; rintro e w' ⟨rfl, rfl⟩))
  go_ret2
  rw [HLN.out]
  exact ⟨rfl, box_bel HBX⟩
 | tri t x y z ihx ihy ihz =>
  intro b port K A ce es k w hW hat harg hlen hbo hpo
  have hlt := At.lt hat
  have hend := At.endF hat
  have hbd := At.bound hat
  obtain ⟨hh, har, hx, hy, hz⟩ := At.tri hat
  have HWK := Lib.hid (fun w' (k : Bel w w') => hW.keep k)
  obtain ⟨B, AC, kc, hK, _, _, hT⟩ := hW
  have y3 := hK.cell 3 (v := .slice A es.length ce) rfl
  have yl := hK.lt
  obtain ⟨b1, o1, rfl, hb1, c1, c2⟩ := hT.at_ k hlt
  have hhe : es[k] = t := by rw [List.getElem?_eq_getElem hlt] at hh; simpa using hh
  rw [hhe] at c1 c2
  have HARG := Lib.hid harg
  have HS := Lib.hid hs
  have HPO := Lib.hid hpo
  have HBX := Bel.refl (w.alloc (.cells #[.int .i64 t.op, .int .i64 t.arg] 110))
  have hdk : decide (k < es.length) = true := by simpa using hlt
  have hr := (arity_bounds t.op).2.2.2 har
  have hd17 : decide (t.op ≤ 17) = false := by simp; omega
  have hd19 : decide (t.op ≤ 19) = false := by simp; omega
  have hd29 : decide (t.op ≤ 29) = false := by simp; omega
  have hd42 : decide (t.op ≤ 42) = false := by simp; omega
  have HX := Lib.hid ihx
  have HY := Lib.hid ihy
  have HZ := Lib.hid ihz
  have HAX := Lib.hid hx
  have HAY := Lib.hid hy
  have HAZ := Lib.hid hz
  have HBO := Lib.hid (show boundOK b x ∧ boundOK b y ∧ boundOK b z from hbo)
  have HLN : Hid (k + (Ex.tri t x y z).len = k + 1 + x.len + y.len + z.len) := by show k + (Ex.tri t x y z).len = _; simp [Ex.len, Ex.terms]; omega
  have HEV : Hid (evalF g c v port (.tri t x y z) = if evalF g c v port x ≠ 0 then evalF g c v port y else evalF g c v port z) := by show evalF g c v port (.tri t x y z) = _; simp only [evalF]
  clear hh hhe harg hT har hat hbo hpo hK hs hr ihx ihy ihz hx hy hz hend
  by_cases h0 : evalF g c v port x = 0
  ·rw [if_neg (by simpa using h0)] at HEV
   have hd0 : (evalF g c v port x != 0) = false := by simpa using h0
   clear h0
   go_enter Tryz.func115, Tryz.ntmps115
   go_wp2_with (first
    | (go_at_call 115; refine (HX.out b port K _ ce es (k + 1) _ (HWK.out _ (box_bel HBX)) HAX.out HARG.out hlen HBO.out.1 HPO.out).mono ?_; rintro e w' ⟨rfl, hbb⟩; replace HBX := HBX.trans hbb; clear hbb; clear HX)
    | (go_at_call 115; refine (HY.out b port K _ ce es (k + 1 + x.len) _ (HWK.out _ (box_bel HBX)) HAY.out HARG.out hlen HBO.out.2.1 HPO.out).mono ?_; rintro e w' ⟨rfl, hbb⟩; replace HBX := HBX.trans hbb; clear hbb; clear HY)
    | (go_at_call 115; refine (HZ.out b port K _ ce es (k + 1 + x.len + y.len) _ (HWK.out _ (box_bel HBX)) HAZ.out HARG.out hlen HBO.out.2.2 HPO.out).mono ?_; rintro e w' ⟨rfl, hbb⟩; replace HBX := HBX.trans hbb; clear hbb))
   go_ret2
   rw [HLN.out, HEV.out]
   exact ⟨rfl, box_bel HBX⟩
  ·rw [if_pos h0] at HEV
   have hd0 : (evalF g c v port x != 0) = true := by simpa using h0
   clear h0
   go_enter Tryz.func115, Tryz.ntmps115
   go_wp2_with (first
    | (go_at_call 115; refine (HX.out b port K _ ce es (k + 1) _ (HWK.out _ (box_bel HBX)) HAX.out HARG.out hlen HBO.out.1 HPO.out).mono ?_; rintro e w' ⟨rfl, hbb⟩; replace HBX := HBX.trans hbb; clear hbb; clear HX)
    | (go_at_call 115; refine (HY.out b port K _ ce es (k + 1 + x.len) _ (HWK.out _ (box_bel HBX)) HAY.out HARG.out hlen HBO.out.2.1 HPO.out).mono ?_; rintro e w' ⟨rfl, hbb⟩; replace HBX := HBX.trans hbb; clear hbb; clear HY)
    | (go_at_call 115; refine (HZ.out b port K _ ce es (k + 1 + x.len + y.len) _ (HWK.out _ (box_bel HBX)) HAZ.out HARG.out hlen HBO.out.2.2 HPO.out).mono ?_; rintro e w' ⟨rfl, hbb⟩; replace HBX := HBX.trans hbb; clear hbb))
   go_ret2
   rw [HLN.out, HEV.out]
   exact ⟨rfl, box_bel HBX⟩

end Go.Proofs.YtgemlgpjbclonaaGreatDoor

/- Contracts: the program's Scene.Value, Scene.Guard. -/
namespace Go.Proofs.YtgemlgpjbclonaaGreatDoor
open Go.RowKit

/-- What an expression must be to be evaluated in a scene. -/
structure EOK (p : Prg) (es : List Term) : Prop where
 ok : (treeOf es).ok
 terms : (treeOf es).terms = es
 arg : ∀ t ∈ es, argF t p.vars.length = true
 bound : boundOK false (treeOf es)
 len : es.length ≤ 1000

set_option maxRecDepth 100000 in
set_option maxHeartbeats 2000000 in
theorem sceneValue_any (B : Nat) (p : Prg) (g : Graph) (vc : Value) (c : Config) (v : Nat) (A : Option Addr) (ce : Nat) (es : List Term) (w : World) (hS : SceneR w B p g) (hC : ConfV w vc c) (hT : TermsR w A es.length es) (hs : SOK p g c v) (he : EOK p es) :
  Calls Tryz.prog 89 #[.pointer (some ⟨B, 0, none⟩), vc, .int .i64 v, .slice A es.length ce] w fun e w' => e = .returned (.int .i64 (evalF g c v (-1) (treeOf es))) ∧ Bel w w' := by
 have HC := Lib.hid hC
 obtain ⟨AC, kc, rfl, _, _, _⟩ := hC
 have HS := Lib.hid hS
 have HT := Lib.hid hT
 have HK := Lib.hid hs
 have HE := Lib.hid he
 have hlen := he.len
 clear hS hT hs he
 go_enter Tryz.func89, Tryz.ntmps89
 have HB := (Bel.refl w).alloc (.cells #[.pointer (some ⟨B, 0, none⟩), .slice AC c.length kc, .int .i64 v, .slice A es.length ce] 171)
 have HWK : Hid (WalkR (w.alloc (.cells #[.pointer (some ⟨B, 0, none⟩), .slice AC c.length kc, .int .i64 v, .slice A es.length ce] 171)) w.heap.size p g c v A ce es) :=
  ⟨B, AC, kc, Blk.new w _ _, HS.out.keep HB, HC.out.keep HB, TermsR.keep HT.out HB⟩
 go_wp2_with (go_at_call 115; refine (value_any p g c v HK.out (treeOf es) false (-1) _ _ _ es 0 _ HWK.out (At.whole HE.out.ok HE.out.terms) HE.out.arg hlen HE.out.bound portOK_false).mono ?_; rintro e w' ⟨rfl, hbb⟩; replace HB := HB.trans hbb; clear hbb)
 go_ret
 exact ⟨rfl, HB⟩

set_option maxRecDepth 100000 in
set_option maxHeartbeats 2000000 in
theorem sceneGuard_any (B : Nat) (p : Prg) (g : Graph) (vc : Value) (c : Config) (v i : Nat) (w : World) (hS : SceneR w B p g) (hC : ConfV w vc c) (hs : SOK p g c v) (hi : i < p.rules.length) (he : EOK p p.rules[i].guard) :
  Calls Tryz.prog 88 #[.pointer (some ⟨B, 0, none⟩), vc, .int .i64 v, .int .i64 i] w fun e w' => e = .returned (.bool (evalF g c v (-1) (treeOf p.rules[i].guard) != 0)) ∧ Bel w w' := by
 have HC := Lib.hid hC
 obtain ⟨AC, kc, rfl, _, _, _⟩ := hC
 have HS := Lib.hid hS
 have HK := Lib.hid hs
 have HE := Lib.hid he
 obtain ⟨A1, k1, A2, k2, A3, k3, A4, k4, gb, hB, hP, _, _⟩ := hS
 obtain ⟨A1', k1', A2', k2', eP, _, _, _, hR, _, _⟩ := hP
 obtain ⟨⟨rfl, rfl⟩, rfl, rfl⟩ : (A1 = A1' ∧ k1 = k1') ∧ A2 = A2' ∧ k2 = k2' := by simpa using eP
 have z2 := hB.cell 2 (v := .slice A2 p.rules.length k2) rfl
 have zl := hB.lt
 obtain ⟨bR, oR, G, gc, S, sc, rfl, hbR, _, cg, _, hTG, _, _, _, _, _⟩ := hR.at_ i hi
 have HTG := Lib.hid hTG
 have hdi : decide (i < p.rules.length) = true := by simpa using hi
 clear eP hTG hs he hB
 go_enter Tryz.func88, Tryz.ntmps88
 go_wp2_with (go_at_call 89; refine (sceneValue_any B p g _ c v _ _ _ _ HS.out HC.out HTG.out HK.out HE.out).mono ?_; rintro e w' ⟨rfl, hbb⟩)
 go_ret
 exact ⟨rfl, hbb⟩

theorem guard_eok {p : Prg} (hc : checkF p = 0) (hl : lightP p = true) {i : Nat} (hi : i < p.rules.length) : EOK p p.rules[i].guard := by
 obtain ⟨t1, t2, t4, t5⟩ := guard_tree hc (List.getElem_mem hi)
 have hgl := (lightR_parts ((lightP_parts hl).2.2.2.2 _ (List.getElem_mem hi))).2.2.1
 exact ⟨t1, t2, t4, t5, by omega⟩

end Go.Proofs.YtgemlgpjbclonaaGreatDoor

