/- Merged of: WGa WGc WGd WGb (see NOTES.md). -/
import Derived.Test.YtgemlgpjbclonaaGreatDoorZ07
import Derived.Test.YtgemlgpjbclonaaGreatDoorZ06
import Derived.Deep.RegionHeld3
set_option linter.unusedSimpArgs false
set_option linter.unnecessarySimpa false
set_option linter.unusedVariables false

/- Contracts: what is light. -/
namespace Go.Proofs.YtgemlgpjbclonaaGreatDoor
open Go.RowKit

theorem all_take_succ {α : Type} {f : α → Bool} {l : List α} {k : Nat} (h : k < l.length) (ha : (l.take k).all f = true) (hk : f l[k] = true) : (l.take (k + 1)).all f = true := by
 rw [List.take_succ_eq_append_getElem h, List.all_append, ha]; simp [hk]
theorem all_false_at {α : Type} {f : α → Bool} {l : List α} {k : Nat} (h : k < l.length) (hk : f l[k] = false) : l.all f = false := by
 rw [List.all_eq_false]; exact ⟨l[k], List.getElem_mem h, by simp [hk]⟩
theorem all_of_take {α : Type} {f : α → Bool} {l : List α} {k : Nat} (h : l.length ≤ k) (ha : (l.take k).all f = true) : l.all f = true := by rwa [List.take_of_length_le h] at ha

def lightC (c : Config) : Bool := decide (c.length ≤ 30) && c.all fun r => decide (r.length ≤ 10)


def lightG (g : Graph) : Bool := decide (g.ids.length ≤ 30) && decide (g.ports.length ≤ 30) && g.ports.all fun r => decide (r.length ≤ 30)
set_option maxRecDepth 100000 in
theorem lightGraph_any (v : Value) (g : Graph) (w : World) (h : GraphV w v g) :
  Calls Tryz.prog 15 #[v] w fun e w' => e = .returned (.bool (lightG g)) ∧ Bel w w' := by
 obtain ⟨A, k, A2, k2, rfl, _, _, _, hr, _, _⟩ := h
 have H := Lib.hid hr; clear hr
 by_cases hl : g.ids.length ≤ 30 ∧ g.ports.length ≤ 30
 ·obtain ⟨hl1, hl2⟩ := hl
  go_enter Tryz.func15, Tryz.ntmps15
  go_wp2
  go_loopg [3] g.ports.length (fun m i wr => ∃ j : Nat, j ≤ g.ports.length ∧ m = g.ports.length - j ∧ Hid ((g.ports.take j).all (fun r => decide (r.length ≤ 30)) = true) ∧ i = .int .i64 j ∧ w.alloc (.cells #[.slice A g.ids.length k, .slice A2 g.ports.length k2] 29) = wr)
  case atStart => exact ⟨0, by omega, rfl, rfl, rfl, rfl⟩
  case round =>
   obtain ⟨j, hj, rfl, HK, rfl, rfl⟩ := hrel
   by_cases hlt : j < g.ports.length
   ·obtain ⟨b, o, R, c1, rfl, hb, hc1, _, _, _⟩ := H.out.at_ j hlt
    go_wp2
    ·go_ret
     exact ⟨ret_bool (by unfold lightG; rw [all_false_at hlt (by simp; omega)]; simp), (Bel.refl _).alloc _⟩
    ·go_roundg (g.ports.length - (j + 1))
     case rel => exact ⟨j + 1, by omega, rfl, all_take_succ hlt HK.out (by simp; omega), by go_num, rfl⟩
     case measure => omega
   ·go_wp2
    go_ret
    exact ⟨ret_bool (by unfold lightG; rw [all_of_take (by omega) HK.out]; simp [hl1, hl2]), (Bel.refl _).alloc _⟩
 ·have hf : Hid (lightG g = false) := by
   show lightG g = false
   unfold lightG
   rw [Bool.eq_false_iff]; intro h; simp at h; omega
  by_cases h1 : 30 < g.ids.length
  ·go_enter Tryz.func15, Tryz.ntmps15
   go_wp2
   go_ret
   exact ⟨ret_bool hf.out.symm, (Bel.refl _).alloc _⟩
  ·have h2 : 30 < g.ports.length := by omega
   clear hl
   go_enter Tryz.func15, Tryz.ntmps15
   go_wp2
   go_ret
   exact ⟨ret_bool hf.out.symm, (Bel.refl _).alloc _⟩

def degreesF (g : Graph) : Nat := (g.ports.map List.length).foldl max 1
theorem foldl_nmax_le (l : List Nat) (a b : Nat) (ha : a ≤ b) (h : ∀ x ∈ l, x ≤ b) : l.foldl max a ≤ b := by
 induction l generalizing a with
 | nil => exact ha
 | cons x l ih => exact ih _ (Nat.max_le.2 ⟨ha, h x (by simp)⟩) (fun y hy => h y (by simp [hy]))
theorem foldl_nmax_ge (l : List Nat) (a : Nat) : a ≤ l.foldl max a := by
 induction l generalizing a with
 | nil => exact Nat.le_refl _
 | cons x l ih => exact Nat.le_trans (Nat.le_max_left a x) (ih _)
theorem ite_nmax (a b : Nat) : ∃ m : Nat, (if a < b then (b : Int) else (a : Int)) = (m : Int) ∧ m = max a b := ⟨max a b, by split <;> omega, rfl⟩

set_option maxRecDepth 100000 in
theorem degrees_any (v : Value) (g : Graph) (w : World) (h : GraphV w v g) :
  Calls Tryz.prog 58 #[v] w fun e w' => e = .returned (.int .i64 (degreesF g : Nat)) ∧ Bel w w' := by
 obtain ⟨A, k, A2, k2, rfl, _, _, _, hr, _, hm⟩ := h
 have hmx : g.ports.length ≤ 9223372036854775807 := by unfold maxLen at hm; omega
 have H := Lib.hid hr; clear hr
 go_enter Tryz.func58, Tryz.ntmps58
 go_wp2
 go_loopg [3, 4] g.ports.length (fun m d i wr => ∃ j : Nat, j ≤ g.ports.length ∧ m = g.ports.length - j ∧ d = .int .i64 ((((g.ports.take j).map List.length).foldl max 1 : Nat) : Int) ∧ i = .int .i64 j ∧ w.alloc (.cells #[.slice A g.ids.length k, .slice A2 g.ports.length k2] 29) = wr)
 case atStart => exact ⟨0, by omega, rfl, rfl, rfl, rfl⟩
 case round =>
  obtain ⟨j, hj, rfl, rfl, rfl, rfl⟩ := hrel
  by_cases hlt : j < g.ports.length
  ·obtain ⟨b, o, R, c1, rfl, hb, hc1, _, _, _⟩ := H.out.at_ j hlt
   have hs : ((g.ports.take (j + 1)).map List.length).foldl max 1 = max (((g.ports.take j).map List.length).foldl max 1) g.ports[j].length := by
    rw [List.take_succ_eq_append_getElem hlt, List.map_append, List.foldl_append]; rfl
   have HS := Lib.hid hs; clear hs
   generalize ((g.ports.take j).map List.length).foldl max 1 = D at *
   obtain ⟨m, hm1, hm2⟩ := ite_nmax D g.ports[j].length
   have HM := Lib.hid hm2; clear hm2
   go_wp2
   go_roundg (g.ports.length - (j + 1))
   case rel => exact ⟨j + 1, by omega, rfl, by rw [HS.out, ← HM.out], by go_num, rfl⟩
   case measure => omega
  ·go_wp2
   go_ret
   exact ⟨ret_int (by unfold degreesF; rw [List.take_of_length_le (by omega)]), (Bel.refl _).alloc _⟩


theorem box_cell {w wr : World} {cs : Array Value} {t : TypeId} (h : Bel (w.alloc (.cells cs t)) wr) (i : Nat) {v : Value} (hv : cs[i]? = some v) : wr.cell? ⟨w.heap.size, i, none⟩ = some v :=
 (h.cell (by simp)).trans ((Blk.new w cs t).cell i hv)
theorem box_lt {w wr : World} {cs : Array Value} {t : TypeId} (h : Bel (w.alloc (.cells cs t)) wr) : w.heap.size < wr.heap.size := by
 have := h.size; simp at this; omega
theorem box_bel {w wr : World} {o : Obj} (h : Bel (w.alloc o) wr) : Bel w wr := ((Bel.refl w).alloc o).trans h

theorem box2 {w wr : World} {cs ds : Array Value} {t u : TypeId} (h : Bel ((w.alloc (.cells cs t)).alloc (.cells ds u)) wr) :
  (∀ i v, cs[i]? = some v → wr.cell? ⟨w.heap.size, i, none⟩ = some v) ∧ (∀ i v, ds[i]? = some v → wr.cell? ⟨w.heap.size + 1, i, none⟩ = some v) ∧ w.heap.size + 1 < wr.heap.size := by
 refine ⟨fun i v hv => ?_, fun i v hv => ?_, ?_⟩
 ·exact (h.cell (by simp; omega)).trans (((Blk.new w cs t).alloc _).cell i hv)
 ·have := box_cell h i hv
  simpa using this
 ·have := box_lt h
  simpa using this
/-- A program and a graph in boxes. -/
theorem pgbox {w wr : World} {a b c d e : Value} {t u : TypeId} (h : Bel ((w.alloc (.cells #[a, b, c] t)).alloc (.cells #[d, e] u)) wr) :
  wr.cell? ⟨w.heap.size, 0, none⟩ = some a ∧ wr.cell? ⟨w.heap.size, 1, none⟩ = some b ∧ wr.cell? ⟨w.heap.size, 2, none⟩ = some c ∧ wr.cell? ⟨w.heap.size + 1, 0, none⟩ = some d ∧ wr.cell? ⟨w.heap.size + 1, 1, none⟩ = some e ∧ w.heap.size + 1 < wr.heap.size := by
 obtain ⟨h1, h2, h3⟩ := box2 h
 exact ⟨h1 0 _ rfl, h1 1 _ rfl, h1 2 _ rfl, h2 0 _ rfl, h2 1 _ rfl, h3⟩
theorem box2_bel {w wr : World} {o o2 : Obj} (h : Bel ((w.alloc o).alloc o2) wr) : Bel w wr := box_bel (box_bel h)

def lightR (r : Rule) : Bool := decide (r.name.size ≤ 40) && decide (r.sets.length ≤ 10) && decide (r.guard.length ≤ 250) && r.sets.all fun s => decide (s.value.length ≤ 250)
def lightP (p : Prg) : Bool := decide (p.name.size ≤ 40) && decide (p.vars.length ≤ 10) && decide (p.rules.length ≤ 16) && p.vars.all (fun x => decide (x.name.size ≤ 40)) && p.rules.all lightR

set_option maxRecDepth 100000 in
set_option maxHeartbeats 1000000 in
theorem lightProgram_any (v : Value) (p : Prg) (w : World) (h : PrgV w v p) :
  Calls Tryz.prog 14 #[v] w fun e w' => e = .returned (.bool (lightP p)) ∧ Bel w w' := by
 obtain ⟨A, k, A2, k2, rfl, hv, _, _, hr, _, _⟩ := h
 have HV := Lib.hid hv; clear hv
 have HR := Lib.hid (fun w' (k : Bel w w') => hr.keep k); clear hr
 by_cases hl : p.name.size ≤ 40 ∧ p.vars.length ≤ 10 ∧ p.rules.length ≤ 16
 ·obtain ⟨hl1, hl2, hl3⟩ := hl
  go_enter Tryz.func14, Tryz.ntmps14
  go_wp2
  go_loopg [3] p.vars.length (fun m i wr => ∃ j : Nat, j ≤ p.vars.length ∧ m = p.vars.length - j ∧ Hid ((p.vars.take j).all (fun x => decide (x.name.size ≤ 40)) = true) ∧ i = .int .i64 j ∧ w.alloc (.cells #[.string p.name, .slice A p.vars.length k, .slice A2 p.rules.length k2] 25) = wr)
  case atStart => exact ⟨0, by omega, rfl, rfl, rfl, rfl⟩
  case round =>
   obtain ⟨j, hj, rfl, HK, rfl, rfl⟩ := hrel
   by_cases hlt : j < p.vars.length
   ·obtain ⟨b, o, rfl, hb, hc1, _⟩ := HV.out.at_ j hlt
    go_wp2
    ·go_ret
     exact ⟨ret_bool (by unfold lightP; rw [all_false_at hlt (by simp; omega)]; simp), (Bel.refl _).alloc _⟩
    ·go_roundg (p.vars.length - (j + 1))
     case rel => exact ⟨j + 1, by omega, rfl, all_take_succ hlt HK.out (by simp; omega), by go_num, rfl⟩
     case measure => omega
   ·have HVA := Lib.hid (all_of_take (by omega) HK.out); clear HK HV
    go_wp2
    go_loopg [4] p.rules.length (fun m i wr => ∃ j : Nat, j ≤ p.rules.length ∧ m = p.rules.length - j ∧ Hid ((p.rules.take j).all lightR = true) ∧ i = .int .i64 j ∧ Bel (w.alloc (.cells #[.string p.name, .slice A p.vars.length k, .slice A2 p.rules.length k2] 25)) wr)
    case atStart => exact ⟨0, by omega, rfl, rfl, rfl, Bel.refl _⟩
    case round =>
     obtain ⟨i, hi, rfl, HK, rfl, HB⟩ := hrel
     have b1 := box_cell HB 2 rfl
     have b0 := box_lt HB
     by_cases hlt : i < p.rules.length
     ·obtain ⟨b, o, G, c, S, c2, rfl, hb, hc1, hc2, hc3, _, _, _, hS, _, _⟩ := (HR.out _ (box_bel HB)).at_ i hlt
      have HS := Lib.hid hS; clear hS
      have HB2 := HB.alloc (.cells #[.string p.rules[i].name, .slice G p.rules[i].guard.length c, .slice S p.rules[i].sets.length c2] 89)
      by_cases hl : p.rules[i].name.size ≤ 40 ∧ p.rules[i].sets.length ≤ 10 ∧ p.rules[i].guard.length ≤ 250
      ·obtain ⟨hq1, hq2, hq3⟩ := hl
       have hd3 : decide (p.rules[i].guard.length ≤ 250) = true := by simpa using hq3
       go_wp2_with (go_at_call 42; refine (light_any _ _ _ _).mono ?_; rintro e w' ⟨rfl, rfl⟩)
       go_loopg [6] p.rules[i].sets.length (fun m x ws => ∃ j : Nat, j ≤ p.rules[i].sets.length ∧ m = p.rules[i].sets.length - j ∧ Hid ((p.rules[i].sets.take j).all (fun s => decide (s.value.length ≤ 250)) = true) ∧ x = .int .i64 j ∧ wr.alloc (.cells #[.string p.rules[i].name, .slice G p.rules[i].guard.length c, .slice S p.rules[i].sets.length c2] 89) = ws)
       case atStart => exact ⟨0, by omega, rfl, rfl, rfl, rfl⟩
       case round =>
        obtain ⟨q, hq, rfl, HQ, rfl, rfl⟩ := hrel
        by_cases hlt2 : q < p.rules[i].sets.length
        ·obtain ⟨b', o', R, c', rfl, hb', hs1, hs2, _, _, _⟩ := HS.out.at_ q hlt2
         by_cases hle : p.rules[i].sets[q].value.length ≤ 250
         ·have hd4 : decide (p.rules[i].sets[q].value.length ≤ 250) = true := by simpa using hle
          go_wp2_with (go_at_call 42; refine (light_any _ _ _ _).mono ?_; rintro e w' ⟨rfl, rfl⟩)
          go_roundg (p.rules[i].sets.length - (q + 1))
          case rel => exact ⟨q + 1, by omega, rfl, all_take_succ hlt2 HQ.out (by simp; omega), by go_num, rfl⟩
          case measure => omega
         ·have hd4 : decide (p.rules[i].sets[q].value.length ≤ 250) = false := by simpa using hle
          go_wp2_with (go_at_call 42; refine (light_any _ _ _ _).mono ?_; rintro e w' ⟨rfl, rfl⟩)
          go_ret
          exact ⟨ret_bool (by unfold lightP; rw [all_false_at hlt (by unfold lightR; rw [all_false_at hlt2 hd4]; simp)]; simp), box_bel HB2⟩
        ·go_wp2
         go_roundg (p.rules.length - (i + 1))
         case rel => exact ⟨i + 1, by omega, rfl, all_take_succ hlt HK.out (by unfold lightR; rw [all_of_take (by omega) HQ.out]; simp [hq1, hq2, hq3]), by go_num, HB2⟩
         case measure => omega
      ·have hf : Hid (lightP p = false) := by
        show lightP p = false
        unfold lightP
        rw [all_false_at hlt (by unfold lightR; rw [Bool.eq_false_iff]; intro h; simp at h; omega)]; simp
       by_cases hq : 250 < p.rules[i].guard.length
       ·have hd3 : decide (p.rules[i].guard.length ≤ 250) = false := by simpa using hq
        go_wp2_with (go_at_call 42; refine (light_any _ _ _ _).mono ?_; rintro e w' ⟨rfl, rfl⟩)
        all_goals (go_ret; exact ⟨ret_bool hf.out.symm, box_bel HB2⟩)
       ·have hd3 : decide (p.rules[i].guard.length ≤ 250) = true := by simpa using hq
        go_wp2_with (go_at_call 42; refine (light_any _ _ _ _).mono ?_; rintro e w' ⟨rfl, rfl⟩)
        all_goals first
         | (go_ret; exact ⟨ret_bool hf.out.symm, box_bel HB2⟩)
         | omega
     ·go_wp2
      go_ret
      exact ⟨ret_bool (by unfold lightP; rw [HVA.out, all_of_take (by omega) HK.out]; simp [hl1, hl2, hl3]), box_bel HB⟩
 ·have hf : Hid (lightP p = false) := by
   show lightP p = false
   unfold lightP
   rw [Bool.eq_false_iff]; intro h; simp at h; omega
  go_enter Tryz.func14, Tryz.ntmps14
  go_wp2
  all_goals first
   | (go_ret; exact ⟨ret_bool hf.out.symm, (Bel.refl _).alloc _⟩)
   | omega

end Go.Proofs.YtgemlgpjbclonaaGreatDoor

/- Contracts of the reference's small functions on graphs: In, Port, SameInts, linksValid; and PortTo. -/
namespace Go.Proofs.YtgemlgpjbclonaaGreatDoor
open Go.RowKit

def inB (v lo hi : Int) : Bool := decide (lo ≤ v ∧ v ≤ hi)
theorem inB_true {v lo hi : Int} (h1 : lo ≤ v) (h2 : v ≤ hi) : inB v lo hi = true := by unfold inB; simp [h1, h2]
theorem inB_false {v lo hi : Int} (h : v < lo ∨ hi < v) : inB v lo hi = false := by unfold inB; simp; omega
theorem inB_iff {v lo hi : Int} : inB v lo hi = true ↔ lo ≤ v ∧ v ≤ hi := by unfold inB; simp

theorem in01_any (v lo hi : Int) (w : World) : Calls Tryz.prog 45 #[.int .i64 v, .int .i64 lo, .int .i64 hi] w fun e w' => e = .returned (.bool (inB v lo hi)) ∧ w = w' := by
 go_enter Tryz.func45, Tryz.ntmps45
 go_wp2
 all_goals (go_ret; refine ⟨ret_bool ?_, rfl⟩; unfold inB; rw [Bool.eq_iff_iff]; simp) <;> omega
theorem in07_any (v lo hi : Int) (w : World) : Calls Tryz.prog 117 #[.int .i64 v, .int .i64 lo, .int .i64 hi] w fun e w' => e = .returned (.bool (inB v lo hi)) ∧ w = w' := by
 go_enter Tryz.func117, Tryz.ntmps117
 go_wp2
 all_goals (go_ret; refine ⟨ret_bool ?_, rfl⟩; unfold inB; rw [Bool.eq_iff_iff]; simp) <;> omega
theorem within_any (v lo hi : Int) (w : World) : Calls Tryz.prog 146 #[.int .i64 v, .int .i64 lo, .int .i64 hi] w fun e w' => e = .returned (.bool (inB v lo hi)) ∧ w = w' := by
 go_enter Tryz.func146, Tryz.ntmps146
 go_wp2
 all_goals (go_ret; refine ⟨ret_bool ?_, rfl⟩; unfold inB; rw [Bool.eq_iff_iff]; simp) <;> omega

set_option maxRecDepth 100000 in
theorem port01_any (v : Value) (g : Graph) (i : Nat) (u : Int) (w : World) (h : GraphV w v g) (hi : i < g.ports.length) :
  Calls Tryz.prog 83 #[v, .int .i64 i, .int .i64 u] w fun e w' => e = .returned (.int .i64 (portF g.ports[i] u)) ∧ Bel w w' := by
 obtain ⟨A, k, A2, k2, rfl, _, _, _, hr, _, hm⟩ := h
 obtain ⟨b, o, R, c1, rfl, hb, hc1, hL, hn, hm2⟩ := hr.at_ i hi
 have H := Lib.hid hL; clear hL hr
 unfold maxLen at hm hm2
 go_enter Tryz.func83, Tryz.ntmps83
 go_wp2
 go_loopg [7] g.ports[i].length (fun m x wr => ∃ j : Nat, j ≤ g.ports[i].length ∧ m = g.ports[i].length - j ∧ Hid ((g.ports[i].take j).all (fun l => !(l.to == u)) = true) ∧ x = .int .i64 j ∧ w.alloc (.cells #[.slice A g.ids.length k, .slice (some ⟨b, o, none⟩) g.ports.length k2] 29) = wr)
 case atStart => exact ⟨0, by omega, rfl, rfl, rfl, rfl⟩
 case round =>
  obtain ⟨j, hj, rfl, HK, rfl, rfl⟩ := hrel
  by_cases hlt : j < g.ports[i].length
  ·obtain ⟨b', o', rfl, hb', hl1, hl2⟩ := H.out.at_ j hlt
   by_cases he : (g.ports[i][j].to == u) = true
   ·go_wp2
    go_ret
    exact ⟨ret_int (portF_found hlt HK.out he).symm, (Bel.refl _).alloc _⟩
   ·have he' : (g.ports[i][j].to == u) = false := by simpa using he
    clear he
    go_wp2
    go_roundg (g.ports[i].length - (j + 1))
    case rel => exact ⟨j + 1, by omega, rfl, all_take_succ hlt HK.out (by simp [he']), by go_num, rfl⟩
    case measure => omega
  ·go_wp2
   go_ret
   exact ⟨ret_int (portF_none (all_of_take (by omega) HK.out)).symm, (Bel.refl _).alloc _⟩

set_option maxRecDepth 100000 in
theorem portTo_any (v : Value) (g : Graph) (i : Nat) (u : Int) (w : World) (h : GraphV w v g) (hi : i < g.ports.length) :
  Calls Tryz.prog 114 #[v, .int .i64 i, .int .i64 u] w fun e w' => e = .returned (.int .i64 (portF g.ports[i] u)) ∧ Bel w w' := by
 obtain ⟨A, k, A2, k2, rfl, _, _, _, hr, _, hm⟩ := h
 obtain ⟨b, o, R, c1, rfl, hb, hc1, hL, hn, hm2⟩ := hr.at_ i hi
 have H := Lib.hid (fun w' (k : Bel w w') => LinksR.keep hL k); clear hL hr
 unfold maxLen at hm hm2
 go_enter Tryz.func114, Tryz.ntmps114
 go_wp2
 go_loopg [7, 8, 15] g.ports[i].length (fun m _x _y z wr => ∃ j : Nat, j ≤ g.ports[i].length ∧ m = g.ports[i].length - j ∧ Hid ((g.ports[i].take j).all (fun l => !(l.to == u)) = true) ∧ z = .int .i64 j ∧ Bel w wr)
 case atStart => exact ⟨0, by omega, rfl, rfl, rfl, (Bel.refl w).alloc _⟩
 case round =>
  obtain ⟨j, hj, rfl, HK, rfl, HB⟩ := hrel
  by_cases hlt : j < g.ports[i].length
  ·obtain ⟨b', o', rfl, hb', hl1, hl2⟩ := (H.out _ HB).at_ j hlt
   have HB2 := HB.alloc (.cells #[.int .i64 g.ports[i][j].to, .int .i64 g.ports[i][j].weight] 112)
   by_cases he : (g.ports[i][j].to == u) = true
   ·go_wp2
    go_ret
    exact ⟨ret_int (portF_found hlt HK.out he).symm, HB2⟩
   ·have he' : (g.ports[i][j].to == u) = false := by simpa using he
    clear he
    go_wp2
    go_roundg (g.ports[i].length - (j + 1))
    case rel => exact ⟨j + 1, by omega, rfl, all_take_succ hlt HK.out (by simp [he']), by go_num, HB2⟩
    case measure => omega
  ·go_wp2
   go_ret
   exact ⟨ret_int (portF_none (all_of_take (by omega) HK.out)).symm, HB⟩


end Go.Proofs.YtgemlgpjbclonaaGreatDoor

/- Contracts of the reference's linksValid and Valid on graphs. -/
namespace Go.Proofs.YtgemlgpjbclonaaGreatDoor
open Go.RowKit

theorem linksOK_bad {n v : Nat} {ls : List Link} {i : Nat} (h : i < ls.length) (hb : linkOK n v ls[i] = false) : linksOK n v ls = false := by
 unfold linksOK; rw [all_false_at h hb]; rfl
theorem linksOK_dup {n v : Nat} {ls : List Link} {j i : Nat} (hj : j < i) (h : i < ls.length) (he : ls[j].to = ls[i].to) : linksOK n v ls = false := by
 unfold linksOK
 have : decide ((ls.map Link.to).Nodup) = false := by
  simp only [decide_eq_false_iff_not]
  exact not_nodup hj (by simpa using h) (by simpa using he)
 rw [this]; simp

set_option maxRecDepth 100000 in
set_option maxHeartbeats 1000000 in
theorem linksValid_any (A : Option Addr) (c : Nat) (ls : List Link) (v n : Nat) (w : World) (h : LinksR w A ls.length ls) (hl : ls.length ≤ 1000000) (hn : n ≤ 1000000) :
  Calls Tryz.prog 82 #[.slice A ls.length c, .int .i64 v, .int .i64 n] w fun e w' => e = .returned (.bool (linksOK n v ls)) ∧ Bel w w' := by
 have H := Lib.hid (fun w' (k : Bel w w') => LinksR.keep h k); clear h
 go_enter Tryz.func82, Tryz.ntmps82
 go_wp2
 go_loopg [7, 8] ls.length (fun m x _y wr => ∃ j : Nat, j ≤ ls.length ∧ m = ls.length - j ∧ Hid ((ls.take j).all (linkOK n v) = true ∧ ((ls.map Link.to).take j).Nodup) ∧ x = .int .i64 j ∧ Bel w wr)
 case atStart => exact ⟨0, by omega, rfl, ⟨rfl, by simp⟩, rfl, Bel.refl _⟩
 case round =>
  obtain ⟨i, hi, rfl, HK, rfl, HB⟩ := hrel
  by_cases hlt : i < ls.length
  ·obtain ⟨b, o, rfl, hb, hl1, hl2⟩ := (H.out _ HB).at_ i hlt
   cases hok : linkOK n v ls[i] with
   | false =>
    have HF := Lib.hid (linksOK_bad hlt hok)
    have HO := Lib.hid hok; clear hok
    go_wp2_with (go_at_call 45; refine (in01_any _ _ _ _).mono ?_; rintro e w' ⟨rfl, rfl⟩)
    all_goals first
     | (go_ret; exact ⟨ret_bool HF.out.symm, HB⟩)
     | (exfalso
        have a1 : inB ls[i].to 0 (↑n - 1) = true := by assumption
        obtain ⟨a2, a3'⟩ : (ls[i].to == (v : Int)) = false ∧ (!inB ls[i].weight 1 15) = false := by assumption
        have a3 : inB ls[i].weight 1 15 = true := by simpa using a3'
        rw [inB_iff] at a1 a3
        have a4 : ls[i].to ≠ (v : Int) := by simpa using a2
        have := HO.out
        rw [linkOK_iff.2 ⟨by omega, by omega, a4, by omega, by omega⟩] at this
        cases this)
   | true =>
    obtain ⟨q1, q2, q3, q4, q5⟩ := linkOK_iff.1 hok
    have a1 : inB ls[i].to 0 (↑n - 1) = true := inB_true (by omega) (by omega)
    have a2 : (ls[i].to == (v : Int)) = false := by simpa using q3
    have a3 : inB ls[i].weight 1 15 = true := inB_true (by omega) (by omega)
    have HO := Lib.hid hok; clear hok q3
    go_wp2_with (go_at_call 45; refine (in01_any _ _ _ _).mono ?_; rintro e w' ⟨rfl, rfl⟩)
    clear a1 a2 a3
    go_loopg [8] i (fun m x ws => ∃ j : Nat, j ≤ i ∧ m = i - j ∧ Hid (∀ q, (hq : q < j) → (hq' : q < ls.length) → ls[q].to ≠ ls[i].to) ∧ x = .int .i64 j ∧ Bel wr ws)
    case atStart => exact ⟨0, by omega, rfl, fun q hq => absurd hq (by omega), rfl, Bel.refl _⟩
    case round =>
     obtain ⟨j, hj, rfl, HJ, rfl, HB2⟩ := hrel
     by_cases hlt2 : j < i
     ·have hji : j < ls.length := by omega
      obtain ⟨b', o', e', hb', hj1, _⟩ := (H.out _ (HB.trans HB2)).at_ j hji
      obtain ⟨rfl, rfl⟩ : b = b' ∧ o = o' := by simpa using e'
      clear e'
      have hi1 := (HB2.cell hb).trans hl1
      have hd : decide (j < i) = true := by simpa using hlt2
      go_wp2
      go_quiet (fail)
      go_wp2
      ·have he : (ls[j].to == ls[i].to) = true := by assumption
       go_ret
       exact ⟨ret_bool (linksOK_dup hlt2 hlt (by simpa using he)).symm, (HB.trans HB2).drewN _⟩
      ·have he : (ls[j].to == ls[i].to) = false := by assumption
       go_roundg (i - (j + 1))
       case rel =>
        refine ⟨j + 1, by omega, rfl, ?_, by go_num, HB2.drewN _⟩
        intro q hq hq'
        rcases Nat.lt_or_ge q j with h | h
        ·exact HJ.out q h hq'
        ·obtain rfl : q = j := by omega
         simpa using he
       case measure => omega
     ·have hd : decide (j < i) = false := by simpa using hlt2
      go_wp2
      go_roundg (ls.length - (i + 1))
      case rel =>
       refine ⟨i + 1, by omega, rfl, ⟨all_take_succ hlt HK.out.1 HO.out, nodup_take_succ (by simpa using hlt) HK.out.2 ?_⟩, by go_num, HB.trans HB2⟩
       intro q hq
       have := HJ.out q (by omega) (by omega)
       simpa using this
      case measure => omega
  ·go_wp2
   go_ret
   refine ⟨ret_bool ?_, HB⟩
   symm
   rw [linksOK_iff]
   have h1 := HK.out
   rw [List.take_of_length_le (by omega), List.take_of_length_le (by simp; omega)] at h1
   exact ⟨List.all_eq_true.1 h1.1, h1.2⟩

end Go.Proofs.YtgemlgpjbclonaaGreatDoor

/- Contracts: Terms, Quick and what the laws ask ahead of their walks. -/
namespace Go.Proofs.YtgemlgpjbclonaaGreatDoor
open Go.RowKit

def termsR (r : Rule) : Nat := r.guard.length + (r.sets.map (fun s => s.value.length)).sum
def termsF (p : Prg) : Nat := (p.rules.map termsR).sum
theorem sum_take_succ {α : Type} (f : α → Nat) (l : List α) (k : Nat) (h : k < l.length) : ((l.take (k + 1)).map f).sum = ((l.take k).map f).sum + f l[k] := by
 rw [List.take_succ_eq_append_getElem h, List.map_append, List.sum_append]; simp
theorem sum_le_mul {α : Type} (f : α → Nat) (l : List α) (b : Nat) (h : ∀ x ∈ l, f x ≤ b) : (l.map f).sum ≤ l.length * b := by
 induction l with
 | nil => simp
 | cons x l ih =>
  have h1 := h x (by simp)
  have h2 := ih (fun y hy => h y (by simp [hy]))
  simp only [List.map_cons, List.sum_cons, List.length_cons, Nat.add_mul]
  omega
theorem termsR_le {r : Rule} (h : lightR r = true) : termsR r ≤ 2750 := by
 unfold lightR at h
 simp at h
 obtain ⟨⟨⟨h1, h2⟩, h3⟩, h4⟩ := h
 have := sum_le_mul (fun s : SetT => s.value.length) r.sets 250 h4
 unfold termsR
 have : r.sets.length * 250 ≤ 2500 := by omega
 omega
theorem lightP_parts {p : Prg} (h : lightP p = true) : p.name.size ≤ 40 ∧ p.vars.length ≤ 10 ∧ p.rules.length ≤ 16 ∧ (∀ x ∈ p.vars, x.name.size ≤ 40) ∧ (∀ r ∈ p.rules, lightR r = true) := by
 unfold lightP at h
 simp at h
 obtain ⟨⟨⟨⟨h1, h2⟩, h3⟩, h4⟩, h5⟩ := h
 exact ⟨h1, h2, h3, h4, h5⟩
theorem lightR_parts {r : Rule} (h : lightR r = true) : r.name.size ≤ 40 ∧ r.sets.length ≤ 10 ∧ r.guard.length ≤ 250 ∧ ∀ s ∈ r.sets, s.value.length ≤ 250 := by
 unfold lightR at h
 simp at h
 obtain ⟨⟨⟨h1, h2⟩, h3⟩, h4⟩ := h
 exact ⟨h1, h2, h3, h4⟩
theorem termsF_le {p : Prg} (h : lightP p = true) : termsF p ≤ 44000 := by
 obtain ⟨_, _, h3, _, h5⟩ := lightP_parts h
 have := sum_le_mul termsR p.rules 2750 (fun r hr => termsR_le (h5 r hr))
 unfold termsF
 have : p.rules.length * 2750 ≤ 44000 := by omega
 omega
theorem lightG_parts {g : Graph} (h : lightG g = true) : g.ids.length ≤ 30 ∧ g.ports.length ≤ 30 ∧ ∀ r ∈ g.ports, r.length ≤ 30 := by
 unfold lightG at h
 simp at h
 obtain ⟨⟨h1, h2⟩, h3⟩ := h
 exact ⟨h1, h2, h3⟩
theorem degreesF_le {g : Graph} (h : lightG g = true) : 1 ≤ degreesF g ∧ degreesF g ≤ 30 := by
 obtain ⟨_, _, h3⟩ := lightG_parts h
 refine ⟨foldl_nmax_ge _ _, foldl_nmax_le _ _ _ (by omega) ?_⟩
 intro x hx
 obtain ⟨r, hr, rfl⟩ := List.mem_map.1 hx
 exact h3 r hr

set_option maxRecDepth 100000 in
set_option maxHeartbeats 1000000 in
theorem terms_any (v : Value) (p : Prg) (w : World) (h : PrgV w v p) (hlight : lightP p = true) :
  Calls Tryz.prog 59 #[v] w fun e w' => e = .returned (.int .i64 (termsF p : Nat)) ∧ Bel w w' := by
 obtain ⟨A, k, A2, k2, rfl, _, _, _, hr, _, _⟩ := h
 obtain ⟨_, _, hp3, _, hp5⟩ := lightP_parts hlight
 have HP := Lib.hid hp5; clear hp5 hlight
 have HR := Lib.hid hr; clear hr
 go_enter Tryz.func59, Tryz.ntmps59
 go_wp2
 go_loopg [3, 4, 5] p.rules.length (fun m s i _z wr => ∃ j : Nat, j ≤ p.rules.length ∧ m = p.rules.length - j ∧ s = .int .i64 ((((p.rules.take j).map termsR).sum : Nat) : Int) ∧ ((p.rules.take j).map termsR).sum ≤ j * 2750 ∧ i = .int .i64 j ∧ w.alloc (.cells #[.string p.name, .slice A p.vars.length k, .slice A2 p.rules.length k2] 25) = wr)
 case atStart => exact ⟨0, by omega, rfl, rfl, by simp, rfl, rfl⟩
 case round =>
  obtain ⟨i, hi, rfl, rfl, hsum, rfl, rfl⟩ := hrel
  by_cases hlt : i < p.rules.length
  ·obtain ⟨b, o, G, c, S, c2, rfl, hb, hc1, hc2, hc3, _, _, _, hS, _, _⟩ := HR.out.at_ i hlt
   have HS := Lib.hid hS; clear hS
   have hL := HP.out p.rules[i] (List.getElem_mem hlt)
   obtain ⟨_, hr2, hr3, hr4⟩ := lightR_parts hL
   have H4 := Lib.hid hr4; clear hr4
   have hT := termsR_le hL
   have HT : Hid (∀ t, ((p.rules[i].sets.take p.rules[i].sets.length).map (fun s => s.value.length)).sum = t → ((p.rules.take i).map termsR).sum + p.rules[i].guard.length + t = ((p.rules.take (i + 1)).map termsR).sum) := by
    intro t ht
    rw [List.take_of_length_le (Nat.le_refl _)] at ht
    rw [sum_take_succ termsR _ _ hlt]
    unfold termsR at *
    omega
   have hsum2 : Hid (((p.rules.take (i + 1)).map termsR).sum ≤ (i + 1) * 2750) := by
    show ((p.rules.take (i + 1)).map termsR).sum ≤ (i + 1) * 2750
    rw [sum_take_succ termsR _ _ hlt]; omega
   clear hL hT
   generalize ((p.rules.take i).map termsR).sum = N at *
   go_wp2
   go_loopg [3, 5] p.rules[i].sets.length (fun m s x ws => ∃ j : Nat, j ≤ p.rules[i].sets.length ∧ m = p.rules[i].sets.length - j ∧ s = .int .i64 ((N + p.rules[i].guard.length + ((p.rules[i].sets.take j).map (fun s => s.value.length)).sum : Nat) : Int) ∧ ((p.rules[i].sets.take j).map (fun s => s.value.length)).sum ≤ j * 250 ∧ x = .int .i64 j ∧ w.alloc (.cells #[.string p.name, .slice A p.vars.length k, .slice (some ⟨b, o, none⟩) p.rules.length k2] 25) = ws)
   case atStart => exact ⟨0, by omega, rfl, by simp, by simp, rfl, rfl⟩
   case round =>
    obtain ⟨q, hq, rfl, rfl, hs2, rfl, rfl⟩ := hrel
    by_cases hlt2 : q < p.rules[i].sets.length
    ·obtain ⟨b', o', R, c', rfl, hb', hs1, hs3, _, _, _⟩ := HS.out.at_ q hlt2
     have hv := H4.out _ (List.getElem_mem hlt2)
     have hss := Lib.hid (sum_take_succ (fun s : SetT => s.value.length) _ _ hlt2)
     generalize hg : ((p.rules[i].sets.take q).map (fun s => s.value.length)).sum = M at *
     clear hg
     go_wp2
     go_roundg (p.rules[i].sets.length - (q + 1))
     case rel => exact ⟨q + 1, by omega, rfl, by rw [hss.out]; go_num, by rw [hss.out]; omega, by go_num, rfl⟩
     case measure => omega
    ·have e : q = p.rules[i].sets.length := by omega
     have HQ := Lib.hid (HT.out _ (by rw [← e]))
     clear e
     generalize hg : ((p.rules[i].sets.take q).map (fun s => s.value.length)).sum = M at *
     clear hg
     go_wp2
     go_roundg (p.rules.length - (i + 1))
     case rel => exact ⟨i + 1, by omega, rfl, by rw [← HQ.out], hsum2.out, by go_num, rfl⟩
     case measure => omega
  ·go_wp2
   go_ret
   exact ⟨ret_int (by unfold termsF; rw [List.take_of_length_le (by omega)]), (Bel.refl _).alloc _⟩

def quickF (p : Prg) (g : Graph) : Bool := lightP p && lightG g && decide (termsF p * g.ports.length * degreesF g * degreesF g ≤ 100000)

theorem wrap_mul {a b : Nat} {x y : Nat} (ha : a ≤ x) (hb : b ≤ y) (h : x * y ≤ 9223372036854775807) : IntKind.i64.wrap ((a : Int) * (b : Int)) = ((a * b : Nat) : Int) := by
 have h1 : a * b ≤ x * y := Nat.mul_le_mul ha hb
 rw [← Int.natCast_mul]
 exact IntWalk.i64_in _ (by omega)

set_option maxRecDepth 100000 in
set_option maxHeartbeats 1000000 in
theorem quick_any (v : Value) (p : Prg) (v2 : Value) (g : Graph) (w : World) (h : PrgV w v p) (h2 : GraphV w v2 g) :
  Calls Tryz.prog 30 #[v, v2] w fun e w' => e = .returned (.bool (quickF p g)) ∧ Bel w w' := by
 have HP := Lib.hid (fun w' (k : Bel w w') => h.keep k)
 have HG := Lib.hid (fun w' (k : Bel w w') => h2.keep k)
 obtain ⟨A, k, A2, k2, rfl, _, _, _, _, _, _⟩ := h
 obtain ⟨A3, k3, A4, k4, rfl, _, _, _, _, _, _⟩ := h2
 have HW := Bel.refl ((w.alloc (.cells #[.string p.name, .slice A p.vars.length k, .slice A2 p.rules.length k2] 25)).alloc (.cells #[.slice A3 g.ids.length k3, .slice A4 g.ports.length k4] 29))
 cases hlp : lightP p with
 | false =>
  have HF : Hid (quickF p g = false) := by show quickF p g = false; simp [quickF, hlp]
  go_enter Tryz.func30, Tryz.ntmps30
  go_wp2_with (go_at_call 14; refine (lightProgram_any _ p _ (HP.out _ (box2_bel HW))).mono ?_; rintro e w' ⟨rfl, hb⟩; replace HW := HW.trans hb; clear hb)
  go_ret
  exact ⟨ret_bool HF.out.symm, box2_bel HW⟩
 | true =>
  cases hlg : lightG g with
  | false =>
   have HF : Hid (quickF p g = false) := by show quickF p g = false; simp [quickF, hlg]
   go_enter Tryz.func30, Tryz.ntmps30
   go_wp2_with (first
    | (go_at_call 14; refine (lightProgram_any _ p _ (HP.out _ (box2_bel HW))).mono ?_; rintro e w' ⟨rfl, hb⟩; replace HW := HW.trans hb; clear hb; obtain ⟨p0, p1, p2, g0, g1, gsz⟩ := pgbox HW)
    | (go_at_call 15; refine (lightGraph_any _ g _ (HG.out _ (box2_bel HW))).mono ?_; rintro e w2 ⟨rfl, hb⟩; replace HW := HW.trans hb; clear hb))
   go_ret
   exact ⟨ret_bool HF.out.symm, box2_bel HW⟩
  | true =>
   have hT := termsF_le hlp
   have hD := degreesF_le hlg
   have hN := (lightG_parts hlg).2.1
   have w1 := wrap_mul hT hN (by decide)
   have w2 := wrap_mul (Nat.mul_le_mul hT hN) hD.2 (by decide)
   have w3 := wrap_mul (Nat.mul_le_mul (Nat.mul_le_mul hT hN) hD.2) hD.2 (by decide)
   have HF : Hid (quickF p g = decide (termsF p * g.ports.length * degreesF g * degreesF g ≤ 100000)) := by show quickF p g = _; simp [quickF, hlp, hlg]
   have HL := Lib.hid hlp
   have W2 := Lib.hid w2; have W3 := Lib.hid w3
   rw [← Int.natCast_mul] at W2 W3
   clear hT hD hN w2 w3
   go_enter Tryz.func30, Tryz.ntmps30
   go_wp2_with (first
    | (go_at_call 14; refine (lightProgram_any _ p _ (HP.out _ (box2_bel HW))).mono ?_; rintro e w' ⟨rfl, hb⟩; replace HW := HW.trans hb; clear hb; obtain ⟨p0, p1, p2, g0, g1, gsz⟩ := pgbox HW)
    | (go_at_call 15; refine (lightGraph_any _ g _ (HG.out _ (box2_bel HW))).mono ?_; rintro e w2 ⟨rfl, hb⟩; replace HW := HW.trans hb; clear hb p0 p1 p2 g0 g1 gsz; obtain ⟨p0, p1, p2, g0, g1, gsz⟩ := pgbox HW)
    | (go_at_call 58; refine (degrees_any _ g _ (HG.out _ (box2_bel HW))).mono ?_; rintro e w2 ⟨rfl, hb⟩; replace HW := HW.trans hb; clear hb p0 p1 p2 g0 g1 gsz; obtain ⟨p0, p1, p2, g0, g1, gsz⟩ := pgbox HW))
   replace HW := HW.drew
   go_region_held3 (fun w' => w'.cell? ⟨w.heap.size, 0, none⟩ = some (.string p.name) ∧ w'.cell? ⟨w.heap.size, 1, none⟩ = some (.slice A p.vars.length k) ∧ w'.cell? ⟨w.heap.size, 2, none⟩ = some (.slice A2 p.rules.length k2) ∧ w'.cell? ⟨w.heap.size + 1, 0, none⟩ = some (.slice A3 g.ids.length k3) ∧ w'.cell? ⟨w.heap.size + 1, 1, none⟩ = some (.slice A4 g.ports.length k4) ∧ w.heap.size + 1 < w'.heap.size) (exact pgbox HW) (first | (go_simp; go_at_call 59; refine (terms_any _ p _ (HP.out _ (box2_bel HW)) HL.out).mono ?_; rintro e w4 ⟨rfl, hb⟩; replace HW := HW.trans hb; clear hb))
   all_goals
    go_wp2
    go_ret
    refine ⟨ret_bool ?_, box2_bel HW⟩
    rw [HF.out, Bool.eq_iff_iff]
    simp only [decide_eq_true_eq, ← Int.natCast_mul]
    rw [W2.out, ← Int.natCast_mul, W3.out]; omega

theorem quick_parts {p : Prg} {g : Graph} (h : quickF p g = true) : lightP p = true ∧ lightG g = true := by
 unfold quickF at h; simp at h; exact h.1

end Go.Proofs.YtgemlgpjbclonaaGreatDoor

