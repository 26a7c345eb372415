/- The contract of effect. -/
import Derived.Test.YtnhhedecaejgcaaW12g
namespace Go.Proofs.Ytnhhedecaejgcaa
open Go.RowKit

def RetEff (w0 : World) (B : Nat) (w : World) (L : Option Addr) (n c : Nat) (v : Int) (H : Option Addr) (hc : Nat) (hs : List Int) (most : Int) (gs : List Term) (tr' : List Tr) (e : Ending) (w' : World) : Prop :=
  e = .returned (.int .i64 (giveR hs most gs).2) ∧ Bel w0 w' ∧ VerFr w w' ∧ ∀ hs' m', (giveR hs most gs).1 = some (hs', m') → ∃ O oc, VerSt w0 B w' L n c v H hc hs' O oc tr' m'

theorem RetGive.eff {w0 : World} {B : Nat} {w w1 : World} {L : Option Addr} {n c : Nat} {v : Int} {H : Option Addr} {hc : Nat} {hs : List Int} {O : Option Addr} {oc : Nat} {tr : List Tr} {most : Int} {gs : List Term} {e : Ending} {w' : World}
    (h : RetGive w0 B w1 L n c v H hc hs O oc tr most gs e w') (hf : VerFr w w1) : RetEff w0 B w L n c v H hc hs most gs tr e w' :=
  ⟨h.1, h.2.1, hf.trans h.2.2.1, fun hs' m' hh => ⟨O, oc, h.2.2.2 hs' m' hh⟩⟩

theorem blk_two (w : World) (o : Obj) (cs : Array Value) (t : TypeId) : Blk ((w.alloc o).alloc (.cells cs t)) (w.heap.size + 1) cs t := by
  have := Blk.new (w.alloc o) cs t
  simpa using this

theorem blk_at {w : World} {b b' : Nat} {cs : Array Value} {t : TypeId} (e : b = b') (h : Blk w b cs t) : Blk w b' cs t := e ▸ h

section
variable {w0 : World} {B : Nat} {w : World} {L : Option Addr} {n c : Nat} {v : Int} {H : Option Addr} {hc : Nat} {hs : List Int} {O : Option Addr} {oc : Nat} {tr : List Tr} {most : Int}

theorem VerSt.push {w2 : World} {O' : Option Addr} {oc' : Nat} {t : Tr} (h : VerSt w0 B w L n c v H hc hs O oc tr most)
    (ho : w2.ownsRow w0.heap.size 78 3 (.slice O' (tr.length + 1) oc') (tr.length + 1) (tr.flatMap trCells ++ trCells t)) (hg : w.grownBy w2 (Value.slice O tr.length oc).ownBlock) :
    Blk w2 B (verCells (.slice L n c) v (.slice H hs.length hc) (.slice O tr.length oc) most) 55 ∧ VerSt w0 B (w2.setCell ⟨B, 24, none⟩ (.slice O' (tr.length + 1) oc')) L n c v H hc hs O' oc' (tr ++ [t]) most ∧ VerFr w (w2.setCell ⟨B, 24, none⟩ (.slice O' (tr.length + 1) oc')) := by
  have hB := h.blk.grown hg (h.blk.apart h.loops (by decide))
  have hI := h.ints.kept hg (own_other h.loops h.ints (by decide))
  have e : (tr ++ [t]).length = tr.length + 1 := by simp
  refine ⟨hB, ⟨h.base, ?_, ?_, ?_, (h.bel.push h.loops hg).setCell h.base _⟩, ?_⟩
  · rw [e]; exact hB.set 24 _
  · exact ownsRow_setCell_other hI (a := ⟨B, 24, none⟩) (fun e => hB.apart hI (by decide) e.symm) _
  · rw [e]
    have := ownsRow_setCell_other ho (a := ⟨B, 24, none⟩) (fun e => hB.apart ho (by decide) e.symm) (.slice O' (tr.length + 1) oc')
    simpa using this
  · exact ((TFrame.refl _ _).grown h.loops (by decide) hg).set hB (by decide) _ _

theorem VerSt.pop (h : VerSt w0 B w L n c v H hc hs O oc tr most) :
    VerSt w0 B (w.setCell ⟨B, 24, none⟩ (.slice O (tr.length - 1) oc)) L n c v H hc hs O oc tr.dropLast most ∧ VerFr w (w.setCell ⟨B, 24, none⟩ (.slice O (tr.length - 1) oc)) := by
  have e : tr.dropLast.length = tr.length - 1 := by simp
  refine ⟨⟨h.base, ?_, ?_, ?_, h.bel.setCell h.base _⟩, (TFrame.refl _ _).set h.blk (by decide) _ _⟩
  · rw [e]; exact h.blk.set 24 _
  · exact ownsRow_setCell_other h.ints (a := ⟨B, 24, none⟩) (fun e => h.blk.apart h.ints (by decide) e.symm) _
  · rw [e]
    have h1 := own_take h.loops (tr.length - 1) (by omega)
    have h2 : (tr.flatMap trCells).take ((tr.length - 1) * 3) = tr.dropLast.flatMap trCells := by
      rcases List.eq_nil_or_concat tr with rfl | ⟨l, t, rfl⟩
      · rfl
      · simp only [List.concat_eq_append, List.length_append, List.length_singleton, Nat.add_sub_cancel, List.dropLast_concat, List.flatMap_append]
        rw [List.take_append_of_le_length (by rw [trCells_length]; omega), List.take_of_length_le (by rw [trCells_length]; omega)]
    rw [h2] at h1
    exact ownsRow_setCell_other h1 (a := ⟨B, 24, none⟩) (fun e => h.blk.apart h1 (by decide) e.symm) _
end

set_option maxRecDepth 100000 in
set_option maxHeartbeats 4000000 in
theorem effect_o1 {w0 : World} {B : Nat} {w : World} {L : Option Addr} {n c : Nat} {v : Int} {H : Option Addr} {hc : Nat} {hs : List Int} {O : Option Addr} {oc : Nat} {tr : List Tr} {most : Int} (h : VerSt w0 B w L n c v H hc hs O oc tr most)
    (i : Nat) (op arg y : Int) (hn : hs.length ≤ 1000000) (hi : i + 1 < hs.length) (hy0 : -10 ≤ y) (hy1 : y ≤ 1000000) (hop : op = 1) :
    Calls Try.prog 49 #[.pointer (some ⟨B, 0, none⟩), .int .i64 i, .agg #[.int .i64 op, .int .i64 arg], .int .i64 y] w (RetEff w0 B w L n c v H hc hs most (giftsF ⟨op, arg⟩ i y) (trNext ⟨op, arg⟩ i y tr)) := by
  obtain rfl : op = 1 := hop
  have eg : giftsF ⟨1, arg⟩ i y = [⟨(i : Int) + 1, y + 1⟩] := by simp [giftsF]
  have et : trNext ⟨1, arg⟩ i y tr = tr := by simp [trNext]
  rw [eg, et]; clear eg et
  have HS := Lib.hid h; clear h
  have HR : Hid (∀ g ∈ [(⟨(i : Int) + 1, y + 1⟩ : Term)], 0 ≤ g.op ∧ g.op < (hs.length : Int)) := by
    show ∀ g ∈ [(⟨(i : Int) + 1, y + 1⟩ : Term)], 0 ≤ g.op ∧ g.op < (hs.length : Int)
    intro g hg
    simp at hg
    subst hg; simp; omega
  go_enter Try.func49, Try.ntmps49
  go_wp2_with fail
  all_goals
    refine (give_any ((HS.out.alloc _).alloc _) (w.heap.size + 1) _ [(⟨(i : Int) + 1, y + 1⟩ : Term)] (blk_two w _ #[.int .i64 ((i : Int) + 1), .int .i64 (y + 1)] 49) (by simp) HR.out hn).mono ?_
    intro e w2 hret
    obtain ⟨z, rfl⟩ : ∃ z : Int, e = .returned (.int .i64 z) := ⟨_, hret.1⟩
    have HQ := Lib.hid (hret.eff (TFrame.of_bel (((Bel.refl w).alloc _).alloc _))); clear hret
    go_wp2_with fail
    go_ret
    exact HQ.out

set_option maxRecDepth 100000 in
set_option maxHeartbeats 4000000 in
theorem effect_o2 {w0 : World} {B : Nat} {w : World} {L : Option Addr} {n c : Nat} {v : Int} {H : Option Addr} {hc : Nat} {hs : List Int} {O : Option Addr} {oc : Nat} {tr : List Tr} {most : Int} (h : VerSt w0 B w L n c v H hc hs O oc tr most)
    (i : Nat) (op arg y : Int) (hn : hs.length ≤ 1000000) (hi : i + 1 < hs.length) (hy0 : -10 ≤ y) (hy1 : y ≤ 1000000) (hop : op = 2) :
    Calls Try.prog 49 #[.pointer (some ⟨B, 0, none⟩), .int .i64 i, .agg #[.int .i64 op, .int .i64 arg], .int .i64 y] w (RetEff w0 B w L n c v H hc hs most (giftsF ⟨op, arg⟩ i y) (trNext ⟨op, arg⟩ i y tr)) := by
  obtain rfl : op = 2 := hop
  have eg : giftsF ⟨2, arg⟩ i y = [⟨(i : Int) + 1, y + 1⟩] := by simp [giftsF]
  have et : trNext ⟨2, arg⟩ i y tr = tr := by simp [trNext]
  rw [eg, et]; clear eg et
  have HS := Lib.hid h; clear h
  have HR : Hid (∀ g ∈ [(⟨(i : Int) + 1, y + 1⟩ : Term)], 0 ≤ g.op ∧ g.op < (hs.length : Int)) := by
    show ∀ g ∈ [(⟨(i : Int) + 1, y + 1⟩ : Term)], 0 ≤ g.op ∧ g.op < (hs.length : Int)
    intro g hg
    simp at hg
    subst hg; simp; omega
  go_enter Try.func49, Try.ntmps49
  go_wp2_with fail
  all_goals
    refine (give_any ((HS.out.alloc _).alloc _) (w.heap.size + 1) _ [(⟨(i : Int) + 1, y + 1⟩ : Term)] (blk_two w _ #[.int .i64 ((i : Int) + 1), .int .i64 (y + 1)] 49) (by simp) HR.out hn).mono ?_
    intro e w2 hret
    obtain ⟨z, rfl⟩ : ∃ z : Int, e = .returned (.int .i64 z) := ⟨_, hret.1⟩
    have HQ := Lib.hid (hret.eff (TFrame.of_bel (((Bel.refl w).alloc _).alloc _))); clear hret
    go_wp2_with fail
    go_ret
    exact HQ.out

set_option maxRecDepth 100000 in
set_option maxHeartbeats 4000000 in
theorem effect_o3 {w0 : World} {B : Nat} {w : World} {L : Option Addr} {n c : Nat} {v : Int} {H : Option Addr} {hc : Nat} {hs : List Int} {O : Option Addr} {oc : Nat} {tr : List Tr} {most : Int} (h : VerSt w0 B w L n c v H hc hs O oc tr most)
    (i : Nat) (op arg y : Int) (hn : hs.length ≤ 1000000) (hi : i + 1 < hs.length) (hy0 : -10 ≤ y) (hy1 : y ≤ 1000000) (hop : op = 3) :
    Calls Try.prog 49 #[.pointer (some ⟨B, 0, none⟩), .int .i64 i, .agg #[.int .i64 op, .int .i64 arg], .int .i64 y] w (RetEff w0 B w L n c v H hc hs most (giftsF ⟨op, arg⟩ i y) (trNext ⟨op, arg⟩ i y tr)) := by
  obtain rfl : op = 3 := hop
  have eg : giftsF ⟨3, arg⟩ i y = [⟨(i : Int) + 1, y + 1⟩] := by simp [giftsF]
  have et : trNext ⟨3, arg⟩ i y tr = tr := by simp [trNext]
  rw [eg, et]; clear eg et
  have HS := Lib.hid h; clear h
  have HR : Hid (∀ g ∈ [(⟨(i : Int) + 1, y + 1⟩ : Term)], 0 ≤ g.op ∧ g.op < (hs.length : Int)) := by
    show ∀ g ∈ [(⟨(i : Int) + 1, y + 1⟩ : Term)], 0 ≤ g.op ∧ g.op < (hs.length : Int)
    intro g hg
    simp at hg
    subst hg; simp; omega
  go_enter Try.func49, Try.ntmps49
  go_wp2_with fail
  all_goals
    refine (give_any ((HS.out.alloc _).alloc _) (w.heap.size + 1) _ [(⟨(i : Int) + 1, y + 1⟩ : Term)] (blk_two w _ #[.int .i64 ((i : Int) + 1), .int .i64 (y + 1)] 49) (by simp) HR.out hn).mono ?_
    intro e w2 hret
    obtain ⟨z, rfl⟩ : ∃ z : Int, e = .returned (.int .i64 z) := ⟨_, hret.1⟩
    have HQ := Lib.hid (hret.eff (TFrame.of_bel (((Bel.refl w).alloc _).alloc _))); clear hret
    go_wp2_with fail
    go_ret
    exact HQ.out

set_option maxRecDepth 100000 in
set_option maxHeartbeats 4000000 in
theorem effect_o4 {w0 : World} {B : Nat} {w : World} {L : Option Addr} {n c : Nat} {v : Int} {H : Option Addr} {hc : Nat} {hs : List Int} {O : Option Addr} {oc : Nat} {tr : List Tr} {most : Int} (h : VerSt w0 B w L n c v H hc hs O oc tr most)
    (i : Nat) (op arg y : Int) (hn : hs.length ≤ 1000000) (hi : i + 1 < hs.length) (hy0 : -10 ≤ y) (hy1 : y ≤ 1000000) (hop : op = 4) :
    Calls Try.prog 49 #[.pointer (some ⟨B, 0, none⟩), .int .i64 i, .agg #[.int .i64 op, .int .i64 arg], .int .i64 y] w (RetEff w0 B w L n c v H hc hs most (giftsF ⟨op, arg⟩ i y) (trNext ⟨op, arg⟩ i y tr)) := by
  obtain rfl : op = 4 := hop
  have eg : giftsF ⟨4, arg⟩ i y = [⟨(i : Int) + 1, y + 1⟩] := by simp [giftsF]
  have et : trNext ⟨4, arg⟩ i y tr = tr := by simp [trNext]
  rw [eg, et]; clear eg et
  have HS := Lib.hid h; clear h
  have HR : Hid (∀ g ∈ [(⟨(i : Int) + 1, y + 1⟩ : Term)], 0 ≤ g.op ∧ g.op < (hs.length : Int)) := by
    show ∀ g ∈ [(⟨(i : Int) + 1, y + 1⟩ : Term)], 0 ≤ g.op ∧ g.op < (hs.length : Int)
    intro g hg
    simp at hg
    subst hg; simp; omega
  go_enter Try.func49, Try.ntmps49
  go_wp2_with fail
  all_goals
    refine (give_any ((HS.out.alloc _).alloc _) (w.heap.size + 1) _ [(⟨(i : Int) + 1, y + 1⟩ : Term)] (blk_two w _ #[.int .i64 ((i : Int) + 1), .int .i64 (y + 1)] 49) (by simp) HR.out hn).mono ?_
    intro e w2 hret
    obtain ⟨z, rfl⟩ : ∃ z : Int, e = .returned (.int .i64 z) := ⟨_, hret.1⟩
    have HQ := Lib.hid (hret.eff (TFrame.of_bel (((Bel.refl w).alloc _).alloc _))); clear hret
    go_wp2_with fail
    go_ret
    exact HQ.out

set_option maxRecDepth 100000 in
set_option maxHeartbeats 4000000 in
theorem effect_o5 {w0 : World} {B : Nat} {w : World} {L : Option Addr} {n c : Nat} {v : Int} {H : Option Addr} {hc : Nat} {hs : List Int} {O : Option Addr} {oc : Nat} {tr : List Tr} {most : Int} (h : VerSt w0 B w L n c v H hc hs O oc tr most)
    (i : Nat) (op arg y : Int) (hn : hs.length ≤ 1000000) (hi : i + 1 < hs.length) (_hy0 : -10 ≤ y) (_hy1 : y ≤ 1000000) (hop : op = 5) :
    Calls Try.prog 49 #[.pointer (some ⟨B, 0, none⟩), .int .i64 i, .agg #[.int .i64 op, .int .i64 arg], .int .i64 y] w (RetEff w0 B w L n c v H hc hs most (giftsF ⟨op, arg⟩ i y) (trNext ⟨op, arg⟩ i y tr)) := by
  obtain rfl : op = 5 := hop
  have eg : giftsF ⟨5, arg⟩ i y = [⟨(i : Int) + 1, y⟩] := by simp [giftsF]
  have et : trNext ⟨5, arg⟩ i y tr = tr := by simp [trNext]
  rw [eg, et]; clear eg et
  have HS := Lib.hid h; clear h
  have HR : Hid (∀ g ∈ [(⟨(i : Int) + 1, y⟩ : Term)], 0 ≤ g.op ∧ g.op < (hs.length : Int)) := by
    show ∀ g ∈ [(⟨(i : Int) + 1, y⟩ : Term)], 0 ≤ g.op ∧ g.op < (hs.length : Int)
    intro g hg
    simp at hg
    subst hg; simp; omega
  go_enter Try.func49, Try.ntmps49
  go_wp2_with fail
  all_goals
    refine (give_any ((HS.out.alloc _).alloc _) (w.heap.size + 1) _ [(⟨(i : Int) + 1, y⟩ : Term)] (blk_two w _ #[.int .i64 ((i : Int) + 1), .int .i64 (y)] 49) (by simp) HR.out hn).mono ?_
    intro e w2 hret
    obtain ⟨z, rfl⟩ : ∃ z : Int, e = .returned (.int .i64 z) := ⟨_, hret.1⟩
    have HQ := Lib.hid (hret.eff (TFrame.of_bel (((Bel.refl w).alloc _).alloc _))); clear hret
    go_wp2_with fail
    go_ret
    exact HQ.out

set_option maxRecDepth 100000 in
set_option maxHeartbeats 4000000 in
theorem effect_o6 {w0 : World} {B : Nat} {w : World} {L : Option Addr} {n c : Nat} {v : Int} {H : Option Addr} {hc : Nat} {hs : List Int} {O : Option Addr} {oc : Nat} {tr : List Tr} {most : Int} (h : VerSt w0 B w L n c v H hc hs O oc tr most)
    (i : Nat) (op arg y : Int) (hn : hs.length ≤ 1000000) (hi : i + 1 < hs.length) (hy0 : -10 ≤ y) (hy1 : y ≤ 1000000) (hop : op = 6) :
    Calls Try.prog 49 #[.pointer (some ⟨B, 0, none⟩), .int .i64 i, .agg #[.int .i64 op, .int .i64 arg], .int .i64 y] w (RetEff w0 B w L n c v H hc hs most (giftsF ⟨op, arg⟩ i y) (trNext ⟨op, arg⟩ i y tr)) := by
  obtain rfl : op = 6 := hop
  have eg : giftsF ⟨6, arg⟩ i y = [⟨(i : Int) + 1, y - 1⟩] := by simp [giftsF]
  have et : trNext ⟨6, arg⟩ i y tr = tr := by simp [trNext]
  rw [eg, et]; clear eg et
  have HS := Lib.hid h; clear h
  have HR : Hid (∀ g ∈ [(⟨(i : Int) + 1, y - 1⟩ : Term)], 0 ≤ g.op ∧ g.op < (hs.length : Int)) := by
    show ∀ g ∈ [(⟨(i : Int) + 1, y - 1⟩ : Term)], 0 ≤ g.op ∧ g.op < (hs.length : Int)
    intro g hg
    simp at hg
    subst hg; simp; omega
  go_enter Try.func49, Try.ntmps49
  go_wp2_with fail
  all_goals
    refine (give_any ((HS.out.alloc _).alloc _) (w.heap.size + 1) _ [(⟨(i : Int) + 1, y - 1⟩ : Term)] (blk_two w _ #[.int .i64 ((i : Int) + 1), .int .i64 (y - 1)] 49) (by simp) HR.out hn).mono ?_
    intro e w2 hret
    obtain ⟨z, rfl⟩ : ∃ z : Int, e = .returned (.int .i64 z) := ⟨_, hret.1⟩
    have HQ := Lib.hid (hret.eff (TFrame.of_bel (((Bel.refl w).alloc _).alloc _))); clear hret
    go_wp2_with fail
    go_ret
    exact HQ.out

set_option maxRecDepth 100000 in
set_option maxHeartbeats 4000000 in
theorem effect_o7 {w0 : World} {B : Nat} {w : World} {L : Option Addr} {n c : Nat} {v : Int} {H : Option Addr} {hc : Nat} {hs : List Int} {O : Option Addr} {oc : Nat} {tr : List Tr} {most : Int} (h : VerSt w0 B w L n c v H hc hs O oc tr most)
    (i : Nat) (op arg y : Int) (hn : hs.length ≤ 1000000) (hi : i + 1 < hs.length) (hy0 : -10 ≤ y) (hy1 : y ≤ 1000000) (hop : op = 7) (ha0 : 0 ≤ arg) (ha1 : arg < hs.length) :
    Calls Try.prog 49 #[.pointer (some ⟨B, 0, none⟩), .int .i64 i, .agg #[.int .i64 op, .int .i64 arg], .int .i64 y] w (RetEff w0 B w L n c v H hc hs most (giftsF ⟨op, arg⟩ i y) (trNext ⟨op, arg⟩ i y tr)) := by
  obtain rfl : op = 7 := hop
  have eg : giftsF ⟨7, arg⟩ i y = [⟨(i : Int) + 1, y - 1⟩, ⟨arg, y - 1⟩] := by simp [giftsF]
  have et : trNext ⟨7, arg⟩ i y tr = tr := by simp [trNext]
  rw [eg, et]; clear eg et
  have HS := Lib.hid h; clear h
  have HR : Hid (∀ g ∈ [(⟨(i : Int) + 1, y - 1⟩ : Term), (⟨arg, y - 1⟩ : Term)], 0 ≤ g.op ∧ g.op < (hs.length : Int)) := by
    show ∀ g ∈ [(⟨(i : Int) + 1, y - 1⟩ : Term), (⟨arg, y - 1⟩ : Term)], 0 ≤ g.op ∧ g.op < (hs.length : Int)
    intro g hg
    simp at hg
    rcases hg with rfl | rfl <;> simp <;> omega
  go_enter Try.func49, Try.ntmps49
  go_wp2_with fail
  all_goals
    refine (give_any ((HS.out.alloc _).alloc _) (w.heap.size + 1) _ [(⟨(i : Int) + 1, y - 1⟩ : Term), (⟨arg, y - 1⟩ : Term)] (blk_two w _ #[.int .i64 ((i : Int) + 1), .int .i64 (y - 1), .int .i64 (arg), .int .i64 (y - 1)] 49) (by simp) HR.out hn).mono ?_
    intro e w2 hret
    obtain ⟨z, rfl⟩ : ∃ z : Int, e = .returned (.int .i64 z) := ⟨_, hret.1⟩
    have HQ := Lib.hid (hret.eff (TFrame.of_bel (((Bel.refl w).alloc _).alloc _))); clear hret
    go_wp2_with fail
    go_ret
    exact HQ.out

set_option maxRecDepth 100000 in
set_option maxHeartbeats 4000000 in
theorem effect_o8 {w0 : World} {B : Nat} {w : World} {L : Option Addr} {n c : Nat} {v : Int} {H : Option Addr} {hc : Nat} {hs : List Int} {O : Option Addr} {oc : Nat} {tr : List Tr} {most : Int} (h : VerSt w0 B w L n c v H hc hs O oc tr most)
    (i : Nat) (op arg y : Int) (hn : hs.length ≤ 1000000) (_hi : i + 1 < hs.length) (_hy0 : -10 ≤ y) (_hy1 : y ≤ 1000000) (hop : op = 8) (ha0 : 0 ≤ arg) (ha1 : arg < hs.length) :
    Calls Try.prog 49 #[.pointer (some ⟨B, 0, none⟩), .int .i64 i, .agg #[.int .i64 op, .int .i64 arg], .int .i64 y] w (RetEff w0 B w L n c v H hc hs most (giftsF ⟨op, arg⟩ i y) (trNext ⟨op, arg⟩ i y tr)) := by
  obtain rfl : op = 8 := hop
  have eg : giftsF ⟨8, arg⟩ i y = [⟨arg, y⟩] := by simp [giftsF]
  have et : trNext ⟨8, arg⟩ i y tr = tr := by simp [trNext]
  rw [eg, et]; clear eg et
  have HS := Lib.hid h; clear h
  have HR : Hid (∀ g ∈ [(⟨arg, y⟩ : Term)], 0 ≤ g.op ∧ g.op < (hs.length : Int)) := by
    show ∀ g ∈ [(⟨arg, y⟩ : Term)], 0 ≤ g.op ∧ g.op < (hs.length : Int)
    intro g hg
    simp at hg
    subst hg; simp; omega
  go_enter Try.func49, Try.ntmps49
  go_wp2_with fail
  all_goals
    refine (give_any ((HS.out.alloc _).alloc _) (w.heap.size + 1) _ [(⟨arg, y⟩ : Term)] (blk_two w _ #[.int .i64 (arg), .int .i64 (y)] 49) (by simp) HR.out hn).mono ?_
    intro e w2 hret
    obtain ⟨z, rfl⟩ : ∃ z : Int, e = .returned (.int .i64 z) := ⟨_, hret.1⟩
    have HQ := Lib.hid (hret.eff (TFrame.of_bel (((Bel.refl w).alloc _).alloc _))); clear hret
    go_wp2_with fail
    go_ret
    exact HQ.out

set_option maxRecDepth 100000 in
set_option maxHeartbeats 4000000 in
theorem effect_o9 {w0 : World} {B : Nat} {w : World} {L : Option Addr} {n c : Nat} {v : Int} {H : Option Addr} {hc : Nat} {hs : List Int} {O : Option Addr} {oc : Nat} {tr : List Tr} {most : Int} (h : VerSt w0 B w L n c v H hc hs O oc tr most)
    (i : Nat) (op arg y : Int) (hn : hs.length ≤ 1000000) (hi : i + 1 < hs.length) (hy0 : -10 ≤ y) (hy1 : y ≤ 1000000) (hop : op = 9) (ha0 : 0 ≤ arg) (ha1 : arg + 1 < hs.length) (htr : tr.length ≤ 100) :
    Calls Try.prog 49 #[.pointer (some ⟨B, 0, none⟩), .int .i64 i, .agg #[.int .i64 op, .int .i64 arg], .int .i64 y] w (RetEff w0 B w L n c v H hc hs most (giftsF ⟨op, arg⟩ i y) (trNext ⟨op, arg⟩ i y tr)) := by
  obtain rfl : op = 9 := hop
  have eg : giftsF ⟨9, arg⟩ i y = [⟨(i : Int) + 1, y⟩, ⟨arg + 1, y + 1⟩] := by simp [giftsF]
  have et : trNext ⟨9, arg⟩ i y tr = tr ++ [((i : Int), arg, y)] := by simp [trNext]
  rw [eg, et]; clear eg et
  have c24 := h.blk.cell 24 (v := .slice O tr.length oc) rfl
  have f24 := h.blk.frozen 24
  have hlt := h.blk.lt
  have hbs := h.bel.size
  obtain ⟨i0, hi0, hz0, hz1, hz2⟩ := info_parts loop_info
  have HS := Lib.hid h; clear h
  have HR : Hid (∀ g ∈ [(⟨(i : Int) + 1, y⟩ : Term), ⟨arg + 1, y + 1⟩], 0 ≤ g.op ∧ g.op < (hs.length : Int)) := by
    show ∀ g ∈ [(⟨(i : Int) + 1, y⟩ : Term), ⟨arg + 1, y + 1⟩], 0 ≤ g.op ∧ g.op < (hs.length : Int)
    intro g hg
    simp at hg
    rcases hg with rfl | rfl <;> simp <;> omega
  obtain ⟨wb, hwb⟩ : ∃ wb, wb = w.alloc (.cells #[.int .i64 9, .int .i64 arg] 40) := ⟨_, rfl⟩
  have HSb : Hid (VerSt w0 B wb L n c v H hc hs O oc tr most) := by show VerSt w0 B wb _ _ _ _ _ _ _ _ _ _ _; rw [hwb]; exact HS.out.alloc _
  have HFb : Hid (VerFr w wb) := by show VerFr w wb; rw [hwb]; exact TFrame.of_bel ((Bel.refl w).alloc _)
  have HKb : Hid (Blk wb w.heap.size #[.int .i64 9, .int .i64 arg] 40) := by show Blk wb _ _ _; rw [hwb]; exact Blk.new _ _ _
  go_enter Try.func49, Try.ntmps49
  go_upto_region 14 with fail
  rw [← hwb]
  have zb := HSb.out.bel.size
  have zl := HSb.out.blk.lt
  have z24 := HSb.out.blk.cell 24 (v := .slice O tr.length oc) rfl
  have zf := HSb.out.blk.frozen 24
  have y1 := HKb.out.cell 1 rfl
  have yl := HKb.out.lt
  clear c24 f24 hlt hbs hwb
  go_cut [] (fun wc => ∃ O' oc', Hid (VerSt w0 B wc L n c v H hc hs O' oc' (tr ++ [((i : Int), arg, y)]) most) ∧ Hid (VerFr wb wc))
  case first =>
    go_region_law (first
      | (refine step_push _ rfl (.tmp 64) (.tmp 70) 53 rfl w0.heap.size 78 i0 (.agg #[.int .i64 0, .int .i64 0, .int .i64 0]) 3 24 Try.underlying53 hi0 hz0 hz1 hz2 rfl (by decide) O tr.length oc (tr.flatMap trCells) (by simp [Act.eval]) (HSb.out.loops.alloc _).drew wb.heap.size #[.int .i64 i, .int .i64 arg, .int .i64 y] 78 (0, 0) (by simp [Act.eval]) (heap_new_drew _ _) rfl (by simp [Value.oneCell']) (by unfold maxLen; omega) (by omega) (by simp; omega) ?_; intro O' oc' w2 hown2 hgr2 hat2; obtain ⟨hB2, HS2, HF2⟩ := VerSt.push (t := ((i : Int), arg, y)) (HSb.out.alloc _).drew hown2 hgr2; have z25 := hB2.cell 24 rfl; have zg := hB2.frozen 24; have zh := hB2.lt; replace HS2 := Lib.hid HS2; replace HF2 := Lib.hid HF2; clear hown2 hgr2 hat2 hB2))
    all_goals
      go_wp2_with fail
      go_meet
      exact ⟨O', oc', HS2.out, (TFrame.of_bel (((Bel.refl wb).alloc _).drew)).trans HF2.out⟩
  case rest =>
    obtain ⟨O', oc', HSc, HFc⟩ := hcut
    have HKc := Lib.hid (HKb.out.of_frame HFc.out (by decide))
    have y1c := HKc.out.cell 1 rfl
    have ylc := HKc.out.lt
    clear y1 yl zb zl z24 zf
    go_wp2_with fail
    refine (give_any (HSc.out.alloc _) wc.heap.size _ [(⟨(i : Int) + 1, y⟩ : Term), ⟨arg + 1, y + 1⟩] (Blk.new wc #[.int .i64 ((i : Int) + 1), .int .i64 y, .int .i64 (arg + 1), .int .i64 (y + 1)] 49) (by simp) HR.out hn).mono ?_
    intro e w2 hret
    obtain ⟨z, rfl⟩ : ∃ z : Int, e = .returned (.int .i64 z) := ⟨_, hret.1⟩
    have HQ := Lib.hid (hret.eff (w := w) ((HFb.out.trans HFc.out).alloc _)); clear hret
    go_wp2_with fail
    go_ret
    exact HQ.out

set_option maxRecDepth 100000 in
set_option maxHeartbeats 4000000 in
theorem effect_o10 {w0 : World} {B : Nat} {w : World} {L : Option Addr} {n c : Nat} {v : Int} {H : Option Addr} {hc : Nat} {hs : List Int} {O : Option Addr} {oc : Nat} {tr : List Tr} {most : Int} (h : VerSt w0 B w L n c v H hc hs O oc tr most)
    (i : Nat) (op arg y : Int) (hn : hs.length ≤ 1000000) (hi : i + 1 < hs.length) (_hy0 : -10 ≤ y) (_hy1 : y ≤ 1000000) (hop : op = 10) (htr : 1 ≤ tr.length) (htr2 : tr.length ≤ 100) :
    Calls Try.prog 49 #[.pointer (some ⟨B, 0, none⟩), .int .i64 i, .agg #[.int .i64 op, .int .i64 arg], .int .i64 y] w (RetEff w0 B w L n c v H hc hs most (giftsF ⟨op, arg⟩ i y) (trNext ⟨op, arg⟩ i y tr)) := by
  obtain rfl : op = 10 := hop
  have eg : giftsF ⟨10, arg⟩ i y = [⟨(i : Int) + 1, y⟩] := by simp [giftsF]
  have et : trNext ⟨10, arg⟩ i y tr = tr.dropLast := by simp [trNext]
  rw [eg, et]; clear eg et
  obtain ⟨m, hm⟩ : ∃ m, tr.length = m + 1 := ⟨tr.length - 1, by omega⟩
  have c24 := h.blk.cell 24 (v := .slice O tr.length oc) rfl
  have f24 := h.blk.frozen 24
  have hlt := h.blk.lt
  have hcap := (own_cap h.loops).1
  rw [hm] at c24 hcap
  obtain ⟨i0, hi0, hz0, hz1, hz2⟩ := info_parts loop_info
  have hu := run_upto (P := Try.prog) Try.underlying53 hi0 O (m + 1) oc m (by omega)
  have HS := Lib.hid h; clear h
  have HR : Hid (∀ g ∈ [(⟨(i : Int) + 1, y⟩ : Term)], 0 ≤ g.op ∧ g.op < (hs.length : Int)) := by
    show ∀ g ∈ [(⟨(i : Int) + 1, y⟩ : Term)], 0 ≤ g.op ∧ g.op < (hs.length : Int)
    intro g hg
    simp at hg
    subst hg; simp; omega
  obtain ⟨wb, hwb⟩ : ∃ wb, wb = w.alloc (.cells #[.int .i64 10, .int .i64 arg] 40) := ⟨_, rfl⟩
  have HSb : Hid (VerSt w0 B wb L n c v H hc hs O oc tr most) := by show VerSt w0 B wb _ _ _ _ _ _ _ _ _ _ _; rw [hwb]; exact HS.out.alloc _
  have HFb : Hid (VerFr w wb) := by show VerFr w wb; rw [hwb]; exact TFrame.of_bel ((Bel.refl w).alloc _)
  have Hm := Lib.hid hm
  have hm2 : m ≤ 100 := by omega
  have hw1 : IntKind.i64.wrap ((m : Int) + 1 - 1) = m := by rw [IntWalk.i64_in _ (by omega)]; omega
  clear hm htr htr2 hz0 hz1 hz2
  go_enter Try.func49, Try.ntmps49
  go_upto_region 17 with fail
  rw [← hwb]
  have zl := HSb.out.blk.lt
  have z24 := HSb.out.blk.cell 24 (v := .slice O tr.length oc) rfl
  have zf := HSb.out.blk.frozen 24
  rw [Hm.out] at z24
  clear c24 f24 hlt hwb
  have HP := HSb.out.pop
  rw [show tr.length - 1 = m by rw [Hm.out]; rfl] at HP
  replace HP := Lib.hid HP
  go_region
  all_goals
    go_wp2_with fail
    refine (give_any (HP.out.1.drew.alloc _) wb.heap.size _ [(⟨(i : Int) + 1, y⟩ : Term)] (blk_at (by simp) (Blk.new _ #[.int .i64 ((i : Int) + 1), .int .i64 y] 49)) (by simp) HR.out hn).mono ?_
    intro e w2 hret
    obtain ⟨z, rfl⟩ : ∃ z : Int, e = .returned (.int .i64 z) := ⟨_, hret.1⟩
    have HQ := Lib.hid (hret.eff (w := w) ((HFb.out.trans HP.out.2.drew).alloc _)); clear hret
    go_wp2_with fail
    go_ret
    exact HQ.out

end Go.Proofs.Ytnhhedecaejgcaa
