/- Merged of: PDy WQb WQc P05 (see NOTES.md). -/
import Derived.Test.YtgemlgpjbclonaaGreatDoorZ03
import Derived.Lib.BitFns
import Derived.RangeFuncNested
import Derived.RangeFuncBound
import Derived.RangeFuncCalls
import Derived.RangeFuncLeaves
import Derived.Shelf.Abstract
import Derived.Shelf.RegionOpen
import Derived.WalkKit
import Derived.OwnWalkIn
import Derived.TacticsInMore
import Derived.LoopNIn
import Derived.LoopIn
import Derived.RangeFuncBox
import Derived.Test.YtgemlgpjbclonaaGreatDoorZ01
set_option linter.unusedSimpArgs false
set_option linter.unnecessarySimpa false
set_option linter.unusedVariables false

/- The number of elements of a set, byte by byte, plain. -/
namespace Go.Proofs.YtgemlgpjbclonaaGreatDoor

def cnt8 (b : Nat) : Nat := ((List.range 8).filter (b.testBit ·)).length
theorem pop8_cnt : ∀ n : Fin 256, Lib.onesCount n.val = cnt8 n.val := by decide +kernel
theorem pop8_is {b : Nat} (h : b < 256) : Lib.pop8 (b : Int) = (cnt8 b : Int) := by
 have h1 := Lib.pop8_eq ⟨b, h⟩
 have h2 := pop8_cnt ⟨b, h⟩
 simp only at h1 h2
 rw [h1, h2]
theorem cnt8_le (b : Nat) : cnt8 b ≤ 8 := Nat.le_trans (List.length_filter_le _ _) (by simp)
theorem cnt_part (S s : Nat) : (List.filter (S.testBit ·) ((List.range 8).map (s + ·))).length = cnt8 (S / 2 ^ s % 256) := by
 unfold cnt8
 rw [List.filter_map, List.length_map]
 congr 1
 refine List.filter_congr fun i hi => ?_
 have hi := List.mem_range.1 hi
 show S.testBit (s + i) = (S / 2 ^ s % 2 ^ 8).testBit i
 rw [Nat.testBit_mod_two_pow, decide_eq_true hi, Bool.true_and, Nat.testBit_div_two_pow, Nat.add_comm]
theorem elems_bytes {S : Nat} (hS : S < 4294967296) : (elemsF S).length = cnt8 (S / 16777216) + cnt8 (S / 65536 % 256) + cnt8 (S / 256 % 256) + cnt8 (S % 256) := by
 have e : List.range 32 = (List.range 8).map (0 + ·) ++ ((List.range 8).map (8 + ·) ++ ((List.range 8).map (16 + ·) ++ (List.range 8).map (24 + ·))) := by decide
 unfold elemsF
 rw [e, List.filter_append, List.filter_append, List.filter_append, List.length_append, List.length_append, List.length_append, cnt_part, cnt_part, cnt_part, cnt_part]
 have e3 : S / 2 ^ 24 % 256 = S / 16777216 := by omega
 have e0 : S / 2 ^ 0 % 256 = S % 256 := by simp
 rw [e3, e0, show (2 ^ 16 : Nat) = 65536 by decide, show (2 ^ 8 : Nat) = 256 by decide]
 omega

end Go.Proofs.YtgemlgpjbclonaaGreatDoor

/- Contracts: OnesCount32. -/
namespace Go.Proofs.YtgemlgpjbclonaaGreatDoor
open Go.RowKit

theorem byte_and {x : Nat} (h : x < 4294967296) : bits .and .u32 (x : Int) 255 = ((x % 256 : Nat) : Int) := by
 rw [show (255 : Int) = ((255 : Nat) : Int) from rfl, bits_and h (by decide), Nat.and_two_pow_sub_one_eq_mod x 8]
set_option maxRecDepth 100000 in
set_option maxHeartbeats 2000000 in
theorem ones_any (S : Nat) (w : World) (hS : S < 4294967296) :
  Calls Tryz.prog 91 #[.int .u32 (S : Int)] w fun e w' => e = .returned (.int .i64 ((elemsF S).length : Int)) ∧ Bel w w' := by
 obtain ⟨b0, hb0⟩ : ∃ b : Nat, b = S % 256 := ⟨_, rfl⟩
 obtain ⟨b1, hb1⟩ : ∃ b : Nat, b = S / 256 % 256 := ⟨_, rfl⟩
 obtain ⟨b2, hb2⟩ : ∃ b : Nat, b = S / 65536 % 256 := ⟨_, rfl⟩
 obtain ⟨b3, hb3⟩ : ∃ b : Nat, b = S / 16777216 := ⟨_, rfl⟩
 have q0 : bits .and .u32 (S : Int) 255 = (b0 : Int) := by rw [byte_and hS, hb0]
 have q1 : bits .and .u32 ((S : Int) / 256) 255 = (b1 : Int) := by
  rw [show (S : Int) / 256 = ((S / 256 : Nat) : Int) by omega, byte_and (by omega), hb1]
 have q2 : bits .and .u32 ((S : Int) / 65536) 255 = (b2 : Int) := by
  rw [show (S : Int) / 65536 = ((S / 65536 : Nat) : Int) by omega, byte_and (by omega), hb2]
 have q3 : (S : Int) / 16777216 = (b3 : Int) := by omega
 have l0 : (b0 : Int) ≤ 255 := by omega
 have l1 : (b1 : Int) ≤ 255 := by omega
 have l2 : (b2 : Int) ≤ 255 := by omega
 have l3 : (b3 : Int) ≤ 255 := by omega
 have i0 : b0 ≤ 255 := by omega
 have i1 : b1 ≤ 255 := by omega
 have i2 : b2 ≤ 255 := by omega
 have i3 : b3 ≤ 255 := by omega
 have HB := Lib.hid (And.intro hb0 (And.intro hb1 (And.intro hb2 hb3)))
 clear hb0 hb1 hb2 hb3
 go_enter Tryz.func91, Tryz.ntmps91
 simp only [List.append_eq, List.cons_append, List.nil_append, Lib.fold_pop8tab]
 go_wp2
 go_region
 go_wp2
 go_ret
 refine ⟨ret_int ?_, (Bel.refl w).drew⟩
 obtain ⟨e0, e1, e2, e3⟩ := HB.out
 rw [pop8_is (by omega), pop8_is (by omega), pop8_is (by omega), pop8_is (by omega), elems_bytes hS, e0, e1, e2, e3]
 have h0 := cnt8_le (S % 256)
 have h1 := cnt8_le (S / 256 % 256)
 have h2 := cnt8_le (S / 65536 % 256)
 have h3 := cnt8_le (S / 16777216)
 omega

end Go.Proofs.YtgemlgpjbclonaaGreatDoor

/- The iterator of a set's nodes: what it hands on. -/
namespace Go.Proofs.YtgemlgpjbclonaaGreatDoor
open Go.RowKit
attribute [local go_sem] Oper.semAt_some

theorem nodesCall_any (S : Nat) (w : World) :
  Calls Tryz.prog 71 #[.int .u32 (S : Int)] w fun e w' => e = .returned (.func (.func 93) #[] #[.pointer (some ⟨w.heap.size, 0, none⟩)]) ∧ w' = w.alloc (.cells #[.int .u32 (S : Int)] 45) := by
 go_enter Tryz.func71, Tryz.ntmps71
 go_wp2
 go_ret
 exact ⟨rfl, rfl⟩

theorem Tab32.same {A B : World} (h : Tab32 A) (hs : A.heap.size ≤ B.heap.size) (hb : B.heap[0]? = A.heap[0]?) : Tab32 B :=
 ⟨Nat.lt_of_lt_of_le h.1 hs, fun i hi => (World.cell?_of_block hb).trans (h.2 i hi)⟩
/-- The set that a box holds. -/
def boxN (w : World) (B : Nat) : Nat := match w.cell? ⟨B, 0, none⟩ with | some (.int _ x) => x.toNat | _ => 0
set_option maxRecDepth 100000 in
set_option maxHeartbeats 2000000 in
theorem nodes_seq (n : Nat) (B S : Nat) (w : World) (hn : 1 ≤ n) (hS : S < 4294967296) (hB : Boxed w B 45 (.int .u32 (S : Int))) (hT : Tab32 w) :
  SeqE Fence.wide n Tryz.prog 93 #[.pointer (some ⟨B, 0, none⟩)] (fun v : Nat => #[.int .i64 (v : Int)]) (fun k => k = B) (fun k => k = 0) (elemsF S) w := by
 intro l J Jx W hW hJ hJx hY h0
 refine callsIn_of_wp Tryz.func93 rfl trivial ?_ rfl
 simp only [Tryz.ntmps93, List.size_toArray, List.length_cons, List.length_nil, Nat.reduceAdd, Nat.reduceSub, Array.replicate_succ, Array.replicate_zero, List.push_toArray, List.append_toArray, List.nil_append, List.cons_append]
 gi_wp2
 gi_loopw [] (fun wr => ∃ (pre : List Nat) (cur : Nat), Hid (Boxed wr B 45 (.int .u32 (cur : Int))) ∧ Hid (Tab32 wr) ∧ Hid (pre ++ elemsF cur = elemsF S) ∧ Hid (cur < 4294967296) ∧ Hid (J pre wr)) (fun wr => boxN wr B)
 case atStart => exact ⟨[], S, by show Boxed _ _ _ _; exact (hW.block B hB.lt).trans hB, hT.keep hW, by show [] ++ _ = _; rfl, hS, h0⟩
 case round =>
  clear h0 hS hB hT
  obtain ⟨pre, cur, HX, HT, HP, HC, HJ⟩ := hrel
  have hc := HX.out.cell
  have hf := HX.out.frozen
  have hl := HX.out.lt
  by_cases hz : cur = 0
  ·have hb : ((cur : Int) != 0) = false := by simp; exact hz
   have HZ := Lib.hid hz; clear hz
   gi_wp2
   go_end0
   have h := HP.out
   rw [HZ.out, elemsF_zero, List.append_nil] at h
   exact ⟨⟨_, rfl⟩, .inl (by rw [← h]; exact HJ.out)⟩
  ·have hb : ((cur : Int) != 0) = true := by simp; exact hz
   obtain ⟨k, m, e1, hk, _, e2, e3⟩ := set_split HC.out hz
   have q : bits .and .u32 (cur : Int) (((cur : Int) - 1) % 4294967296) = ((2 ^ k * (2 * m) : Nat) : Int) := by
    rw [show ((cur : Int) - 1) % 4294967296 = ((cur - 1 : Nat) : Int) by have := HC.out; omega, bits_and HC.out (by have := HC.out; omega), e2]
   have hlt : 2 ^ k * (2 * m) < cur := by
    have : 2 ^ k * (2 * m) + 2 ^ k = cur := by rw [e1, Nat.mul_add, Nat.mul_one]
    have := Nat.two_pow_pos k
    omega
   have HQ : Hid (pre ++ [k] ++ elemsF (2 ^ k * (2 * m)) = elemsF S) := by
    have := HP.out
    rw [e3] at this
    show _ = _
    rw [List.append_assoc]; exact this
   have hpre : pre ++ [k] <+: elemsF S := ⟨_, HQ.out⟩
   obtain ⟨fn, tmps, assign, body, hy, hR⟩ := hY pre k wr hpre HJ.out
   generalize 2 ^ k * (2 * m) = nx at q hlt HQ
   have HE1 := Lib.hid e1
   have HLT := Lib.hid hlt
   have HZ := Lib.hid hz
   clear e1 e2 e3 hz hlt hpre hk
   gi_wp2_with (refine ⟨trivial, ?_⟩; gi_at_call 94; refine (callsIn_wide.2 (tz_any cur k m _ HT.out HC.out HE1.out)).mono ?_; rintro e w' ⟨rfl, rfl⟩)
   refine hR.mono ?_
   rintro e w' (⟨rfl, hJ', hs⟩ | ⟨rfl, hJx'⟩)
   ·have hbx : Boxed w' B 45 (.int .u32 (cur : Int)) := (hs.2 B HX.out.lt (.inl rfl)).trans HX.out
    have HT' : Hid (Tab32 w') := HT.out.same hs.1 (hs.2 _ HT.out.1 (.inr rfl))
    have hc' := hbx.cell
    have hf' := hbx.frozen
    have hl' := hbx.lt
    have HX' := Lib.hid hbx
    have HJ' := Lib.hid hJ'
    clear hbx hJ' hs hc hf hl
    gi_wp2
    go_roundw
    case rel =>
     refine ⟨pre ++ [k], nx, HX'.out.set _, HT'.out.same (by simp) (Below.heap_setCell _ _ _ _ ?_), HQ.out, by have := HC.out; have := HLT.out; show _ < _; omega, hJ _ _ _ HJ'.out (Agr.setCell _ _ _ rfl)⟩
     have h1 := HX'.out
     have h2 := HT'.out.2 0 (by decide)
     intro e
     simp only at e
     subst e
     rw [h1.cell] at h2
     cases h2
    case measure =>
     have e1 : boxN wr B = cur := by unfold boxN; rw [HX.out.cell]; simp
     have e2 : ∀ W : World, Boxed W B 45 (.int .u32 (nx : Int)) → boxN W B = nx := fun W h => by unfold boxN; rw [h.cell]; simp
     rw [e1, e2 _ (HX'.out.set _)]
     exact HLT.out
   ·gi_wp2
    refine bodyPost_ret (results_none rfl _ _ _) rfl ?_
    exact ⟨⟨_, rfl⟩, .inr ⟨pre ++ [k], ⟨_, HQ.out⟩, hJx'⟩⟩

end Go.Proofs.YtgemlgpjbclonaaGreatDoor

/- The plain form of layer 5: terms, the place behind an expression, operands. -/
namespace Go.Proofs.YtgemlgpjbclonaaGreatDoor

structure Term where
 op : Int
 arg : Int
instance : Inhabited Term := ⟨⟨0, 0⟩⟩

def arity (op : Int) : Int :=
 if op < 1 ∨ 43 < op then -1 else if op ≤ 17 then 0 else if op ≤ 29 then 1 else if op ≤ 42 then 2 else 3

theorem arity_le (op : Int) : -1 ≤ arity op ∧ arity op ≤ 3 := by unfold arity; repeat' split <;> omega

def scan : List Term → Int → Option Nat
 | [], _ => none
 | t :: ts, m => if arity t.op < 0 then none else if m + (arity t.op - 1) = 0 then some 1 else (scan ts (m + (arity t.op - 1))).map (· + 1)

def scanAt (es : List Term) (k : Nat) (m : Int) : Int :=
 match scan (es.drop k) m with
 | none => -1
 | some n => k + n

theorem scanAt_done {es : List Term} {k : Nat} {m : Int} (h : es.length ≤ k) : scanAt es k m = -1 := by
 unfold scanAt; rw [List.drop_eq_nil_of_le h]; rfl

theorem scanAt_bad {es : List Term} {k : Nat} {m : Int} (h : k < es.length) (ha : arity es[k].op < 0) : scanAt es k m = -1 := by
 unfold scanAt; rw [List.drop_eq_getElem_cons h]; simp only [scan, if_pos ha]

theorem scanAt_end {es : List Term} {k : Nat} {m : Int} (h : k < es.length) (ha : 0 ≤ arity es[k].op) (hm : m + (arity es[k].op - 1) = 0) : scanAt es k m = k + 1 := by
 unfold scanAt; rw [List.drop_eq_getElem_cons h]; simp only [scan]; rw [if_neg (by omega), if_pos hm]; rfl

theorem scanAt_next {es : List Term} {k : Nat} {m : Int} (h : k < es.length) (ha : 0 ≤ arity es[k].op) (hm : m + (arity es[k].op - 1) ≠ 0) : scanAt es k m = scanAt es (k + 1) (m + (arity es[k].op - 1)) := by
 unfold scanAt; rw [List.drop_eq_getElem_cons h]; simp only [scan]; rw [if_neg (by omega), if_neg hm]
 cases scan (es.drop (k + 1)) (m + (arity es[k].op - 1)) with
 | none => rfl
 | some n => simp; omega

def endF (es : List Term) (p : Int) : Int := if p < 0 ∨ es.length ≤ p then -1 else scanAt es p.toNat 1

theorem scan_le (l : List Term) (m : Int) (n : Nat) (h : scan l m = some n) : 1 ≤ n ∧ n ≤ l.length := by
 induction l generalizing m n with
 | nil => simp [scan] at h
 | cons t ts ih =>
  simp only [scan] at h
  split at h
  ·cases h
  ·split at h
   ·injection h with h; subst h; simp
   ·cases hs : scan ts (m + (arity t.op - 1)) with
    | none => rw [hs] at h; cases h
    | some q =>
     rw [hs] at h; injection h with h; subst h
     have := ih _ _ hs
     simp; omega

theorem scanAt_le (es : List Term) (k : Nat) (m : Int) (hk : k ≤ es.length) : scanAt es k m = -1 ∨ (k < scanAt es k m ∧ scanAt es k m ≤ es.length) := by
 unfold scanAt
 cases h : scan (es.drop k) m with
 | none => left; rfl
 | some n =>
  right
  have := scan_le _ _ _ h
  simp at this
  simp; omega

theorem endF_le (es : List Term) (p : Int) : endF es p = -1 ∨ (0 ≤ p ∧ p < es.length ∧ p < endF es p ∧ endF es p ≤ es.length) := by
 unfold endF
 split
 ·left; rfl
 ·rename_i h
  have := scanAt_le es p.toNat 1 (by omega)
  omega

def iterEnd (es : List Term) : Nat → Int → Int
 | 0, p => p
 | n + 1, p => iterEnd es n (endF es p)

def opAt (es : List Term) (p : Int) : Int := (es.getD p.toNat default).op

theorem opAt_get {es : List Term} {k : Nat} (h : k < es.length) : opAt es (k : Int) = es[k].op := by
 unfold opAt; rw [List.getD_eq_getElem?_getD]; simp [h]

def operandF (es : List Term) (p k : Int) : Int :=
 if endF es p < 0 ∨ k < 0 ∨ arity (opAt es p) ≤ k then -1 else iterEnd es k.toNat (p + 1)

def aggregate (op : Int) : Bool := decide (20 ≤ op ∧ op ≤ 29)

def gmax (l : List Int) : Int := l.foldl max 0

theorem foldl_max_ge (l : List Int) (a : Int) : a ≤ l.foldl max a := by
 induction l generalizing a with
 | nil => exact Int.le_refl _
 | cons x l ih => exact Int.le_trans (Int.le_max_left a x) (ih _)
theorem foldl_max_le (l : List Int) (a b : Int) (ha : a ≤ b) (h : ∀ x ∈ l, x ≤ b) : l.foldl max a ≤ b := by
 induction l generalizing a with
 | nil => exact ha
 | cons x l ih => exact ih _ (Int.max_le.2 ⟨ha, h x (by simp)⟩) (fun y hy => h y (by simp [hy]))
theorem gmax_nonneg (l : List Int) : 0 ≤ gmax l := foldl_max_ge l 0
theorem gmax_le (l : List Int) (b : Int) (hb : 0 ≤ b) (h : ∀ x ∈ l, x ≤ b) : gmax l ≤ b := foldl_max_le l 0 b hb h

/-- The stack behind the terms from the last one to the first one. -/
def lev (num : Int → Int → Int) : List Term → List Int
 | [] => []
 | t :: ts => (lev num ts).take ((lev num ts).length - (arity t.op).toNat) ++ [num t.op (gmax ((lev num ts).drop ((lev num ts).length - (arity t.op).toNat)))]

/-- The list is so many whole expressions. -/
def Full (l : List Term) (m : Int) : Prop := (l = [] ∧ m = 0) ∨ (1 ≤ m ∧ scan l m = some l.length)

theorem Full.cons {t : Term} {ts : List Term} {m : Int} (h : Full (t :: ts) m) : 1 ≤ m ∧ 0 ≤ arity t.op ∧ Full ts (m + (arity t.op - 1)) := by
 rcases h with ⟨h, _⟩ | ⟨hm, h⟩
 ·cases h
 ·simp only [scan] at h
  split at h
  ·cases h
  ·rename_i ha
   refine ⟨hm, by omega, ?_⟩
   split at h
   ·rename_i h0
    injection h with h
    left
    exact ⟨List.eq_nil_of_length_eq_zero (by simpa using h.symm), h0⟩
   ·rename_i h0
    right
    refine ⟨by omega, ?_⟩
    cases hs : scan ts (m + (arity t.op - 1)) with
    | none => rw [hs] at h; cases h
    | some q => rw [hs] at h; injection h with h; simp at h; rw [h]

theorem Full.lev_length (num : Int → Int → Int) (l : List Term) : ∀ m, Full l m → ((lev num l).length : Int) = m := by
 induction l with
 | nil =>
  intro m h
  rcases h with ⟨_, h⟩ | ⟨_, h⟩
  ·simp [lev, h]
  ·simp [scan] at h
 | cons t ts ih =>
  intro m h
  obtain ⟨h1, h2, h3⟩ := h.cons
  have := ih _ h3
  simp only [lev, List.length_append, List.length_take, List.length_singleton]
  omega

theorem full_of_end {es : List Term} (h : endF es 0 = es.length) : Full es 1 := by
 unfold endF at h
 split at h
 ·omega
 ·right
  refine ⟨by omega, ?_⟩
  unfold scanAt at h
  simp only [Int.toNat_zero, List.drop_zero] at h
  cases hs : scan es 1 with
  | none => rw [hs] at h; simp at h
  | some n => rw [hs] at h; simp at h; rw [show n = es.length by omega]

theorem Full.drop {es : List Term} (h : Full es 1) : ∀ i, i ≤ es.length → ∃ m, Full (es.drop i) m := by
 intro i
 induction i with
 | zero => intro _; exact ⟨1, by simpa using h⟩
 | succ i ih =>
  intro hi
  obtain ⟨m, hm⟩ := ih (by omega)
  rw [List.drop_eq_getElem_cons (by omega)] at hm
  exact ⟨_, hm.cons.2.2⟩

/-- What holds of the stack at a term of a whole expression. -/
theorem lev_at (num : Int → Int → Int) {es : List Term} (h : Full es 1) {i : Nat} (hi : i < es.length) :
  0 ≤ arity es[i].op ∧ arity es[i].op ≤ (lev num (es.drop (i + 1))).length := by
 obtain ⟨m, hm⟩ := h.drop i (by omega)
 rw [List.drop_eq_getElem_cons hi] at hm
 obtain ⟨h1, h2, h3⟩ := hm.cons
 have := h3.lev_length num
 exact ⟨h2, by omega⟩

theorem lev_bound (num : Int → Int → Int) (hn : ∀ op g, 0 ≤ g → 0 ≤ num op g ∧ num op g ≤ g + 1) (l : List Term) : (lev num l).length ≤ l.length ∧ ∀ x ∈ lev num l, 0 ≤ x ∧ x ≤ l.length := by
 induction l with
 | nil => simp [lev]
 | cons t ts ih =>
  obtain ⟨ih1, ih2⟩ := ih
  refine ⟨by simp only [lev, List.length_append, List.length_take, List.length_cons, List.length_nil]; omega, fun x hx => ?_⟩
  simp only [lev, List.mem_append, List.mem_singleton] at hx
  rcases hx with hx | hx
  ·have := ih2 x (List.mem_of_mem_take hx)
   simp; omega
  ·have g1 := gmax_nonneg ((lev num ts).drop ((lev num ts).length - (arity t.op).toNat))
   have g2 := gmax_le ((lev num ts).drop ((lev num ts).length - (arity t.op).toNat)) ts.length (by omega) (fun y hy => (ih2 y (List.mem_of_mem_drop hy)).2)
   have := hn t.op _ g1
   rw [hx]; simp; omega

def levelsF (num : Int → Int → Int) (es : List Term) : Int := if endF es 0 = es.length then (lev num es).headD 0 else 0
def depthNum (_ g : Int) : Int := g + 1
def nestNum (op g : Int) : Int := if aggregate op then g + 1 else g
theorem depthNum_ok (op g : Int) (h : 0 ≤ g) : 0 ≤ depthNum op g ∧ depthNum op g ≤ g + 1 := by unfold depthNum; omega
theorem nestNum_ok (op g : Int) (h : 0 ≤ g) : 0 ≤ nestNum op g ∧ nestNum op g ≤ g + 1 := by unfold nestNum; split <;> omega
def depthF (es : List Term) : Int := levelsF depthNum es
def nestF (es : List Term) : Int := levelsF nestNum es

def argF (t : Term) (vars : Int) : Bool :=
 if t.op = 1 then decide (0 ≤ t.arg ∧ t.arg ≤ 1073741824) else if t.op = 5 ∨ t.op = 12 then decide (0 ≤ t.arg ∧ t.arg < vars) else decide (t.arg = 0)

def oneF (es : List Term) : Bool := decide (0 < es.length ∧ endF es 0 = es.length)

def validF (es : List Term) (vars : Int) : Bool :=
 decide (es.length ≤ 200) && (endF es 0 == es.length) && es.all (argF · vars) && decide (depthF es ≤ 24) && decide (nestF es ≤ 2)

/- The reference's levels: open terms with the operands that are still to come, the innermost first. -/
def popN : List (Int × Bool) → List (Int × Bool)
 | [] => []
 | (c, b) :: r => if c - 1 = 0 then popN r else (c - 1, b) :: r
def normS : List (Int × Bool) → List (Int × Bool)
 | [] => []
 | (c, b) :: r => if c = 0 then popN r else (c, b) :: r
def insideS (s : List (Int × Bool)) : Int := (s.filter (·.2)).length
def refGo : List Term → List (Int × Bool) → Int → Int → Int × Int
 | [], _, d, n => (d, n)
 | t :: ts, s, d, n => refGo ts (normS ((arity t.op, aggregate t.op) :: s)) (max d (((arity t.op, aggregate t.op) :: s).length : Nat)) (max n (insideS ((arity t.op, aggregate t.op) :: s)))

/-- Open terms: each waits for at least one operand. -/
def Wait (s : List (Int × Bool)) : Prop := ∀ x ∈ s, 1 ≤ x.1 ∧ x.1 ≤ 3
theorem Wait.tail {x : Int × Bool} {s : List (Int × Bool)} (h : Wait (x :: s)) : Wait s := fun y hy => h y (by simp [hy])
theorem popN_wait {s : List (Int × Bool)} (h : Wait s) : Wait (popN s) ∧ (popN s).length ≤ s.length := by
 induction s with
 | nil => exact ⟨h, Nat.le_refl _⟩
 | cons x s ih =>
  obtain ⟨c, b⟩ := x
  have hc := h (c, b) (by simp)
  simp only [popN]
  split
  ·exact ⟨(ih h.tail).1, by have := (ih h.tail).2; simp; omega⟩
  ·refine ⟨fun y hy => ?_, by simp⟩
   rcases List.mem_cons.1 hy with e | e
   ·subst e; simp at hc ⊢; omega
   ·exact h y (by simp [e])
theorem normS_wait {c : Int} {b : Bool} {s : List (Int × Bool)} (h : Wait s) (h0 : 0 ≤ c) (h3 : c ≤ 3) : Wait (normS ((c, b) :: s)) ∧ (normS ((c, b) :: s)).length ≤ s.length + 1 := by
 simp only [normS]
 split
 ·exact ⟨(popN_wait h).1, by have := (popN_wait h).2; omega⟩
 ·refine ⟨fun y hy => ?_, by simp⟩
  rcases List.mem_cons.1 hy with e | e
  ·subst e; simp; omega
  ·exact h y e
theorem insideS_le (s : List (Int × Bool)) : 0 ≤ insideS s ∧ insideS s ≤ s.length := by
 unfold insideS
 have := List.length_filter_le (fun x : Int × Bool => x.2) s
 omega

def cntB (l : List Bool) : Int := (l.filter id).length
theorem cntB_reverse (s : List (Int × Bool)) : cntB ((s.map (·.2)).reverse) = insideS s := by
 unfold cntB insideS
 rw [List.filter_reverse, List.length_reverse, List.filter_map, List.length_map]
 rfl
theorem cntB_cons (b : Bool) (l : List Bool) : cntB (b :: l) = (if b then 1 else 0) + cntB l := by
 cases b
 ·simp [cntB]
 ·simp [cntB]; omega
theorem normS_zero (b : Bool) (c : Int) (b' : Bool) (r : List (Int × Bool)) : normS ((0, b) :: (c, b') :: r) = normS ((c - 1, b') :: r) := by
 simp [normS, popN]
theorem normS_zero_nil (b : Bool) : normS [(0, b)] = [] := by simp [normS, popN]
theorem normS_pos (c : Int) (b : Bool) (r : List (Int × Bool)) (h : c ≠ 0) : normS ((c, b) :: r) = (c, b) :: r := by simp [normS, h]

/-- Open terms while operands end: the innermost one may wait for none. -/
def Shape : List (Int × Bool) → Prop
 | [] => True
 | (c, _) :: r => 0 ≤ c ∧ c ≤ 3 ∧ Wait r

end Go.Proofs.YtgemlgpjbclonaaGreatDoor

