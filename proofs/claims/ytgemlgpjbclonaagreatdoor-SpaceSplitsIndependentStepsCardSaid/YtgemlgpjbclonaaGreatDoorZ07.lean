/- Merged of: Mq W05a Blk WG (see NOTES.md). -/
import Derived.Test.YtgemlgpjbclonaaGreatDoorZ06
import Derived.WideKeyArr
import Derived.Maps.RangeWalk
import Derived.Test.YtgemlgpjbclonaaGreatDoorZ01
import Derived.Test.YtgemlgpjbclonaaGreatDoorZ04
import Derived.OneCell
set_option linter.unusedSimpArgs false
set_option linter.unnecessarySimpa false
set_option linter.unusedVariables false

/- Maps of the call's own whose keys are pairs of numbers and whose elements are numbers. -/
namespace Go.Proofs.YtgemlgpjbclonaaGreatDoor
open Go.RowKit Go.Maps

structure PairK (P : Program) (k e : TypeId) : Prop where
 hu : P.underlying k = some (.array 2 e)
 he : P.underlying e = some (.int .i64)
 one : P.cellsOf e = 1
 two : P.cellsOf k = 2
 kt : P.keyType k = true
 sz : ∃ m, P.types.size = m + 1
def pk (a b : Int) : Lit := .string (keyBytes [.int .i64 a, .int .i64 b])
def pairV (x : Int × Int) : Value := .agg #[.int .i64 x.1, .int .i64 x.2]

theorem PairK.law {P : Program} {k e : TypeId} (A : PairK P k e) : Keyed P k :=
 Keyed.of_law (WideMaps.ArrKey.law ⟨A.hu, by unfold Program.plainKey; rw [A.he], A.one, A.two⟩)
theorem PairK.keyOf {P : Program} {k e : TypeId} (A : PairK P k e) {a b : Int} (ha : (Lit.int .i64 a).wf = true) (hb : (Lit.int .i64 b).wf = true) : Go.keyOf P k (pairV (a, b)) = some (pk a b) := by
 obtain ⟨m, hm⟩ := A.sz
 unfold Go.keyOf pairV
 rw [A.hu]
 simp only []
 rw [A.kt]
 simp only [Value.formed, A.hu, A.two, Bool.true_and]
 rw [hm]
 simp only [Program.keyLits, A.hu, A.he, A.one, A.two, Value.cells, List.range, List.range.loop]
 simp [ha, hb, pk]
theorem PairK.inv {P : Program} {k e : TypeId} (A : PairK P k e) {v : Value} {l : Lit} (h : Go.keyOf P k v = some l) : ∃ x : Int × Int, v = pairV x ∧ (Lit.int .i64 x.1).wf = true ∧ (Lit.int .i64 x.2).wf = true ∧ l = pk x.1 x.2 := by
 obtain ⟨m, hm⟩ := A.sz
 unfold Go.keyOf at h
 rw [A.hu] at h
 simp only [] at h
 rw [A.kt] at h
 cases v with
 | agg cs =>
  simp only [Value.formed, A.hu, A.two, Bool.true_and] at h
  split at h
  ·rename_i hs
   obtain ⟨l'⟩ := cs
   simp at hs
   match l', hs with
   | [u, v], _ =>
    rw [hm] at h
    cases u with
    | int q a =>
     cases v with
     | int q' b =>
      simp only [Program.keyLits, A.hu, A.he, A.one, A.two, Value.cells, List.range, List.range.loop] at h
      by_cases h1 : q = .i64 ∧ (Lit.int .i64 a).wf = true
      ·by_cases h2 : q' = .i64 ∧ (Lit.int .i64 b).wf = true
       ·obtain ⟨rfl, h1⟩ := h1
        obtain ⟨rfl, h2⟩ := h2
        simp [h1, h2] at h
        exact ⟨(a, b), rfl, h1, h2, h.symm⟩
       ·simp [h1, h2] at h
      ·simp [h1] at h
     | _ => simp [Program.keyLits, A.hu, A.he, A.one, A.two, Value.cells, List.range, List.range.loop] at h
    | _ => simp [Program.keyLits, A.hu, A.he, A.one, A.two, Value.cells, List.range, List.range.loop] at h
  ·cases h
 | _ => simp [Value.formed, A.hu] at h
theorem pk_inj {P : Program} {k e : TypeId} (A : PairK P k e) {a b c d : Int} (ha : (Lit.int .i64 a).wf = true) (hb : (Lit.int .i64 b).wf = true) (hc : (Lit.int .i64 c).wf = true) (hd : (Lit.int .i64 d).wf = true) (h : pk a b = pk c d) : a = c ∧ b = d := by
 have h1 := A.keyOf ha hb
 have h2 := A.keyOf hc hd
 rw [h] at h1
 have := A.law.inj h1 h2
 simp [pairV] at this
 exact this

/-- The map in block b reads as a list of pairs with numbers: 0 stands for 'not there'. -/
def PairR (P : Program) (k e : TypeId) (w : World) (b n : Nat) (D : DataW Unit) (M : Int → Int → Int) : Prop :=
 w.ownsMap P k (plainElem P e) b n D ∧ IsMap D ∧ (∀ x y, (Lit.int .i64 x).wf = true → (Lit.int .i64 y).wf = true → D.atKey (pk x y) (.lit (.int .i64 0)) = .lit (.int .i64 (M x y)) ∧ (has D (pk x y) = true ↔ M x y ≠ 0))
theorem PairR.made (P : Program) (k e : TypeId) (w : World) : PairR P k e (w.alloc (.map #[] 0)) w.heap.size 0 (.map []) (fun _ _ => 0) :=
 ⟨World.ownsMap_made w P k _, isMap_empty, fun x y _ _ => ⟨by simp [DataW.atKey], by simp [has]⟩⟩
theorem PairR.kept {P : Program} {k e : TypeId} {w w' : World} {b n : Nat} {D : DataW Unit} {M : Int → Int → Int} {row : Option Nat} (h : PairR P k e w b n D M) (hg : w.grownBy w' row) (hne : some b ≠ row) : PairR P k e w' b n D M :=
 ⟨h.1.kept hg hne, h.2⟩
theorem PairR.keep {P : Program} {k e : TypeId} {w w' : World} {b n : Nat} {D : DataW Unit} {M : Int → Int → Int} (h : PairR P k e w b n D M) (hb : Bel w w') : PairR P k e w' b n D M := h.kept (hb.grownBy none) (by simp)
theorem PairR.lookOk {P : Program} {k e t : TypeId} (A : PairK P k e) (ht : P.underlying t = some (.map k e)) {w : World} {b n : Nat} {D : DataW Unit} {M : Int → Int → Int} (h : PairR P k e w b n D M) (hz : (zeroValue e).run P w = .ok (.int .i64 0) w) {x y : Int} (hx : (Lit.int .i64 x).wf = true) (hy : (Lit.int .i64 y).wf = true) :
  (Instr.lookup t (.map (some b)) (pairV (x, y)) true).run P w = .ok (.tuple #[.int .i64 (M x y), .bool (decide (M x y ≠ 0))]) w := by
 obtain ⟨v, ps, hrun, hv⟩ := h.1.look_ok A.law ht hz (plainElem_int A.he (by decide)) (A.keyOf hx hy)
 obtain ⟨h1, h2⟩ := h.2.2 x y hx hy
 rw [h1] at hv
 obtain ⟨c, rfl, hc, _⟩ := plainElem_int_inv A.he hv
 simp at hc
 rw [hrun, ← hc.1]
 congr 3
 rw [show has D (pk x y) = decide (M x y ≠ 0) by rw [Bool.eq_iff_iff]; simpa using h2]
theorem PairR.look {P : Program} {k e t : TypeId} (A : PairK P k e) (ht : P.underlying t = some (.map k e)) {w : World} {b n : Nat} {D : DataW Unit} {M : Int → Int → Int} (h : PairR P k e w b n D M) (hz : (zeroValue e).run P w = .ok (.int .i64 0) w) {x y : Int} (hx : (Lit.int .i64 x).wf = true) (hy : (Lit.int .i64 y).wf = true) :
  (Instr.lookup t (.map (some b)) (pairV (x, y)) false).run P w = .ok (.int .i64 (M x y)) w := by
 obtain ⟨c, hrun, hc, _⟩ := h.1.lookup_int A.law ht A.he hz (A.keyOf hx hy)
 rw [(h.2.2 x y hx hy).1] at hc
 simp at hc
 rw [hrun, hc]
def putM (M : Int → Int → Int) (x y c : Int) : Int → Int → Int := fun a b => if a = x ∧ b = y then c else M a b
theorem PairR.put {P : Program} {k e : TypeId} (A : PairK P k e) {w' : World} {b n : Nat} {D : DataW Unit} {M : Int → Int → Int} {x y c : Int} (hx : (Lit.int .i64 x).wf = true) (hy : (Lit.int .i64 y).wf = true) (hc : c ≠ 0)
  (h2 : IsMap D ∧ (∀ x y, (Lit.int .i64 x).wf = true → (Lit.int .i64 y).wf = true → D.atKey (pk x y) (.lit (.int .i64 0)) = .lit (.int .i64 (M x y)) ∧ (has D (pk x y) = true ↔ M x y ≠ 0)))
  (h : w'.ownsMap P k (plainElem P e) b n (D.put (pk x y) (.lit (.int .i64 c)))) : PairR P k e w' b n (D.put (pk x y) (.lit (.int .i64 c))) (putM M x y c) := by
 refine ⟨h, h2.1.put _ _, fun a b ha hb => ?_⟩
 have hkl : WideAt.IsKeyLit (pk x y) := trivial
 by_cases he : a = x ∧ b = y
 ·obtain ⟨rfl, rfl⟩ := he
  refine ⟨?_, ?_⟩
  ·rw [atKey_put_same h2.1 hkl]; simp [putM]
  ·simp only [putM]
   simp [hc]
   exact has_true_of_atKey (y := .lit (.int .i64 c)) (fun z => atKey_put_same h2.1 hkl _ z)
 ·have hne : pk a b ≠ pk x y := fun h => he (pk_inj A ha hb hx hy h)
  have hM : putM M x y c a b = M a b := by unfold putM; rw [if_neg he]
  obtain ⟨g1, g2⟩ := h2.2 a b ha hb
  refine ⟨by rw [atKey_put_other hne, hM, g1], ?_⟩
  rw [hM, ← g2]
  constructor
  ·intro hh
   cases hD : has D (pk a b) with
   | true => rfl
   | false =>
    have : has (D.put (pk x y) (.lit (.int .i64 c))) (pk a b) = false := has_false_of_atKey (fun z => by rw [atKey_put_other hne, atKey_of_not_has hD])
    rw [this] at hh; cases hh
  ·intro hh
   cases hD : has (D.put (pk x y) (.lit (.int .i64 c))) (pk a b) with
   | true => rfl
   | false =>
    have : has D (pk a b) = false := has_false_of_atKey (fun z => by rw [← atKey_put_other hne (.lit (.int .i64 c)), atKey_of_not_has hD])
    rw [this] at hh; cases hh

end Go.Proofs.YtgemlgpjbclonaaGreatDoor

/- Contracts of the small functions of layer 5: Arity, Aggregate, End, Operand, of the program and of the reference. -/
namespace Go.Proofs.YtgemlgpjbclonaaGreatDoor
open Go.RowKit

def TermAt (w : World) (b o : Nat) (t : Term) : Prop := w.cell? ⟨b, o, none⟩ = some (.int .i64 t.op) ∧ w.cell? ⟨b, o + 1, none⟩ = some (.int .i64 t.arg)
theorem TermAt.keeps : Keeps TermAt := fun _ _ _ _ _ k hb h => ⟨(k.cell hb).trans h.1, (k.cell hb).trans h.2⟩
def TermsR := SliceR 2 TermAt
theorem TermsR.keep {w w' : World} {A : Option Addr} {n : Nat} {es : List Term} (h : TermsR w A n es) (k : Bel w w') : TermsR w' A n es := SliceR.keep TermAt.keeps h k
theorem TermsR.at_ {w : World} {A : Option Addr} {n : Nat} {es : List Term} (h : TermsR w A n es) (k : Nat) (hk : k < es.length) :
  ∃ b o, A = some ⟨b, o, none⟩ ∧ b < w.heap.size ∧ w.cell? ⟨b, o + k * 2, none⟩ = some (.int .i64 es[k].op) ∧ w.cell? ⟨b, o + k * 2 + 1, none⟩ = some (.int .i64 es[k].arg) := SliceR.at_ h k hk

theorem TermsR.atB {w : World} {A : Option Addr} {n : Nat} {es : List Term} (h : TermsR w A n es) (k : Nat) (hk : k < es.length) :
  ∃ b o, A = some ⟨b, o, none⟩ ∧ b < w.heap.size ∧ ∀ w', Bel w w' → w'.cell? ⟨b, o + k * 2, none⟩ = some (.int .i64 es[k].op) ∧ w'.cell? ⟨b, o + k * 2 + 1, none⟩ = some (.int .i64 es[k].arg) := by
 obtain ⟨b, o, e, hb, h1, h2⟩ := h.at_ k hk
 exact ⟨b, o, e, hb, fun w' k => ⟨(k.cell hb).trans h1, (k.cell hb).trans h2⟩⟩

def termCells (t : Term) : List Value := [.int .i64 t.op, .int .i64 t.arg]
theorem termCells_at (es : List Term) (i : Nat) (t : Term) (h : es[i]? = some t) : (es.flatMap termCells)[i * 2]? = some (.int .i64 t.op) ∧ (es.flatMap termCells)[i * 2 + 1]? = some (.int .i64 t.arg) := by
 induction es generalizing i with
 | nil => simp at h
 | cons x es ih =>
  cases i with
  | zero => simp at h; subst h; simp [termCells]
  | succ i =>
   have := ih i (by simpa using h)
   have e : (i + 1) * 2 = i * 2 + 1 + 1 := by omega
   rw [e]
   simpa [termCells] using this
theorem termCells_length (es : List Term) : (es.flatMap termCells).length = es.length * 2 := by
 induction es with
 | nil => rfl
 | cons x es ih => simp [ih, termCells]; omega
theorem TermsR.cells {w : World} {A : Option Addr} {n : Nat} {es : List Term} (h : TermsR w A n es) : CellsR w 2 A n (es.flatMap termCells) := by
 refine ⟨by rw [termCells_length, h.1], fun j u hu => ?_⟩
 have hlt : j < es.length * 2 := by
  have := (List.getElem?_eq_some_iff.1 hu).1
  rw [termCells_length] at this; exact this
 have hi : j / 2 < es.length := by omega
 obtain ⟨b, o, rfl, _, h1, h2⟩ := h.at_ (j / 2) hi
 obtain ⟨g1, g2⟩ := termCells_at es (j / 2) es[j / 2] (List.getElem?_eq_getElem hi)
 refine ⟨b, o, rfl, ?_⟩
 rcases Nat.mod_two_eq_zero_or_one j with hm | hm
 ·have e : j = j / 2 * 2 := by omega
  rw [← e] at h1 g1
  rw [g1] at hu
  rw [h1]; exact hu
 ·have e : j = j / 2 * 2 + 1 := by omega
  have e2 : o + j / 2 * 2 + 1 = o + j := by omega
  rw [← e] at g2
  rw [e2] at h2
  rw [g2] at hu
  rw [h2]; exact hu

theorem light_any (A : Option Addr) (n c : Nat) (w : World) :
  Calls Tryz.prog 42 #[.slice A n c] w fun e w' => e = .returned (.bool (decide (n ≤ 250))) ∧ w = w' := by
 go_enter Tryz.func42, Tryz.ntmps42
 go_wp2
 go_ret
 refine ⟨ret_bool ?_, rfl⟩
 rw [Bool.eq_iff_iff]; simp; omega

def modF (k n : Int) : Int := k % n
theorem modF_tmod (k n : Int) : modF k n = (k.tmod n) % n := by
 have h := Int.mul_tdiv_add_tmod k n
 unfold modF
 generalize k.tmod n = r at *
 rw [← h, Int.add_comm, Int.add_mul_emod_self_left]
theorem mod_any (k n : Int) (w : World) (h1 : 1 ≤ n) (h2 : n ≤ 1000000) :
  Calls Tryz.prog 20 #[.int .i64 k, .int .i64 n] w fun e w' => e = .returned (.int .i64 (modF k n)) ∧ w = w' := by
 have hz : (n == 0) = false := by simp; omega
 go_enter Tryz.func20, Tryz.ntmps20
 have t1 := Int.tmod_lt_of_pos k (show 0 < n by omega)
 have t2 := Int.lt_tmod_of_pos k (show 0 < n by omega)
 have t3 := Lib.hid (modF_tmod k n)
 go_wp2
 ·go_ret
  refine ⟨ret_int ?_, rfl⟩
  have hneg : k.tmod n < 0 := by assumption
  rw [t3.out, ← Int.add_emod_right, Int.emod_eq_of_lt (by omega) (by omega)]
 ·go_ret
  refine ⟨ret_int ?_, rfl⟩
  have hneg : 0 ≤ k.tmod n := by assumption
  rw [t3.out, Int.emod_eq_of_lt (by omega) (by omega)]

theorem arity_any (op : Int) (w : World) :
  Calls Tryz.prog 173 #[.int .i64 op] w fun e w' => e = .returned (.int .i64 (arity op)) ∧ w = w' := by
 go_enter Tryz.func173, Tryz.ntmps173
 go_wp2
 all_goals (go_ret; refine ⟨ret_int ?_, rfl⟩; unfold arity; repeat' split) <;> omega

theorem refArity_any (op : Int) (w : World) :
  Calls Tryz.prog 100 #[.int .i64 op] w fun e w' => e = .returned (.int .i64 (arity op)) ∧ w = w' := by
 go_enter Tryz.func100, Tryz.ntmps100
 go_wp2
 all_goals (try simp only [beq_iff_eq, beq_eq_false_iff_ne] at *) 
 all_goals (go_ret; refine ⟨ret_int ?_, rfl⟩; unfold arity; repeat' split) <;> omega

theorem aggregate_any (op : Int) (w : World) :
  Calls Tryz.prog 185 #[.int .i64 op] w fun e w' => e = .returned (.bool (aggregate op)) ∧ w = w' := by
 go_enter Tryz.func185, Tryz.ntmps185
 go_wp2
 all_goals (go_ret; refine ⟨ret_bool ?_, rfl⟩; unfold aggregate; rw [Bool.eq_iff_iff]; simp) <;> omega

theorem refAggregate_any (op : Int) (w : World) :
  Calls Tryz.prog 102 #[.int .i64 op] w fun e w' => e = .returned (.bool (aggregate op)) ∧ w = w' := by
 go_enter Tryz.func102, Tryz.ntmps102
 go_wp2
 all_goals (go_ret; refine ⟨ret_bool ?_, rfl⟩; unfold aggregate; rw [Bool.eq_iff_iff]; simp) <;> omega

set_option maxHeartbeats 400000 in
theorem end_any (A : Option Addr) (n c : Nat) (es : List Term) (p : Int) (w : World) (h : TermsR w A n es) (hl : n ≤ 1000000) :
  Calls Tryz.prog 151 #[.slice A n c, .int .i64 p] w fun e w' => e = .returned (.int .i64 (endF es p)) ∧ w = w' := by
 obtain rfl := h.1
 have H := Lib.hid h; clear h
 by_cases hp : p < 0 ∨ es.length ≤ p
 ·have hfin : endF es p = -1 := by unfold endF; rw [if_pos hp]
  rw [hfin]; clear hfin
  go_enter Tryz.func151, Tryz.ntmps151
  rcases hp with hp | hp
  ·go_wp2
   go_ret
   exact ⟨rfl, rfl⟩
  ·have h0 : 0 ≤ p := by omega
   go_wp2
   go_ret
   exact ⟨rfl, rfl⟩
 ·have h1 : 0 ≤ p := by omega
  have h2 : p < es.length := by omega
  have hfin : endF es p = scanAt es p.toNat 1 := by unfold endF; rw [if_neg hp]
  rw [hfin]; clear hfin hp
  obtain ⟨q, rfl⟩ := Int.eq_ofNat_of_zero_le h1
  rw [Int.toNat_natCast]
  generalize hT : scanAt es q 1 = T
  have hd1 : decide ((q : Int) < 0) = false := by simp
  have hd2 : decide (es.length ≤ q) = false := by simp; omega
  have HT := Lib.hid hT; clear hT
  go_enter Tryz.func151, Tryz.ntmps151
  go_wp2
  go_loopg [1, 5] (es.length - q) (fun g a m wr => ∃ (k : Nat) (z : Int), k ≤ es.length ∧ g = es.length - k ∧ 1 ≤ z ∧ z ≤ 1 + 2 * k ∧ Hid (scanAt es k z = T) ∧ a = .int .i64 k ∧ m = .int .i64 z ∧ w = wr)
  case atStart => exact ⟨q, 1, by omega, rfl, by omega, by omega, HT, rfl, rfl, rfl⟩
  case round =>
   obtain ⟨k, z, hk, rfl, hz1, hz2, HK, rfl, rfl, rfl⟩ := hrel
   by_cases hlt : k < es.length
   ·obtain ⟨b, o, rfl, hb, hc1, hc2⟩ := H.out.at_ k hlt
    have ha := arity_le es[k].op
    obtain ⟨ha1, ha2⟩ := ha
    go_wp2_with (go_at_call 173; refine (arity_any _ _).mono ?_; rintro e w' ⟨rfl, rfl⟩)
    ·go_ret
     exact ⟨ret_int (by rw [← HK.out, scanAt_bad hlt (by assumption)]), rfl⟩
    ·have hh : (z + (arity es[k].op - 1) == 0) = true := by assumption
     go_ret
     refine ⟨ret_int ?_, rfl⟩
     rw [← HK.out, scanAt_end hlt (by assumption) (by simpa using hh)]
    ·have hh : (z + (arity es[k].op - 1) == 0) = false := by assumption
     have hh' : z + (arity es[k].op - 1) ≠ 0 := by simpa using hh
     go_roundg (es.length - (k + 1))
     case rel => exact ⟨k + 1, z + (arity es[k].op - 1), by omega, rfl, by omega, by omega, by have := HK.out; rw [scanAt_next hlt (by assumption) hh'] at this; exact this, by go_num, rfl, rfl⟩
     case measure => omega
   ·go_wp2
    go_ret
    exact ⟨ret_int (by rw [← HK.out, scanAt_done (by omega)]), rfl⟩

set_option maxHeartbeats 400000 in
theorem refEnd_any (A : Option Addr) (n c : Nat) (es : List Term) (p : Int) (w : World) (h : TermsR w A n es) (hl : n ≤ 1000000) :
  Calls Tryz.prog 129 #[.slice A n c, .int .i64 p] w fun e w' => e = .returned (.int .i64 (endF es p)) ∧ w = w' := by
 obtain rfl := h.1
 have H := Lib.hid h; clear h
 by_cases hp : p < 0 ∨ es.length ≤ p
 ·have hfin : endF es p = -1 := by unfold endF; rw [if_pos hp]
  rw [hfin]; clear hfin
  go_enter Tryz.func129, Tryz.ntmps129
  rcases hp with hp | hp
  ·go_wp2
   go_ret
   exact ⟨rfl, rfl⟩
  ·have h0 : 0 ≤ p := by omega
   go_wp2
   go_ret
   exact ⟨rfl, rfl⟩
 ·have h1 : 0 ≤ p := by omega
  have h2 : p < es.length := by omega
  have hfin : endF es p = scanAt es p.toNat 1 := by unfold endF; rw [if_neg hp]
  rw [hfin]; clear hfin hp
  obtain ⟨q, rfl⟩ := Int.eq_ofNat_of_zero_le h1
  rw [Int.toNat_natCast]
  generalize hT : scanAt es q 1 = T
  have hd1 : decide ((q : Int) < 0) = false := by simp
  have hd2 : decide (es.length ≤ q) = false := by simp; omega
  have HT := Lib.hid hT; clear hT
  go_enter Tryz.func129, Tryz.ntmps129
  go_wp2
  go_loopg [5, 6] (es.length - q) (fun g m a wr => ∃ (k : Nat) (z : Int), k ≤ es.length ∧ g = es.length - k ∧ 1 ≤ z ∧ z ≤ 1 + 2 * k ∧ Hid (scanAt es k z = T) ∧ a = .int .i64 k ∧ m = .int .i64 z ∧ w = wr)
  case atStart => exact ⟨q, 1, by omega, rfl, by omega, by omega, HT, rfl, rfl, rfl⟩
  case round =>
   obtain ⟨k, z, hk, rfl, hz1, hz2, HK, rfl, rfl, rfl⟩ := hrel
   by_cases hlt : k < es.length
   ·obtain ⟨b, o, rfl, hb, hc1, hc2⟩ := H.out.at_ k hlt
    have ha := arity_le es[k].op
    obtain ⟨ha1, ha2⟩ := ha
    go_wp2_with (go_at_call 100; refine (refArity_any _ _).mono ?_; rintro e w' ⟨rfl, rfl⟩)
    ·go_ret
     exact ⟨ret_int (by rw [← HK.out, scanAt_bad hlt (by assumption)]), rfl⟩
    ·have hh : (z + (arity es[k].op - 1) == 0) = true := by assumption
     go_ret
     refine ⟨ret_int ?_, rfl⟩
     rw [← HK.out, scanAt_end hlt (by assumption) (by simpa using hh)]
    ·have hh : (z + (arity es[k].op - 1) == 0) = false := by assumption
     have hh' : z + (arity es[k].op - 1) ≠ 0 := by simpa using hh
     go_roundg (es.length - (k + 1))
     case rel => exact ⟨k + 1, z + (arity es[k].op - 1), by omega, rfl, by omega, by omega, by have := HK.out; rw [scanAt_next hlt (by assumption) hh'] at this; exact this, by go_num, rfl, rfl⟩
     case measure => omega
   ·go_wp2
    go_ret
    exact ⟨ret_int (by rw [← HK.out, scanAt_done (by omega)]), rfl⟩


end Go.Proofs.YtgemlgpjbclonaaGreatDoor

/- Blocks that hold a struct of the call's own; frames that speak of the types of blocks. -/
namespace Go.Proofs.YtgemlgpjbclonaaGreatDoor
open Go.RowKit

/-- The block holds these cells, and may be written. -/
def Blk (w : World) (B : Nat) (cs : Array Value) (t : TypeId) : Prop := w.heap[B]? = some (.cells cs t (0, 0))

theorem Blk.cell {w : World} {B : Nat} {cs : Array Value} {t : TypeId} (h : Blk w B cs t) (i : Nat) {v : Value} (hv : cs[i]? = some v) : w.cell? ⟨B, i, none⟩ = some v := by
 unfold Blk at h
 simp [World.cell?, h, hv]
theorem Blk.frozen {w : World} {B : Nat} {cs : Array Value} {t : TypeId} (h : Blk w B cs t) (i : Nat) : w.frozen? ⟨B, i, none⟩ = false := by
 unfold Blk at h
 simp [World.frozen?, h]
theorem Blk.lt {w : World} {B : Nat} {cs : Array Value} {t : TypeId} (h : Blk w B cs t) : B < w.heap.size := lt_of_block h
theorem Blk.alloc {w : World} {B : Nat} {cs : Array Value} {t : TypeId} (h : Blk w B cs t) (o : Obj) : Blk (w.alloc o) B cs t := by
 unfold Blk at *
 rw [Below.heap_alloc _ _ _ (lt_of_block h)]; exact h
theorem Blk.new (w : World) (cs : Array Value) (t : TypeId) : Blk (w.alloc (.cells cs t (0, 0))) w.heap.size cs t := heap_alloc_new w _
theorem Blk.drew {w : World} {B : Nat} {cs : Array Value} {t : TypeId} (h : Blk w B cs t) : Blk w.drew B cs t := h
theorem Blk.drewN {w : World} {B : Nat} {cs : Array Value} {t : TypeId} (h : Blk w B cs t) (k : Nat) : Blk (w.drewN k) B cs t := h
theorem Blk.set {w : World} {B : Nat} {cs : Array Value} {t : TypeId} (h : Blk w B cs t) (i : Nat) (v : Value) : Blk (w.setCell ⟨B, i, none⟩ v) B (cs.setIfInBounds i v) t := by
 unfold Blk at *
 have hlt := lt_of_block h
 have h' : w.heap[B] = .cells cs t (0, 0) := by simpa [Array.getElem?_eq_getElem hlt] using h
 show (w.heap.modify B _)[B]? = _
 rw [Array.getElem?_eq_getElem (by simpa using hlt), Array.getElem_modify_self, h']
 rfl
theorem Blk.other {w : World} {B : Nat} {cs : Array Value} {t : TypeId} (h : Blk w B cs t) {a : Addr} (ha : B ≠ a.block) (v : Value) : Blk (w.setCell a v) B cs t := by
 unfold Blk at *
 rw [Below.heap_setCell _ _ _ _ ha]; exact h
theorem Blk.keep {w w' : World} {B : Nat} {cs : Array Value} {t : TypeId} (h : Blk w B cs t) (k : Bel w w') : Blk w' B cs t := by
 unfold Blk at *
 rw [k.block B (lt_of_block h)]; exact h
theorem Blk.grown {w w' : World} {B : Nat} {cs : Array Value} {t : TypeId} (h : Blk w B cs t) {row : Option Nat} (hg : w.grownBy w' row) (hr : some B ≠ row) : Blk w' B cs t := by
 unfold Blk at *
 rw [hg.block B (lt_of_block h) hr]; exact h
/-- A struct's block is not the block of a row with elements of another type. -/
theorem Blk.apart {w : World} {B : Nat} {cs : Array Value} {t e : TypeId} {base size n : Nat} {v : Value} {xs : List Value} (h : Blk w B cs t) (ho : w.ownsRow base e size v n xs) (hne : t ≠ e) : some B ≠ v.ownBlock := by
 rcases ho.2 with ⟨rfl, _⟩ | ⟨g, cap, cur, rfl, _, hg, _⟩
 ·simp [Value.ownBlock]
 ·simp only [Value.ownBlock]
  intro he
  injection he with he
  subst he
  unfold Blk at h
  rw [h] at hg
  injection hg with hg
  injection hg with _ ht
  exact hne ht

/-- The block of a row of the call's own. -/
theorem own_blk {w : World} {base : Nat} {e : TypeId} {size g n c : Nat} {xs : List Value} (h : w.ownsRow base e size (.slice (some ⟨g, 0, none⟩) n c) n xs) : ∃ cs, Blk w g cs e := by
 rcases h.2 with ⟨hv, _⟩ | ⟨g', cap, cur, hv, _, hg, _⟩
 ·cases hv
 ·injection hv with hA _ _
  injection hA with hA
  injection hA with hA
  subst hA
  exact ⟨cur, hg⟩
theorem own_lower {w : World} {base base' : Nat} {e : TypeId} {size : Nat} {v : Value} {n : Nat} {xs : List Value} (h : w.ownsRow base e size v n xs) (hb : base' ≤ base) : w.ownsRow base' e size v n xs := by
 refine ⟨h.1, ?_⟩
 rcases h.2 with hn | ⟨g, cap, cur, hv, hg, rest⟩
 ·exact .inl hn
 ·exact .inr ⟨g, cap, cur, hv, Nat.le_trans hb hg, rest⟩

end Go.Proofs.YtgemlgpjbclonaaGreatDoor

/- What graphs, programs and configurations read as in memory. -/
namespace Go.Proofs.YtgemlgpjbclonaaGreatDoor
open Go.RowKit

/-- A slice in a cell, whose elements read as a list. -/
def RowAt {α : Type} (size : Nat) (E : World → Nat → Nat → α → Prop) (w : World) (b o : Nat) (xs : List α) : Prop :=
 ∃ A c, w.cell? ⟨b, o, none⟩ = some (.slice A xs.length c) ∧ SliceR size E w A xs.length xs ∧ xs.length ≤ c ∧ c ≤ maxLen
theorem RowAt.keeps {α : Type} {size : Nat} {E : World → Nat → Nat → α → Prop} (hE : Keeps E) : Keeps (RowAt size E) := by
 intro w w' b o x k hb ⟨A, c, h1, h2, h3, h4⟩
 exact ⟨A, c, (k.cell hb).trans h1, h2.keep hE k, h3, h4⟩

def LinkAt (w : World) (b o : Nat) (l : Link) : Prop := w.cell? ⟨b, o, none⟩ = some (.int .i64 l.to) ∧ w.cell? ⟨b, o + 1, none⟩ = some (.int .i64 l.weight)
theorem LinkAt.keeps : Keeps LinkAt := fun _ _ _ _ _ k hb h => ⟨(k.cell hb).trans h.1, (k.cell hb).trans h.2⟩
def LinksR := SliceR 2 LinkAt
def PortsR := SliceR 1 (RowAt 2 LinkAt)
def RowsR := SliceR 1 (RowAt 1 IntAt)
theorem LinksR.keep {w w' : World} {A : Option Addr} {n : Nat} {xs : List Link} (h : LinksR w A n xs) (k : Bel w w') : LinksR w' A n xs := SliceR.keep LinkAt.keeps h k
theorem PortsR.keep {w w' : World} {A : Option Addr} {n : Nat} {xs : List (List Link)} (h : PortsR w A n xs) (k : Bel w w') : PortsR w' A n xs := SliceR.keep (RowAt.keeps LinkAt.keeps) h k
theorem RowsR.keep {w w' : World} {A : Option Addr} {n : Nat} {xs : List (List Int)} (h : RowsR w A n xs) (k : Bel w w') : RowsR w' A n xs := SliceR.keep (RowAt.keeps IntAt.keeps) h k

theorem LinksR.at_ {w : World} {A : Option Addr} {n : Nat} {xs : List Link} (h : LinksR w A n xs) (k : Nat) (hk : k < xs.length) :
  ∃ b o, A = some ⟨b, o, none⟩ ∧ b < w.heap.size ∧ w.cell? ⟨b, o + k * 2, none⟩ = some (.int .i64 xs[k].to) ∧ w.cell? ⟨b, o + k * 2 + 1, none⟩ = some (.int .i64 xs[k].weight) := SliceR.at_ h k hk
theorem RowsAt.at_ {α : Type} {size : Nat} {E : World → Nat → Nat → α → Prop} {w : World} {A : Option Addr} {n : Nat} {xs : List (List α)} (h : SliceR 1 (RowAt size E) w A n xs) (k : Nat) (hk : k < xs.length) :
  ∃ b o R c, A = some ⟨b, o, none⟩ ∧ b < w.heap.size ∧ w.cell? ⟨b, o + k, none⟩ = some (.slice R xs[k].length c) ∧ SliceR size E w R xs[k].length xs[k] ∧ xs[k].length ≤ c ∧ c ≤ maxLen := by
 obtain ⟨b, o, e, hb, R, c, h1, h2, h3, h4⟩ := SliceR.at_ h k hk
 exact ⟨b, o, R, c, e, hb, by rw [Nat.mul_one] at h1; exact h1, h2, h3, h4⟩
theorem PortsR.at_ {w : World} {A : Option Addr} {n : Nat} {xs : List (List Link)} (h : PortsR w A n xs) (k : Nat) (hk : k < xs.length) :
  ∃ b o R c, A = some ⟨b, o, none⟩ ∧ b < w.heap.size ∧ w.cell? ⟨b, o + k, none⟩ = some (.slice R xs[k].length c) ∧ LinksR w R xs[k].length xs[k] ∧ xs[k].length ≤ c ∧ c ≤ maxLen := RowsAt.at_ h k hk
theorem RowsR.at_ {w : World} {A : Option Addr} {n : Nat} {xs : List (List Int)} (h : RowsR w A n xs) (k : Nat) (hk : k < xs.length) :
  ∃ b o R c, A = some ⟨b, o, none⟩ ∧ b < w.heap.size ∧ w.cell? ⟨b, o + k, none⟩ = some (.slice R xs[k].length c) ∧ IntsR w R xs[k].length xs[k] ∧ xs[k].length ≤ c ∧ c ≤ maxLen := RowsAt.at_ h k hk

/-- A graph by value. -/
def GraphV (w : World) (v : Value) (g : Graph) : Prop :=
 ∃ A c A2 c2, v = .agg #[.slice A g.ids.length c, .slice A2 g.ports.length c2] ∧ IntsR w A g.ids.length g.ids ∧ g.ids.length ≤ c ∧ c ≤ maxLen ∧ PortsR w A2 g.ports.length g.ports ∧ g.ports.length ≤ c2 ∧ c2 ≤ maxLen
theorem GraphV.keep {w w' : World} {v : Value} {g : Graph} (h : GraphV w v g) (k : Bel w w') : GraphV w' v g := by
 obtain ⟨A, c, A2, c2, e, h1, h2, h3, h4, h5, h6⟩ := h
 exact ⟨A, c, A2, c2, e, h1.keep k, h2, h3, h4.keep k, h5, h6⟩

def VarAt (w : World) (b o : Nat) (x : Var) : Prop :=
 w.cell? ⟨b, o, none⟩ = some (.string x.name) ∧ w.cell? ⟨b, o + 1, none⟩ = some (.int .i64 x.kind) ∧ w.cell? ⟨b, o + 2, none⟩ = some (.int .i64 x.lo) ∧ w.cell? ⟨b, o + 3, none⟩ = some (.int .i64 x.hi) ∧ w.cell? ⟨b, o + 4, none⟩ = some (.int .i64 x.perNode) ∧ w.cell? ⟨b, o + 5, none⟩ = some (.int .i64 x.perID)
theorem VarAt.keeps : Keeps VarAt := fun _ _ _ _ _ k hb h => ⟨(k.cell hb).trans h.1, (k.cell hb).trans h.2.1, (k.cell hb).trans h.2.2.1, (k.cell hb).trans h.2.2.2.1, (k.cell hb).trans h.2.2.2.2.1, (k.cell hb).trans h.2.2.2.2.2⟩
def VarsR := SliceR 6 VarAt
theorem VarsR.keep {w w' : World} {A : Option Addr} {n : Nat} {xs : List Var} (h : VarsR w A n xs) (k : Bel w w') : VarsR w' A n xs := SliceR.keep VarAt.keeps h k
theorem VarsR.at_ {w : World} {A : Option Addr} {n : Nat} {xs : List Var} (h : VarsR w A n xs) (k : Nat) (hk : k < xs.length) :
  ∃ b o, A = some ⟨b, o, none⟩ ∧ b < w.heap.size ∧ VarAt w b (o + k * 6) xs[k] := SliceR.at_ h k hk

def SetAt (w : World) (b o : Nat) (x : SetT) : Prop := w.cell? ⟨b, o, none⟩ = some (.int .i64 x.var) ∧ RowAt 2 TermAt w b (o + 1) x.value
theorem SetAt.keeps : Keeps SetAt := fun _ _ _ _ _ k hb h => ⟨(k.cell hb).trans h.1, RowAt.keeps TermAt.keeps _ _ _ _ _ k hb h.2⟩
def SetsR := SliceR 2 SetAt
theorem SetsR.keep {w w' : World} {A : Option Addr} {n : Nat} {xs : List SetT} (h : SetsR w A n xs) (k : Bel w w') : SetsR w' A n xs := SliceR.keep SetAt.keeps h k
theorem SetsR.at_ {w : World} {A : Option Addr} {n : Nat} {xs : List SetT} (h : SetsR w A n xs) (k : Nat) (hk : k < xs.length) :
  ∃ b o R c, A = some ⟨b, o, none⟩ ∧ b < w.heap.size ∧ w.cell? ⟨b, o + k * 2, none⟩ = some (.int .i64 xs[k].var) ∧ w.cell? ⟨b, o + k * 2 + 1, none⟩ = some (.slice R xs[k].value.length c) ∧ TermsR w R xs[k].value.length xs[k].value ∧ xs[k].value.length ≤ c ∧ c ≤ maxLen := by
 obtain ⟨b, o, e, hb, h1, R, c, h2, h3, h4, h5⟩ := SliceR.at_ h k hk
 exact ⟨b, o, R, c, e, hb, h1, h2, h3, h4, h5⟩

def RuleAt (w : World) (b o : Nat) (x : Rule) : Prop := w.cell? ⟨b, o, none⟩ = some (.string x.name) ∧ RowAt 2 TermAt w b (o + 1) x.guard ∧ RowAt 2 SetAt w b (o + 2) x.sets
theorem RuleAt.keeps : Keeps RuleAt := fun _ _ _ _ _ k hb h => ⟨(k.cell hb).trans h.1, RowAt.keeps TermAt.keeps _ _ _ _ _ k hb h.2.1, RowAt.keeps SetAt.keeps _ _ _ _ _ k hb h.2.2⟩
def RulesR := SliceR 3 RuleAt
theorem RulesR.keep {w w' : World} {A : Option Addr} {n : Nat} {xs : List Rule} (h : RulesR w A n xs) (k : Bel w w') : RulesR w' A n xs := SliceR.keep RuleAt.keeps h k
/-- A rule by value: its guard, its sets. -/
def RuleV (w : World) (v : Value) (r : Rule) : Prop :=
 ∃ G c S c2, v = .agg #[.string r.name, .slice G r.guard.length c, .slice S r.sets.length c2] ∧ TermsR w G r.guard.length r.guard ∧ r.guard.length ≤ c ∧ c ≤ maxLen ∧ SetsR w S r.sets.length r.sets ∧ r.sets.length ≤ c2 ∧ c2 ≤ maxLen
theorem RuleV.keep {w w' : World} {v : Value} {g : Rule} (h : RuleV w v g) (k : Bel w w') : RuleV w' v g := by
 obtain ⟨A, c, A2, c2, e, h1, h2, h3, h4, h5, h6⟩ := h
 exact ⟨A, c, A2, c2, e, h1.keep k, h2, h3, h4.keep k, h5, h6⟩
theorem RulesR.at_ {w : World} {A : Option Addr} {n : Nat} {xs : List Rule} (h : RulesR w A n xs) (k : Nat) (hk : k < xs.length) :
  ∃ b o G c S c2, A = some ⟨b, o, none⟩ ∧ b < w.heap.size ∧ w.cell? ⟨b, o + k * 3, none⟩ = some (.string xs[k].name) ∧ w.cell? ⟨b, o + k * 3 + 1, none⟩ = some (.slice G xs[k].guard.length c) ∧ w.cell? ⟨b, o + k * 3 + 2, none⟩ = some (.slice S xs[k].sets.length c2)
   ∧ TermsR w G xs[k].guard.length xs[k].guard ∧ xs[k].guard.length ≤ c ∧ c ≤ maxLen ∧ SetsR w S xs[k].sets.length xs[k].sets ∧ xs[k].sets.length ≤ c2 ∧ c2 ≤ maxLen := by
 obtain ⟨b, o, e, hb, h1, ⟨G, c, h2, h3, h4, h5⟩, S, c2, h6, h7, h8, h9⟩ := SliceR.at_ h k hk
 exact ⟨b, o, G, c, S, c2, e, hb, h1, h2, h6, h3, h4, h5, h7, h8, h9⟩

/-- A program by value. -/
def PrgV (w : World) (v : Value) (p : Prg) : Prop :=
 ∃ A c A2 c2, v = .agg #[.string p.name, .slice A p.vars.length c, .slice A2 p.rules.length c2] ∧ VarsR w A p.vars.length p.vars ∧ p.vars.length ≤ c ∧ c ≤ maxLen ∧ RulesR w A2 p.rules.length p.rules ∧ p.rules.length ≤ c2 ∧ c2 ≤ maxLen
theorem PrgV.keep {w w' : World} {v : Value} {p : Prg} (h : PrgV w v p) (k : Bel w w') : PrgV w' v p := by
 obtain ⟨A, c, A2, c2, e, h1, h2, h3, h4, h5, h6⟩ := h
 exact ⟨A, c, A2, c2, e, h1.keep k, h2, h3, h4.keep k, h5, h6⟩

/-- A configuration by value. -/
def ConfV (w : World) (v : Value) (c : Config) : Prop := ∃ A k, v = .slice A c.length k ∧ RowsR w A c.length c ∧ c.length ≤ k ∧ k ≤ maxLen
theorem ConfV.keep {w w' : World} {v : Value} {c : Config} (h : ConfV w v c) (k : Bel w w') : ConfV w' v c := by
 obtain ⟨A, n, e, h1, h2, h3⟩ := h
 exact ⟨A, n, e, h1.keep k, h2, h3⟩

end Go.Proofs.YtgemlgpjbclonaaGreatDoor

