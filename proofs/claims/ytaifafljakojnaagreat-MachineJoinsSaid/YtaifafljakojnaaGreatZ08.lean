/- Merged of: WT WTb WTc WTd (see NOTES.md). -/
import Derived.Test.YtaifafljakojnaaGreatZ04
import Derived.Test.YtaifafljakojnaaGreatZ07
set_option linter.unusedSimpArgs false
set_option linter.unnecessarySimpa false
set_option linter.unusedVariables false

/- Contracts of the small functions on types. -/
namespace Go.Proofs.YtaifafljakojnaaGreat
open Go.RowKit

theorem possible_any (k : Int) (w : World) : Calls Tryz.prog 104 #[.int .i64 k] w fun e w' => e = .returned (.bool (knownK k)) ∧ w = w' := by
  go_enter Tryz.func104, Tryz.ntmps104
  go_wp2
  all_goals (go_ret; refine ⟨ret_bool ?_, rfl⟩; unfold knownK; (rw [Bool.eq_iff_iff]) <;> simp [*])
theorem refKnown_any (k : Int) (w : World) : Calls Tryz.prog 39 #[.int .i64 k] w fun e w' => e = .returned (.bool (knownK k)) ∧ w = w' := by
  go_enter Tryz.func39, Tryz.ntmps39
  go_wp2
  all_goals (go_ret; refine ⟨ret_bool ?_, rfl⟩; unfold knownK; (rw [Bool.eq_iff_iff]) <;> simp [*])
theorem ifTrue_any (b : Bool) (k : Int) (w : World) : Calls Tryz.prog 149 #[.bool b, .int .i64 k] w fun e w' => e = .returned (.int .i64 (ifK b k)) ∧ w = w' := by
  cases b
  all_goals (go_enter Tryz.func149, Tryz.ntmps149; go_wp2; go_ret; exact ⟨rfl, rfl⟩)
theorem near_any (op : Int) (w : World) : Calls Tryz.prog 129 #[.int .i64 op] w fun e w' => e = .returned (.bool (nearOp op)) ∧ w = w' := by
  go_enter Tryz.func129, Tryz.ntmps129
  go_wp2
  all_goals (go_ret; refine ⟨ret_bool ?_, rfl⟩; unfold nearOp; rw [Bool.eq_iff_iff]; simp) <;> omega

theorem arg_var {op arg n : Int} (h : argF ⟨op, arg⟩ n = true) (ho : op = 5 ∨ op = 12) : 0 ≤ arg ∧ arg < n := by
  unfold argF at h
  rcases ho with rfl | rfl <;> simpa using h

set_option maxRecDepth 100000 in
theorem tleaf_any (ev : Value) (A : Option Addr) (c : Nat) (kinds : List Int) (t : Term) (w : World) (h : IntsR w A kinds.length kinds) (ha : argF t kinds.length = true) :
    Calls Tryz.prog 130 #[.agg #[ev, .slice A kinds.length c], .agg #[.int .i64 t.op, .int .i64 t.arg]] w fun e w' => e = .returned (.int .i64 (leafK kinds t)) ∧ Bel w w' := by
  obtain ⟨op, arg⟩ := t
  by_cases ho : op = 5 ∨ op = 12
  · obtain ⟨h0, h1⟩ := arg_var ha ho
    obtain ⟨a, rfl⟩ := Int.eq_ofNat_of_zero_le h0
    have hlt : a < kinds.length := by omega
    obtain ⟨b, o, rfl, hb, hc⟩ := h.at_ a hlt
    have HF : Hid (leafK kinds ⟨op, (a : Int)⟩ = kinds[a]) := by
      show leafK kinds ⟨op, (a : Int)⟩ = kinds[a]
      unfold leafK
      rcases ho with rfl | rfl <;> simp [hlt]
    clear h ha h0 h1
    rcases ho with rfl | rfl
    all_goals
      go_enter Tryz.func130, Tryz.ntmps130
      go_wp2
      go_ret
      exact ⟨ret_int HF.out.symm, ((Bel.refl _).alloc _).alloc _⟩
  · have h5 : (op == 5) = false := by simp; omega
    have h12 : (op == 12) = false := by simp; omega
    clear h ha
    go_enter Tryz.func130, Tryz.ntmps130
    go_wp2
    all_goals (try simp only [beq_iff_eq, beq_eq_false_iff_ne] at *)
    all_goals (go_ret; refine ⟨ret_int ?_, ((Bel.refl _).alloc _).alloc _⟩; unfold leafK; dsimp only; repeat' split) <;> omega

set_option maxRecDepth 100000 in
theorem refTleaf_any (A : Option Addr) (c : Nat) (kinds : List Int) (t : Term) (bound : Bool) (w : World) (h : IntsR w A kinds.length kinds) (ha : argF t kinds.length = true) (har : arity t.op = 0) :
    Calls Tryz.prog 91 #[.agg #[.int .i64 t.op, .int .i64 t.arg], .slice A kinds.length c, .bool bound] w fun e w' => e = .returned (.int .i64 (kindF kinds bound (.leaf t))) ∧ Bel w w' := by
  obtain ⟨op, arg⟩ := t
  have hr : 1 ≤ op ∧ op ≤ 17 := by
    unfold arity at har
    simp only [] at har
    repeat' split at har
    all_goals omega
  by_cases ho : op = 5 ∨ op = 12 ∧ bound = true
  · obtain ⟨h0, h1⟩ := arg_var ha (by omega)
    obtain ⟨a, rfl⟩ := Int.eq_ofNat_of_zero_le h0
    have hlt : a < kinds.length := by omega
    obtain ⟨b, o, rfl, hb, hc⟩ := h.at_ a hlt
    have HF : Hid (kindF kinds bound (.leaf ⟨op, (a : Int)⟩) = kinds[a]) := by
      show kindF kinds bound (.leaf ⟨op, (a : Int)⟩) = kinds[a]
      unfold kindF leafK
      rcases ho with rfl | ⟨rfl, rfl⟩ <;> simp [hlt, nearOp]
    clear h ha h0 h1 har hr
    rcases ho with rfl | ⟨rfl, rfl⟩
    · cases bound
      all_goals
        go_enter Tryz.func91, Tryz.ntmps91
        go_wp2
        go_ret
        exact ⟨ret_int HF.out.symm, (Bel.refl _).alloc _⟩
    · go_enter Tryz.func91, Tryz.ntmps91
      go_wp2
      go_ret
      exact ⟨ret_int HF.out.symm, (Bel.refl _).alloc _⟩
  · have h5 : (op == 5) = false := by simp; exact fun h => ho (.inl h)
    obtain ⟨hr1, hr2⟩ := hr
    clear h ha har
    cases bound with
    | true =>
      have h12 : (op == 12) = false := by simp; exact fun h => ho (.inr ⟨h, rfl⟩)
      clear ho
      go_enter Tryz.func91, Tryz.ntmps91
      go_wp2
      all_goals (try simp only [beq_iff_eq, beq_eq_false_iff_ne] at *)
      all_goals (go_ret; refine ⟨ret_int ?_, (Bel.refl _).alloc _⟩; unfold kindF leafK nearOp; simp only [Bool.not_true, Bool.and_false, Bool.false_eq_true, if_false]; repeat' split) <;> omega
    | false =>
      by_cases hnear : 11 ≤ op
      · have hd : decide (12 ≤ op) = true ∨ op = 11 := by simp; omega
        have HF : Hid (kindF kinds false (.leaf ⟨op, arg⟩) = 0) := by
          show kindF kinds false (.leaf ⟨op, arg⟩) = 0
          unfold kindF nearOp
          simp [hnear, hr2]
        go_enter Tryz.func91, Tryz.ntmps91
        go_wp2
        all_goals (try simp only [beq_iff_eq, beq_eq_false_iff_ne] at *)
        all_goals first
          | (go_ret; exact ⟨ret_int HF.out.symm, (Bel.refl _).alloc _⟩)
          | (exfalso; omega)
      · have h11 : (op == 11) = false := by simp; omega
        have h12 : decide (12 ≤ op) = false := by simp; omega
        have h12' : (op == 12) = false := by simp; omega
        have h15' : (op == 15) = false := by simp; omega
        have h17' : (op == 17) = false := by simp; omega
        clear ho
        go_enter Tryz.func91, Tryz.ntmps91
        go_wp2
        all_goals (try simp only [beq_iff_eq, beq_eq_false_iff_ne] at *)
        all_goals (go_ret; refine ⟨ret_int ?_, (Bel.refl _).alloc _⟩; unfold kindF leafK nearOp; simp only [show decide (11 ≤ op ∧ op ≤ 17) = false by simp; omega, Bool.false_and, Bool.false_eq_true, if_false]; repeat' split) <;> omega

theorem refSingle_any (op a : Int) (w : World) : Calls Tryz.prog 92 #[.int .i64 op, .int .i64 a] w fun e w' => e = .returned (.int .i64 (singleK op a)) ∧ w = w' := by
  go_enter Tryz.func92, Tryz.ntmps92
  go_wp2
  all_goals (try simp only [beq_iff_eq, beq_eq_false_iff_ne, bne_iff_ne, bne_eq_false_iff_eq] at *)
  all_goals (go_ret; refine ⟨ret_int ?_, rfl⟩; unfold singleK ifK; (try simp only [beq_iff_eq]); repeat' split) <;> omega
theorem refDouble_any (op a b : Int) (w : World) (h1 : 30 ≤ op) (h2 : op ≤ 42) : Calls Tryz.prog 94 #[.int .i64 op, .int .i64 a, .int .i64 b] w fun e w' => e = .returned (.int .i64 (doubleK op a b)) ∧ w = w' := by
  go_enter Tryz.func94, Tryz.ntmps94
  go_wp2
  all_goals (try simp only [beq_iff_eq, beq_eq_false_iff_ne, bne_iff_ne, bne_eq_false_iff_eq] at *)
  all_goals (go_ret; refine ⟨ret_int ?_, rfl⟩; unfold doubleK ifK; (try simp only [Bool.and_eq_true, beq_iff_eq, bne_iff_ne]); repeat' split) <;> first | omega | simp_all

end Go.Proofs.YtaifafljakojnaaGreat

/- Contracts: result and read of types. -/
namespace Go.Proofs.YtaifafljakojnaaGreat
open Go.RowKit

def resultK (op a b c : Int) : Int := if op ≤ 29 then singleK op a else if op ≤ 42 then doubleK op a b else ifK (a == 2 && b == c) b
def Ex.kids : Ex → List Ex
  | .leaf _ => []
  | .un _ a => [a]
  | .bin _ a b => [a, b]
  | .tri _ a b c => [a, b, c]
def Ex.head : Ex → Term
  | .leaf t => t
  | .un t _ => t
  | .bin t _ _ => t
  | .tri t _ _ _ => t
theorem arity_bounds (op : Int) : (arity op = 0 → 1 ≤ op ∧ op ≤ 17) ∧ (arity op = 1 → 18 ≤ op ∧ op ≤ 29) ∧ (arity op = 2 → 30 ≤ op ∧ op ≤ 42) ∧ (arity op = 3 → op = 43) := by
  unfold arity
  repeat' split
  all_goals omega
theorem kids_kind {kinds : List Int} {bound : Bool} {x : Ex} (h : x.ok) (hk : x.kids ≠ []) :
    kindF kinds bound x = resultK x.head.op ((x.kids.map (kindF kinds (bound || aggregate x.head.op))).getD 0 0) ((x.kids.map (kindF kinds (bound || aggregate x.head.op))).getD 1 0) ((x.kids.map (kindF kinds (bound || aggregate x.head.op))).getD 2 0) := by
  cases x with
  | leaf t => exact absurd rfl hk
  | un t a =>
    obtain ⟨h1, _⟩ := h
    have := (arity_bounds t.op).2.1 h1
    simp [Ex.kids, Ex.head, kindF, resultK, this.2]
  | bin t a b =>
    obtain ⟨h1, _⟩ := h
    have := (arity_bounds t.op).2.2.1 h1
    have ha : aggregate t.op = false := agg_false (by omega)
    simp [Ex.kids, Ex.head, kindF, resultK, this.2, show ¬ t.op ≤ 29 by omega, ha]
  | tri t a b c =>
    obtain ⟨h1, _⟩ := h
    have := (arity_bounds t.op).2.2.2 h1
    have ha : aggregate t.op = false := agg_false (by omega)
    simp [Ex.kids, Ex.head, kindF, resultK, show ¬ t.op ≤ 29 by omega, show ¬ t.op ≤ 42 by omega, ha]
theorem kids_arity {x : Ex} (h : x.ok) : arity x.head.op = (x.kids.length : Int) := by
  cases x with
  | leaf t => exact h
  | un t a => exact h.1
  | bin t a b => exact h.1
  | tri t a b c => exact h.1
def lens (l : List Ex) : Nat := (l.map Ex.len).sum
theorem kids_at {es : List Term} {k : Nat} {x : Ex} (h : x.At es k) : es[k]? = some x.head ∧ (∀ j, (hj : j < x.kids.length) → x.kids[j].At es (k + 1 + lens (x.kids.take j))) ∧ x.len = 1 + lens x.kids := by
  cases x with
  | leaf t => exact ⟨(At.leaf h).1, fun j hj => absurd hj (by simp [Ex.kids]), by simp [Ex.len, Ex.terms, lens, Ex.kids]⟩
  | un t a =>
    obtain ⟨h1, h2, h3⟩ := At.un h
    refine ⟨h1, fun j hj => ?_, by simp [Ex.len, Ex.terms, lens, Ex.kids]; omega⟩
    simp [Ex.kids] at hj
    subst hj
    simpa [Ex.kids, lens] using h3
  | bin t a b =>
    obtain ⟨h1, h2, h3, h4⟩ := At.bin h
    refine ⟨h1, fun j hj => ?_, by simp [Ex.len, Ex.terms, lens, Ex.kids]; omega⟩
    rcases (show j = 0 ∨ j = 1 by simp [Ex.kids] at hj; omega) with rfl | rfl
    · simpa [Ex.kids, lens] using h3
    · simpa [Ex.kids, lens] using h4
  | tri t a b c =>
    obtain ⟨h1, h2, h3, h4, h5⟩ := At.tri h
    refine ⟨h1, fun j hj => ?_, by simp [Ex.len, Ex.terms, lens, Ex.kids]; omega⟩
    rcases (show j = 0 ∨ j = 1 ∨ j = 2 by simp [Ex.kids] at hj; omega) with rfl | rfl | rfl
    · simpa [Ex.kids, lens] using h3
    · simpa [Ex.kids, lens] using h4
    · have e : k + 1 + (a.len + b.len) = k + 1 + a.len + b.len := by omega
      simpa [Ex.kids, lens, e] using h5
theorem Ex.kids_induct {P : Ex → Prop} (h : ∀ x : Ex, (∀ y ∈ x.kids, P y) → P x) (x : Ex) : P x := by
  induction x with
  | leaf t => exact h _ (fun y hy => by simp [Ex.kids] at hy)
  | un t a ih => exact h _ (fun y hy => by simp [Ex.kids] at hy; subst hy; exact ih)
  | bin t a b iha ihb => exact h _ (fun y hy => by simp [Ex.kids] at hy; rcases hy with rfl | rfl <;> assumption)
  | tri t a b c iha ihb ihc => exact h _ (fun y hy => by simp [Ex.kids] at hy; rcases hy with rfl | rfl | rfl <;> assumption)
theorem kids_le (x : Ex) : x.kids.length ≤ 3 := by cases x <;> simp [Ex.kids]

set_option maxRecDepth 100000 in
set_option maxHeartbeats 2000000 in
theorem result_any (op a b c : Int) (w : World) (h1 : 18 ≤ op) (h2 : op ≤ 43) :
    Calls Tryz.prog 131 #[.int .i64 op, .agg #[.int .i64 a, .int .i64 b, .int .i64 c]] w fun e w' => e = .returned (.int .i64 (resultK op a b c)) ∧ Bel w w' := by
  have hi : ∀ j, j < 3 → True := fun _ _ => trivial
  clear hi
  go_enter Tryz.func131, Tryz.ntmps131
  go_wp2
  go_quiet (fail)
  go_wp2_with (go_at_call 149; refine (ifTrue_any _ _ _).mono ?_; rintro e w' ⟨rfl, rfl⟩)
  all_goals (try simp only [beq_iff_eq, beq_eq_false_iff_ne, bne_iff_ne, bne_eq_false_iff_eq] at *)
  all_goals (go_ret; refine ⟨ret_int ?_, ((Bel.refl _).alloc _).drewN _⟩; (by_cases h43 : op = 43); (all_goals first | (exfalso; omega) | (subst h43; simp_all [resultK, ifK]; done) | (simp_all [resultK, singleK, doubleK, ifK]; done) | (simp_all [resultK, singleK, doubleK, ifK]; omega)))

end Go.Proofs.YtaifafljakojnaaGreat

/- Contracts: read and Of of types. -/
namespace Go.Proofs.YtaifafljakojnaaGreat
open Go.RowKit

theorem ret_int2 {k j : IntKind} {a b c d : Int} (h1 : a = c) (h2 : b = d) : Ending.returned (.tuple #[.int k a, .int j b]) = .returned (.tuple #[.int k c, .int j d]) := by rw [h1, h2]

def arr3 (l : List Int) : Array Value := #[.int .i64 (l.getD 0 0), .int .i64 (l.getD 1 0), .int .i64 (l.getD 2 0)]
theorem lens_take_succ (l : List Ex) (j : Nat) (h : j < l.length) : lens (l.take (j + 1)) = lens (l.take j) + l[j].len := by
  unfold lens
  rw [List.take_succ_eq_append_getElem h, List.map_append, List.sum_append]; simp
theorem lens_take_le (l : List Ex) (j : Nat) : lens (l.take j) ≤ lens l := by
  unfold lens
  conv => rhs; rw [← List.take_append_drop j l, List.map_append, List.sum_append]
  omega
theorem arr3_set (l : List Int) (j : Nat) (h : j < 3) (hl : j < l.length) : (arr3 (l.take j)).setIfInBounds j (.int .i64 l[j]) = arr3 (l.take (j + 1)) := by
  rcases (show j = 0 ∨ j = 1 ∨ j = 2 by omega) with rfl | rfl | rfl
  all_goals
    match l, hl with
    | x :: l, hl => first
      | simp [arr3]; done
      | (match l, hl with
        | y :: l, hl => first
          | simp [arr3]; done
          | (match l, hl with
            | z :: l, hl => simp [arr3]))

def ReadOk (kinds : List Int) (x : Ex) : Prop :=
  ∀ (bound : Bool) (A : Option Addr) (c : Nat) (es : List Term) (K : Option Addr) (ck k : Nat) (w : World), x.At es k → TermsR w A es.length es → IntsR w K kinds.length kinds → (∀ t ∈ es, argF t kinds.length = true) → es.length ≤ 1000 →
    Calls Tryz.prog 105 #[.agg #[.slice A es.length c, .slice K kinds.length ck], .int .i64 k, .bool bound] w fun e w' => e = .returned (.tuple #[.int .i64 (kindF kinds bound x), .int .i64 ((k + x.len : Nat) : Int)]) ∧ Bel w w'

set_option maxRecDepth 100000 in
set_option maxHeartbeats 4000000 in
theorem read_any (kinds : List Int) (x : Ex) : ReadOk kinds x := by
  refine Ex.kids_induct (fun x ih => ?_) x
  intro bound A c es K ck k w hat hT hK harg hlen
  have hlt := At.lt hat
  obtain ⟨hh, hkids, hxl⟩ := kids_at hat
  have hxb := At.bound hat
  have har := kids_arity hat.1
  have hkk := kids_kind (kinds := kinds) (bound := bound) hat.1
  obtain ⟨b, o, rfl, hb, c1, c2⟩ := hT.at_ k hlt
  have hhe : es[k] = x.head := by rw [List.getElem?_eq_getElem hlt] at hh; simpa using hh
  rw [hhe] at c1 c2
  have hargt : argF x.head kinds.length = true := by rw [← hhe]; exact harg _ (List.getElem_mem hlt)
  have HT := Lib.hid (fun w' (k : Bel w w') => TermsR.keep hT k); clear hT
  have HK := Lib.hid (fun w' (k : Bel w w') => IntsR.keep hK k); clear hK
  have HA := Lib.hid harg; clear harg
  have HAT := Lib.hid hkids; clear hkids
  have HX := Lib.hid hxl; clear hxl
  have HIH := Lib.hid ih; clear ih
  have HKK := Lib.hid hkk; clear hkk
  have hab := arity_bounds x.head.op
  have h3 := kids_le x
  have HHE := Lib.hid hhe
  clear hh hhe
  by_cases h0 : x.kids.length = 0
  · -- a leaf
    have har0 : arity x.head.op = 0 := by omega
    obtain ⟨hr1, hr2⟩ := hab.1 har0
    have hkf : kindF kinds bound x = if nearOp x.head.op && !bound then 0 else leafK kinds x.head := by
      cases x with
      | leaf t => rfl
      | un t a => simp [Ex.kids] at h0
      | bin t a b => simp [Ex.kids] at h0
      | tri t a b c => simp [Ex.kids] at h0
    have hx1 : x.len = 1 := by rw [HX.out, List.eq_nil_of_length_eq_zero h0]; rfl
    have HB := (((Bel.refl w).alloc (.cells #[.slice (some ⟨b, o, none⟩) es.length c, .slice K kinds.length ck] 136)).alloc (.cells #[.int .i64 x.head.op, .int .i64 x.head.arg] 129))
    have haz : (arity x.head.op == 0) = true := by simpa using har0
    have HX1 := Lib.hid hx1
    have HKF := Lib.hid hkf
    clear hkf hx1 har har0 hab h0
    cases hn : nearOp x.head.op <;> cases bound
    all_goals
      go_enter Tryz.func105, Tryz.ntmps105
      go_wp2_with (first
        | (go_at_call 100; refine (arity_any _ _).mono ?_; rintro e w' ⟨rfl, rfl⟩)
        | (go_at_call 129; refine (near_any _ _).mono ?_; rintro e w' ⟨rfl, rfl⟩)
        | (go_at_call 130; refine (tleaf_any _ _ _ kinds x.head _ (HK.out _ HB) hargt).mono ?_; rintro e w' ⟨rfl, hbb⟩; replace HB := HB.trans hbb; clear hbb))
      go_ret2
      refine ⟨?_, HB⟩
      rw [HKF.out, hn, HX1.out]
      simp
  · have hne : x.kids ≠ [] := fun h => h0 (by rw [h]; rfl)
    have hop : 18 ≤ x.head.op ∧ x.head.op ≤ 43 := by omega
    have hpos : (arity x.head.op == 0) = false := by simp; omega
    obtain ⟨hop1, hop2⟩ := hop
    have HAR := Lib.hid har
    have HKF := Lib.hid (HKK.out hne)
    obtain ⟨inner, hin⟩ : ∃ inner, (bound || aggregate x.head.op) = inner := ⟨_, rfl⟩
    rw [hin] at HKF
    have HB := ((((Bel.refl w).alloc (.cells #[.slice (some ⟨b, o, none⟩) es.length c, .slice K kinds.length ck] 136)).alloc (.cells #[.int .i64 x.head.op, .int .i64 x.head.arg] 129)).alloc (.cells (arr3 []) 160))
    have B1 := Lib.hid ((((Blk.new w #[.slice (some ⟨b, o, none⟩) es.length c, .slice K kinds.length ck] 136)).alloc (.cells #[.int .i64 x.head.op, .int .i64 x.head.arg] 129)).alloc (.cells (arr3 []) 160))
    have B2 := Lib.hid ((Blk.new (w.alloc (.cells #[.slice (some ⟨b, o, none⟩) es.length c, .slice K kinds.length ck] 136)) #[.int .i64 x.head.op, .int .i64 x.head.arg] 129).alloc (.cells (arr3 []) 160))
    have B3 := Lib.hid (Blk.new ((w.alloc (.cells #[.slice (some ⟨b, o, none⟩) es.length c, .slice K kinds.length ck] 136)).alloc (.cells #[.int .i64 x.head.op, .int .i64 x.head.arg] 129)) (arr3 []) 160)
    simp only [World.size_alloc] at B2 B3
    rw [har] at hpos
    clear hab HKK har h0
    have HIN : Hid ((bound || aggregate x.head.op) = inner) := hin
    clear hin
    cases bound with
    | true =>
      obtain rfl : inner = true := by have := HIN.out; simpa using this.symm
      clear HIN
      go_enter Tryz.func105, Tryz.ntmps105
      go_wp2_with (first
        | (go_at_call 100; refine (arity_any _ _).mono ?_; rintro e w' ⟨rfl, rfl⟩; rw [HAR.out]))
      go_loopg [7, 11, 44] x.kids.length (fun m nx _y z wr => ∃ j : Nat, j ≤ x.kids.length ∧ m = x.kids.length - j ∧ nx = .int .i64 ((k + 1 + lens (x.kids.take j) : Nat) : Int) ∧ z = .int .i64 j ∧ Bel w wr ∧ Hid (Blk wr w.heap.size #[.slice (some ⟨b, o, none⟩) es.length c, .slice K kinds.length ck] 136 ∧ Blk wr (w.heap.size + 1) #[.int .i64 x.head.op, .int .i64 x.head.arg] 129 ∧ Blk wr (w.heap.size + 1 + 1) (arr3 ((x.kids.map (kindF kinds true)).take j)) 160))
      case atStart => exact ⟨0, by omega, rfl, by simp [lens], rfl, HB, B1.out, B2.out, B3.out⟩
      case round =>
        clear HB B1 B2 B3
        obtain ⟨j, hj, rfl, rfl, rfl, HB, HBL⟩ := hrel
        have hb2 := HBL.out.2.1.lt
        have hb3 := HBL.out.2.2.lt
        by_cases hjl : j < x.kids.length
        · have hd0 : decide (j < x.kids.length) = true := by simpa using hjl
          have hst := lens_take_succ x.kids j hjl
          have hll := lens_take_le x.kids (j + 1)
          have hxl := HX.out
          have a0 := HBL.out.1.cell 0 rfl
          have a1 := HBL.out.1.cell 1 rfl
          obtain ⟨u, hu⟩ : ∃ u, (arr3 ((x.kids.map (kindF kinds true)).take j))[j]? = some u := ⟨_, Array.getElem?_eq_getElem (by simp [arr3]; omega)⟩
          have hj3 : j < 3 := by omega
          have hl1000 : k + 1 + lens (x.kids.take j) ≤ 1000 := by omega
          have HST := Lib.hid hst
          clear hst hxl hll
          go_wp2_with fail
          refine (HIH.out x.kids[j] (List.getElem_mem hjl) true _ _ es K ck (k + 1 + lens (x.kids.take j)) _ (HAT.out j hjl) (HT.out _ HB) (HK.out _ HB) HA.out hlen).mono ?_
          rintro e w2 ⟨rfl, hbb⟩
          have d1 := HBL.out.1.keep hbb
          have d2 := HBL.out.2.1.keep hbb
          have d3 := HBL.out.2.2.keep hbb
          have s3 := d3.lt
          have e1 := d3.cell j hu
          have e2 := d3.frozen j
          have HD := Lib.hid (And.intro d1 (And.intro d2 d3))
          clear d1 d2 d3 a0 a1
          replace HB := HB.trans hbb
          clear hbb
          go_wp2_with fail
          go_roundg (x.kids.length - (j + 1))
          case rel =>
            refine ⟨j + 1, by omega, rfl, ?_, by go_num, HB.setCell (by simp; omega) _, HD.out.1.other (by simp; omega) _, HD.out.2.1.other (by simp) _, ?_⟩
            · rw [HST.out]; congr 2; omega
            · have := HD.out.2.2.set j (.int .i64 (kindF kinds true x.kids[j]))
              have e := arr3_set (x.kids.map (kindF kinds true)) j hj3 (by simpa using hjl)
              simp only [List.getElem_map] at e
              rw [e] at this
              exact this
          case measure => omega
        · obtain rfl : j = x.kids.length := by omega
          have hd0 : decide (x.kids.length < x.kids.length) = false := by simp
          have a0 := HBL.out.2.1.cell 0 rfl
          have a1 := HBL.out.2.2.cell 0 rfl
          have a2 := HBL.out.2.2.cell 1 rfl
          have a3 := HBL.out.2.2.cell 2 rfl
          rw [List.take_of_length_le (by simp)] at a1 a2 a3
          rw [List.take_of_length_le (Nat.le_refl _)]
          clear HBL hj hjl
          go_wp2_with fail
          refine (result_any x.head.op _ _ _ _ hop1 hop2).mono ?_
          rintro e w2 ⟨rfl, hbb⟩
          replace HB := HB.trans hbb
          go_wp2_with fail
          go_ret2
          refine ⟨ret_int2 ?_ ?_, HB⟩
          · rw [HKF.out]; simp [List.getD_eq_getElem?_getD]
          · rw [HX.out]; omega
    | false =>
      have HIN' := Lib.hid (show aggregate x.head.op = inner by have := HIN.out; simpa using this)
      clear HIN
      go_enter Tryz.func105, Tryz.ntmps105
      go_wp2_with (first
        | (go_at_call 100; refine (arity_any _ _).mono ?_; rintro e w' ⟨rfl, rfl⟩; rw [HAR.out])
        | (go_at_call 102; refine (aggregate_any _ _).mono ?_; rintro e w' ⟨rfl, rfl⟩; rw [HIN'.out]))
      go_loopg [7, 11, 44] x.kids.length (fun m nx _y z wr => ∃ j : Nat, j ≤ x.kids.length ∧ m = x.kids.length - j ∧ nx = .int .i64 ((k + 1 + lens (x.kids.take j) : Nat) : Int) ∧ z = .int .i64 j ∧ Bel w wr ∧ Hid (Blk wr w.heap.size #[.slice (some ⟨b, o, none⟩) es.length c, .slice K kinds.length ck] 136 ∧ Blk wr (w.heap.size + 1) #[.int .i64 x.head.op, .int .i64 x.head.arg] 129 ∧ Blk wr (w.heap.size + 1 + 1) (arr3 ((x.kids.map (kindF kinds inner)).take j)) 160))
      case atStart => exact ⟨0, by omega, rfl, by simp [lens], rfl, HB, B1.out, B2.out, B3.out⟩
      case round =>
        clear HB B1 B2 B3
        obtain ⟨j, hj, rfl, rfl, rfl, HB, HBL⟩ := hrel
        have hb2 := HBL.out.2.1.lt
        have hb3 := HBL.out.2.2.lt
        by_cases hjl : j < x.kids.length
        · have hd0 : decide (j < x.kids.length) = true := by simpa using hjl
          have hst := lens_take_succ x.kids j hjl
          have hll := lens_take_le x.kids (j + 1)
          have hxl := HX.out
          have a0 := HBL.out.1.cell 0 rfl
          have a1 := HBL.out.1.cell 1 rfl
          obtain ⟨u, hu⟩ : ∃ u, (arr3 ((x.kids.map (kindF kinds inner)).take j))[j]? = some u := ⟨_, Array.getElem?_eq_getElem (by simp [arr3]; omega)⟩
          have hj3 : j < 3 := by omega
          have hl1000 : k + 1 + lens (x.kids.take j) ≤ 1000 := by omega
          have HST := Lib.hid hst
          clear hst hxl hll
          go_wp2_with fail
          refine (HIH.out x.kids[j] (List.getElem_mem hjl) inner _ _ es K ck (k + 1 + lens (x.kids.take j)) _ (HAT.out j hjl) (HT.out _ HB) (HK.out _ HB) HA.out hlen).mono ?_
          rintro e w2 ⟨rfl, hbb⟩
          have d1 := HBL.out.1.keep hbb
          have d2 := HBL.out.2.1.keep hbb
          have d3 := HBL.out.2.2.keep hbb
          have s3 := d3.lt
          have e1 := d3.cell j hu
          have e2 := d3.frozen j
          have HD := Lib.hid (And.intro d1 (And.intro d2 d3))
          clear d1 d2 d3 a0 a1
          replace HB := HB.trans hbb
          clear hbb
          go_wp2_with fail
          go_roundg (x.kids.length - (j + 1))
          case rel =>
            refine ⟨j + 1, by omega, rfl, ?_, by go_num, HB.setCell (by simp; omega) _, HD.out.1.other (by simp; omega) _, HD.out.2.1.other (by simp) _, ?_⟩
            · rw [HST.out]; congr 2; omega
            · have := HD.out.2.2.set j (.int .i64 (kindF kinds inner x.kids[j]))
              have e := arr3_set (x.kids.map (kindF kinds inner)) j hj3 (by simpa using hjl)
              simp only [List.getElem_map] at e
              rw [e] at this
              exact this
          case measure => omega
        · obtain rfl : j = x.kids.length := by omega
          have hd0 : decide (x.kids.length < x.kids.length) = false := by simp
          have a0 := HBL.out.2.1.cell 0 rfl
          have a1 := HBL.out.2.2.cell 0 rfl
          have a2 := HBL.out.2.2.cell 1 rfl
          have a3 := HBL.out.2.2.cell 2 rfl
          rw [List.take_of_length_le (by simp)] at a1 a2 a3
          rw [List.take_of_length_le (Nat.le_refl _)]
          clear HBL hj hjl
          go_wp2_with fail
          refine (result_any x.head.op _ _ _ _ hop1 hop2).mono ?_
          rintro e w2 ⟨rfl, hbb⟩
          replace HB := HB.trans hbb
          go_wp2_with fail
          go_ret2
          refine ⟨ret_int2 ?_ ?_, HB⟩
          · rw [HKF.out]; simp [List.getD_eq_getElem?_getD]
          · rw [HX.out]; omega

end Go.Proofs.YtaifafljakojnaaGreat

/- Contracts: the reference's kind. -/
namespace Go.Proofs.YtaifafljakojnaaGreat
open Go.RowKit

def KindOk (kinds : List Int) (x : Ex) : Prop :=
  ∀ (bound : Bool) (A : Option Addr) (c : Nat) (es : List Term) (K : Option Addr) (ck k : Nat) (w : World), x.At es k → TermsR w A es.length es → IntsR w K kinds.length kinds → (∀ t ∈ es, argF t kinds.length = true) → es.length ≤ 1000 →
    Calls Tryz.prog 41 #[.slice A es.length c, .int .i64 k, .slice K kinds.length ck, .bool bound] w fun e w' => e = .returned (.int .i64 (kindF kinds bound x)) ∧ Bel w w'

set_option maxRecDepth 100000 in
set_option maxHeartbeats 4000000 in
theorem refKind_any (kinds : List Int) (x : Ex) : KindOk kinds x := by
  induction x with
  | leaf t =>
    intro bound A c es K ck k w hat hT hK harg hlen
    have hlt := At.lt hat
    obtain ⟨hh, har⟩ := At.leaf hat
    obtain ⟨b, o, rfl, hb, c1, c2⟩ := hT.at_ k hlt
    have hhe : es[k] = t := by rw [List.getElem?_eq_getElem hlt] at hh; simpa using hh
    rw [hhe] at c1 c2
    have hargt : argF t kinds.length = true := by rw [← hhe]; exact harg _ (List.getElem_mem hlt)
    have HK := Lib.hid hK
    have HAR := Lib.hid har
    clear hh hhe harg hK hT har
    go_enter Tryz.func41, Tryz.ntmps41
    go_wp2_with (first
      | (go_at_call 90; refine (refArity_any _ _).mono ?_; rintro e w' ⟨rfl, rfl⟩; rw [HAR.out])
      | (go_at_call 91; refine (refTleaf_any _ _ kinds t bound _ HK.out hargt HAR.out).mono ?_; rintro e w' ⟨rfl, hbb⟩))
    go_ret
    exact ⟨rfl, hbb⟩
  | un t a ih =>
    intro bound A c es K ck k w hat hT hK harg hlen
    have hlt := At.lt hat
    obtain ⟨hh, har, ha⟩ := At.un hat
    have hbd := At.bound ha
    obtain ⟨b, o, rfl, hb, c1, c2⟩ := hT.at_ k hlt
    have hhe : es[k] = t := by rw [List.getElem?_eq_getElem hlt] at hh; simpa using hh
    rw [hhe] at c1 c2
    have HT := Lib.hid hT
    have HK := Lib.hid hK
    have HAR := Lib.hid har
    have HA := Lib.hid harg
    have HIH := Lib.hid ih
    have HATA := Lib.hid ha
    clear hh hhe harg hK hT har ih hat ha
    cases bound with
    | true =>
      have HF : Hid (kindF kinds true (.un t a) = singleK t.op (kindF kinds true a)) := rfl
      go_enter Tryz.func41, Tryz.ntmps41
      go_wp2_with (first
        | (go_at_call 90; refine (refArity_any _ _).mono ?_; rintro e w' ⟨rfl, rfl⟩; rw [HAR.out])
        | (go_at_call 41; refine (HIH.out true _ _ es K ck (k + 1) _ HATA.out HT.out HK.out HA.out hlen).mono ?_; rintro e w' ⟨rfl, hbb⟩)
        | (go_at_call 92; refine (refSingle_any _ _ _).mono ?_; rintro e w' ⟨rfl, rfl⟩))
      go_ret
      exact ⟨ret_int HF.out.symm, hbb⟩
    | false =>
      obtain ⟨inner, hin⟩ : ∃ b, aggregate t.op = b := ⟨_, rfl⟩
      have HF : Hid (kindF kinds false (.un t a) = singleK t.op (kindF kinds inner a)) := by show kindF kinds false (.un t a) = _; simp only [kindF, hin, Bool.false_or]
      have HIN := Lib.hid hin; clear hin
      go_enter Tryz.func41, Tryz.ntmps41
      go_wp2_with (first
        | (go_at_call 90; refine (refArity_any _ _).mono ?_; rintro e w' ⟨rfl, rfl⟩; rw [HAR.out])
        | (go_at_call 93; refine (refAggregate_any _ _).mono ?_; rintro e w' ⟨rfl, rfl⟩; rw [HIN.out])
        | (go_at_call 41; refine (HIH.out inner _ _ es K ck (k + 1) _ HATA.out HT.out HK.out HA.out hlen).mono ?_; rintro e w' ⟨rfl, hbb⟩)
        | (go_at_call 92; refine (refSingle_any _ _ _).mono ?_; rintro e w' ⟨rfl, rfl⟩))
      go_ret
      exact ⟨ret_int HF.out.symm, hbb⟩
  | bin t a b iha ihb =>
    intro bound A c es K ck k w hat hT hK harg hlen
    have hlt := At.lt hat
    obtain ⟨hh, har, ha, hb1⟩ := At.bin hat
    have hbd := At.bound ha
    have hbd2 := At.bound hb1
    have hop := At.operand1 hat hh (by omega) ha
    obtain ⟨hop1, hop2⟩ := (arity_bounds t.op).2.2.1 har
    obtain ⟨b, o, rfl, hb, c1, c2⟩ := hT.at_ k hlt
    have hhe : es[k] = t := by rw [List.getElem?_eq_getElem hlt] at hh; simpa using hh
    rw [hhe] at c1 c2
    have HT := Lib.hid (fun w' (k : Bel w w') => TermsR.keep hT k)
    have HK := Lib.hid (fun w' (k : Bel w w') => IntsR.keep hK k)
    have HAR := Lib.hid har
    have HA := Lib.hid harg
    have HI1 := Lib.hid iha
    have HI2 := Lib.hid ihb
    have HA1 := Lib.hid ha
    have HA2 := Lib.hid hb1
    have HOP := Lib.hid hop
    have HB := Bel.refl w
    clear hh hhe harg hK hT har iha ihb hat ha hb1 hop
    go_enter Tryz.func41, Tryz.ntmps41
    go_wp2_with (first
      | (go_at_call 90; refine (refArity_any _ _).mono ?_; rintro e w' ⟨rfl, rfl⟩; rw [HAR.out])
      | (go_at_call 95; refine (refOperand_any _ _ _ es _ _ _ (HT.out _ HB) (by omega)).mono ?_; rintro e w' ⟨rfl, rfl⟩; rw [HOP.out])
      | (go_at_call 94; refine (refDouble_any _ _ _ _ hop1 hop2).mono ?_; rintro e w' ⟨rfl, rfl⟩))
    refine (HI1.out bound _ _ es K ck (k + 1) _ HA1.out (HT.out _ HB) (HK.out _ HB) HA.out hlen).mono ?_
    rintro e w2 ⟨rfl, hbb⟩
    replace HB := HB.trans hbb
    clear hbb
    go_wp2_with (first
      | (go_at_call 90; refine (refArity_any _ _).mono ?_; rintro e w' ⟨rfl, rfl⟩; rw [HAR.out])
      | (go_at_call 95; refine (refOperand_any _ _ _ es _ _ _ (HT.out _ HB) (by omega)).mono ?_; rintro e w' ⟨rfl, rfl⟩; rw [HOP.out])
      | (go_at_call 94; refine (refDouble_any _ _ _ _ hop1 hop2).mono ?_; rintro e w' ⟨rfl, rfl⟩))
    refine (HI2.out bound _ _ es K ck (k + 1 + _) _ HA2.out (HT.out _ HB) (HK.out _ HB) HA.out hlen).mono ?_
    rintro e w3 ⟨rfl, hbb⟩
    replace HB := HB.trans hbb
    clear hbb
    go_wp2_with (first
      | (go_at_call 90; refine (refArity_any _ _).mono ?_; rintro e w' ⟨rfl, rfl⟩; rw [HAR.out])
      | (go_at_call 95; refine (refOperand_any _ _ _ es _ _ _ (HT.out _ HB) (by omega)).mono ?_; rintro e w' ⟨rfl, rfl⟩; rw [HOP.out])
      | (go_at_call 94; refine (refDouble_any _ _ _ _ hop1 hop2).mono ?_; rintro e w' ⟨rfl, rfl⟩))
    go_ret
    exact ⟨rfl, HB⟩
  | tri t a b d iha ihb ihc =>
    intro bound A c es K ck k w hat hT hK harg hlen
    have hlt := At.lt hat
    obtain ⟨hh, har, ha, hb1, hc1⟩ := At.tri hat
    have hbd := At.bound ha
    have hbd2 := At.bound hb1
    have hbd3 := At.bound hc1
    have hop := At.operand1 hat hh (by omega) ha
    have hopp := At.operand2 hat hh (by omega) ha hb1
    obtain ⟨b', o, rfl, hb, c1, c2⟩ := hT.at_ k hlt
    have hhe : es[k] = t := by rw [List.getElem?_eq_getElem hlt] at hh; simpa using hh
    rw [hhe] at c1 c2
    have HT := Lib.hid (fun w' (k : Bel w w') => TermsR.keep hT k)
    have HK := Lib.hid (fun w' (k : Bel w w') => IntsR.keep hK k)
    have HAR := Lib.hid har
    have HA := Lib.hid harg
    have HI1 := Lib.hid iha
    have HI2 := Lib.hid ihb
    have HI3 := Lib.hid ihc
    have HA1 := Lib.hid ha
    have HA2 := Lib.hid hb1
    have HA3 := Lib.hid hc1
    have HOP := Lib.hid hop
    have HOP2 := Lib.hid hopp
    have HB := Bel.refl w
    have HF : Hid (kindF kinds bound (.tri t a b d) = ifK (kindF kinds bound a == 2 && kindF kinds bound b == kindF kinds bound d) (kindF kinds bound b)) := rfl
    clear hh hhe harg hK hT har iha ihb ihc hat ha hb1 hc1 hop hopp
    go_enter Tryz.func41, Tryz.ntmps41
    go_wp2_with (first
      | (go_at_call 90; refine (refArity_any _ _).mono ?_; rintro e w' ⟨rfl, rfl⟩; rw [HAR.out])
      | (go_at_call 95; refine (refOperand_any _ _ _ es _ _ _ (HT.out _ HB) (by omega)).mono ?_; rintro e w' ⟨rfl, rfl⟩; first | rw [HOP.out] | rw [HOP2.out]))
    refine (HI1.out bound _ _ es K ck (k + 1) _ HA1.out (HT.out _ HB) (HK.out _ HB) HA.out hlen).mono ?_
    rintro e w2 ⟨rfl, hbb⟩
    replace HB := HB.trans hbb
    clear hbb
    go_wp2_with (first
      | (go_at_call 90; refine (refArity_any _ _).mono ?_; rintro e w' ⟨rfl, rfl⟩; rw [HAR.out])
      | (go_at_call 95; refine (refOperand_any _ _ _ es _ _ _ (HT.out _ HB) (by omega)).mono ?_; rintro e w' ⟨rfl, rfl⟩; first | rw [HOP.out] | rw [HOP2.out]))
    refine (HI2.out bound _ _ es K ck (k + 1 + _) _ HA2.out (HT.out _ HB) (HK.out _ HB) HA.out hlen).mono ?_
    rintro e w3 ⟨rfl, hbb⟩
    replace HB := HB.trans hbb
    clear hbb
    go_wp2_with (first
      | (go_at_call 90; refine (refArity_any _ _).mono ?_; rintro e w' ⟨rfl, rfl⟩; rw [HAR.out])
      | (go_at_call 95; refine (refOperand_any _ _ _ es _ _ _ (HT.out _ HB) (by omega)).mono ?_; rintro e w' ⟨rfl, rfl⟩; first | rw [HOP.out] | rw [HOP2.out]))
    refine (HI3.out bound _ _ es K ck (k + 1 + _ + _) _ HA3.out (HT.out _ HB) (HK.out _ HB) HA.out hlen).mono ?_
    rintro e w4 ⟨rfl, hbb⟩
    replace HB := HB.trans hbb
    clear hbb
    go_wp2_with (first
      | (go_at_call 90; refine (refArity_any _ _).mono ?_; rintro e w' ⟨rfl, rfl⟩; rw [HAR.out])
      | (go_at_call 95; refine (refOperand_any _ _ _ es _ _ _ (HT.out _ HB) (by omega)).mono ?_; rintro e w' ⟨rfl, rfl⟩; first | rw [HOP.out] | rw [HOP2.out]))
    all_goals (try simp only [beq_iff_eq, beq_eq_false_iff_ne, bne_iff_ne, bne_eq_false_iff_eq] at *)
    all_goals (go_ret; refine ⟨ret_int ?_, HB⟩; rw [HF.out]; unfold ifK; simp_all)

end Go.Proofs.YtaifafljakojnaaGreat

