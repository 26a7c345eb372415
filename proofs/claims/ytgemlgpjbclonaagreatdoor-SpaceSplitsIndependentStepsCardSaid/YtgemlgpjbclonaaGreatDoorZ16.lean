/- Merged of: W11c WDa WDb WDc (see NOTES.md). -/
import Derived.Test.YtgemlgpjbclonaaGreatDoorZ15
import Derived.Test.YtgemlgpjbclonaaGreatDoorZ09
import Derived.Laws.EntriesVeiled
set_option linter.unusedSimpArgs false
set_option linter.unnecessarySimpa false
set_option linter.unusedVariables false

/- Contracts of the aggregates of layer 11, of the program and of the reference. -/
namespace Go.Proofs.YtgemlgpjbclonaaGreatDoor
open Go.RowKit

theorem ite_min (a b : Int) : ∃ m, (if b < a then b else a) = m ∧ m = min a b := ⟨_, rfl, by split <;> omega⟩
theorem ite_max (a b : Int) : ∃ m, (if a < b then b else a) = m ∧ m = max a b := ⟨_, rfl, by split <;> omega⟩
theorem fold1_any (a : Int) (w : World) : Calls Tryz.prog 176 #[.int .i64 a] w fun e w' => e = .returned (.bool (a != 0)) ∧ w = w' := by
 go_enter Tryz.func176, Tryz.ntmps176
 go_wp2
 go_ret
 exact ⟨rfl, rfl⟩

set_option maxRecDepth 100000 in
set_option maxHeartbeats 1000000 in
theorem count_any (A : Option Addr) (n c : Nat) (l : List Int) (w : World) (h : IntsR w A n l) (hl : n ≤ 1000) :
  Calls Tryz.prog 174 #[.slice A n c] w fun e w' => e = .returned (.int .i64 (countF l)) ∧ w = w' := by
 obtain rfl := h.1
 have H := Lib.hid h; clear h
 go_enter Tryz.func174, Tryz.ntmps174
 go_wp2_with fail
 go_loopg [3, 8] l.length (fun g cv iv wr => ∃ (k : Nat) (z : Int), k + g = l.length ∧ 0 ≤ z ∧ z ≤ k ∧ Hid (z + countF (l.drop k) = countF l) ∧ cv = .int .i64 z ∧ iv = .int .i64 k ∧ w = wr)
 case atStart => exact ⟨0, 0, by omega, by omega, by omega, by show _ = _; simp, rfl, rfl, rfl⟩
 case round =>
  obtain ⟨k, z, hk, hz0, hz1, HZ, rfl, rfl, rfl⟩ := hrel
  by_cases hlt : k < l.length
  ·obtain ⟨b, o, rfl, hb, hc⟩ := H.out.at_ k hlt
   have hstep : Hid (countF (l.drop k) = (if l[k] = 0 then 0 else 1) + countF (l.drop (k + 1))) := by
    show countF (l.drop k) = _
    rw [List.drop_eq_getElem_cons hlt, countF_cons]
   by_cases h0 : l[k] = 0
   ·have hz : (l[k] != 0) = false := by simpa using h0
    have HZ2 : Hid (z + countF (l.drop (k + 1)) = countF l) := by show _ = _; rw [← HZ.out, hstep.out, if_pos h0]; omega
    clear h0
    go_wp2_with fail
    go_roundg (gk - 1)
    case rel => exact ⟨k + 1, z, by omega, by omega, by omega, HZ2, rfl, by go_num, rfl⟩
    case measure => omega
   ·have hz : (l[k] != 0) = true := by simpa using h0
    have HZ2 : Hid (z + 1 + countF (l.drop (k + 1)) = countF l) := by show _ = _; rw [← HZ.out, hstep.out, if_neg h0]; omega
    clear h0
    go_wp2_with fail
    go_roundg (gk - 1)
    case rel => exact ⟨k + 1, z + 1, by omega, by omega, by omega, HZ2, rfl, by go_num, rfl⟩
    case measure => omega
  ·go_wp2_with fail
   go_ret
   refine ⟨ret_int ?_, rfl⟩
   have := HZ.out
   rw [List.drop_eq_nil_of_le (by omega)] at this
   simpa [countF] using this

set_option maxRecDepth 100000 in
set_option maxHeartbeats 1000000 in
theorem two_any (A : Option Addr) (n c : Nat) (l : List Int) (w : World) (h : IntsR w A n l) (hl : n ≤ 1000) :
  Calls Tryz.prog 177 #[.slice A n c] w fun e w' => e = .returned (.tuple #[.int .i64 (twoF l).1, .int .i64 (twoF l).2]) ∧ w = w' := by
 obtain rfl := h.1
 have H := Lib.hid h; clear h
 go_enter Tryz.func177, Tryz.ntmps177
 go_wp2_with fail
 go_loopg [2, 3, 8] l.length (fun g av sv iv wr => ∃ (k : Nat) (a s : Int), k + g = l.length ∧ Hid (twoGo (l.drop k) a s = twoF l) ∧ av = .int .i64 a ∧ sv = .int .i64 s ∧ iv = .int .i64 k ∧ w = wr)
 case atStart => exact ⟨0, _, _, by omega, rfl, rfl, rfl, rfl, rfl⟩
 case round =>
  obtain ⟨k, a, s, hk, HZ, rfl, rfl, rfl, rfl⟩ := hrel
  by_cases hlt : k < l.length
  ·obtain ⟨b, o, rfl, hb, hc⟩ := H.out.at_ k hlt
   have hstep : Hid (twoGo (l.drop k) a s = if a < l[k] then twoGo (l.drop (k + 1)) l[k] a else twoGo (l.drop (k + 1)) a (max s l[k])) := by
    show twoGo (l.drop k) a s = _
    rw [List.drop_eq_getElem_cons hlt]; rfl
   obtain ⟨m, hm, hm'⟩ := ite_max s l[k]
   have HM := Lib.hid hm'; clear hm'
   by_cases h0 : a < l[k]
   ·have hd : decide (a < l[k]) = true := by simpa using h0
    have HZ2 : Hid (twoGo (l.drop (k + 1)) l[k] a = twoF l) := by show _ = _; rw [← HZ.out, hstep.out, if_pos h0]
    clear h0
    go_wp2_with fail
    go_roundg (gk - 1)
    case rel => exact ⟨k + 1, l[k], a, by omega, HZ2, rfl, rfl, by go_num, rfl⟩
    case measure => omega
   ·have hd : decide (a < l[k]) = false := by simpa using h0
    have HZ2 : Hid (twoGo (l.drop (k + 1)) a m = twoF l) := by show _ = _; rw [← HZ.out, hstep.out, if_neg h0, HM.out]
    clear h0
    go_wp2_with fail
    go_roundg (gk - 1)
    case rel => exact ⟨k + 1, a, m, by omega, HZ2, rfl, rfl, by go_num, rfl⟩
    case measure => omega
  ·go_wp2_with fail
   go_ret2
   have hz := HZ.out
   rw [List.drop_eq_nil_of_le (by omega)] at hz
   exact ⟨ret_pair hz.symm, rfl⟩

def idxGo : List Int → (Int → Bool) → Int → Int
 | [], _, _ => -1
 | a :: l, f, i => if f a then i else idxGo l f (i + 1)
theorem idxGo_first (l : List Int) : ∀ i, idxGo l (fun a => a != 0) i = firstGo l i := by
 induction l with
 | nil => intro i; rfl
 | cons a l ih =>
  intro i
  simp only [idxGo, firstGo]
  by_cases h : a = 0
  ·simp [h, ih]
  ·simp [h]
theorem idxGo_mem (l : List Int) (x : Int) : ∀ i, 0 ≤ i → (0 ≤ idxGo l (fun a => x == a) i ↔ x ∈ l) := by
 induction l with
 | nil => intro i _; simp [idxGo]
 | cons a l ih =>
  intro i hi
  simp only [idxGo]
  by_cases h : x = a
  ·simp [h, hi]
  ·simp [h, ih (i + 1) (by omega)]

set_option maxRecDepth 100000 in
set_option maxHeartbeats 1000000 in
theorem index_any (A : Option Addr) (n c : Nat) (l : List Int) (x : Int) (w : World) (h : IntsR w A n l) (hl : n ≤ 1000) :
  Calls Tryz.prog 191 #[.slice A n c, .int .i64 x] w fun e w' => e = .returned (.int .i64 (idxGo l (fun a => x == a) 0)) ∧ w = w' := by
 obtain rfl := h.1
 have H := Lib.hid h; clear h
 go_enter Tryz.func191, Tryz.ntmps191
 go_wp2_with fail
 go_loopg [8] l.length (fun g iv wr => ∃ (k : Nat), k + g = l.length ∧ Hid (idxGo (l.drop k) (fun a => x == a) k = idxGo l (fun a => x == a) 0) ∧ iv = .int .i64 k ∧ w = wr)
 case atStart => exact ⟨0, by omega, rfl, rfl, rfl⟩
 case round =>
  obtain ⟨k, hk, HZ, rfl, rfl⟩ := hrel
  by_cases hlt : k < l.length
  ·obtain ⟨b, o, rfl, hb, hc⟩ := H.out.at_ k hlt
   have hstep : Hid (idxGo (l.drop k) (fun a => x == a) k = if (x == l[k]) = true then (k : Int) else idxGo (l.drop (k + 1)) (fun a => x == a) ((k : Int) + 1)) := by
    show idxGo (l.drop k) (fun a => x == a) k = _
    rw [List.drop_eq_getElem_cons hlt]; rfl
   cases h0 : (x == l[k]) with
   | true =>
    have HZ2 : Hid ((k : Int) = idxGo l (fun a => x == a) 0) := by show _ = _; rw [← HZ.out, hstep.out, if_pos h0]
    go_wp2_with fail
    go_ret
    exact ⟨ret_int HZ2.out, rfl⟩
   | false =>
    have HZ2 : Hid (idxGo (l.drop (k + 1)) (fun a => x == a) ((k + 1 : Nat) : Int) = idxGo l (fun a => x == a) 0) := by show _ = _; rw [← HZ.out, hstep.out, if_neg (by rw [h0]; decide)]; rfl
    go_wp2_with fail
    go_roundg (gk - 1)
    case rel => exact ⟨k + 1, by omega, HZ2, by go_num, rfl⟩
    case measure => omega
  ·go_wp2_with fail
   go_ret
   have hz := HZ.out
   rw [List.drop_eq_nil_of_le (by omega)] at hz
   exact ⟨ret_int hz, rfl⟩

set_option maxRecDepth 100000 in
set_option maxHeartbeats 1000000 in
theorem contains_any (A : Option Addr) (n c : Nat) (l : List Int) (x : Int) (w : World) (h : IntsR w A n l) (hl : n ≤ 1000) :
  Calls Tryz.prog 189 #[.slice A n c, .int .i64 x] w fun e w' => e = .returned (.bool (decide (x ∈ l))) ∧ w = w' := by
 obtain rfl := h.1
 have H := Lib.hid h; clear h
 have HF : Hid (decide (x ∈ l) = decide (0 ≤ idxGo l (fun a => x == a) 0)) := by
  show decide (x ∈ l) = _
  rw [Bool.eq_iff_iff]; simp [idxGo_mem l x 0 (by omega)]
 go_enter Tryz.func189, Tryz.ntmps189
 go_wp2_with (go_at_call 191; refine (index_any _ _ _ l _ _ H.out hl).mono ?_; rintro e w' ⟨rfl, rfl⟩)
 go_ret
 exact ⟨ret_bool HF.out.symm, rfl⟩

set_option maxRecDepth 100000 in
set_option maxHeartbeats 1000000 in
theorem mex_any (A : Option Addr) (n c : Nat) (l : List Int) (w : World) (h : IntsR w A n l) (hl : n ≤ 1000) :
  Calls Tryz.prog 178 #[.slice A n c] w fun e w' => e = .returned (.int .i64 (mexF l)) ∧ w = w' := by
 obtain rfl := h.1
 have H := Lib.hid h; clear h
 have hcl := cntGe_le l 0
 go_enter Tryz.func178, Tryz.ntmps178
 go_wp2_with fail
 go_loopg [3] (cntGe l 0) (fun g rv wr => ∃ (k : Int), 0 ≤ k ∧ k + g = cntGe l 0 ∧ cntGe l k ≤ g ∧ Hid (mexGo l g k = mexF l) ∧ rv = .int .i64 k ∧ w = wr)
 case atStart => exact ⟨0, by omega, by omega, Nat.le_refl _, rfl, rfl, rfl⟩
 case round =>
  obtain ⟨k, hk0, hk, hg, HZ, rfl, rfl⟩ := hrel
  by_cases hm : k ∈ l
  ·have hc := cntGe_lt hm
   obtain ⟨g, rfl⟩ : ∃ g, gk = g + 1 := ⟨gk - 1, by omega⟩
   have HZ2 : Hid (mexGo l g (k + 1) = mexF l) := by
    have := HZ.out
    simp only [mexGo] at this
    rw [if_pos hm] at this
    exact this
   have hd : decide (k ∈ l) = true := decide_eq_true hm
   have hk6 : k ≤ 1000000 := by omega
   clear hm
   go_wp2_with (go_at_call 189; refine (contains_any _ _ _ l _ _ H.out hl).mono ?_; rintro e w' ⟨rfl, rfl⟩; rw [hd])
   go_roundg g
   case rel => exact ⟨k + 1, by omega, by omega, by omega, HZ2, rfl, rfl⟩
   case measure => omega
  ·have HZ2 : Hid (k = mexF l) := by
    have := HZ.out
    cases gk with
    | zero => exact this
    | succ g => simp only [mexGo] at this; rw [if_neg hm] at this; exact this
   have hd : decide (k ∈ l) = false := decide_eq_false hm
   clear hm
   go_wp2_with (go_at_call 189; refine (contains_any _ _ _ l _ _ H.out hl).mono ?_; rintro e w' ⟨rfl, rfl⟩; rw [hd])
   go_ret
   exact ⟨ret_int HZ2.out, rfl⟩

set_option maxHeartbeats 1000000 in
theorem indexFunc_any (f : FuncId) (p : Int → Bool) (hf : ∀ a w, Calls Tryz.prog f #[.int .i64 a] w fun e w' => e = .returned (.bool (p a)) ∧ w = w') (hcall : ∀ a w, (callFunc f #[a]).run Tryz.prog w = .ok (.enter f #[a]) w)
  (A : Option Addr) (n c : Nat) (l : List Int) (w : World) (h : IntsR w A n l) (hl : n ≤ 1000) :
  Calls Tryz.prog 175 #[.slice A n c, .func (.func f) #[] #[]] w fun e w' => e = .returned (.int .i64 (idxGo l p 0)) ∧ w = w' := by
 obtain rfl := h.1
 have H := Lib.hid h; clear h
 have HF := Lib.hid hf; clear hf
 go_enter Tryz.func175, Tryz.ntmps175
 go_wp2_with fail
 go_loopg [8] l.length (fun g iv wr => ∃ (k : Nat), k + g = l.length ∧ Hid (idxGo (l.drop k) p k = idxGo l p 0) ∧ iv = .int .i64 k ∧ w = wr)
 case atStart => exact ⟨0, by omega, rfl, rfl, rfl⟩
 case round =>
  obtain ⟨k, hk, HZ, rfl, rfl⟩ := hrel
  by_cases hlt : k < l.length
  ·obtain ⟨b, o, rfl, hb, hc⟩ := H.out.at_ k hlt
   have hstep : Hid (idxGo (l.drop k) p k = if p l[k] = true then (k : Int) else idxGo (l.drop (k + 1)) p ((k : Int) + 1)) := by
    show idxGo (l.drop k) p k = _
    rw [List.drop_eq_getElem_cons hlt]; rfl
   cases h0 : p l[k] with
   | true =>
    have HZ2 : Hid ((k : Int) = idxGo l p 0) := by show _ = _; rw [← HZ.out, hstep.out, if_pos h0]
    go_wp2_with (((with_reducible refine (HF.out _ _).mono ?_); rintro e w' ⟨rfl, rfl⟩; rw [h0]))
    go_ret
    exact ⟨ret_int HZ2.out, rfl⟩
   | false =>
    have HZ2 : Hid (idxGo (l.drop (k + 1)) p ((k + 1 : Nat) : Int) = idxGo l p 0) := by show _ = _; rw [← HZ.out, hstep.out, if_neg (by rw [h0]; decide)]; rfl
    go_wp2_with (((with_reducible refine (HF.out _ _).mono ?_); rintro e w' ⟨rfl, rfl⟩; rw [h0]))
    go_roundg (gk - 1)
    case rel => exact ⟨k + 1, by omega, HZ2, by go_num, rfl⟩
    case measure => omega
  ·go_wp2_with fail
   go_ret
   have hz := HZ.out
   rw [List.drop_eq_nil_of_le (by omega)] at hz
   exact ⟨ret_int hz, rfl⟩

set_option maxRecDepth 100000 in
set_option maxHeartbeats 1000000 in
theorem occurs_any (A : Option Addr) (n c : Nat) (l : List Int) (x : Int) (w : World) (h : IntsR w A n l) (hl : n ≤ 1000) :
  Calls Tryz.prog 126 #[.slice A n c, .int .i64 x] w fun e w' => e = .returned (.bool (decide (x ∈ l))) ∧ w = w' := by
 obtain rfl := h.1
 have H := Lib.hid h; clear h
 go_enter Tryz.func126, Tryz.ntmps126
 go_wp2_with fail
 go_loopg [5] l.length (fun g iv wr => ∃ (k : Nat), k + g = l.length ∧ Hid (decide (x ∈ l.drop k) = decide (x ∈ l)) ∧ iv = .int .i64 k ∧ w = wr)
 case atStart => exact ⟨0, by omega, rfl, rfl, rfl⟩
 case round =>
  obtain ⟨k, hk, HZ, rfl, rfl⟩ := hrel
  by_cases hlt : k < l.length
  ·obtain ⟨b, o, rfl, hb, hc⟩ := H.out.at_ k hlt
   have hstep : Hid (decide (x ∈ l.drop k) = ((l[k] == x) || decide (x ∈ l.drop (k + 1)))) := by
    show decide (x ∈ l.drop k) = _
    rw [List.drop_eq_getElem_cons hlt, Bool.eq_iff_iff]
    simp only [List.mem_cons, decide_eq_true_eq, Bool.or_eq_true, beq_iff_eq]
    exact ⟨fun h => h.elim (fun e => .inl e.symm) .inr, fun h => h.elim (fun e => .inl e.symm) .inr⟩
   cases h0 : (l[k] == x) with
   | true =>
    have HZ2 : Hid (true = decide (x ∈ l)) := by show _ = _; rw [← HZ.out, hstep.out, h0]; rfl
    go_wp2_with fail
    go_ret
    exact ⟨ret_bool HZ2.out, rfl⟩
   | false =>
    have HZ2 : Hid (decide (x ∈ l.drop (k + 1)) = decide (x ∈ l)) := by show _ = _; rw [← HZ.out, hstep.out, h0]; rfl
    go_wp2_with fail
    go_roundg (gk - 1)
    case rel => exact ⟨k + 1, by omega, HZ2, by go_num, rfl⟩
    case measure => omega
  ·go_wp2_with fail
   go_ret
   have hz := HZ.out
   rw [List.drop_eq_nil_of_le (by omega)] at hz
   exact ⟨ret_bool (by simpa using hz), rfl⟩

set_option maxRecDepth 100000 in
set_option maxHeartbeats 1000000 in
theorem fold_any (A : Option Addr) (n c : Nat) (l : List Int) (op : Int) (w : World) (h : IntsR w A n l) (hl : n ≤ 1000) (h1 : 20 ≤ op) (h2 : op ≤ 29) (hn : ∀ x ∈ l, Num x) :
  Calls Tryz.prog 152 #[.int .i64 op, .slice A n c] w fun e w' => e = .returned (.int .i64 (foldF op l)) ∧ w = w' := by
 obtain rfl := h.1
 have H := Lib.hid h; clear h
 have HN := Lib.hid hn; clear hn
 have hcase : op = 20 ∨ op = 21 ∨ op = 22 ∨ op = 23 ∨ op = 24 ∨ op = 25 ∨ op = 26 ∨ op = 27 ∨ op = 28 ∨ op = 29 := by omega
 clear h1 h2
 rcases hcase with h | h | h | h | h | h | h | h | h | h
 ·subst h
  go_enter Tryz.func152, Tryz.ntmps152
  go_wp2_with (first
   | (go_at_call 174; refine (count_any _ _ _ l _ H.out hl).mono ?_; rintro e w' ⟨rfl, rfl⟩)
   | (go_at_call 150; refine (truth_any _ _).mono ?_; rintro e w' ⟨rfl, rfl⟩))
  go_ret
  exact ⟨rfl, rfl⟩
 ·subst h
  go_enter Tryz.func152, Tryz.ntmps152
  go_wp2_with (first
   | (go_at_call 174; refine (count_any _ _ _ l _ H.out hl).mono ?_; rintro e w' ⟨rfl, rfl⟩)
   | (go_at_call 150; refine (truth_any _ _).mono ?_; rintro e w' ⟨rfl, rfl⟩))
  go_ret
  exact ⟨rfl, rfl⟩
 ·subst h
  go_enter Tryz.func152, Tryz.ntmps152
  go_wp2_with (first
   | (go_at_call 174; refine (count_any _ _ _ l _ H.out hl).mono ?_; rintro e w' ⟨rfl, rfl⟩))
  go_ret
  exact ⟨rfl, rfl⟩
 ·subst h
  have HF : Hid (idxGo l (fun a => a != 0) 0 = foldF 23 l) := idxGo_first l 0
  go_enter Tryz.func152, Tryz.ntmps152
  go_wp2_with (go_at_call 175; refine (indexFunc_any 176 (fun a => a != 0) (fun a w => fold1_any a w) (fun _ _ => by kernel_rfl) _ _ _ l _ H.out hl).mono ?_; rintro e w' ⟨rfl, rfl⟩)
  go_ret
  exact ⟨ret_int HF.out, rfl⟩
 ·subst h
  go_enter Tryz.func152, Tryz.ntmps152
  go_wp2_with fail
  go_loopg [5, 42] l.length (fun g mv iv wr => ∃ (k : Nat) (z : Int), k + g = l.length ∧ Hid ((l.drop k).foldl min z = foldF 24 l) ∧ mv = .int .i64 z ∧ iv = .int .i64 k ∧ w = wr)
  case atStart => exact ⟨0, _, by omega, rfl, rfl, rfl, rfl⟩
  case round =>
   obtain ⟨k, z, hk, HZ, rfl, rfl, rfl⟩ := hrel
   by_cases hlt : k < l.length
   ·obtain ⟨b, o, rfl, hb, hc⟩ := H.out.at_ k hlt
    obtain ⟨m, hm, hm'⟩ := ite_min z l[k]
    have HZ2 : Hid ((l.drop (k + 1)).foldl min m = foldF 24 l) := by
     have := HZ.out
     rw [List.drop_eq_getElem_cons hlt, List.foldl_cons, ← hm'] at this
     exact this
    clear hm'
    go_wp2_with fail
    go_roundg (gk - 1)
    case rel => exact ⟨k + 1, m, by omega, HZ2, rfl, by go_num, rfl⟩
    case measure => omega
   ·go_wp2_with fail
    go_ret
    have hz := HZ.out
    rw [List.drop_eq_nil_of_le (by omega)] at hz
    exact ⟨ret_int hz, rfl⟩
 ·subst h
  go_enter Tryz.func152, Tryz.ntmps152
  go_wp2_with (first
   | (go_at_call 177; refine (two_any _ _ _ l _ H.out hl).mono ?_; rintro e w' ⟨rfl, rfl⟩))
  go_ret
  exact ⟨rfl, rfl⟩
 ·subst h
  go_enter Tryz.func152, Tryz.ntmps152
  go_wp2_with fail
  go_loopg [10, 63] l.length (fun g sv iv wr => ∃ (k : Nat) (z : Int), k + g = l.length ∧ -(1073741824 * k) ≤ z ∧ z ≤ 1073741824 * k ∧ Hid (satF ((l.drop k).foldl (· + ·) z) = foldF 26 l) ∧ sv = .int .i64 z ∧ iv = .int .i64 k ∧ w = wr)
  case atStart => exact ⟨0, 0, by omega, by omega, by omega, rfl, rfl, rfl, rfl⟩
  case round =>
   obtain ⟨k, z, hk, hz1, hz2, HZ, rfl, rfl, rfl⟩ := hrel
   by_cases hlt : k < l.length
   ·obtain ⟨b, o, rfl, hb, hc⟩ := H.out.at_ k hlt
    have hx := HN.out l[k] (List.getElem_mem _)
    unfold Num at hx
    obtain ⟨hx1, hx2⟩ := hx
    have HZ2 : Hid (satF ((l.drop (k + 1)).foldl (· + ·) (z + l[k])) = foldF 26 l) := by
     have := HZ.out
     rw [List.drop_eq_getElem_cons hlt, List.foldl_cons] at this
     exact this
    go_wp2_with fail
    go_roundg (gk - 1)
    case rel => exact ⟨k + 1, z + l[k], by omega, by omega, by omega, HZ2, rfl, by go_num, rfl⟩
    case measure => omega
   ·have hz := HZ.out
    rw [List.drop_eq_nil_of_le (by omega)] at hz
    have HZ2 := Lib.hid hz; clear hz
    go_wp2_with (go_at_call 153; refine (saturated_any _ _).mono ?_; rintro e w' ⟨rfl, rfl⟩)
    go_ret
    exact ⟨ret_int HZ2.out, rfl⟩
 ·subst h
  go_enter Tryz.func152, Tryz.ntmps152
  go_wp2_with (first
   | (go_at_call 178; refine (mex_any _ _ _ l _ H.out hl).mono ?_; rintro e w' ⟨rfl, rfl⟩))
  go_ret
  exact ⟨rfl, rfl⟩
 ·subst h
  go_enter Tryz.func152, Tryz.ntmps152
  go_wp2_with (first
   | (go_at_call 177; refine (two_any _ _ _ l _ H.out hl).mono ?_; rintro e w' ⟨rfl, rfl⟩))
  go_ret
  exact ⟨rfl, rfl⟩
 ·subst h
  rcases l with _ | ⟨x, l⟩
  ·go_enter Tryz.func152, Tryz.ntmps152
   go_wp2_with fail
   go_ret
   exact ⟨rfl, rfl⟩
  ·obtain ⟨b, o, rfl, hb, hc⟩ := H.out.at_ 0 (by simp)
   have hc' : w.cell? ⟨b, o, none⟩ = some (.int .i64 x) := by simpa using hc
   clear hc
   have hne : (((x :: l).length : Int) == 0) = false := by simp; omega
   go_enter Tryz.func152, Tryz.ntmps152
   go_wp2_with fail
   go_ret
   exact ⟨rfl, rfl⟩

end Go.Proofs.YtgemlgpjbclonaaGreatDoor

/- Contracts: Valid of graphs, the greatest identifier, the bounds of a variable. -/
namespace Go.Proofs.YtgemlgpjbclonaaGreatDoor
open Go.RowKit

theorem nat_lt1 {n : Nat} (h : 1 ≤ n) : decide (n < 1) = false := by simp; omega
theorem int_lt1 {n : Nat} (h : 1 ≤ n) : decide ((n : Int) < 1) = false := by simp; omega
theorem nat_lt1' {n : Nat} (h : n < 1) : decide (n < 1) = true := by simp; omega
theorem int_lt1' {n : Nat} (h : n < 1) : decide ((n : Int) < 1) = true := by simp; omega
set_option maxRecDepth 100000 in
set_option maxHeartbeats 2000000 in
theorem graphValid_any (v : Value) (g : Graph) (w : World) (h : GraphV w v g) (hlg : lightG g = true) :
  Calls Tryz.prog 85 #[v] w fun e w' => e = .returned (.bool (graphB g)) ∧ Bel w w' := by
 obtain ⟨A, k, A2, k2, rfl, hI, _, _, hP, _, _⟩ := h
 have HI := Lib.hid (fun w' (k : Bel w w') => IntsR.keep hI k); clear hI
 have HP := Lib.hid (fun w' (k : Bel w w') => PortsR.keep hP k); clear hP
 obtain ⟨hl1, hl2, hl3⟩ := lightG_parts hlg
 have HL3 := Lib.hid hl3; clear hl3 hlg
 have HG := Lib.hid (graphB_sym g)
 have HB := Bel.refl (w.alloc (.cells #[.slice A g.ids.length k, .slice A2 g.ports.length k2] 29))
 by_cases hn : 1 ≤ g.ports.length ∧ g.ports.length ≤ 24 ∧ g.ids.length = g.ports.length
 ·have hd1 : decide (g.ids.length < 1) = false := nat_lt1 (by omega)
  have hd2 : decide (24 < g.ids.length) = false := by simp; omega
  have hd3 : (g.ports.length != g.ids.length) = false := by simp; omega
  have hd3' : ((g.ports.length : Int) != (g.ids.length : Int)) = false := by simp; omega
  have hd1' : decide ((g.ids.length : Int) < 1) = false := int_lt1 (by omega)
  rw [decide_eq_true hn] at HG
  have hn1 : 1 ≤ g.ids.length := by omega
  have hn2 : g.ids.length ≤ 24 := by omega
  clear hn
  cases hi : idsOK g.ids with
  | false =>
   go_enter Tryz.func85, Tryz.ntmps85
   go_wp2_with (go_at_call 108; refine (differentIDs_any _ _ g.ids _ (HI.out _ (box_bel HB)) (by omega)).mono ?_; rintro e w' ⟨rfl, hb⟩; rw [hi]; replace HB := HB.trans hb; clear hb)
   go_ret
   exact ⟨ret_bool (by rw [HG.out, hi]; rfl), box_bel HB⟩
  | true =>
   have HII := Lib.hid hi; clear hi
   go_enter Tryz.func85, Tryz.ntmps85
   go_wp2_with (first
    | (go_at_call 108; refine (differentIDs_any _ _ g.ids _ (HI.out _ (box_bel HB)) (by omega)).mono ?_; rintro e w' ⟨rfl, hb⟩; rw [HII.out]; replace HB := HB.trans hb; clear hb; have q1 := box_cell HB 1 rfl; have q2 := box_lt HB)
    | (go_at_call 109; refine (symmetric_any _ _ g.ports _ (HP.out _ (box_bel HB)) (by omega) HL3.out).mono ?_; rintro e w' ⟨rfl, hb⟩; replace HB := HB.trans hb; clear hb))
   go_ret
   exact ⟨ret_bool (by rw [HG.out, HII.out]; rfl), box_bel HB⟩
 ·rw [decide_eq_false hn] at HG
  by_cases h1 : g.ids.length < 1
  ·have hd1 : decide (g.ids.length < 1) = true := nat_lt1' h1
   have hd1' : decide ((g.ids.length : Int) < 1) = true := int_lt1' h1
   clear hn
   go_enter Tryz.func85, Tryz.ntmps85
   go_wp2_with fail
   go_ret
   exact ⟨ret_bool (by rw [HG.out]; rfl), box_bel HB⟩
  ·have hd1 : decide (g.ids.length < 1) = false := nat_lt1 (by omega)
   have hd1' : decide ((g.ids.length : Int) < 1) = false := int_lt1 (by omega)
   by_cases h2 : 24 < g.ids.length
   ·have hd2 : decide (24 < g.ids.length) = true := by simpa using h2
    clear hn
    go_enter Tryz.func85, Tryz.ntmps85
    go_wp2_with fail
    go_ret
    exact ⟨ret_bool (by rw [HG.out]; rfl), box_bel HB⟩
   ·have hd2 : decide (24 < g.ids.length) = false := by simpa using h2
    have hd3 : (g.ports.length != g.ids.length) = true := by simp; omega
    have hd3' : ((g.ports.length : Int) != (g.ids.length : Int)) = true := by simp; omega
    clear hn
    go_enter Tryz.func85, Tryz.ntmps85
    go_wp2_with fail
    go_ret
    exact ⟨ret_bool (by rw [HG.out]; rfl), box_bel HB⟩

theorem gmax_take_succ {l : List Int} {k : Nat} (h : k < l.length) : gmax (l.take (k + 1)) = max (gmax (l.take k)) l[k] := by
 unfold gmax
 rw [List.take_succ_eq_append_getElem h, List.foldl_append]; rfl

set_option maxRecDepth 100000 in
theorem slicesMax_any (A : Option Addr) (c : Nat) (ids : List Int) (w : World) (h : IntsR w A ids.length ids) (hl : ids.length ≤ 1000) (hp : 1 ≤ ids.length) (h0 : ∀ i ∈ ids, 0 ≤ i) :
  Calls Tryz.prog 111 #[.slice A ids.length c] w fun e w' => e = .returned (.int .i64 (gmax ids)) ∧ w = w' := by
 have H := Lib.hid h; clear h
 have hz : decide (ids.length < 1) = false := nat_lt1 hp
 have hz' : decide ((ids.length : Int) < 1) = false := int_lt1 hp
 obtain ⟨b, o, rfl, hb, hc⟩ := H.out.at_ 0 (by omega)
 have hpos : 0 < ids.length := by omega
 simp only [Nat.add_zero] at hc
 have HS : Hid (gmax (ids.take 1) = ids[0]) := by
  show gmax (ids.take 1) = ids[0]
  rw [gmax_take_succ (k := 0) (by omega)]
  have := h0 ids[0] (List.getElem_mem _)
  simp [gmax]; omega
 clear h0
 go_enter Tryz.func111, Tryz.ntmps111
 go_wp2
 clear hz hz' hc
 go_loopg [3, 4] (ids.length - 1) (fun m s z wr => ∃ j : Nat, j ≤ ids.length ∧ m = ids.length - j ∧ z = .int .i64 j ∧ s = .int .i64 (gmax (ids.take j)) ∧ w = wr)
 case atStart => exact ⟨1, by omega, rfl, rfl, by rw [HS.out], rfl⟩
 case round =>
  obtain ⟨j, hj, rfl, rfl, rfl, rfl⟩ := hrel
  by_cases hlt : j < ids.length
  ·have hd0 : decide (j < ids.length) = true := by simpa using hlt
   obtain ⟨b', o', e', _, hc⟩ := H.out.at_ j hlt
   obtain ⟨rfl, rfl⟩ : b = b' ∧ o = o' := by simpa using e'
   have HN := Lib.hid (gmax_take_succ hlt)
   generalize gmax (ids.take j) = G at *
   obtain ⟨m, hm, hm'⟩ := ite_max G ids[j]
   have HM := Lib.hid hm'
   clear hm' e'
   go_wp2
   go_roundg (ids.length - (j + 1))
   case rel => exact ⟨j + 1, by omega, rfl, by go_num, by rw [HN.out, ← HM.out], rfl⟩
   case measure => omega
  ·have hd0 : decide (j < ids.length) = false := by simpa using hlt
   go_wp2
   go_ret
   exact ⟨ret_int (by rw [List.take_of_length_le (by omega)]), rfl⟩

set_option maxRecDepth 100000 in
theorem greatest_any (v : Value) (g : Graph) (w : World) (h : GraphV w v g) (hl : g.ids.length ≤ 1000) :
  Calls Tryz.prog 97 #[v] w fun e w' => e = .returned (.int .i64 (gmax g.ids)) ∧ Bel w w' := by
 obtain ⟨A, k, A2, k2, rfl, hI, _, _, hP, _, _⟩ := h
 have H := Lib.hid hI; clear hI hP
 go_enter Tryz.func97, Tryz.ntmps97
 go_wp2
 go_loopg [3, 4] g.ids.length (fun m s z wr => ∃ j : Nat, j ≤ g.ids.length ∧ m = g.ids.length - j ∧ z = .int .i64 j ∧ s = .int .i64 (gmax (g.ids.take j)) ∧ w.alloc (.cells #[.slice A g.ids.length k, .slice A2 g.ports.length k2] 29) = wr)
 case atStart => exact ⟨0, by omega, rfl, rfl, rfl, rfl⟩
 case round =>
  obtain ⟨j, hj, rfl, rfl, rfl, rfl⟩ := hrel
  by_cases hlt : j < g.ids.length
  ·have hd0 : decide (j < g.ids.length) = true := by simpa using hlt
   obtain ⟨b, o, rfl, hb, hc⟩ := H.out.at_ j hlt
   have HN := Lib.hid (gmax_take_succ hlt)
   generalize gmax (g.ids.take j) = G at *
   obtain ⟨m, hm, hm'⟩ := ite_max G g.ids[j]
   have HM := Lib.hid hm'
   clear hm'
   go_wp2
   go_roundg (g.ids.length - (j + 1))
   case rel => exact ⟨j + 1, by omega, rfl, by go_num, by rw [HN.out, ← HM.out], rfl⟩
   case measure => omega
  ·have hd0 : decide (j < g.ids.length) = false := by simpa using hlt
   go_wp2
   go_ret
   exact ⟨ret_int (by rw [List.take_of_length_le (by omega)]), (Bel.refl _).alloc _⟩

end Go.Proofs.YtgemlgpjbclonaaGreatDoor

/- Contracts: the bounds of a variable. -/
namespace Go.Proofs.YtgemlgpjbclonaaGreatDoor
open Go.RowKit

def boundsF (x : Var) (g : Graph) (v : Nat) : Int × Int :=
 if x.kind = 2 then (0, 1) else if x.kind = 3 then (-1, ((g.ports.getD v []).length : Int) - 1) else (x.lo, x.hi + x.perNode * g.ids.length + x.perID * gmax g.ids)

theorem gmax_le255 {g : Graph} (hg : GOK g) : 0 ≤ gmax g.ids ∧ gmax g.ids ≤ 255 := ⟨gmax_nonneg _, gmax_le _ _ (by omega) (fun x hx => (hg.idr x hx).2)⟩
theorem mul_range {a b A B : Int} (h1 : 0 ≤ a) (h2 : a ≤ A) (h3 : 0 ≤ b) (h4 : b ≤ B) : 0 ≤ a * b ∧ a * b ≤ A * B :=
 ⟨Int.mul_nonneg h1 h3, Int.mul_le_mul h2 h4 h3 (by omega)⟩
theorem box3 {w wr : World} {cs ds es : Array Value} {t u s : TypeId} (h : Bel (((w.alloc (.cells cs t)).alloc (.cells ds u)).alloc (.cells es s)) wr) :
  (∀ i v, cs[i]? = some v → wr.cell? ⟨w.heap.size, i, none⟩ = some v) ∧ (∀ i v, ds[i]? = some v → wr.cell? ⟨w.heap.size + 1, i, none⟩ = some v) ∧ (∀ i v, es[i]? = some v → wr.cell? ⟨w.heap.size + 1 + 1, i, none⟩ = some v) ∧ w.heap.size + 1 + 1 < wr.heap.size := by
 have h2 := box2 (w := w.alloc (.cells cs t)) h
 simp only [World.size_alloc] at h2
 refine ⟨fun i v hv => ?_, h2.1, h2.2.1, h2.2.2⟩
 exact (h.cell (by simp; omega)).trans ((((Blk.new w cs t).alloc _).alloc _).cell i hv)
theorem box3v {w wr : World} {a0 a1 a2 a3 a4 a5 b0 b1 d0 d1 d2 d3 d4 d5 : Value} {t u s : TypeId} (h : Bel (((w.alloc (.cells #[a0, a1, a2, a3, a4, a5] t)).alloc (.cells #[b0, b1] u)).alloc (.cells #[d0, d1, d2, d3, d4, d5] s)) wr) :
  (wr.cell? ⟨w.heap.size, 0, none⟩ = some a0 ∧ wr.cell? ⟨w.heap.size, 1, none⟩ = some a1 ∧ wr.cell? ⟨w.heap.size, 2, none⟩ = some a2 ∧ wr.cell? ⟨w.heap.size, 3, none⟩ = some a3 ∧ wr.cell? ⟨w.heap.size, 4, none⟩ = some a4 ∧ wr.cell? ⟨w.heap.size, 5, none⟩ = some a5) ∧
  (wr.cell? ⟨w.heap.size + 1, 0, none⟩ = some b0 ∧ wr.cell? ⟨w.heap.size + 1, 1, none⟩ = some b1) ∧
  (wr.cell? ⟨w.heap.size + 1 + 1, 0, none⟩ = some d0 ∧ wr.cell? ⟨w.heap.size + 1 + 1, 1, none⟩ = some d1 ∧ wr.cell? ⟨w.heap.size + 1 + 1, 2, none⟩ = some d2 ∧ wr.cell? ⟨w.heap.size + 1 + 1, 3, none⟩ = some d3 ∧ wr.cell? ⟨w.heap.size + 1 + 1, 4, none⟩ = some d4 ∧ wr.cell? ⟨w.heap.size + 1 + 1, 5, none⟩ = some d5) ∧
  w.heap.size < wr.heap.size ∧ w.heap.size + 1 < wr.heap.size ∧ w.heap.size + 1 + 1 < wr.heap.size := by
 obtain ⟨c1, c2, c3, c4⟩ := box3 h
 exact ⟨⟨c1 0 _ rfl, c1 1 _ rfl, c1 2 _ rfl, c1 3 _ rfl, c1 4 _ rfl, c1 5 _ rfl⟩, ⟨c2 0 _ rfl, c2 1 _ rfl⟩, ⟨c3 0 _ rfl, c3 1 _ rfl, c3 2 _ rfl, c3 3 _ rfl, c3 4 _ rfl, c3 5 _ rfl⟩, by omega, by omega, c4⟩
theorem numbers_parts {x : Var} (h : numbersF x = true) : (x.kind = 2 ∧ x.lo = 0 ∧ x.hi = 0 ∧ x.perNode = 0 ∧ x.perID = 0) ∨ (x.kind = 3 ∧ x.lo = 0 ∧ x.hi = 0 ∧ x.perNode = 0 ∧ x.perID = 0) ∨ (x.kind = 1 ∧ (0 ≤ x.lo ∧ x.lo ≤ 4096) ∧ (0 ≤ x.perNode ∧ x.perNode ≤ 255) ∧ (0 ≤ x.perID ∧ x.perID ≤ 255) ∧ -4096 ≤ x.hi ∧ x.hi ≤ 4096) := by
 unfold numbersF at h
 have := of_decide_eq_true h
 omega

set_option maxRecDepth 100000 in
set_option maxHeartbeats 2000000 in
theorem bounds1_any (x : Var) (v2 : Value) (g : Graph) (i : Int) (w : World) (h2 : GraphV w v2 g) (hx : numbersF x = true) (hg : GOK g) :
  Calls Tryz.prog 110 #[varV x, v2, .int .i64 i] w fun e w' => e = .returned (.tuple #[.int .i64 x.lo, .int .i64 (x.hi + x.perNode * g.ids.length + x.perID * gmax g.ids)]) ∧ Bel w w' := by
 obtain ⟨A, k, A2, k2, rfl, hI, _, _, hP, _, _⟩ := h2
 have HI := Lib.hid (fun w' (k : Bel w w') => IntsR.keep hI k)
 have hb : (0 ≤ x.perNode ∧ x.perNode ≤ 255) ∧ (0 ≤ x.perID ∧ x.perID ≤ 255) ∧ -4096 ≤ x.hi ∧ x.hi ≤ 4096 := by
  rcases numbers_parts hx with h | h | h <;> omega
 have hle := hg.le
 have hids := hg.ids
 obtain ⟨g1, g2⟩ := gmax_le255 hg
 obtain ⟨m1, m2⟩ := mul_range hb.1.1 hb.1.2 (show (0 : Int) ≤ g.ids.length by omega) (show (g.ids.length : Int) ≤ 24 by omega)
 obtain ⟨m3, m4⟩ := mul_range hb.2.1.1 hb.2.1.2 g1 g2
 have w1 : IntKind.i64.wrap (x.perNode * (g.ids.length : Int)) = x.perNode * g.ids.length := IntWalk.i64_in _ (by omega)
 have w2 : IntKind.i64.wrap (x.hi + x.perNode * (g.ids.length : Int)) = x.hi + x.perNode * g.ids.length := IntWalk.i64_in _ (by omega)
 have w3 : IntKind.i64.wrap (x.perID * gmax g.ids) = x.perID * gmax g.ids := IntWalk.i64_in _ (by omega)
 have w4 : IntKind.i64.wrap (x.hi + x.perNode * (g.ids.length : Int) + x.perID * gmax g.ids) = x.hi + x.perNode * g.ids.length + x.perID * gmax g.ids := IntWalk.i64_in _ (by omega)
 have hpos : 1 ≤ g.ids.length := by have := hg.pos; omega
 have hn24 : g.ids.length ≤ 24 := by omega
 have HR := Lib.hid (fun i hi => (hg.idr i hi).1)
 clear hI hP hx hg m1 m2 m3 m4 hids hle
 obtain ⟨name, kind, lo, hi, pn, pi⟩ := x
 unfold varV
 dsimp only at *
 have HW := Bel.refl ((w.alloc (.cells #[.string name, .int .i64 kind, .int .i64 lo, .int .i64 hi, .int .i64 pn, .int .i64 pi] 85)).alloc (.cells #[.slice A g.ids.length k, .slice A2 g.ports.length k2] 29))
 have hcell := Lib.hid (fun w' (kk : Bel ((w.alloc (.cells #[.string name, .int .i64 kind, .int .i64 lo, .int .i64 hi, .int .i64 pn, .int .i64 pi] 85)).alloc (.cells #[.slice A g.ids.length k, .slice A2 g.ports.length k2] 29)) w') => And.intro ((box2 kk).1 2 _ rfl) (And.intro ((box2 kk).1 3 _ rfl) (And.intro ((box2 kk).1 4 _ rfl) (And.intro ((box2 kk).1 5 _ rfl) (And.intro ((box2 kk).2.1 0 _ rfl) (box2 kk).2.2)))))
 go_enter Tryz.func110, Tryz.ntmps110
 go_wp2
 replace HW := HW.drew
 go_region_held3 (fun w' => w'.cell? ⟨w.heap.size, 2, none⟩ = some (.int .i64 lo) ∧ w'.cell? ⟨w.heap.size, 3, none⟩ = some (.int .i64 hi) ∧ w'.cell? ⟨w.heap.size, 4, none⟩ = some (.int .i64 pn) ∧ w'.cell? ⟨w.heap.size, 5, none⟩ = some (.int .i64 pi) ∧ w'.cell? ⟨w.heap.size + 1, 0, none⟩ = some (.slice A g.ids.length k) ∧ w.heap.size + 1 < w'.heap.size) (exact hcell.out _ HW) (first | (go_simp; go_at_call 111; refine (slicesMax_any _ _ g.ids _ (HI.out _ (box2_bel HW)) (by omega) hpos HR.out).mono ?_; rintro e w' ⟨rfl, rfl⟩))
 go_wp2
 go_ret2
 exact ⟨rfl, box2_bel HW⟩
theorem bounds2_any (x : Var) (v2 : Value) (g : Graph) (i : Int) (w : World) (h2 : GraphV w v2 g) :
  Calls Tryz.prog 112 #[varV x, v2, .int .i64 i] w fun e w' => e = .returned (.tuple #[.int .i64 0, .int .i64 1]) ∧ Bel w w' := by
 obtain ⟨A, k, A2, k2, rfl, _, _, _, _, _, _⟩ := h2
 unfold varV
 go_enter Tryz.func112, Tryz.ntmps112
 go_wp2
 go_ret2
 exact ⟨rfl, ((Bel.refl _).alloc _).alloc _⟩
set_option maxRecDepth 100000 in
theorem bounds3_any (x : Var) (v2 : Value) (g : Graph) (i : Nat) (w : World) (h2 : GraphV w v2 g) (hi : i < g.ports.length) (hl : lightG g = true) :
  Calls Tryz.prog 113 #[varV x, v2, .int .i64 i] w fun e w' => e = .returned (.tuple #[.int .i64 (-1), .int .i64 ((g.ports[i].length : Int) - 1)]) ∧ Bel w w' := by
 obtain ⟨A, k, A2, k2, rfl, _, _, _, hP, _, _⟩ := h2
 obtain ⟨b, o, R, c1, rfl, hb, hc1, _, _, _⟩ := hP.at_ i hi
 obtain ⟨_, l2, l3⟩ := lightG_parts hl
 have hlen := l3 _ (List.getElem_mem hi)
 have hd : decide (i < g.ports.length) = true := by simpa using hi
 have hw : IntKind.i64.wrap ((g.ports[i].length : Int) - 1) = (g.ports[i].length : Int) - 1 := IntWalk.i64_in _ (by omega)
 clear hP l3 hl
 unfold varV
 go_enter Tryz.func113, Tryz.ntmps113
 go_wp2
 go_quiet (fail)
 go_wp2
 go_ret2
 exact ⟨rfl, (((Bel.refl _).alloc _).alloc _).drewN _⟩

set_option maxRecDepth 100000 in
set_option maxHeartbeats 2000000 in
theorem bounds_any (x : Var) (v2 : Value) (g : Graph) (i : Nat) (w : World) (h2 : GraphV w v2 g) (hx : numbersF x = true) (hg : GOK g) (hi : i < g.ports.length) (hl : lightG g = true) :
  Calls Tryz.prog 86 #[varV x, v2, .int .i64 i] w fun e w' => e = .returned (.tuple #[.int .i64 (boundsF x g i).1, .int .i64 (boundsF x g i).2]) ∧ Bel w w' := by
 have HGV := Lib.hid (fun w' (k : Bel w w') => h2.keep k)
 obtain ⟨A, k, A2, k2, rfl, hI, _, _, hP, _, _⟩ := h2
 have HX := Lib.hid hx
 have HG := Lib.hid hg
 have HL := Lib.hid hl
 have hk : x.kind = 1 ∨ x.kind = 2 ∨ x.kind = 3 := by rcases numbers_parts hx with h | h | h <;> omega
 have HF : Hid (boundsF x g i = if x.kind = 2 then (0, 1) else if x.kind = 3 then (-1, (g.ports[i].length : Int) - 1) else (x.lo, x.hi + x.perNode * g.ids.length + x.perID * gmax g.ids)) := by
  show boundsF x g i = _
  unfold boundsF
  rw [getD_eq hi]
 clear hI hP hx hg hl
 unfold varV
 go_enter Tryz.func86, Tryz.ntmps86
 go_wp2
 go_loopg [10, 17] 3 (fun m _y z wr => ∃ j : Nat, j < 3 ∧ m = 3 - j ∧ z = .int .i64 j ∧ (j : Int) + 1 ≤ x.kind ∧ Bel (((w.alloc (.cells #[.string x.name, .int .i64 x.kind, .int .i64 x.lo, .int .i64 x.hi, .int .i64 x.perNode, .int .i64 x.perID] 85)).alloc (.cells #[.slice A g.ids.length k, .slice A2 g.ports.length k2] 29)).alloc (.cells #[.int .i64 1, .func (.func 110) #[] #[], .int .i64 2, .func (.func 112) #[] #[], .int .i64 3, .func (.func 113) #[] #[]] 166)) wr)
 case atStart => exact ⟨0, by omega, rfl, rfl, by omega, Bel.refl _⟩
 case round =>
  obtain ⟨j, hj, rfl, rfl, hjk, HB⟩ := hrel
  obtain ⟨⟨x0, x1, x2, x3, x4, x5⟩, ⟨y0, y1⟩, ⟨z0, z1, z2, z3, z4, z5⟩, s1, s2, s3⟩ := box3v HB
  have HB0 : Bel w wr := box_bel (box_bel (box_bel HB))
  rcases (show j = 0 ∨ j = 1 ∨ j = 2 by omega) with rfl | rfl | rfl
  ·have HB2 := HB.alloc (.cells #[.int .i64 1, .func (.func 110) #[] #[]] 166)
   have HW2 := HB0.alloc (.cells #[.int .i64 1, .func (.func 110) #[] #[]] 166)
   by_cases hkk : x.kind = 1
   ·have hb1 : ((1 : Int) == x.kind) = true := by simp [hkk]
    rw [if_neg (by omega), if_neg (by omega)] at HF
    have HKK := Lib.hid hkk
    clear hkk hk hjk
    go_wp2_with (go_at_call 110; refine (bounds1_any x _ g _ _ (HGV.out _ HW2) HX.out HG.out).mono ?_; rintro e w' ⟨rfl, hb⟩; replace HW2 := HW2.trans hb; clear hb)
    go_ret2
    rw [HF.out]
    exact ⟨rfl, HW2⟩
   ·have hb1 : ((1 : Int) == x.kind) = false := by simp; omega
    go_wp2_with fail
    go_roundg 2
    case rel => exact ⟨1, by omega, rfl, rfl, by omega, HB2⟩
    case measure => omega
  ·have HB2 := HB.alloc (.cells #[.int .i64 2, .func (.func 112) #[] #[]] 166)
   have HW2 := HB0.alloc (.cells #[.int .i64 2, .func (.func 112) #[] #[]] 166)
   by_cases hkk : x.kind = 2
   ·have hb1 : ((2 : Int) == x.kind) = true := by simp [hkk]
    rw [if_pos hkk] at HF
    have HKK := Lib.hid hkk
    clear hkk hk hjk
    go_wp2_with (go_at_call 112; refine (bounds2_any x _ g _ _ (HGV.out _ HW2)).mono ?_; rintro e w' ⟨rfl, hb⟩; replace HW2 := HW2.trans hb; clear hb)
    go_ret2
    rw [HF.out]
    exact ⟨rfl, HW2⟩
   ·have hb1 : ((2 : Int) == x.kind) = false := by simp; omega
    go_wp2_with fail
    go_roundg 1
    case rel => exact ⟨2, by omega, rfl, rfl, by omega, HB2⟩
    case measure => omega
  ·have hkk : x.kind = 3 := by omega
   have HW2 := HB0.alloc (.cells #[.int .i64 3, .func (.func 113) #[] #[]] 166)
   have hb1 : ((3 : Int) == x.kind) = true := by simp [hkk]
   rw [if_neg (by omega), if_pos hkk] at HF
   have HKK := Lib.hid hkk
   clear hkk hk hjk
   go_wp2_with (go_at_call 113; refine (bounds3_any x _ g i _ (HGV.out _ HW2) hi HL.out).mono ?_; rintro e w' ⟨rfl, hb⟩; replace HW2 := HW2.trans hb; clear hb)
   go_ret2
   rw [HF.out]
   exact ⟨rfl, HW2⟩

set_option maxRecDepth 100000 in
set_option maxHeartbeats 2000000 in
theorem ends_any (v : Value) (p : Prg) (v2 : Value) (g : Graph) (i q : Nat) (w : World) (h : PrgV w v p) (h2 : GraphV w v2 g) (hq : q < p.vars.length) (hx : numbersF p.vars[q] = true) (hg : GOK g) (hi : i < g.ports.length) (hl : lightG g = true) :
  Calls Tryz.prog 75 #[v, v2, .int .i64 i, .int .i64 q] w fun e w' => e = .returned (.tuple #[.int .i64 (boundsF p.vars[q] g i).1, .int .i64 (boundsF p.vars[q] g i).2]) ∧ Bel w w' := by
 have HGV := Lib.hid (fun w' (k : Bel w w') => h2.keep k)
 obtain ⟨A, k, A2, k2, rfl, hV, _, _, _, _, _⟩ := h
 obtain ⟨A3, k3, A4, k4, rfl, _, _, _, hP, _, _⟩ := h2
 obtain ⟨b, o, rfl, hb, c0, c1, c2, c3, c4, c5⟩ := hV.at_ q hq
 have hd0 : decide (q < p.vars.length) = true := by simpa using hq
 have HF : Hid (boundsF p.vars[q] g i = if p.vars[q].kind = 2 then (0, 1) else if p.vars[q].kind = 3 then (-1, (g.ports[i].length : Int) - 1) else (p.vars[q].lo, p.vars[q].hi + p.vars[q].perNode * g.ids.length + p.vars[q].perID * gmax g.ids)) := by
  show boundsF p.vars[q] g i = _
  unfold boundsF
  rw [getD_eq hi]
 have HNP := Lib.hid (numbers_parts hx)
 have HW := Bel.refl ((w.alloc (.cells #[.string p.name, .slice (some ⟨b, o, none⟩) p.vars.length k, .slice A2 p.rules.length k2] 25)).alloc (.cells #[.slice A3 g.ids.length k3, .slice A4 g.ports.length k4] 29))
 by_cases hk2 : p.vars[q].kind = 2
 ·have e1 : (p.vars[q].kind == 2) = true := by simpa using hk2
  rw [if_pos hk2] at HF
  have HK := Lib.hid hk2
  clear hk2 hV hP
  go_enter Tryz.func75, Tryz.ntmps75
  go_wp2
  go_ret2
  rw [HF.out]
  exact ⟨rfl, box2_bel HW⟩
 ·have e1 : (p.vars[q].kind == 2) = false := by simpa using hk2
  rw [if_neg hk2] at HF
  by_cases hk3 : p.vars[q].kind = 3
  ·have e2 : (p.vars[q].kind == 3) = true := by simpa using hk3
   rw [if_pos hk3] at HF
   have HK := Lib.hid hk3
   obtain ⟨b', o', R, r1, rfl, hb', hc1, _, _, _⟩ := hP.at_ i hi
   obtain ⟨_, l2, l3⟩ := lightG_parts hl
   have hlen := l3 _ (List.getElem_mem hi)
   have hd : decide (i < g.ports.length) = true := by simpa using hi
   have hw : IntKind.i64.wrap ((g.ports[i].length : Int) - 1) = (g.ports[i].length : Int) - 1 := IntWalk.i64_in _ (by omega)
   clear hk3 hk2 hV hP l3
   go_enter Tryz.func75, Tryz.ntmps75
   go_wp2
   go_quiet (fail)
   go_wp2
   go_ret2
   rw [HF.out]
   exact ⟨rfl, (box2_bel HW).drewN _⟩
  ·have e2 : (p.vars[q].kind == 3) = false := by simpa using hk3
   rw [if_neg hk3] at HF
   have hb3 : (0 ≤ p.vars[q].perNode ∧ p.vars[q].perNode ≤ 255) ∧ (0 ≤ p.vars[q].perID ∧ p.vars[q].perID ≤ 255) ∧ -4096 ≤ p.vars[q].hi ∧ p.vars[q].hi ≤ 4096 := by
    rcases HNP.out with h | h | h <;> omega
   have hle := hg.le
   have hids := hg.ids
   obtain ⟨g1, g2⟩ := gmax_le255 hg
   obtain ⟨m1, m2⟩ := mul_range hb3.1.1 hb3.1.2 (show (0 : Int) ≤ g.ports.length by omega) (show (g.ports.length : Int) ≤ 24 by omega)
   obtain ⟨m3, m4⟩ := mul_range hb3.2.1.1 hb3.2.1.2 g1 g2
   rw [hids] at HF
   have w1 : IntKind.i64.wrap (p.vars[q].perNode * (g.ports.length : Int)) = p.vars[q].perNode * g.ports.length := IntWalk.i64_in _ (by omega)
   have w2 : IntKind.i64.wrap (p.vars[q].hi + p.vars[q].perNode * (g.ports.length : Int)) = p.vars[q].hi + p.vars[q].perNode * g.ports.length := IntWalk.i64_in _ (by omega)
   have w3 : IntKind.i64.wrap (p.vars[q].perID * gmax g.ids) = p.vars[q].perID * gmax g.ids := IntWalk.i64_in _ (by omega)
   have w4 : IntKind.i64.wrap (p.vars[q].hi + p.vars[q].perNode * (g.ports.length : Int) + p.vars[q].perID * gmax g.ids) = p.vars[q].hi + p.vars[q].perNode * g.ports.length + p.vars[q].perID * gmax g.ids := IntWalk.i64_in _ (by omega)
   have hl1000 : g.ids.length ≤ 1000 := by omega
   have hcell := Lib.hid (fun w' (kk : Bel ((w.alloc (.cells #[.string p.name, .slice (some ⟨b, o, none⟩) p.vars.length k, .slice A2 p.rules.length k2] 25)).alloc (.cells #[.slice A3 g.ids.length k3, .slice A4 g.ports.length k4] 29)) w') => And.intro ((pgbox kk).2.1) (And.intro ((pgbox kk).2.2.2.1) (And.intro ((pgbox kk).2.2.2.2.1) (And.intro (((box2_bel kk).cell hb).trans c2) (And.intro (((box2_bel kk).cell hb).trans c3) (And.intro (((box2_bel kk).cell hb).trans c4) (And.intro (((box2_bel kk).cell hb).trans c5) ((pgbox kk).2.2.2.2.2))))))))
   clear hk3 hk2 hV hP m1 m2 m3 m4 hids hle hg hx hb3
   generalize hvq : p.vars[q] = x at *
   clear hvq
   go_enter Tryz.func75, Tryz.ntmps75
   go_wp2
   replace HW := HW.drew
   go_region_held3 (fun w' => w'.cell? ⟨w.heap.size, 1, none⟩ = some (.slice (some ⟨b, o, none⟩) p.vars.length k) ∧ w'.cell? ⟨w.heap.size + 1, 0, none⟩ = some (.slice A3 g.ids.length k3) ∧ w'.cell? ⟨w.heap.size + 1, 1, none⟩ = some (.slice A4 g.ports.length k4) ∧ w'.cell? ⟨b, o + q * 6 + 2, none⟩ = some (.int .i64 x.lo) ∧ w'.cell? ⟨b, o + q * 6 + 3, none⟩ = some (.int .i64 x.hi) ∧ w'.cell? ⟨b, o + q * 6 + 4, none⟩ = some (.int .i64 x.perNode) ∧ w'.cell? ⟨b, o + q * 6 + 5, none⟩ = some (.int .i64 x.perID) ∧ w.heap.size + 1 < w'.heap.size) (exact hcell.out _ HW) (first | (go_simp; go_at_call 97; refine (greatest_any _ g _ (HGV.out _ (box2_bel HW)) hl1000).mono ?_; rintro e w' ⟨rfl, hbb⟩; replace HW := HW.trans hbb; clear hbb))
   go_wp2
   go_ret2
   rw [HF.out]
   exact ⟨rfl, box2_bel HW⟩

end Go.Proofs.YtgemlgpjbclonaaGreatDoor

/- Contracts: Fits, of the program and of the reference. -/
namespace Go.Proofs.YtgemlgpjbclonaaGreatDoor
open Go.RowKit

def fitsVar (g : Graph) (x : Var) : Bool := decide (x.kind ≠ 1 ∨ ((boundsF x g 0).1 ≤ (boundsF x g 0).2 ∧ (boundsF x g 0).2 - (boundsF x g 0).1 + 1 ≤ 4096))
def fitsF (p : Prg) (g : Graph) : Int :=
 if checkF p ≠ 0 then 8 else if graphB g = false then 1 else if p.vars.all (fitsVar g) = false then 9 else 0
theorem bounds_small {x : Var} {g : Graph} {v : Nat} (hx : numbersF x = true) (hg : GOK g) (hv : v < g.ports.length) : -4096 ≤ (boundsF x g v).1 ∧ (boundsF x g v).1 ≤ 4096 ∧ -4096 ≤ (boundsF x g v).2 ∧ (boundsF x g v).2 ≤ 80000 := by
 have hle := hg.le
 have hids := hg.ids
 obtain ⟨g1, g2⟩ := gmax_le255 hg
 have hlen := linksOK_len hv (hg.links v hv)
 unfold boundsF
 rw [getD_eq hv]
 rcases numbers_parts hx with h | h | h
 ·rw [if_pos h.1]; simp
 ·rw [if_neg (by omega), if_pos h.1]; simp; omega
 ·rw [if_neg (by omega), if_neg (by omega)]
  obtain ⟨_, a1, a2, a3, a4, a5⟩ := h
  obtain ⟨m1, m2⟩ := mul_range a2.1 a2.2 (show (0 : Int) ≤ g.ids.length by omega) (show (g.ids.length : Int) ≤ 24 by omega)
  obtain ⟨m3, m4⟩ := mul_range a3.1 a3.2 g1 g2
  simp only []
  omega
theorem check_numbers {p : Prg} (h : checkF p = 0) : p.vars.all numbersF = true ∧ 1 ≤ p.vars.length ∧ p.vars.length ≤ 6 ∧ p.rules.length ≤ 12 ∧ namedF p = true ∧ (∀ r ∈ p.rules, FOK p.vars.length r) ∧ (∀ r ∈ p.rules, typedF (kindsF p) r = true) := by
 unfold checkF at h
 split at h
 ·cases h
 ·rename_i hn
  split at h
  ·cases h
  ·rename_i h1
   split at h
   ·cases h
   ·rename_i h2
    split at h
    ·cases h
    ·rename_i h3
     split at h
     ·cases h
     ·rename_i h4
      refine ⟨by simpa using h2, by omega, by omega, by omega, by simpa using h1, fun r hr => ?_, fun r hr => ?_⟩
      ·exact (formedF_iff _ _).1 (List.all_eq_true.1 (by simpa using h3 : p.rules.all (formedF p.vars.length) = true) r hr)
      ·exact List.all_eq_true.1 (by simpa using h4 : p.rules.all (typedF (kindsF p)) = true) r hr

set_option maxRecDepth 100000 in
set_option maxHeartbeats 4000000 in
theorem fits_any (v : Value) (p : Prg) (v2 : Value) (g : Graph) (w : World) (h : PrgV w v p) (h2 : GraphV w v2 g) (hL : lightP p = true) (hG : lightG g = true) :
  Calls Tryz.prog 61 #[v, v2] w fun e w' => e = .returned (.int .i64 (fitsF p g)) ∧ Bel w w' := by
 have HPV := Lib.hid (fun w' (k : Bel w w') => h.keep k)
 have HGV := Lib.hid (fun w' (k : Bel w w') => h2.keep k)
 obtain ⟨A, k, A2, k2, rfl, hV, _, _, _, _, _⟩ := h
 obtain ⟨A3, k3, A4, k4, rfl, _, _, _, _, _, _⟩ := h2
 have HV := Lib.hid (fun w' (k : Bel w w') => VarsR.keep hV k); clear hV
 have HL := Lib.hid hL
 have HGL := Lib.hid hG
 clear hL hG
 have HW := Bel.refl ((w.alloc (.cells #[.string p.name, .slice A p.vars.length k, .slice A2 p.rules.length k2] 25)).alloc (.cells #[.slice A3 g.ids.length k3, .slice A4 g.ports.length k4] 29))
 have HF : Hid (fitsF p g = if checkF p ≠ 0 then 8 else if graphB g = false then 1 else if p.vars.all (fitsVar g) = false then 9 else 0) := rfl
 by_cases hc : checkF p = 0
 ·have hcb : decide (checkF p = 0) = true := by simpa using hc
  rw [if_neg (by simpa using hc)] at HF
  have HCN := Lib.hid (check_numbers hc)
  have HCB := Lib.hid hcb
  clear hc hcb
  have hn6 := HCN.out.2.2.1
  cases hg : graphB g with
  | false =>
   rw [hg, if_pos rfl] at HF
   go_enter Tryz.func61, Tryz.ntmps61
   go_wp2_with (first
    | (go_at_call 84; refine (prgValid_any _ p _ (HPV.out _ (box2_bel HW)) HL.out).mono ?_; rintro e w' ⟨rfl, hb⟩; rw [HCB.out]; replace HW := HW.trans hb; clear hb; obtain ⟨p0, p1, p2, g0, g1, gsz⟩ := pgbox HW)
    | (go_at_call 85; refine (graphValid_any _ g _ (HGV.out _ (box2_bel HW)) HGL.out).mono ?_; rintro e w' ⟨rfl, hb⟩; rw [hg]; replace HW := HW.trans hb; clear hb))
   go_ret
   exact ⟨ret_int HF.out.symm, box2_bel HW⟩
  | true =>
   rw [hg, if_neg (by decide)] at HF
   have HGG := Lib.hid hg
   have HGO := Lib.hid ((graphB_iff g).1 hg)
   clear hg
   go_enter Tryz.func61, Tryz.ntmps61
   go_wp2_with (first
    | (go_at_call 84; refine (prgValid_any _ p _ (HPV.out _ (box2_bel HW)) HL.out).mono ?_; rintro e w' ⟨rfl, hb⟩; rw [HCB.out]; replace HW := HW.trans hb; clear hb; obtain ⟨p0, p1, p2, g0, g1, gsz⟩ := pgbox HW)
    | (go_at_call 85; refine (graphValid_any _ g _ (HGV.out _ (box2_bel HW)) HGL.out).mono ?_; rintro e w' ⟨rfl, hb⟩; rw [HGG.out]; replace HW := HW.trans hb; clear hb p0 p1 p2 g0 g1 gsz; obtain ⟨p0, p1, p2, g0, g1, gsz⟩ := pgbox HW))
   clear p0 p1 p2 g0 g1 gsz
   go_loopg [6, 7, 8, 18] p.vars.length (fun m _x _y _u z wr => ∃ j : Nat, j ≤ p.vars.length ∧ m = p.vars.length - j ∧ z = .int .i64 j ∧ Hid ((p.vars.take j).all (fitsVar g) = true) ∧ Bel ((w.alloc (.cells #[.string p.name, .slice A p.vars.length k, .slice A2 p.rules.length k2] 25)).alloc (.cells #[.slice A3 g.ids.length k3, .slice A4 g.ports.length k4] 29)) wr)
   case atStart => exact ⟨0, by omega, rfl, rfl, rfl, HW⟩
   case round =>
    clear HW
    obtain ⟨i, hi, rfl, rfl, HJ, HW⟩ := hrel
    by_cases hlt : i < p.vars.length
    ·have hd0 : decide (i < p.vars.length) = true := by simpa using hlt
     obtain ⟨p0, p1, p2, g0, g1, gsz⟩ := pgbox HW
     obtain ⟨b, o, rfl, hb, c0, c1, c2, c3, c4, c5⟩ := (HV.out _ (box2_bel HW)).at_ i hlt
     have HNX := Lib.hid (List.all_eq_true.1 HCN.out.1 _ (List.getElem_mem hlt))
     have hpos : 0 < g.ports.length := HGO.out.pos
     have hbs := bounds_small HNX.out HGO.out hpos
     have HFV : Hid (fitsVar g p.vars[i] = decide (p.vars[i].kind ≠ 1 ∨ ((boundsF p.vars[i] g 0).1 ≤ (boundsF p.vars[i] g 0).2 ∧ (boundsF p.vars[i] g 0).2 - (boundsF p.vars[i] g 0).1 + 1 ≤ 4096))) := rfl
     have HW2 := HW.alloc (.cells #[.string p.vars[i].name, .int .i64 p.vars[i].kind, .int .i64 p.vars[i].lo, .int .i64 p.vars[i].hi, .int .i64 p.vars[i].perNode, .int .i64 p.vars[i].perID] 85)
     by_cases hk : p.vars[i].kind = 1
     ·have hkb : (p.vars[i].kind != 1) = false := by simpa using hk
      have HK := Lib.hid hk
      clear hk
      generalize hbd : boundsF p.vars[i] g 0 = B at *
      have HBD := Lib.hid hbd; clear hbd
      obtain ⟨lo, hi'⟩ := B
      dsimp only at hbs HFV
      by_cases hok : lo ≤ hi' ∧ hi' - lo + 1 ≤ 4096
      ·have d1 : decide (hi' < lo) = false := by simp; omega
       have d2 : decide (4096 < hi' - lo + 1) = false := by simp; omega
       have HN := Lib.hid (all_take_succ hlt HJ.out (by rw [HFV.out]; simp; omega))
       go_wp2_with (go_at_call 86; refine (bounds_any p.vars[i] _ g 0 _ (HGV.out _ (box2_bel HW2)) HNX.out HGO.out hpos HGL.out).mono ?_; rintro e w' ⟨rfl, hb⟩; rw [HBD.out]; replace HW2 := HW2.trans hb; clear hb)
       go_roundg (p.vars.length - (i + 1))
       case rel => exact ⟨i + 1, by omega, rfl, by go_num, HN, HW2⟩
       case measure => omega
      ·rw [all_false_at hlt (by rw [HFV.out, decide_eq_false]; have := HK.out; omega), if_pos rfl] at HF
       by_cases d1 : hi' < lo
       ·have d1 : decide (hi' < lo) = true := by simpa using d1
        clear hok
        go_wp2_with (go_at_call 86; refine (bounds_any p.vars[i] _ g 0 _ (HGV.out _ (box2_bel HW2)) HNX.out HGO.out hpos HGL.out).mono ?_; rintro e w' ⟨rfl, hb⟩; rw [HBD.out]; replace HW2 := HW2.trans hb; clear hb)
        go_ret
        exact ⟨ret_int HF.out.symm, box2_bel HW2⟩
       ·have d2 : decide (4096 < hi' - lo + 1) = true := by simp; omega
        have d1 : decide (hi' < lo) = false := by simpa using d1
        clear hok
        go_wp2_with (go_at_call 86; refine (bounds_any p.vars[i] _ g 0 _ (HGV.out _ (box2_bel HW2)) HNX.out HGO.out hpos HGL.out).mono ?_; rintro e w' ⟨rfl, hb⟩; rw [HBD.out]; replace HW2 := HW2.trans hb; clear hb)
        go_ret
        exact ⟨ret_int HF.out.symm, box2_bel HW2⟩
     ·have hkb : (p.vars[i].kind != 1) = true := by simpa using hk
      have HN := Lib.hid (all_take_succ hlt HJ.out (by rw [HFV.out]; simp [hk]))
      go_wp2_with fail
      go_roundg (p.vars.length - (i + 1))
      case rel => exact ⟨i + 1, by omega, rfl, by go_num, HN, HW2⟩
      case measure => omega
    ·have hd0 : decide (i < p.vars.length) = false := by simpa using hlt
     rw [all_of_take (by omega) HJ.out, if_neg (by decide)] at HF
     go_wp2_with fail
     go_ret
     exact ⟨ret_int HF.out.symm, box2_bel HW⟩
 ·have hcb : decide (checkF p = 0) = false := by simpa using hc
  rw [if_pos hc] at HF
  have HCB := Lib.hid hcb
  clear hc hcb
  go_enter Tryz.func61, Tryz.ntmps61
  go_wp2_with (go_at_call 84; refine (prgValid_any _ p _ (HPV.out _ (box2_bel HW)) HL.out).mono ?_; rintro e w' ⟨rfl, hb⟩; rw [HCB.out]; replace HW := HW.trans hb; clear hb)
  go_ret
  exact ⟨ret_int HF.out.symm, box2_bel HW⟩

set_option maxRecDepth 100000 in
set_option maxHeartbeats 4000000 in
theorem refFits_any (v : Value) (p : Prg) (v2 : Value) (g : Graph) (w : World) (h : PrgV w v p) (h2 : GraphV w v2 g) (hL : lightP p = true) (hG : lightG g = true) :
  Calls Tryz.prog 43 #[v, v2] w fun e w' => e = .returned (.int .i64 (fitsF p g)) ∧ Bel w w' := by
 have HPV := Lib.hid (fun w' (k : Bel w w') => h.keep k)
 have HGV := Lib.hid (fun w' (k : Bel w w') => h2.keep k)
 obtain ⟨A, k, A2, k2, rfl, hV, _, _, _, _, _⟩ := h
 obtain ⟨A3, k3, A4, k4, rfl, _, _, _, _, _, _⟩ := h2
 have HV := Lib.hid (fun w' (k : Bel w w') => VarsR.keep hV k); clear hV
 have HL := Lib.hid hL
 have HGL := Lib.hid hG
 clear hL hG
 have HW := Bel.refl ((w.alloc (.cells #[.string p.name, .slice A p.vars.length k, .slice A2 p.rules.length k2] 25)).alloc (.cells #[.slice A3 g.ids.length k3, .slice A4 g.ports.length k4] 29))
 have HF : Hid (fitsF p g = if checkF p ≠ 0 then 8 else if graphB g = false then 1 else if p.vars.all (fitsVar g) = false then 9 else 0) := rfl
 by_cases hc : checkF p = 0
 ·have hcb : decide (checkF p = 0) = true := by simpa using hc
  rw [if_neg (by simpa using hc)] at HF
  have HCN := Lib.hid (check_numbers hc)
  have HCB := Lib.hid hcb
  clear hc hcb
  have hn6 := HCN.out.2.2.1
  cases hg : graphB g with
  | false =>
   rw [hg, if_pos rfl] at HF
   go_enter Tryz.func43, Tryz.ntmps43
   go_wp2_with (first
    | (go_at_call 77; refine (refPrgValid_any _ p _ (HPV.out _ (box2_bel HW)) HL.out).mono ?_; rintro e w' ⟨rfl, hb⟩; rw [HCB.out]; replace HW := HW.trans hb; clear hb; obtain ⟨p0, p1, p2, g0, g1, gsz⟩ := pgbox HW)
    | (go_at_call 56; refine (refGraphValid_any _ g _ (HGV.out _ (box2_bel HW)) HGL.out).mono ?_; rintro e w' ⟨rfl, hb⟩; rw [hg]; replace HW := HW.trans hb; clear hb))
   go_ret
   exact ⟨ret_int HF.out.symm, box2_bel HW⟩
  | true =>
   rw [hg, if_neg (by decide)] at HF
   have HGG := Lib.hid hg
   have HGO := Lib.hid ((graphB_iff g).1 hg)
   clear hg
   go_enter Tryz.func43, Tryz.ntmps43
   go_wp2_with (first
    | (go_at_call 77; refine (refPrgValid_any _ p _ (HPV.out _ (box2_bel HW)) HL.out).mono ?_; rintro e w' ⟨rfl, hb⟩; rw [HCB.out]; replace HW := HW.trans hb; clear hb; obtain ⟨p0, p1, p2, g0, g1, gsz⟩ := pgbox HW)
    | (go_at_call 56; refine (refGraphValid_any _ g _ (HGV.out _ (box2_bel HW)) HGL.out).mono ?_; rintro e w' ⟨rfl, hb⟩; rw [HGG.out]; replace HW := HW.trans hb; clear hb p0 p1 p2 g0 g1 gsz; obtain ⟨p0, p1, p2, g0, g1, gsz⟩ := pgbox HW))
   clear p0 p1 p2 g0 g1 gsz
   go_loopg [5, 6, 7] p.vars.length (fun m z _y _u wr => ∃ j : Nat, j ≤ p.vars.length ∧ m = p.vars.length - j ∧ z = .int .i64 j ∧ Hid ((p.vars.take j).all (fitsVar g) = true) ∧ Bel ((w.alloc (.cells #[.string p.name, .slice A p.vars.length k, .slice A2 p.rules.length k2] 25)).alloc (.cells #[.slice A3 g.ids.length k3, .slice A4 g.ports.length k4] 29)) wr)
   case atStart => exact ⟨0, by omega, rfl, rfl, rfl, HW⟩
   case round =>
    clear HW
    obtain ⟨i, hi, rfl, rfl, HJ, HW⟩ := hrel
    obtain ⟨p0, p1, p2, g0, g1, gsz⟩ := pgbox HW
    by_cases hlt : i < p.vars.length
    ·have hd0 : decide (i < p.vars.length) = true := by simpa using hlt
     have HNX := Lib.hid (List.all_eq_true.1 HCN.out.1 _ (List.getElem_mem hlt))
     have hpos : 0 < g.ports.length := HGO.out.pos
     have hbs := bounds_small HNX.out HGO.out hpos
     have HFV : Hid (fitsVar g p.vars[i] = decide (p.vars[i].kind ≠ 1 ∨ ((boundsF p.vars[i] g 0).1 ≤ (boundsF p.vars[i] g 0).2 ∧ (boundsF p.vars[i] g 0).2 - (boundsF p.vars[i] g 0).1 + 1 ≤ 4096))) := rfl
     generalize hbd : boundsF p.vars[i] g 0 = B at *
     have HBD := Lib.hid hbd; clear hbd
     obtain ⟨lo, hi'⟩ := B
     dsimp only at hbs HFV
     go_wp2_with fail
     refine (ends_any _ p _ g 0 i _ (HPV.out _ (box2_bel HW)) (HGV.out _ (box2_bel HW)) hlt HNX.out HGO.out hpos HGL.out).mono ?_
     rintro e w' ⟨rfl, hb⟩
     rw [HBD.out]
     replace HW := HW.trans hb
     clear hb p0 p1 p2 g0 g1 gsz
     obtain ⟨p0, p1, p2, g0, g1, gsz⟩ := pgbox HW
     obtain ⟨b, o, rfl, hb, c0, c1, c2, c3, c4, c5⟩ := (HV.out _ (box2_bel HW)).at_ i hlt
     dsimp only
     by_cases hk : p.vars[i].kind = 1
     ·have hkb : (p.vars[i].kind == 1) = true := by simpa using hk
      have HK := Lib.hid hk
      clear hk
      by_cases hok : lo ≤ hi' ∧ hi' - lo + 1 ≤ 4096
      ·have d1 : inB (hi' - lo) 0 4095 = true := inB_true (by omega) (by omega)
       have HN := Lib.hid (all_take_succ hlt HJ.out (by rw [HFV.out]; simp; omega))
       go_wp2_with (go_at_call 45; refine (in01_any _ _ _ _).mono ?_; rintro e w' ⟨rfl, rfl⟩)
       go_roundg (p.vars.length - (i + 1))
       case rel => exact ⟨i + 1, by omega, rfl, by go_num, HN, HW⟩
       case measure => omega
      ·rw [all_false_at hlt (by rw [HFV.out, decide_eq_false]; have := HK.out; omega), if_pos rfl] at HF
       have d1 : inB (hi' - lo) 0 4095 = false := inB_false (by omega)
       clear hok
       go_wp2_with (go_at_call 45; refine (in01_any _ _ _ _).mono ?_; rintro e w' ⟨rfl, rfl⟩)
       go_ret
       exact ⟨ret_int HF.out.symm, box2_bel HW⟩
     ·have hkb : (p.vars[i].kind == 1) = false := by simpa using hk
      have HN := Lib.hid (all_take_succ hlt HJ.out (by rw [HFV.out]; simp [hk]))
      go_wp2_with fail
      go_roundg (p.vars.length - (i + 1))
      case rel => exact ⟨i + 1, by omega, rfl, by go_num, HN, HW⟩
      case measure => omega
    ·have hd0 : decide (i < p.vars.length) = false := by simpa using hlt
     rw [all_of_take (by omega) HJ.out, if_neg (by decide)] at HF
     go_wp2_with fail
     go_ret
     exact ⟨ret_int HF.out.symm, box2_bel HW⟩
 ·have hcb : decide (checkF p = 0) = false := by simpa using hc
  rw [if_pos hc] at HF
  have HCB := Lib.hid hcb
  clear hc hcb
  go_enter Tryz.func43, Tryz.ntmps43
  go_wp2_with (go_at_call 77; refine (refPrgValid_any _ p _ (HPV.out _ (box2_bel HW)) HL.out).mono ?_; rintro e w' ⟨rfl, hb⟩; rw [HCB.out]; replace HW := HW.trans hb; clear hb)
  go_ret
  exact ⟨ret_int HF.out.symm, box2_bel HW⟩

end Go.Proofs.YtgemlgpjbclonaaGreatDoor

