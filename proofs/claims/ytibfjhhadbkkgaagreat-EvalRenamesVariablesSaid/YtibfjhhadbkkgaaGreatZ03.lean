/- Merged of: W11c W11d L11a P05b (see NOTES.md). -/
import Derived.Test.YtibfjhhadbkkgaaGreatZ02
import Derived.Test.YtibfjhhadbkkgaaGreatZ01
set_option linter.unusedSimpArgs false
set_option linter.unnecessarySimpa false
set_option linter.unusedVariables false

/- Contracts of the aggregates of layer 11, of the program and of the reference. -/
namespace Go.Proofs.YtibfjhhadbkkgaaGreat
open Go.RowKit

theorem ite_min (a b : Int) : ∃ m, (if b < a then b else a) = m ∧ m = min a b := ⟨_, rfl, by split <;> omega⟩
theorem ite_max (a b : Int) : ∃ m, (if a < b then b else a) = m ∧ m = max a b := ⟨_, rfl, by split <;> omega⟩
theorem sum_bound (l : List Int) (h : ∀ x ∈ l, Num x) : ∀ s : Int, s - 1073741824 * l.length ≤ l.foldl (· + ·) s ∧ l.foldl (· + ·) s ≤ s + 1073741824 * l.length := by
  induction l with
  | nil => intro s; simp
  | cons x l ih =>
    intro s
    have hx := h x (by simp)
    unfold Num at hx
    have := ih (fun y hy => h y (by simp [hy])) (s + x)
    simp only [List.foldl_cons, List.length_cons]
    omega

theorem fold1_any (a : Int) (w : World) : Calls Tryz.prog 128 #[.int .i64 a] w fun e w' => e = .returned (.bool (a != 0)) ∧ w = w' := by
  go_enter Tryz.func128, Tryz.ntmps128
  go_wp2
  go_ret
  exact ⟨rfl, rfl⟩

set_option maxRecDepth 100000 in
set_option maxHeartbeats 1000000 in
theorem count_any (A : Option Addr) (n c : Nat) (l : List Int) (w : World) (h : IntsR w A n l) (hl : n ≤ 1000) :
    Calls Tryz.prog 126 #[.slice A n c] w fun e w' => e = .returned (.int .i64 (countF l)) ∧ w = w' := by
  obtain rfl := h.1
  have H := Lib.hid h; clear h
  go_enter Tryz.func126, Tryz.ntmps126
  go_wp2_with fail
  go_loopg [3, 8] l.length (fun g cv iv wr => ∃ (k : Nat) (z : Int), k + g = l.length ∧ 0 ≤ z ∧ z ≤ k ∧ Hid (z + countF (l.drop k) = countF l) ∧ cv = .int .i64 z ∧ iv = .int .i64 k ∧ w = wr)
  case atStart => exact ⟨0, 0, by omega, by omega, by omega, by show _ = _; simp, rfl, rfl, rfl⟩
  case round =>
    obtain ⟨k, z, hk, hz0, hz1, HZ, rfl, rfl, rfl⟩ := hrel
    by_cases hlt : k < l.length
    · obtain ⟨b, o, rfl, hb, hc⟩ := H.out.at_ k hlt
      have hstep : Hid (countF (l.drop k) = (if l[k] = 0 then 0 else 1) + countF (l.drop (k + 1))) := by
        show countF (l.drop k) = _
        rw [List.drop_eq_getElem_cons hlt, countF_cons]
      by_cases h0 : l[k] = 0
      · have hz : (l[k] != 0) = false := by simpa using h0
        have HZ2 : Hid (z + countF (l.drop (k + 1)) = countF l) := by show _ = _; rw [← HZ.out, hstep.out, if_pos h0]; omega
        clear h0
        go_wp2_with fail
        go_roundg (gk - 1)
        case rel => exact ⟨k + 1, z, by omega, by omega, by omega, HZ2, rfl, by go_num, rfl⟩
        case measure => omega
      · have hz : (l[k] != 0) = true := by simpa using h0
        have HZ2 : Hid (z + 1 + countF (l.drop (k + 1)) = countF l) := by show _ = _; rw [← HZ.out, hstep.out, if_neg h0]; omega
        clear h0
        go_wp2_with fail
        go_roundg (gk - 1)
        case rel => exact ⟨k + 1, z + 1, by omega, by omega, by omega, HZ2, rfl, by go_num, rfl⟩
        case measure => omega
    · go_wp2_with fail
      go_ret
      refine ⟨ret_int ?_, rfl⟩
      have := HZ.out
      rw [List.drop_eq_nil_of_le (by omega)] at this
      simpa [countF] using this

set_option maxRecDepth 100000 in
set_option maxHeartbeats 1000000 in
theorem two_any (A : Option Addr) (n c : Nat) (l : List Int) (w : World) (h : IntsR w A n l) (hl : n ≤ 1000) :
    Calls Tryz.prog 129 #[.slice A n c] w fun e w' => e = .returned (.tuple #[.int .i64 (twoF l).1, .int .i64 (twoF l).2]) ∧ w = w' := by
  obtain rfl := h.1
  have H := Lib.hid h; clear h
  go_enter Tryz.func129, Tryz.ntmps129
  go_wp2_with fail
  go_loopg [2, 3, 8] l.length (fun g av sv iv wr => ∃ (k : Nat) (a s : Int), k + g = l.length ∧ Hid (twoGo (l.drop k) a s = twoF l) ∧ av = .int .i64 a ∧ sv = .int .i64 s ∧ iv = .int .i64 k ∧ w = wr)
  case atStart => exact ⟨0, _, _, by omega, rfl, rfl, rfl, rfl, rfl⟩
  case round =>
    obtain ⟨k, a, s, hk, HZ, rfl, rfl, rfl, rfl⟩ := hrel
    by_cases hlt : k < l.length
    · obtain ⟨b, o, rfl, hb, hc⟩ := H.out.at_ k hlt
      have hstep : Hid (twoGo (l.drop k) a s = if a < l[k] then twoGo (l.drop (k + 1)) l[k] a else twoGo (l.drop (k + 1)) a (max s l[k])) := by
        show twoGo (l.drop k) a s = _
        rw [List.drop_eq_getElem_cons hlt]; rfl
      obtain ⟨m, hm, hm'⟩ := ite_max s l[k]
      have HM := Lib.hid hm'; clear hm'
      by_cases h0 : a < l[k]
      · have hd : decide (a < l[k]) = true := by simpa using h0
        have HZ2 : Hid (twoGo (l.drop (k + 1)) l[k] a = twoF l) := by show _ = _; rw [← HZ.out, hstep.out, if_pos h0]
        clear h0
        go_wp2_with fail
        go_roundg (gk - 1)
        case rel => exact ⟨k + 1, l[k], a, by omega, HZ2, rfl, rfl, by go_num, rfl⟩
        case measure => omega
      · have hd : decide (a < l[k]) = false := by simpa using h0
        have HZ2 : Hid (twoGo (l.drop (k + 1)) a m = twoF l) := by show _ = _; rw [← HZ.out, hstep.out, if_neg h0, HM.out]
        clear h0
        go_wp2_with fail
        go_roundg (gk - 1)
        case rel => exact ⟨k + 1, a, m, by omega, HZ2, rfl, rfl, by go_num, rfl⟩
        case measure => omega
    · go_wp2_with fail
      go_ret2
      have hz := HZ.out
      rw [List.drop_eq_nil_of_le (by omega)] at hz
      exact ⟨ret_pair hz.symm, rfl⟩

def idxGo : List Int → (Int → Bool) → Int → Int
  | [], _, _ => -1
  | a :: l, f, i => if f a then i else idxGo l f (i + 1)
theorem idxGo_first (l : List Int) : ∀ i, idxGo l (fun a => a != 0) i = firstGo l i := by
  induction l with
  | nil => intro i; rfl
  | cons a l ih =>
    intro i
    simp only [idxGo, firstGo]
    by_cases h : a = 0
    · simp [h, ih]
    · simp [h]
theorem idxGo_mem (l : List Int) (x : Int) : ∀ i, 0 ≤ i → (0 ≤ idxGo l (fun a => x == a) i ↔ x ∈ l) := by
  induction l with
  | nil => intro i _; simp [idxGo]
  | cons a l ih =>
    intro i hi
    simp only [idxGo]
    by_cases h : x = a
    · simp [h, hi]
    · simp [h, ih (i + 1) (by omega)]

set_option maxRecDepth 100000 in
set_option maxHeartbeats 1000000 in
theorem index_any (A : Option Addr) (n c : Nat) (l : List Int) (x : Int) (w : World) (h : IntsR w A n l) (hl : n ≤ 1000) :
    Calls Tryz.prog 169 #[.slice A n c, .int .i64 x] w fun e w' => e = .returned (.int .i64 (idxGo l (fun a => x == a) 0)) ∧ w = w' := by
  obtain rfl := h.1
  have H := Lib.hid h; clear h
  go_enter Tryz.func169, Tryz.ntmps169
  go_wp2_with fail
  go_loopg [8] l.length (fun g iv wr => ∃ (k : Nat), k + g = l.length ∧ Hid (idxGo (l.drop k) (fun a => x == a) k = idxGo l (fun a => x == a) 0) ∧ iv = .int .i64 k ∧ w = wr)
  case atStart => exact ⟨0, by omega, rfl, rfl, rfl⟩
  case round =>
    obtain ⟨k, hk, HZ, rfl, rfl⟩ := hrel
    by_cases hlt : k < l.length
    · obtain ⟨b, o, rfl, hb, hc⟩ := H.out.at_ k hlt
      have hstep : Hid (idxGo (l.drop k) (fun a => x == a) k = if (x == l[k]) = true then (k : Int) else idxGo (l.drop (k + 1)) (fun a => x == a) ((k : Int) + 1)) := by
        show idxGo (l.drop k) (fun a => x == a) k = _
        rw [List.drop_eq_getElem_cons hlt]; rfl
      cases h0 : (x == l[k]) with
      | true =>
        have HZ2 : Hid ((k : Int) = idxGo l (fun a => x == a) 0) := by show _ = _; rw [← HZ.out, hstep.out, if_pos h0]
        go_wp2_with fail
        go_ret
        exact ⟨ret_int HZ2.out, rfl⟩
      | false =>
        have HZ2 : Hid (idxGo (l.drop (k + 1)) (fun a => x == a) ((k + 1 : Nat) : Int) = idxGo l (fun a => x == a) 0) := by show _ = _; rw [← HZ.out, hstep.out, if_neg (by rw [h0]; decide)]; rfl
        go_wp2_with fail
        go_roundg (gk - 1)
        case rel => exact ⟨k + 1, by omega, HZ2, by go_num, rfl⟩
        case measure => omega
    · go_wp2_with fail
      go_ret
      have hz := HZ.out
      rw [List.drop_eq_nil_of_le (by omega)] at hz
      exact ⟨ret_int hz, rfl⟩

set_option maxRecDepth 100000 in
set_option maxHeartbeats 1000000 in
theorem contains_any (A : Option Addr) (n c : Nat) (l : List Int) (x : Int) (w : World) (h : IntsR w A n l) (hl : n ≤ 1000) :
    Calls Tryz.prog 155 #[.slice A n c, .int .i64 x] w fun e w' => e = .returned (.bool (decide (x ∈ l))) ∧ w = w' := by
  obtain rfl := h.1
  have H := Lib.hid h; clear h
  have HF : Hid (decide (x ∈ l) = decide (0 ≤ idxGo l (fun a => x == a) 0)) := by
    show decide (x ∈ l) = _
    rw [Bool.eq_iff_iff]; simp [idxGo_mem l x 0 (by omega)]
  go_enter Tryz.func155, Tryz.ntmps155
  go_wp2_with (go_at_call 169; refine (index_any _ _ _ l _ _ H.out hl).mono ?_; rintro e w' ⟨rfl, rfl⟩)
  go_ret
  exact ⟨ret_bool HF.out.symm, rfl⟩

set_option maxRecDepth 100000 in
set_option maxHeartbeats 1000000 in
theorem mex_any (A : Option Addr) (n c : Nat) (l : List Int) (w : World) (h : IntsR w A n l) (hl : n ≤ 1000) :
    Calls Tryz.prog 130 #[.slice A n c] w fun e w' => e = .returned (.int .i64 (mexF l)) ∧ w = w' := by
  obtain rfl := h.1
  have H := Lib.hid h; clear h
  have hcl := cntGe_le l 0
  go_enter Tryz.func130, Tryz.ntmps130
  go_wp2_with fail
  go_loopg [3] (cntGe l 0) (fun g rv wr => ∃ (k : Int), 0 ≤ k ∧ k + g = cntGe l 0 ∧ cntGe l k ≤ g ∧ Hid (mexGo l g k = mexF l) ∧ rv = .int .i64 k ∧ w = wr)
  case atStart => exact ⟨0, by omega, by omega, Nat.le_refl _, rfl, rfl, rfl⟩
  case round =>
    obtain ⟨k, hk0, hk, hg, HZ, rfl, rfl⟩ := hrel
    by_cases hm : k ∈ l
    · have hc := cntGe_lt hm
      obtain ⟨g, rfl⟩ : ∃ g, gk = g + 1 := ⟨gk - 1, by omega⟩
      have HZ2 : Hid (mexGo l g (k + 1) = mexF l) := by
        have := HZ.out
        simp only [mexGo] at this
        rw [if_pos hm] at this
        exact this
      have hd : decide (k ∈ l) = true := decide_eq_true hm
      have hk6 : k ≤ 1000000 := by omega
      clear hm
      go_wp2_with (go_at_call 155; refine (contains_any _ _ _ l _ _ H.out hl).mono ?_; rintro e w' ⟨rfl, rfl⟩; rw [hd])
      go_roundg g
      case rel => exact ⟨k + 1, by omega, by omega, by omega, HZ2, rfl, rfl⟩
      case measure => omega
    · have HZ2 : Hid (k = mexF l) := by
        have := HZ.out
        cases gk with
        | zero => exact this
        | succ g => simp only [mexGo] at this; rw [if_neg hm] at this; exact this
      have hd : decide (k ∈ l) = false := decide_eq_false hm
      clear hm
      go_wp2_with (go_at_call 155; refine (contains_any _ _ _ l _ _ H.out hl).mono ?_; rintro e w' ⟨rfl, rfl⟩; rw [hd])
      go_ret
      exact ⟨ret_int HZ2.out, rfl⟩

set_option maxHeartbeats 1000000 in
theorem indexFunc_any (f : FuncId) (p : Int → Bool) (hf : ∀ a w, Calls Tryz.prog f #[.int .i64 a] w fun e w' => e = .returned (.bool (p a)) ∧ w = w') (hcall : ∀ a w, (callFunc f #[a]).run Tryz.prog w = .ok (.enter f #[a]) w)
    (A : Option Addr) (n c : Nat) (l : List Int) (w : World) (h : IntsR w A n l) (hl : n ≤ 1000) :
    Calls Tryz.prog 127 #[.slice A n c, .func (.func f) #[] #[]] w fun e w' => e = .returned (.int .i64 (idxGo l p 0)) ∧ w = w' := by
  obtain rfl := h.1
  have H := Lib.hid h; clear h
  have HF := Lib.hid hf; clear hf
  go_enter Tryz.func127, Tryz.ntmps127
  go_wp2_with fail
  go_loopg [8] l.length (fun g iv wr => ∃ (k : Nat), k + g = l.length ∧ Hid (idxGo (l.drop k) p k = idxGo l p 0) ∧ iv = .int .i64 k ∧ w = wr)
  case atStart => exact ⟨0, by omega, rfl, rfl, rfl⟩
  case round =>
    obtain ⟨k, hk, HZ, rfl, rfl⟩ := hrel
    by_cases hlt : k < l.length
    · obtain ⟨b, o, rfl, hb, hc⟩ := H.out.at_ k hlt
      have hstep : Hid (idxGo (l.drop k) p k = if p l[k] = true then (k : Int) else idxGo (l.drop (k + 1)) p ((k : Int) + 1)) := by
        show idxGo (l.drop k) p k = _
        rw [List.drop_eq_getElem_cons hlt]; rfl
      cases h0 : p l[k] with
      | true =>
        have HZ2 : Hid ((k : Int) = idxGo l p 0) := by show _ = _; rw [← HZ.out, hstep.out, if_pos h0]
        go_wp2_with (((with_reducible refine (HF.out _ _).mono ?_); rintro e w' ⟨rfl, rfl⟩; rw [h0]))
        go_ret
        exact ⟨ret_int HZ2.out, rfl⟩
      | false =>
        have HZ2 : Hid (idxGo (l.drop (k + 1)) p ((k + 1 : Nat) : Int) = idxGo l p 0) := by show _ = _; rw [← HZ.out, hstep.out, if_neg (by rw [h0]; decide)]; rfl
        go_wp2_with (((with_reducible refine (HF.out _ _).mono ?_); rintro e w' ⟨rfl, rfl⟩; rw [h0]))
        go_roundg (gk - 1)
        case rel => exact ⟨k + 1, by omega, HZ2, by go_num, rfl⟩
        case measure => omega
    · go_wp2_with fail
      go_ret
      have hz := HZ.out
      rw [List.drop_eq_nil_of_le (by omega)] at hz
      exact ⟨ret_int hz, rfl⟩

set_option maxRecDepth 100000 in
set_option maxHeartbeats 1000000 in
theorem occurs_any (A : Option Addr) (n c : Nat) (l : List Int) (x : Int) (w : World) (h : IntsR w A n l) (hl : n ≤ 1000) :
    Calls Tryz.prog 152 #[.slice A n c, .int .i64 x] w fun e w' => e = .returned (.bool (decide (x ∈ l))) ∧ w = w' := by
  obtain rfl := h.1
  have H := Lib.hid h; clear h
  go_enter Tryz.func152, Tryz.ntmps152
  go_wp2_with fail
  go_loopg [5] l.length (fun g iv wr => ∃ (k : Nat), k + g = l.length ∧ Hid (decide (x ∈ l.drop k) = decide (x ∈ l)) ∧ iv = .int .i64 k ∧ w = wr)
  case atStart => exact ⟨0, by omega, rfl, rfl, rfl⟩
  case round =>
    obtain ⟨k, hk, HZ, rfl, rfl⟩ := hrel
    by_cases hlt : k < l.length
    · obtain ⟨b, o, rfl, hb, hc⟩ := H.out.at_ k hlt
      have hstep : Hid (decide (x ∈ l.drop k) = ((l[k] == x) || decide (x ∈ l.drop (k + 1)))) := by
        show decide (x ∈ l.drop k) = _
        rw [List.drop_eq_getElem_cons hlt, Bool.eq_iff_iff]
        simp only [List.mem_cons, decide_eq_true_eq, Bool.or_eq_true, beq_iff_eq]
        exact ⟨fun h => h.elim (fun e => .inl e.symm) .inr, fun h => h.elim (fun e => .inl e.symm) .inr⟩
      cases h0 : (l[k] == x) with
      | true =>
        have HZ2 : Hid (true = decide (x ∈ l)) := by show _ = _; rw [← HZ.out, hstep.out, h0]; rfl
        go_wp2_with fail
        go_ret
        exact ⟨ret_bool HZ2.out, rfl⟩
      | false =>
        have HZ2 : Hid (decide (x ∈ l.drop (k + 1)) = decide (x ∈ l)) := by show _ = _; rw [← HZ.out, hstep.out, h0]; rfl
        go_wp2_with fail
        go_roundg (gk - 1)
        case rel => exact ⟨k + 1, by omega, HZ2, by go_num, rfl⟩
        case measure => omega
    · go_wp2_with fail
      go_ret
      have hz := HZ.out
      rw [List.drop_eq_nil_of_le (by omega)] at hz
      exact ⟨ret_bool (by simpa using hz), rfl⟩

set_option maxRecDepth 100000 in
set_option maxHeartbeats 1000000 in
theorem fold_any (A : Option Addr) (n c : Nat) (l : List Int) (op : Int) (w : World) (h : IntsR w A n l) (hl : n ≤ 1000) (h1 : 20 ≤ op) (h2 : op ≤ 29) (hn : ∀ x ∈ l, Num x) :
    Calls Tryz.prog 86 #[.int .i64 op, .slice A n c] w fun e w' => e = .returned (.int .i64 (foldF op l)) ∧ w = w' := by
  obtain rfl := h.1
  have H := Lib.hid h; clear h
  have HN := Lib.hid hn; clear hn
  have hcase : op = 20 ∨ op = 21 ∨ op = 22 ∨ op = 23 ∨ op = 24 ∨ op = 25 ∨ op = 26 ∨ op = 27 ∨ op = 28 ∨ op = 29 := by omega
  clear h1 h2
  rcases hcase with h | h | h | h | h | h | h | h | h | h
  · subst h
    go_enter Tryz.func86, Tryz.ntmps86
    go_wp2_with (first
      | (go_at_call 126; refine (count_any _ _ _ l _ H.out hl).mono ?_; rintro e w' ⟨rfl, rfl⟩)
      | (go_at_call 124; refine (truth_any _ _).mono ?_; rintro e w' ⟨rfl, rfl⟩))
    go_ret
    exact ⟨rfl, rfl⟩
  · subst h
    go_enter Tryz.func86, Tryz.ntmps86
    go_wp2_with (first
      | (go_at_call 126; refine (count_any _ _ _ l _ H.out hl).mono ?_; rintro e w' ⟨rfl, rfl⟩)
      | (go_at_call 124; refine (truth_any _ _).mono ?_; rintro e w' ⟨rfl, rfl⟩))
    go_ret
    exact ⟨rfl, rfl⟩
  · subst h
    go_enter Tryz.func86, Tryz.ntmps86
    go_wp2_with (first
      | (go_at_call 126; refine (count_any _ _ _ l _ H.out hl).mono ?_; rintro e w' ⟨rfl, rfl⟩))
    go_ret
    exact ⟨rfl, rfl⟩
  · subst h
    have HF : Hid (idxGo l (fun a => a != 0) 0 = foldF 23 l) := idxGo_first l 0
    go_enter Tryz.func86, Tryz.ntmps86
    go_wp2_with (go_at_call 127; refine (indexFunc_any 128 (fun a => a != 0) (fun a w => fold1_any a w) (fun _ _ => by kernel_rfl) _ _ _ l _ H.out hl).mono ?_; rintro e w' ⟨rfl, rfl⟩)
    go_ret
    exact ⟨ret_int HF.out, rfl⟩
  · subst h
    go_enter Tryz.func86, Tryz.ntmps86
    go_wp2_with fail
    go_loopg [5, 42] l.length (fun g mv iv wr => ∃ (k : Nat) (z : Int), k + g = l.length ∧ Hid ((l.drop k).foldl min z = foldF 24 l) ∧ mv = .int .i64 z ∧ iv = .int .i64 k ∧ w = wr)
    case atStart => exact ⟨0, _, by omega, rfl, rfl, rfl, rfl⟩
    case round =>
      obtain ⟨k, z, hk, HZ, rfl, rfl, rfl⟩ := hrel
      by_cases hlt : k < l.length
      · obtain ⟨b, o, rfl, hb, hc⟩ := H.out.at_ k hlt
        obtain ⟨m, hm, hm'⟩ := ite_min z l[k]
        have HZ2 : Hid ((l.drop (k + 1)).foldl min m = foldF 24 l) := by
          have := HZ.out
          rw [List.drop_eq_getElem_cons hlt, List.foldl_cons, ← hm'] at this
          exact this
        clear hm'
        go_wp2_with fail
        go_roundg (gk - 1)
        case rel => exact ⟨k + 1, m, by omega, HZ2, rfl, by go_num, rfl⟩
        case measure => omega
      · go_wp2_with fail
        go_ret
        have hz := HZ.out
        rw [List.drop_eq_nil_of_le (by omega)] at hz
        exact ⟨ret_int hz, rfl⟩
  · subst h
    go_enter Tryz.func86, Tryz.ntmps86
    go_wp2_with (first
      | (go_at_call 129; refine (two_any _ _ _ l _ H.out hl).mono ?_; rintro e w' ⟨rfl, rfl⟩))
    go_ret
    exact ⟨rfl, rfl⟩
  · subst h
    go_enter Tryz.func86, Tryz.ntmps86
    go_wp2_with fail
    go_loopg [10, 63] l.length (fun g sv iv wr => ∃ (k : Nat) (z : Int), k + g = l.length ∧ -(1073741824 * k) ≤ z ∧ z ≤ 1073741824 * k ∧ Hid (satF ((l.drop k).foldl (· + ·) z) = foldF 26 l) ∧ sv = .int .i64 z ∧ iv = .int .i64 k ∧ w = wr)
    case atStart => exact ⟨0, 0, by omega, by omega, by omega, rfl, rfl, rfl, rfl⟩
    case round =>
      obtain ⟨k, z, hk, hz1, hz2, HZ, rfl, rfl, rfl⟩ := hrel
      by_cases hlt : k < l.length
      · obtain ⟨b, o, rfl, hb, hc⟩ := H.out.at_ k hlt
        have hx := HN.out l[k] (List.getElem_mem _)
        unfold Num at hx
        obtain ⟨hx1, hx2⟩ := hx
        have HZ2 : Hid (satF ((l.drop (k + 1)).foldl (· + ·) (z + l[k])) = foldF 26 l) := by
          have := HZ.out
          rw [List.drop_eq_getElem_cons hlt, List.foldl_cons] at this
          exact this
        go_wp2_with fail
        go_roundg (gk - 1)
        case rel => exact ⟨k + 1, z + l[k], by omega, by omega, by omega, HZ2, rfl, by go_num, rfl⟩
        case measure => omega
      · have hz := HZ.out
        rw [List.drop_eq_nil_of_le (by omega)] at hz
        have HZ2 := Lib.hid hz; clear hz
        go_wp2_with (go_at_call 122; refine (saturated_any _ _).mono ?_; rintro e w' ⟨rfl, rfl⟩)
        go_ret
        exact ⟨ret_int HZ2.out, rfl⟩
  · subst h
    go_enter Tryz.func86, Tryz.ntmps86
    go_wp2_with (first
      | (go_at_call 130; refine (mex_any _ _ _ l _ H.out hl).mono ?_; rintro e w' ⟨rfl, rfl⟩))
    go_ret
    exact ⟨rfl, rfl⟩
  · subst h
    go_enter Tryz.func86, Tryz.ntmps86
    go_wp2_with (first
      | (go_at_call 129; refine (two_any _ _ _ l _ H.out hl).mono ?_; rintro e w' ⟨rfl, rfl⟩))
    go_ret
    exact ⟨rfl, rfl⟩
  · subst h
    rcases l with _ | ⟨x, l⟩
    · go_enter Tryz.func86, Tryz.ntmps86
      go_wp2_with fail
      go_ret
      exact ⟨rfl, rfl⟩
    · obtain ⟨b, o, rfl, hb, hc⟩ := H.out.at_ 0 (by simp)
      have hc' : w.cell? ⟨b, o, none⟩ = some (.int .i64 x) := by simpa using hc
      clear hc
      have hne : (((x :: l).length : Int) == 0) = false := by simp; omega
      go_enter Tryz.func86, Tryz.ntmps86
      go_wp2_with fail
      go_ret
      exact ⟨rfl, rfl⟩

end Go.Proofs.YtibfjhhadbkkgaaGreat

/- Contracts of the reference's fold, and of Fold of both. -/
namespace Go.Proofs.YtibfjhhadbkkgaaGreat
open Go.RowKit

/-- What the reference's loop has gathered, and what is still to come. -/
structure Gathered (l : List Int) (k : Nat) (yes first least great second sum : Int) : Prop where
  yes : yes + countF (l.drop k) = countF l
  first : (first < 0 → first = -1 ∧ firstGo (l.drop k) k = firstGo l 0) ∧ (0 ≤ first → first = firstGo l 0)
  least : (l.drop k).foldl min least = minF l
  two : twoGo (l.drop k) great second = twoF l
  ord : second ≤ great
  sum : (l.drop k).foldl (· + ·) sum = sumF l

theorem gathered_zero (l : List Int) : Gathered l 0 0 (-1) 1073741824 (-1073741824) (-1073741824) 0 :=
  ⟨by simp, ⟨fun _ => ⟨rfl, rfl⟩, fun h => by omega⟩, rfl, rfl, by omega, rfl⟩

theorem gathered_succ {l : List Int} {k : Nat} {yes first least great second sum : Int} (h : Gathered l k yes first least great second sum) (hk : k < l.length) :
    Gathered l (k + 1) (if l[k] = 0 then yes else yes + 1) (if l[k] ≠ 0 ∧ first < 0 then (k : Int) else first) (min least l[k]) (max great l[k]) (max second (min great l[k])) (sum + l[k]) := by
  have hd := List.drop_eq_getElem_cons hk
  obtain ⟨h1, ⟨h2a, h2b⟩, h3, h4, h5, h6⟩ := h
  rw [hd] at h1 h3 h4 h6
  rw [countF_cons] at h1
  refine ⟨?_, ?_, ?_, ?_, ?_, ?_⟩
  · split <;> simp_all <;> omega
  · constructor
    · intro hf
      split at hf
      · omega
      · rename_i hc
        rw [if_neg hc]
        obtain ⟨e1, e2⟩ := h2a hf
        refine ⟨e1, ?_⟩
        rw [hd] at e2
        simp only [firstGo] at e2
        rw [if_neg (by intro h0; exact hc ⟨h0, hf⟩)] at e2
        exact e2
    · intro hf
      split
      · rename_i hc
        obtain ⟨e1, e2⟩ := h2a hc.2
        rw [hd] at e2
        simp only [firstGo] at e2
        rw [if_pos hc.1] at e2
        exact e2
      · rename_i hc
        rw [if_neg hc] at hf
        exact h2b hf
  · rw [List.foldl_cons] at h3; exact h3
  · simp only [twoGo] at h4
    by_cases hg : great < l[k]
    · rw [if_pos hg] at h4
      rw [show max great l[k] = l[k] by omega, show max second (min great l[k]) = great by omega]
      exact h4
    · rw [if_neg hg] at h4
      rw [show max great l[k] = great by omega, show max second (min great l[k]) = max second l[k] by omega]
      exact h4
  · omega
  · rw [List.foldl_cons] at h6; exact h6

set_option maxRecDepth 100000 in
set_option maxHeartbeats 1000000 in
theorem refFold_any (A : Option Addr) (n c : Nat) (l : List Int) (op : Int) (w : World) (h : IntsR w A n l) (hl : n ≤ 1000) (h1 : 20 ≤ op) (h2 : op ≤ 29) (hn : ∀ x ∈ l, Num x) :
    Calls Tryz.prog 117 #[.int .i64 op, .slice A n c] w fun e w' => e = .returned (.int .i64 (foldF op l)) ∧ w = w' := by
  obtain rfl := h.1
  have H := Lib.hid h; clear h
  have HN := Lib.hid hn; clear hn
  have HC : Hid (op = 20 ∨ op = 21 ∨ op = 22 ∨ op = 23 ∨ op = 24 ∨ op = 25 ∨ op = 26 ∨ op = 27 ∨ op = 28 ∨ op = 29) := by show _ ∨ _; omega
  clear h1 h2
  go_enter Tryz.func117, Tryz.ntmps117
  go_wp2_with fail
  go_loopg [5, 6, 7, 8, 9, 10, 11] l.length (fun g yv fv lv gv sv mv iv wr => ∃ (k : Nat) (yes first least great second sum : Int), k + g = l.length ∧ 0 ≤ yes ∧ yes ≤ k ∧ -(1073741824 * k) ≤ sum ∧ sum ≤ 1073741824 * k ∧ Hid (Gathered l k yes first least great second sum) ∧
    yv = .int .i64 yes ∧ fv = .int .i64 first ∧ lv = .int .i64 least ∧ gv = .int .i64 great ∧ sv = .int .i64 second ∧ mv = .int .i64 sum ∧ iv = .int .i64 k ∧ w = wr)
  case atStart => exact ⟨0, 0, -1, _, _, _, 0, by omega, by omega, by omega, by omega, by omega, gathered_zero l, rfl, rfl, rfl, rfl, rfl, rfl, rfl, rfl⟩
  case round =>
    obtain ⟨k, yes, first, least, great, second, sum, hk, hy1, hy2, hs1, hs2, HG, rfl, rfl, rfl, rfl, rfl, rfl, rfl, rfl⟩ := hrel
    by_cases hlt : k < l.length
    · obtain ⟨b, o, rfl, hb, hc⟩ := H.out.at_ k hlt
      have HS := Lib.hid (gathered_succ HG.out hlt)
      have hx := HN.out l[k] (List.getElem_mem _)
      unfold Num at hx
      obtain ⟨hx1, hx2⟩ := hx
      generalize l[k] = x at *
      obtain ⟨m1, hm1, hm1'⟩ := ite_min least x
      obtain ⟨m2, hm2, hm2'⟩ := ite_min great x
      obtain ⟨m3, hm3, hm3'⟩ := ite_max second m2
      obtain ⟨m4, hm4, hm4'⟩ := ite_max great x
      have HS2 := HS.out
      rw [← hm1', ← hm2', ← hm3', ← hm4'] at HS2
      have HS3 := Lib.hid HS2; clear HS2 HS hm1' hm2' hm3' hm4'
      by_cases h0 : x = 0
      · have hz : (x != 0) = false := by simpa using h0
        have HS4 : Hid (Gathered l (k + 1) yes first m1 m4 m3 (sum + x)) := by
          have := HS3.out
          rw [if_pos h0, if_neg (by simp [h0])] at this
          exact this
        clear h0
        go_wp2_with fail
        go_roundg (gk - 1)
        case rel => exact ⟨k + 1, yes, first, m1, m4, m3, sum + x, by omega, by omega, by omega, by omega, by omega, HS4, rfl, rfl, rfl, rfl, rfl, rfl, by go_num, rfl⟩
        case measure => omega
      · have hz : (x != 0) = true := by simpa using h0
        by_cases hf : first < 0
        · have hfd : decide (first < 0) = true := by simpa using hf
          have HS4 : Hid (Gathered l (k + 1) (yes + 1) k m1 m4 m3 (sum + x)) := by
            have := HS3.out
            rw [if_neg h0, if_pos ⟨h0, hf⟩] at this
            exact this
          clear h0 hf
          go_wp2_with fail
          go_roundg (gk - 1)
          case rel => exact ⟨k + 1, yes + 1, k, m1, m4, m3, sum + x, by omega, by omega, by omega, by omega, by omega, HS4, rfl, rfl, rfl, rfl, rfl, rfl, by go_num, rfl⟩
          case measure => omega
        · have hfd : decide (first < 0) = false := by simpa using hf
          have HS4 : Hid (Gathered l (k + 1) (yes + 1) first m1 m4 m3 (sum + x)) := by
            have := HS3.out
            rw [if_neg h0, if_neg (fun h => hf h.2)] at this
            exact this
          clear h0 hf
          go_wp2_with fail
          go_roundg (gk - 1)
          case rel => exact ⟨k + 1, yes + 1, first, m1, m4, m3, sum + x, by omega, by omega, by omega, by omega, by omega, HS4, rfl, rfl, rfl, rfl, rfl, rfl, by go_num, rfl⟩
          case measure => omega
    · obtain ⟨g1, ⟨g2a, g2b⟩, g3, g4, g5, g6⟩ := HG.out
      rw [List.drop_eq_nil_of_le (by omega)] at g1 g2a g3 g4 g6
      have e1 : yes = countF l := by simpa [countF] using g1
      have e2 : first = firstGo l 0 := by
        by_cases hf : first < 0
        · obtain ⟨a, b⟩ := g2a hf; rw [a, ← b]; rfl
        · exact g2b (by omega)
      have e3 : least = minF l := g3
      have e4 : twoF l = (great, second) := g4.symm
      have e5 : sum = sumF l := g6
      clear g1 g2a g2b g3 g4 g5 g6 HG
      have E1 := Lib.hid e1; have E2 := Lib.hid e2; have E3 := Lib.hid e3; have E4 := Lib.hid e4; have E5 := Lib.hid e5
      clear e1 e2 e3 e4 e5
      have hcl := cntGe_le l 0
      rcases HC.out with h | h | h | h | h | h | h | h | h | h
      case inr.inr.inr.inr.inr.inr.inr.inl =>
        subst h
        go_wp2_with fail
        go_loopg [12] (cntGe l 0) (fun g rv wr => ∃ (q : Int), 0 ≤ q ∧ q + g = cntGe l 0 ∧ cntGe l q ≤ g ∧ Hid (mexGo l g q = mexF l) ∧ rv = .int .i64 q ∧ w = wr)
        case atStart => exact ⟨0, by omega, by omega, Nat.le_refl _, rfl, rfl, rfl⟩
        case round =>
          obtain ⟨q, hq0, hq, hg, HZ, rfl, rfl⟩ := hrel
          by_cases hm : q ∈ l
          · have hc := cntGe_lt hm
            obtain ⟨g, rfl⟩ : ∃ g, gk = g + 1 := ⟨gk - 1, by omega⟩
            have HZ2 : Hid (mexGo l g (q + 1) = mexF l) := by
              have := HZ.out
              simp only [mexGo] at this
              rw [if_pos hm] at this
              exact this
            have hd : decide (q ∈ l) = true := decide_eq_true hm
            have hk6 : q ≤ 1000000 := by omega
            clear hm
            go_wp2_with (go_at_call 152; refine (occurs_any _ _ _ l _ _ H.out hl).mono ?_; rintro e w' ⟨rfl, rfl⟩; rw [hd])
            go_roundg g
            case rel => exact ⟨q + 1, by omega, by omega, by omega, HZ2, rfl, rfl⟩
            case measure => omega
          · have HZ2 : Hid (q = mexF l) := by
              have := HZ.out
              cases gk with
              | zero => exact this
              | succ g => simp only [mexGo] at this; rw [if_neg hm] at this; exact this
            have hd : decide (q ∈ l) = false := decide_eq_false hm
            clear hm
            go_wp2_with (go_at_call 152; refine (occurs_any _ _ _ l _ _ H.out hl).mono ?_; rintro e w' ⟨rfl, rfl⟩; rw [hd])
            go_ret
            exact ⟨ret_int HZ2.out, rfl⟩
      case inr.inr.inr.inr.inr.inr.inr.inr.inr =>
        subst h
        clear E1 E2 E3 E4 E5
        by_cases h0 : l.length = 0
        · have HZ : Hid ((0 : Int) = foldF 29 l) := by show _ = _; rw [List.length_eq_zero_iff.1 h0]; rfl
          have hb0 : ((l.length : Int) == 0) = true := by simp; exact List.length_eq_zero_iff.1 h0
          go_wp2_with fail
          go_ret
          exact ⟨ret_int HZ.out, rfl⟩
        · obtain ⟨b, o, rfl, hb, hc⟩ := H.out.at_ 0 (by omega)
          have HZ : Hid (l[0]'(by omega) = foldF 29 l) := by
            show _ = _
            cases l with
            | nil => simp at h0
            | cons x l => rfl
          have hc' : w.cell? ⟨b, o, none⟩ = some (.int .i64 (l[0]'(by omega))) := by simpa using hc
          clear hc
          have hb0 : ((l.length : Int) == 0) = false := by simp; intro hh; rw [hh] at h0; exact h0 rfl
          have hpos : 0 < l.length := by omega
          generalize (l[0]'(by omega) : Int) = x0 at *
          clear h0
          go_wp2_with fail
          go_ret
          exact ⟨ret_int HZ.out, rfl⟩
      all_goals
        subst h
        go_wp2_with (first
          | (go_at_call 150; refine (refTruth_any _ _).mono ?_; rintro e w' ⟨rfl, rfl⟩)
          | (go_at_call 151; refine (refSaturate_any _ _).mono ?_; rintro e w' ⟨rfl, rfl⟩))
        go_ret
        refine ⟨ret_int ?_, rfl⟩
        simp only [foldF]
        first
          | (rw [E1.out]; rfl)
          | (rw [E2.out]; rfl)
          | (rw [E3.out]; rfl)
          | (rw [E4.out]; rfl)
          | (rw [E5.out]; rfl)

set_option maxRecDepth 100000 in
set_option maxHeartbeats 1000000 in
theorem evalFold_any (A : Option Addr) (n c : Nat) (l : List Int) (op : Int) (w : World) (h : IntsR w A n l) (hl : n ≤ 1000) :
    Calls Tryz.prog 48 #[.int .i64 op, .slice A n c] w fun e w' => e = .returned (.tuple #[.int .i64 (foldR op l).1, .int .i64 (foldR op l).2]) ∧ w = w' := by
  obtain rfl := h.1
  have H := Lib.hid h; clear h
  cases hag : aggregate op with
  | false =>
    have HF : Hid (foldR op l = (0, 2)) := by show foldR op l = _; unfold foldR; rw [if_pos hag]
    go_enter Tryz.func48, Tryz.ntmps48
    go_wp2_with (go_at_call 85; refine (aggregate_any _ _).mono ?_; rintro e w' ⟨rfl, rfl⟩; rw [hag])
    go_ret2
    exact ⟨ret_pair HF.out, rfl⟩
  | true =>
    have hop : 20 ≤ op ∧ op ≤ 29 := by unfold aggregate at hag; exact of_decide_eq_true hag
    have HOP := Lib.hid hop; clear hop
    by_cases h24 : 24 ≤ l.length
    · have HF : Hid (foldR op l = (0, 3)) := by show foldR op l = _; unfold foldR; rw [if_neg (by rw [hag]; decide), if_pos h24]
      go_enter Tryz.func48, Tryz.ntmps48
      go_wp2_with (go_at_call 85; refine (aggregate_any _ _).mono ?_; rintro e w' ⟨rfl, rfl⟩; rw [hag])
      go_ret2
      exact ⟨ret_pair HF.out, rfl⟩
    · have h24' : l.length < 24 := by omega
      have hd24 : decide (24 ≤ l.length) = false := by simp; omega
      have HF0 : Hid (foldR op l = if l.all numB = false then (0, 2) else (foldF op l, 0)) := by show foldR op l = _; unfold foldR; rw [if_neg (by rw [hag]; decide), if_neg h24]
      clear h24
      cases hall : l.all numB with
      | false =>
        go_enter Tryz.func48, Tryz.ntmps48
        go_wp2_with (first
          | (go_at_call 85; refine (aggregate_any _ _).mono ?_; rintro e w' ⟨rfl, rfl⟩; rw [hag])
          | (go_at_call 83; refine (inRange_any _ _ _ l _ H.out (by omega)).mono ?_; rintro e w' ⟨rfl, rfl⟩; rw [hall]))
        go_ret2
        exact ⟨ret_pair (by rw [HF0.out, if_pos hall]), rfl⟩
      | true =>
        have HN : Hid (∀ x ∈ l, Num x) := fun x hx => num_of_numB (List.all_eq_true.1 hall x hx)
        go_enter Tryz.func48, Tryz.ntmps48
        go_wp2_with (first
          | (go_at_call 85; refine (aggregate_any _ _).mono ?_; rintro e w' ⟨rfl, rfl⟩; rw [hag])
          | (go_at_call 83; refine (inRange_any _ _ _ l _ H.out (by omega)).mono ?_; rintro e w' ⟨rfl, rfl⟩; rw [hall])
          | (go_at_call 86; refine (fold_any _ _ _ l _ _ H.out hl HOP.out.1 HOP.out.2 HN.out).mono ?_; rintro e w' ⟨rfl, rfl⟩))
        go_ret2
        exact ⟨ret_pair (by rw [HF0.out, if_neg (by rw [hall]; decide)]), rfl⟩


end Go.Proofs.YtibfjhhadbkkgaaGreat

/- The walks of EvalApplies, EvalFolds, EvalDivides, EvalSaturates and EvalCompares. -/
namespace Go.Proofs.YtibfjhhadbkkgaaGreat
open Go.RowKit

theorem awake11_any (w : World) : Calls Tryz.prog 17 #[] w fun e w' => e = .returned (.bool true) ∧ Bel w w' := by
  have h1 : binaryR 31 (-7) 2 = (-4, 0) := by decide +kernel
  have h2 : foldR 27 [0, 2, 1, 0] = (3, 0) := by decide +kernel
  have HB := Bel.refl w
  have HI := Lib.hid fun w' => ints_of_block (l := [0, 2, 1, 0]) (heap_new w' (.cells #[.int .i64 0, .int .i64 2, .int .i64 1, .int .i64 0] 3))
  go_enter Tryz.func17, Tryz.ntmps17
  go_wp2_with (first
    | (go_at_call 47; refine (evalBinary_any _ _ _ _).mono ?_; rintro e w' ⟨rfl, hb⟩; rw [h1]; replace HB := HB.trans hb; clear hb)
    | (go_at_call 48; refine (evalFold_any _ _ _ [0, 2, 1, 0] _ _ (HI.out _) (by decide)).mono ?_; rintro e w' ⟨rfl, rfl⟩; rw [h2]))
  go_ret
  exact ⟨rfl, HB.alloc _⟩


end Go.Proofs.YtibfjhhadbkkgaaGreat

/- The plain law of P5.3: the reference's way to count levels gives what the program's way gives. -/
namespace Go.Proofs.YtibfjhhadbkkgaaGreat

theorem foldl_max_max (l : List Int) (a b : Int) : l.foldl max (max a b) = max a (l.foldl max b) := by
  induction l generalizing b with
  | nil => rfl
  | cons x l ih => simp only [List.foldl_cons]; rw [Int.max_assoc]; exact ih _
theorem gmax_snoc (x : Int) (l : List Int) : gmax (l ++ [x]) = max (gmax l) x := by
  unfold gmax; rw [List.foldl_append]; rfl
theorem gmax_cons' (x : Int) (l : List Int) : gmax (x :: l) = max x (gmax l) := by
  have h := foldl_max_max l x 0
  unfold gmax
  rw [List.foldl_cons, Int.max_comm 0 x]; exact h
theorem gmax_reverse (l : List Int) : gmax l.reverse = gmax l := by
  induction l with
  | nil => rfl
  | cons x l ih => rw [List.reverse_cons, gmax_snoc, ih, gmax_cons', Int.max_comm]

/-- The numbers of the expressions that a list consists of, in their order. -/
def rl (num : Int → Int → Int) : List Term → List Int
  | [] => []
  | t :: ts => num t.op (gmax ((rl num ts).take (arity t.op).toNat)) :: (rl num ts).drop (arity t.op).toNat

theorem lev_eq_rl (num : Int → Int → Int) (l : List Term) : ∀ m, Full l m → lev num l = (rl num l).reverse := by
  induction l with
  | nil => intro m _; rfl
  | cons t ts ih =>
    intro m h
    obtain ⟨h1, h2, h3⟩ := h.cons
    have hlen := h3.lev_length num
    have e := ih _ h3
    rw [e, List.length_reverse] at hlen
    simp only [lev, rl]
    rw [e, List.length_reverse, List.reverse_cons, List.take_reverse, List.drop_reverse, gmax_reverse]
    have hsub : (rl num ts).length - ((rl num ts).length - (arity t.op).toNat) = (arity t.op).toNat := by omega
    rw [hsub]

theorem rl_length (num : Int → Int → Int) (l : List Term) (m : Int) (h : Full l m) : ((rl num l).length : Int) = m := by
  have := h.lev_length num
  rw [lev_eq_rl num l m h, List.length_reverse] at this
  exact this

/-- The weight of the open terms. -/
def wt (om : Bool → Int) (s : List (Int × Bool)) : Int := (s.map fun x => om x.2).sum
def placeIn (om : Bool → Int) : List (Int × Bool) → List Int
  | [] => []
  | (c, b) :: r => List.replicate (c - 1).toNat (wt om ((c, b) :: r)) ++ placeIn om r
def plOf (om : Bool → Int) (s : List (Int × Bool)) (more : Bool) : List Int := if more then wt om s :: placeIn om s else []
def fin (d : Int) (pl ds : List Int) : Int := (List.zipWith (· + ·) pl ds).foldl max d

theorem wt_cons (om : Bool → Int) (c : Int) (b : Bool) (s : List (Int × Bool)) : wt om ((c, b) :: s) = om b + wt om s := by simp [wt]

theorem placeIn_pop (s : List (Int × Bool)) (h : Wait s) : ∃ more, ∀ om, placeIn om s = plOf om (popN s) more := by
  induction s with
  | nil => exact ⟨false, fun om => rfl⟩
  | cons x r ih =>
    obtain ⟨c, b⟩ := x
    have hc := h (c, b) (by simp)
    simp only at hc
    by_cases h1 : c - 1 = 0
    · obtain ⟨more, hm⟩ := ih h.tail
      refine ⟨more, fun om => ?_⟩
      simp only [placeIn, popN, if_pos h1]
      rw [h1]
      exact hm om
    · refine ⟨true, fun om => ?_⟩
      simp only [placeIn, popN, if_neg h1, plOf, if_true]
      have e : (c - 1).toNat = (c - 1 - 1).toNat + 1 := by omega
      rw [e, List.replicate_succ, List.cons_append, wt_cons, wt_cons]

theorem place_push (om : Bool → Int) (a : Int) (b : Bool) (s : List (Int × Bool)) (ha : 1 ≤ a) : plOf om ((a, b) :: s) true = List.replicate a.toNat (wt om ((a, b) :: s)) ++ placeIn om s := by
  simp only [plOf, if_true, placeIn]
  have e : a.toNat = (a - 1).toNat + 1 := by omega
  rw [e, List.replicate_succ, List.cons_append]

theorem foldl_map_add (l : List Int) (d c x : Int) : (l.map (c + ·)).foldl max (max d (c + x)) = max d (c + l.foldl max x) := by
  induction l generalizing x with
  | nil => rfl
  | cons y l ih =>
    simp only [List.map_cons, List.foldl_cons]
    rw [Int.max_assoc, show max (c + x) (c + y) = c + max x y by omega]
    exact ih _

theorem fin_step (d p de : Int) (pl R : List Int) (a : Nat) (h : a ≤ R.length) :
    fin d (p :: pl) ((gmax (R.take a) + de) :: R.drop a) = fin (max d (p + de)) (List.replicate a (p + de) ++ pl) R := by
  unfold fin
  have hz : List.zipWith (· + ·) (List.replicate a (p + de) ++ pl) R = (R.take a).map ((p + de) + ·) ++ List.zipWith (· + ·) pl (R.drop a) := by
    have hR := (List.take_append_drop a R).symm
    have hl : (List.replicate a (p + de)).length = (R.take a).length := by rw [List.length_replicate, List.length_take]; omega
    have e : List.zipWith (· + ·) (List.replicate a (p + de) ++ pl) R = List.zipWith (· + ·) (List.replicate a (p + de) ++ pl) (R.take a ++ R.drop a) := by rw [List.take_append_drop]
    rw [e, List.zipWith_append hl]
    congr 1
    generalize hQ : R.take a = Q at *
    have : Q.length = a := by rw [← hl, List.length_replicate]
    clear hQ hR e hl h
    subst this
    induction Q with
    | nil => rfl
    | cons y Q ih => simp only [List.length_cons, List.replicate_succ, List.zipWith_cons_cons, List.map_cons, ih]
  rw [hz, List.foldl_append]
  simp only [List.zipWith_cons_cons, List.foldl_cons]
  have := foldl_map_add (R.take a) d (p + de) 0
  rw [Int.add_zero] at this
  rw [this]
  congr 1
  unfold gmax
  omega

def omD (_ : Bool) : Int := 1
def omN (b : Bool) : Int := if b then 1 else 0
theorem wt_omD (s : List (Int × Bool)) : wt omD s = s.length := by
  induction s with
  | nil => rfl
  | cons x s ih => obtain ⟨c, b⟩ := x; rw [wt_cons, ih]; simp [omD]; omega
theorem wt_omN (s : List (Int × Bool)) : wt omN s = insideS s := by
  induction s with
  | nil => rfl
  | cons x s ih =>
    obtain ⟨c, b⟩ := x
    rw [wt_cons, ih]
    unfold insideS omN
    cases b
    · simp
    · simp; omega
theorem depthNum_om (op g : Int) : depthNum op g = g + omD (aggregate op) := rfl
theorem nestNum_om (op g : Int) : nestNum op g = g + omN (aggregate op) := by unfold nestNum omN; split <;> simp

theorem step_num (num : Int → Int → Int) (om : Bool → Int) (hnum : ∀ op g, num op g = g + om (aggregate op)) (d : Int) (t : Term) (ts : List Term) (s : List (Int × Bool)) (hl : (arity t.op).toNat ≤ (rl num ts).length) :
    fin d (plOf om s true) (rl num (t :: ts)) = fin (max d (wt om ((arity t.op, aggregate t.op) :: s))) (List.replicate (arity t.op).toNat (wt om ((arity t.op, aggregate t.op) :: s)) ++ placeIn om s) (rl num ts) := by
  simp only [rl, plOf, if_true]
  rw [hnum, fin_step _ _ _ _ _ _ hl, wt_cons, Int.add_comm (om _) (wt om s)]

theorem refGo_spec (ts : List Term) : ∀ (s : List (Int × Bool)) (d n : Int) (more : Bool), Wait s → Full ts (plOf omD s more).length → Full ts (plOf omN s more).length →
    refGo ts s d n = (fin d (plOf omD s more) (rl depthNum ts), fin n (plOf omN s more) (rl nestNum ts)) := by
  induction ts with
  | nil =>
    intro s d n more _ h _
    cases more with
    | false => rfl
    | true =>
      rcases h with ⟨_, h⟩ | ⟨_, h⟩
      · simp [plOf] at h; omega
      · simp [scan] at h
  | cons t ts ih =>
    intro s d n more hw hD hN
    cases more with
    | false => have := hD.cons.1; simp [plOf] at this
    | true =>
      obtain ⟨_, h0, hD2⟩ := hD.cons
      obtain ⟨_, _, hN2⟩ := hN.cons
      have lD := rl_length depthNum ts _ hD2
      have lN := rl_length nestNum ts _ hN2
      have eD : ((plOf omD s true).length : Int) = 1 + (placeIn omD s).length := by simp [plOf]; omega
      have eN : ((plOf omN s true).length : Int) = 1 + (placeIn omN s).length := by simp [plOf]; omega
      rw [step_num depthNum omD depthNum_om d t ts s (by omega), step_num nestNum omN nestNum_om n t ts s (by omega)]
      simp only [refGo]
      rw [← wt_omN, ← wt_omD]
      rcases Int.lt_or_eq_of_le h0 with ha | ha
      · have hne : normS ((arity t.op, aggregate t.op) :: s) = (arity t.op, aggregate t.op) :: s := normS_pos _ _ _ (by omega)
        rw [hne, ← place_push omD _ _ _ (by omega), ← place_push omN _ _ _ (by omega)]
        refine ih _ _ _ _ ?_ ?_ ?_
        · have := normS_wait (b := aggregate t.op) hw h0 (arity_le t.op).2
          rw [hne] at this
          exact this.1
        · rw [place_push _ _ _ _ (by omega), List.length_append, List.length_replicate]
          rw [eD] at hD2
          have : (((arity t.op).toNat + (placeIn omD s).length : Nat) : Int) = 1 + (placeIn omD s).length + (arity t.op - 1) := by omega
          rw [this]; exact hD2
        · rw [place_push _ _ _ _ (by omega), List.length_append, List.length_replicate]
          rw [eN] at hN2
          have : (((arity t.op).toNat + (placeIn omN s).length : Nat) : Int) = 1 + (placeIn omN s).length + (arity t.op - 1) := by omega
          rw [this]; exact hN2
      · have hne : normS ((arity t.op, aggregate t.op) :: s) = popN s := by simp [normS, ← ha]
        obtain ⟨more, hm⟩ := placeIn_pop s hw
        rw [hne, ← ha]
        simp only [Int.toNat_zero, List.replicate_zero, List.nil_append]
        rw [hm omD, hm omN]
        refine ih _ _ _ _ (popN_wait hw).1 ?_ ?_
        · rw [← hm omD]; rw [eD, ← ha] at hD2
          have : (1 + ((placeIn omD s).length : Int) + (0 - 1)) = (placeIn omD s).length := by omega
          rw [this] at hD2; exact hD2
        · rw [← hm omN]; rw [eN, ← ha] at hN2
          have : (1 + ((placeIn omN s).length : Int) + (0 - 1)) = (placeIn omN s).length := by omega
          rw [this] at hN2; exact hN2

theorem levelsF_fin (num : Int → Int → Int) (hn : ∀ op g, 0 ≤ g → 0 ≤ num op g ∧ num op g ≤ g + 1) (es : List Term) (h : endF es 0 = es.length) : fin 0 [0] (rl num es) = levelsF num es := by
  have hF := full_of_end h
  have hl := rl_length num es 1 hF
  obtain ⟨x, hx⟩ : ∃ x, rl num es = [x] := List.length_eq_one_iff.1 (by omega)
  have hlev := lev_eq_rl num es 1 hF
  unfold levelsF
  rw [if_pos h, hlev, hx]
  have hb := (lev_bound num hn es).2 x (by rw [hlev, hx]; simp)
  simp [fin]; omega

/-- P5.3: both ways agree. -/
theorem refGo_eq (es : List Term) (h : endF es 0 = es.length) : refGo es [] 0 0 = (depthF es, nestF es) := by
  have hF := full_of_end h
  rw [refGo_spec es [] 0 0 true (fun _ h => by simp at h) hF hF]
  show (fin 0 [0] (rl depthNum es), fin 0 [0] (rl nestNum es)) = _
  rw [levelsF_fin depthNum depthNum_ok es h, levelsF_fin nestNum nestNum_ok es h]
  rfl

theorem one_iff (es : List Term) : oneF es = (endF es 0 == es.length) := by
  unfold oneF
  rw [Bool.eq_iff_iff]
  simp
  intro h
  have := endF_le es 0
  omega

theorem arity_of_end (es : List Term) (h : endF es 0 = es.length) : ∀ t ∈ es, 0 ≤ arity t.op := by
  intro t ht
  obtain ⟨i, hi, rfl⟩ := List.getElem_of_mem ht
  exact (lev_at depthNum (full_of_end h) hi).1

end Go.Proofs.YtibfjhhadbkkgaaGreat

