/- Contracts of the aggregates of layer 11, of the program and of the reference. -/
import Derived.Test.YtdojkmbgmomghaaW11b
namespace Go.Proofs.Ytdojkmbgmomghaa
open Go.RowKit

theorem ite_min (a b : Int) : ∃ m, (if b < a then b else a) = m ∧ m = min a b := ⟨_, rfl, by split <;> omega⟩
theorem ite_max (a b : Int) : ∃ m, (if a < b then b else a) = m ∧ m = max a b := ⟨_, rfl, by split <;> omega⟩
theorem sum_bound (l : List Int) (h : ∀ x ∈ l, Num x) : ∀ s : Int, s - 1073741824 * l.length ≤ l.foldl (· + ·) s ∧ l.foldl (· + ·) s ≤ s + 1073741824 * l.length := by
  induction l with
  | nil => intro s; simp
  | cons x l ih =>
    intro s
    have hx := h x (by simp)
    unfold Num at hx
    have := ih (fun y hy => h y (by simp [hy])) (s + x)
    simp only [List.foldl_cons, List.length_cons]
    omega

theorem fold1_any (a : Int) (w : World) : Calls Try.prog 32 #[.int .i64 a] w fun e w' => e = .returned (.bool (a != 0)) ∧ w = w' := by
  go_enter Try.func32, Try.ntmps32
  go_wp2
  go_ret
  exact ⟨rfl, rfl⟩

set_option maxRecDepth 100000 in
set_option maxHeartbeats 1000000 in
theorem count_any (A : Option Addr) (n c : Nat) (l : List Int) (w : World) (h : IntsR w A n l) (hl : n ≤ 1000) :
    Calls Try.prog 30 #[.slice A n c] w fun e w' => e = .returned (.int .i64 (countF l)) ∧ w = w' := by
  obtain rfl := h.1
  have H := Lib.hid h; clear h
  go_enter Try.func30, Try.ntmps30
  go_wp2_with fail
  go_loopg [3, 8] l.length (fun g cv iv wr => ∃ (k : Nat) (z : Int), k + g = l.length ∧ 0 ≤ z ∧ z ≤ k ∧ Hid (z + countF (l.drop k) = countF l) ∧ cv = .int .i64 z ∧ iv = .int .i64 k ∧ w = wr)
  case atStart => exact ⟨0, 0, by omega, by omega, by omega, by show _ = _; simp, rfl, rfl, rfl⟩
  case round =>
    obtain ⟨k, z, hk, hz0, hz1, HZ, rfl, rfl, rfl⟩ := hrel
    by_cases hlt : k < l.length
    · obtain ⟨b, o, rfl, hb, hc⟩ := H.out.at_ k hlt
      have hstep : Hid (countF (l.drop k) = (if l[k] = 0 then 0 else 1) + countF (l.drop (k + 1))) := by
        show countF (l.drop k) = _
        rw [List.drop_eq_getElem_cons hlt, countF_cons]
      by_cases h0 : l[k] = 0
      · have hz : (l[k] != 0) = false := by simpa using h0
        have HZ2 : Hid (z + countF (l.drop (k + 1)) = countF l) := by show _ = _; rw [← HZ.out, hstep.out, if_pos h0]; omega
        clear h0
        go_wp2_with fail
        go_roundg (gk - 1)
        case rel => exact ⟨k + 1, z, by omega, by omega, by omega, HZ2, rfl, by go_num, rfl⟩
        case measure => omega
      · have hz : (l[k] != 0) = true := by simpa using h0
        have HZ2 : Hid (z + 1 + countF (l.drop (k + 1)) = countF l) := by show _ = _; rw [← HZ.out, hstep.out, if_neg h0]; omega
        clear h0
        go_wp2_with fail
        go_roundg (gk - 1)
        case rel => exact ⟨k + 1, z + 1, by omega, by omega, by omega, HZ2, rfl, by go_num, rfl⟩
        case measure => omega
    · go_wp2_with fail
      go_ret
      refine ⟨ret_int ?_, rfl⟩
      have := HZ.out
      rw [List.drop_eq_nil_of_le (by omega)] at this
      simpa [countF] using this

set_option maxRecDepth 100000 in
set_option maxHeartbeats 1000000 in
theorem two_any (A : Option Addr) (n c : Nat) (l : List Int) (w : World) (h : IntsR w A n l) (hl : n ≤ 1000) :
    Calls Try.prog 33 #[.slice A n c] w fun e w' => e = .returned (.tuple #[.int .i64 (twoF l).1, .int .i64 (twoF l).2]) ∧ w = w' := by
  obtain rfl := h.1
  have H := Lib.hid h; clear h
  go_enter Try.func33, Try.ntmps33
  go_wp2_with fail
  go_loopg [2, 3, 8] l.length (fun g av sv iv wr => ∃ (k : Nat) (a s : Int), k + g = l.length ∧ Hid (twoGo (l.drop k) a s = twoF l) ∧ av = .int .i64 a ∧ sv = .int .i64 s ∧ iv = .int .i64 k ∧ w = wr)
  case atStart => exact ⟨0, _, _, by omega, rfl, rfl, rfl, rfl, rfl⟩
  case round =>
    obtain ⟨k, a, s, hk, HZ, rfl, rfl, rfl, rfl⟩ := hrel
    by_cases hlt : k < l.length
    · obtain ⟨b, o, rfl, hb, hc⟩ := H.out.at_ k hlt
      have hstep : Hid (twoGo (l.drop k) a s = if a < l[k] then twoGo (l.drop (k + 1)) l[k] a else twoGo (l.drop (k + 1)) a (max s l[k])) := by
        show twoGo (l.drop k) a s = _
        rw [List.drop_eq_getElem_cons hlt]; rfl
      obtain ⟨m, hm, hm'⟩ := ite_max s l[k]
      have HM := Lib.hid hm'; clear hm'
      by_cases h0 : a < l[k]
      · have hd : decide (a < l[k]) = true := by simpa using h0
        have HZ2 : Hid (twoGo (l.drop (k + 1)) l[k] a = twoF l) := by show _ = _; rw [← HZ.out, hstep.out, if_pos h0]
        clear h0
        go_wp2_with fail
        go_roundg (gk - 1)
        case rel => exact ⟨k + 1, l[k], a, by omega, HZ2, rfl, rfl, by go_num, rfl⟩
        case measure => omega
      · have hd : decide (a < l[k]) = false := by simpa using h0
        have HZ2 : Hid (twoGo (l.drop (k + 1)) a m = twoF l) := by show _ = _; rw [← HZ.out, hstep.out, if_neg h0, HM.out]
        clear h0
        go_wp2_with fail
        go_roundg (gk - 1)
        case rel => exact ⟨k + 1, a, m, by omega, HZ2, rfl, rfl, by go_num, rfl⟩
        case measure => omega
    · go_wp2_with fail
      go_ret2
      have hz := HZ.out
      rw [List.drop_eq_nil_of_le (by omega)] at hz
      exact ⟨ret_pair hz.symm, rfl⟩

def idxGo : List Int → (Int → Bool) → Int → Int
  | [], _, _ => -1
  | a :: l, f, i => if f a then i else idxGo l f (i + 1)
theorem idxGo_first (l : List Int) : ∀ i, idxGo l (fun a => a != 0) i = firstGo l i := by
  induction l with
  | nil => intro i; rfl
  | cons a l ih =>
    intro i
    simp only [idxGo, firstGo]
    by_cases h : a = 0
    · simp [h, ih]
    · simp [h]
theorem idxGo_mem (l : List Int) (x : Int) : ∀ i, 0 ≤ i → (0 ≤ idxGo l (fun a => x == a) i ↔ x ∈ l) := by
  induction l with
  | nil => intro i _; simp [idxGo]
  | cons a l ih =>
    intro i hi
    simp only [idxGo]
    by_cases h : x = a
    · simp [h, hi]
    · simp [h, ih (i + 1) (by omega)]

set_option maxRecDepth 100000 in
set_option maxHeartbeats 1000000 in
theorem index_any (A : Option Addr) (n c : Nat) (l : List Int) (x : Int) (w : World) (h : IntsR w A n l) (hl : n ≤ 1000) :
    Calls Try.prog 41 #[.slice A n c, .int .i64 x] w fun e w' => e = .returned (.int .i64 (idxGo l (fun a => x == a) 0)) ∧ w = w' := by
  obtain rfl := h.1
  have H := Lib.hid h; clear h
  go_enter Try.func41, Try.ntmps41
  go_wp2_with fail
  go_loopg [8] l.length (fun g iv wr => ∃ (k : Nat), k + g = l.length ∧ Hid (idxGo (l.drop k) (fun a => x == a) k = idxGo l (fun a => x == a) 0) ∧ iv = .int .i64 k ∧ w = wr)
  case atStart => exact ⟨0, by omega, rfl, rfl, rfl⟩
  case round =>
    obtain ⟨k, hk, HZ, rfl, rfl⟩ := hrel
    by_cases hlt : k < l.length
    · obtain ⟨b, o, rfl, hb, hc⟩ := H.out.at_ k hlt
      have hstep : Hid (idxGo (l.drop k) (fun a => x == a) k = if (x == l[k]) = true then (k : Int) else idxGo (l.drop (k + 1)) (fun a => x == a) ((k : Int) + 1)) := by
        show idxGo (l.drop k) (fun a => x == a) k = _
        rw [List.drop_eq_getElem_cons hlt]; rfl
      cases h0 : (x == l[k]) with
      | true =>
        have HZ2 : Hid ((k : Int) = idxGo l (fun a => x == a) 0) := by show _ = _; rw [← HZ.out, hstep.out, if_pos h0]
        go_wp2_with fail
        go_ret
        exact ⟨ret_int HZ2.out, rfl⟩
      | false =>
        have HZ2 : Hid (idxGo (l.drop (k + 1)) (fun a => x == a) ((k + 1 : Nat) : Int) = idxGo l (fun a => x == a) 0) := by show _ = _; rw [← HZ.out, hstep.out, if_neg (by rw [h0]; decide)]; rfl
        go_wp2_with fail
        go_roundg (gk - 1)
        case rel => exact ⟨k + 1, by omega, HZ2, by go_num, rfl⟩
        case measure => omega
    · go_wp2_with fail
      go_ret
      have hz := HZ.out
      rw [List.drop_eq_nil_of_le (by omega)] at hz
      exact ⟨ret_int hz, rfl⟩

set_option maxRecDepth 100000 in
set_option maxHeartbeats 1000000 in
theorem contains_any (A : Option Addr) (n c : Nat) (l : List Int) (x : Int) (w : World) (h : IntsR w A n l) (hl : n ≤ 1000) :
    Calls Try.prog 40 #[.slice A n c, .int .i64 x] w fun e w' => e = .returned (.bool (decide (x ∈ l))) ∧ w = w' := by
  obtain rfl := h.1
  have H := Lib.hid h; clear h
  have HF : Hid (decide (x ∈ l) = decide (0 ≤ idxGo l (fun a => x == a) 0)) := by
    show decide (x ∈ l) = _
    rw [Bool.eq_iff_iff]; simp [idxGo_mem l x 0 (by omega)]
  go_enter Try.func40, Try.ntmps40
  go_wp2_with (go_at_call 41; refine (index_any _ _ _ l _ _ H.out hl).mono ?_; rintro e w' ⟨rfl, rfl⟩)
  go_ret
  exact ⟨ret_bool HF.out.symm, rfl⟩

set_option maxRecDepth 100000 in
set_option maxHeartbeats 1000000 in
theorem mex_any (A : Option Addr) (n c : Nat) (l : List Int) (w : World) (h : IntsR w A n l) (hl : n ≤ 1000) :
    Calls Try.prog 35 #[.slice A n c] w fun e w' => e = .returned (.int .i64 (mexF l)) ∧ w = w' := by
  obtain rfl := h.1
  have H := Lib.hid h; clear h
  have hcl := cntGe_le l 0
  go_enter Try.func35, Try.ntmps35
  go_wp2_with fail
  go_loopg [3] (cntGe l 0) (fun g rv wr => ∃ (k : Int), 0 ≤ k ∧ k + g = cntGe l 0 ∧ cntGe l k ≤ g ∧ Hid (mexGo l g k = mexF l) ∧ rv = .int .i64 k ∧ w = wr)
  case atStart => exact ⟨0, by omega, by omega, Nat.le_refl _, rfl, rfl, rfl⟩
  case round =>
    obtain ⟨k, hk0, hk, hg, HZ, rfl, rfl⟩ := hrel
    by_cases hm : k ∈ l
    · have hc := cntGe_lt hm
      obtain ⟨g, rfl⟩ : ∃ g, gk = g + 1 := ⟨gk - 1, by omega⟩
      have HZ2 : Hid (mexGo l g (k + 1) = mexF l) := by
        have := HZ.out
        simp only [mexGo] at this
        rw [if_pos hm] at this
        exact this
      have hd : decide (k ∈ l) = true := decide_eq_true hm
      have hk6 : k ≤ 1000000 := by omega
      clear hm
      go_wp2_with (go_at_call 40; refine (contains_any _ _ _ l _ _ H.out hl).mono ?_; rintro e w' ⟨rfl, rfl⟩; rw [hd])
      go_roundg g
      case rel => exact ⟨k + 1, by omega, by omega, by omega, HZ2, rfl, rfl⟩
      case measure => omega
    · have HZ2 : Hid (k = mexF l) := by
        have := HZ.out
        cases gk with
        | zero => exact this
        | succ g => simp only [mexGo] at this; rw [if_neg hm] at this; exact this
      have hd : decide (k ∈ l) = false := decide_eq_false hm
      clear hm
      go_wp2_with (go_at_call 40; refine (contains_any _ _ _ l _ _ H.out hl).mono ?_; rintro e w' ⟨rfl, rfl⟩; rw [hd])
      go_ret
      exact ⟨ret_int HZ2.out, rfl⟩

set_option maxHeartbeats 1000000 in
theorem indexFunc_any (f : FuncId) (p : Int → Bool) (hf : ∀ a w, Calls Try.prog f #[.int .i64 a] w fun e w' => e = .returned (.bool (p a)) ∧ w = w') (hcall : ∀ a w, (callFunc f #[a]).run Try.prog w = .ok (.enter f #[a]) w)
    (A : Option Addr) (n c : Nat) (l : List Int) (w : World) (h : IntsR w A n l) (hl : n ≤ 1000) :
    Calls Try.prog 31 #[.slice A n c, .func (.func f) #[] #[]] w fun e w' => e = .returned (.int .i64 (idxGo l p 0)) ∧ w = w' := by
  obtain rfl := h.1
  have H := Lib.hid h; clear h
  have HF := Lib.hid hf; clear hf
  go_enter Try.func31, Try.ntmps31
  go_wp2_with fail
  go_loopg [8] l.length (fun g iv wr => ∃ (k : Nat), k + g = l.length ∧ Hid (idxGo (l.drop k) p k = idxGo l p 0) ∧ iv = .int .i64 k ∧ w = wr)
  case atStart => exact ⟨0, by omega, rfl, rfl, rfl⟩
  case round =>
    obtain ⟨k, hk, HZ, rfl, rfl⟩ := hrel
    by_cases hlt : k < l.length
    · obtain ⟨b, o, rfl, hb, hc⟩ := H.out.at_ k hlt
      have hstep : Hid (idxGo (l.drop k) p k = if p l[k] = true then (k : Int) else idxGo (l.drop (k + 1)) p ((k : Int) + 1)) := by
        show idxGo (l.drop k) p k = _
        rw [List.drop_eq_getElem_cons hlt]; rfl
      cases h0 : p l[k] with
      | true =>
        have HZ2 : Hid ((k : Int) = idxGo l p 0) := by show _ = _; rw [← HZ.out, hstep.out, if_pos h0]
        go_wp2_with (((with_reducible refine (HF.out _ _).mono ?_); rintro e w' ⟨rfl, rfl⟩; rw [h0]))
        go_ret
        exact ⟨ret_int HZ2.out, rfl⟩
      | false =>
        have HZ2 : Hid (idxGo (l.drop (k + 1)) p ((k + 1 : Nat) : Int) = idxGo l p 0) := by show _ = _; rw [← HZ.out, hstep.out, if_neg (by rw [h0]; decide)]; rfl
        go_wp2_with (((with_reducible refine (HF.out _ _).mono ?_); rintro e w' ⟨rfl, rfl⟩; rw [h0]))
        go_roundg (gk - 1)
        case rel => exact ⟨k + 1, by omega, HZ2, by go_num, rfl⟩
        case measure => omega
    · go_wp2_with fail
      go_ret
      have hz := HZ.out
      rw [List.drop_eq_nil_of_le (by omega)] at hz
      exact ⟨ret_int hz, rfl⟩

set_option maxRecDepth 100000 in
set_option maxHeartbeats 1000000 in
theorem occurs_any (A : Option Addr) (n c : Nat) (l : List Int) (x : Int) (w : World) (h : IntsR w A n l) (hl : n ≤ 1000) :
    Calls Try.prog 36 #[.slice A n c, .int .i64 x] w fun e w' => e = .returned (.bool (decide (x ∈ l))) ∧ w = w' := by
  obtain rfl := h.1
  have H := Lib.hid h; clear h
  go_enter Try.func36, Try.ntmps36
  go_wp2_with fail
  go_loopg [5] l.length (fun g iv wr => ∃ (k : Nat), k + g = l.length ∧ Hid (decide (x ∈ l.drop k) = decide (x ∈ l)) ∧ iv = .int .i64 k ∧ w = wr)
  case atStart => exact ⟨0, by omega, rfl, rfl, rfl⟩
  case round =>
    obtain ⟨k, hk, HZ, rfl, rfl⟩ := hrel
    by_cases hlt : k < l.length
    · obtain ⟨b, o, rfl, hb, hc⟩ := H.out.at_ k hlt
      have hstep : Hid (decide (x ∈ l.drop k) = ((l[k] == x) || decide (x ∈ l.drop (k + 1)))) := by
        show decide (x ∈ l.drop k) = _
        rw [List.drop_eq_getElem_cons hlt, Bool.eq_iff_iff]
        simp only [List.mem_cons, decide_eq_true_eq, Bool.or_eq_true, beq_iff_eq]
        exact ⟨fun h => h.elim (fun e => .inl e.symm) .inr, fun h => h.elim (fun e => .inl e.symm) .inr⟩
      cases h0 : (l[k] == x) with
      | true =>
        have HZ2 : Hid (true = decide (x ∈ l)) := by show _ = _; rw [← HZ.out, hstep.out, h0]; rfl
        go_wp2_with fail
        go_ret
        exact ⟨ret_bool HZ2.out, rfl⟩
      | false =>
        have HZ2 : Hid (decide (x ∈ l.drop (k + 1)) = decide (x ∈ l)) := by show _ = _; rw [← HZ.out, hstep.out, h0]; rfl
        go_wp2_with fail
        go_roundg (gk - 1)
        case rel => exact ⟨k + 1, by omega, HZ2, by go_num, rfl⟩
        case measure => omega
    · go_wp2_with fail
      go_ret
      have hz := HZ.out
      rw [List.drop_eq_nil_of_le (by omega)] at hz
      exact ⟨ret_bool (by simpa using hz), rfl⟩

set_option maxRecDepth 100000 in
set_option maxHeartbeats 1000000 in
theorem fold_any (A : Option Addr) (n c : Nat) (l : List Int) (op : Int) (w : World) (h : IntsR w A n l) (hl : n ≤ 1000) (h1 : 20 ≤ op) (h2 : op ≤ 29) (hn : ∀ x ∈ l, Num x) :
    Calls Try.prog 22 #[.int .i64 op, .slice A n c] w fun e w' => e = .returned (.int .i64 (foldF op l)) ∧ w = w' := by
  obtain rfl := h.1
  have H := Lib.hid h; clear h
  have HN := Lib.hid hn; clear hn
  have hcase : op = 20 ∨ op = 21 ∨ op = 22 ∨ op = 23 ∨ op = 24 ∨ op = 25 ∨ op = 26 ∨ op = 27 ∨ op = 28 ∨ op = 29 := by omega
  clear h1 h2
  rcases hcase with h | h | h | h | h | h | h | h | h | h
  · subst h
    go_enter Try.func22, Try.ntmps22
    go_wp2_with (first
      | (go_at_call 30; refine (count_any _ _ _ l _ H.out hl).mono ?_; rintro e w' ⟨rfl, rfl⟩)
      | (go_at_call 29; refine (truth_any _ _).mono ?_; rintro e w' ⟨rfl, rfl⟩))
    go_ret
    exact ⟨rfl, rfl⟩
  · subst h
    go_enter Try.func22, Try.ntmps22
    go_wp2_with (first
      | (go_at_call 30; refine (count_any _ _ _ l _ H.out hl).mono ?_; rintro e w' ⟨rfl, rfl⟩)
      | (go_at_call 29; refine (truth_any _ _).mono ?_; rintro e w' ⟨rfl, rfl⟩))
    go_ret
    exact ⟨rfl, rfl⟩
  · subst h
    go_enter Try.func22, Try.ntmps22
    go_wp2_with (first
      | (go_at_call 30; refine (count_any _ _ _ l _ H.out hl).mono ?_; rintro e w' ⟨rfl, rfl⟩))
    go_ret
    exact ⟨rfl, rfl⟩
  · subst h
    have HF : Hid (idxGo l (fun a => a != 0) 0 = foldF 23 l) := idxGo_first l 0
    go_enter Try.func22, Try.ntmps22
    go_wp2_with (go_at_call 31; refine (indexFunc_any 32 (fun a => a != 0) (fun a w => fold1_any a w) (fun _ _ => by kernel_rfl) _ _ _ l _ H.out hl).mono ?_; rintro e w' ⟨rfl, rfl⟩)
    go_ret
    exact ⟨ret_int HF.out, rfl⟩
  · subst h
    go_enter Try.func22, Try.ntmps22
    go_wp2_with fail
    go_loopg [5, 42] l.length (fun g mv iv wr => ∃ (k : Nat) (z : Int), k + g = l.length ∧ Hid ((l.drop k).foldl min z = foldF 24 l) ∧ mv = .int .i64 z ∧ iv = .int .i64 k ∧ w = wr)
    case atStart => exact ⟨0, _, by omega, rfl, rfl, rfl, rfl⟩
    case round =>
      obtain ⟨k, z, hk, HZ, rfl, rfl, rfl⟩ := hrel
      by_cases hlt : k < l.length
      · obtain ⟨b, o, rfl, hb, hc⟩ := H.out.at_ k hlt
        obtain ⟨m, hm, hm'⟩ := ite_min z l[k]
        have HZ2 : Hid ((l.drop (k + 1)).foldl min m = foldF 24 l) := by
          have := HZ.out
          rw [List.drop_eq_getElem_cons hlt, List.foldl_cons, ← hm'] at this
          exact this
        clear hm'
        go_wp2_with fail
        go_roundg (gk - 1)
        case rel => exact ⟨k + 1, m, by omega, HZ2, rfl, by go_num, rfl⟩
        case measure => omega
      · go_wp2_with fail
        go_ret
        have hz := HZ.out
        rw [List.drop_eq_nil_of_le (by omega)] at hz
        exact ⟨ret_int hz, rfl⟩
  · subst h
    go_enter Try.func22, Try.ntmps22
    go_wp2_with (first
      | (go_at_call 33; refine (two_any _ _ _ l _ H.out hl).mono ?_; rintro e w' ⟨rfl, rfl⟩))
    go_ret
    exact ⟨rfl, rfl⟩
  · subst h
    go_enter Try.func22, Try.ntmps22
    go_wp2_with fail
    go_loopg [10, 63] l.length (fun g sv iv wr => ∃ (k : Nat) (z : Int), k + g = l.length ∧ -(1073741824 * k) ≤ z ∧ z ≤ 1073741824 * k ∧ Hid (satF ((l.drop k).foldl (· + ·) z) = foldF 26 l) ∧ sv = .int .i64 z ∧ iv = .int .i64 k ∧ w = wr)
    case atStart => exact ⟨0, 0, by omega, by omega, by omega, rfl, rfl, rfl, rfl⟩
    case round =>
      obtain ⟨k, z, hk, hz1, hz2, HZ, rfl, rfl, rfl⟩ := hrel
      by_cases hlt : k < l.length
      · obtain ⟨b, o, rfl, hb, hc⟩ := H.out.at_ k hlt
        have hx := HN.out l[k] (List.getElem_mem _)
        unfold Num at hx
        obtain ⟨hx1, hx2⟩ := hx
        have HZ2 : Hid (satF ((l.drop (k + 1)).foldl (· + ·) (z + l[k])) = foldF 26 l) := by
          have := HZ.out
          rw [List.drop_eq_getElem_cons hlt, List.foldl_cons] at this
          exact this
        go_wp2_with fail
        go_roundg (gk - 1)
        case rel => exact ⟨k + 1, z + l[k], by omega, by omega, by omega, HZ2, rfl, by go_num, rfl⟩
        case measure => omega
      · have hz := HZ.out
        rw [List.drop_eq_nil_of_le (by omega)] at hz
        have HZ2 := Lib.hid hz; clear hz
        go_wp2_with (go_at_call 34; refine (saturated_any _ _).mono ?_; rintro e w' ⟨rfl, rfl⟩)
        go_ret
        exact ⟨ret_int HZ2.out, rfl⟩
  · subst h
    go_enter Try.func22, Try.ntmps22
    go_wp2_with (first
      | (go_at_call 35; refine (mex_any _ _ _ l _ H.out hl).mono ?_; rintro e w' ⟨rfl, rfl⟩))
    go_ret
    exact ⟨rfl, rfl⟩
  · subst h
    go_enter Try.func22, Try.ntmps22
    go_wp2_with (first
      | (go_at_call 33; refine (two_any _ _ _ l _ H.out hl).mono ?_; rintro e w' ⟨rfl, rfl⟩))
    go_ret
    exact ⟨rfl, rfl⟩
  · subst h
    rcases l with _ | ⟨x, l⟩
    · go_enter Try.func22, Try.ntmps22
      go_wp2_with fail
      go_ret
      exact ⟨rfl, rfl⟩
    · obtain ⟨b, o, rfl, hb, hc⟩ := H.out.at_ 0 (by simp)
      have hc' : w.cell? ⟨b, o, none⟩ = some (.int .i64 x) := by simpa using hc
      clear hc
      have hne : (((x :: l).length : Int) == 0) = false := by simp; omega
      go_enter Try.func22, Try.ntmps22
      go_wp2_with fail
      go_ret
      exact ⟨rfl, rfl⟩

end Go.Proofs.Ytdojkmbgmomghaa
