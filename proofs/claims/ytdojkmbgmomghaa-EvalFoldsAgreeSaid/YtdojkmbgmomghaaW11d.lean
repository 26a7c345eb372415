/- Contracts of the reference's fold, and of Fold of both. -/
import Derived.Test.YtdojkmbgmomghaaW11c
namespace Go.Proofs.Ytdojkmbgmomghaa
open Go.RowKit

/-- What the reference's loop has gathered, and what is still to come. -/
structure Gathered (l : List Int) (k : Nat) (yes first least great second sum : Int) : Prop where
  yes : yes + countF (l.drop k) = countF l
  first : (first < 0 → first = -1 ∧ firstGo (l.drop k) k = firstGo l 0) ∧ (0 ≤ first → first = firstGo l 0)
  least : (l.drop k).foldl min least = minF l
  two : twoGo (l.drop k) great second = twoF l
  ord : second ≤ great
  sum : (l.drop k).foldl (· + ·) sum = sumF l

theorem gathered_zero (l : List Int) : Gathered l 0 0 (-1) 1073741824 (-1073741824) (-1073741824) 0 :=
  ⟨by simp, ⟨fun _ => ⟨rfl, rfl⟩, fun h => by omega⟩, rfl, rfl, by omega, rfl⟩

theorem gathered_succ {l : List Int} {k : Nat} {yes first least great second sum : Int} (h : Gathered l k yes first least great second sum) (hk : k < l.length) :
    Gathered l (k + 1) (if l[k] = 0 then yes else yes + 1) (if l[k] ≠ 0 ∧ first < 0 then (k : Int) else first) (min least l[k]) (max great l[k]) (max second (min great l[k])) (sum + l[k]) := by
  have hd := List.drop_eq_getElem_cons hk
  obtain ⟨h1, ⟨h2a, h2b⟩, h3, h4, h5, h6⟩ := h
  rw [hd] at h1 h3 h4 h6
  rw [countF_cons] at h1
  refine ⟨?_, ?_, ?_, ?_, ?_, ?_⟩
  · split <;> simp_all <;> omega
  · constructor
    · intro hf
      split at hf
      · omega
      · rename_i hc
        rw [if_neg hc]
        obtain ⟨e1, e2⟩ := h2a hf
        refine ⟨e1, ?_⟩
        rw [hd] at e2
        simp only [firstGo] at e2
        rw [if_neg (by intro h0; exact hc ⟨h0, hf⟩)] at e2
        exact e2
    · intro hf
      split
      · rename_i hc
        obtain ⟨e1, e2⟩ := h2a hc.2
        rw [hd] at e2
        simp only [firstGo] at e2
        rw [if_pos hc.1] at e2
        exact e2
      · rename_i hc
        rw [if_neg hc] at hf
        exact h2b hf
  · rw [List.foldl_cons] at h3; exact h3
  · simp only [twoGo] at h4
    by_cases hg : great < l[k]
    · rw [if_pos hg] at h4
      rw [show max great l[k] = l[k] by omega, show max second (min great l[k]) = great by omega]
      exact h4
    · rw [if_neg hg] at h4
      rw [show max great l[k] = great by omega, show max second (min great l[k]) = max second l[k] by omega]
      exact h4
  · omega
  · rw [List.foldl_cons] at h6; exact h6

set_option maxRecDepth 100000 in
set_option maxHeartbeats 1000000 in
theorem refFold_any (A : Option Addr) (n c : Nat) (l : List Int) (op : Int) (w : World) (h : IntsR w A n l) (hl : n ≤ 1000) (h1 : 20 ≤ op) (h2 : op ≤ 29) (hn : ∀ x ∈ l, Num x) :
    Calls Try.prog 24 #[.int .i64 op, .slice A n c] w fun e w' => e = .returned (.int .i64 (foldF op l)) ∧ w = w' := by
  obtain rfl := h.1
  have H := Lib.hid h; clear h
  have HN := Lib.hid hn; clear hn
  have HC : Hid (op = 20 ∨ op = 21 ∨ op = 22 ∨ op = 23 ∨ op = 24 ∨ op = 25 ∨ op = 26 ∨ op = 27 ∨ op = 28 ∨ op = 29) := by show _ ∨ _; omega
  clear h1 h2
  go_enter Try.func24, Try.ntmps24
  go_wp2_with fail
  go_loopg [5, 6, 7, 8, 9, 10, 11] l.length (fun g yv fv lv gv sv mv iv wr => ∃ (k : Nat) (yes first least great second sum : Int), k + g = l.length ∧ 0 ≤ yes ∧ yes ≤ k ∧ -(1073741824 * k) ≤ sum ∧ sum ≤ 1073741824 * k ∧ Hid (Gathered l k yes first least great second sum) ∧
    yv = .int .i64 yes ∧ fv = .int .i64 first ∧ lv = .int .i64 least ∧ gv = .int .i64 great ∧ sv = .int .i64 second ∧ mv = .int .i64 sum ∧ iv = .int .i64 k ∧ w = wr)
  case atStart => exact ⟨0, 0, -1, _, _, _, 0, by omega, by omega, by omega, by omega, by omega, gathered_zero l, rfl, rfl, rfl, rfl, rfl, rfl, rfl, rfl⟩
  case round =>
    obtain ⟨k, yes, first, least, great, second, sum, hk, hy1, hy2, hs1, hs2, HG, rfl, rfl, rfl, rfl, rfl, rfl, rfl, rfl⟩ := hrel
    by_cases hlt : k < l.length
    · obtain ⟨b, o, rfl, hb, hc⟩ := H.out.at_ k hlt
      have HS := Lib.hid (gathered_succ HG.out hlt)
      have hx := HN.out l[k] (List.getElem_mem _)
      unfold Num at hx
      obtain ⟨hx1, hx2⟩ := hx
      generalize l[k] = x at *
      obtain ⟨m1, hm1, hm1'⟩ := ite_min least x
      obtain ⟨m2, hm2, hm2'⟩ := ite_min great x
      obtain ⟨m3, hm3, hm3'⟩ := ite_max second m2
      obtain ⟨m4, hm4, hm4'⟩ := ite_max great x
      have HS2 := HS.out
      rw [← hm1', ← hm2', ← hm3', ← hm4'] at HS2
      have HS3 := Lib.hid HS2; clear HS2 HS hm1' hm2' hm3' hm4'
      by_cases h0 : x = 0
      · have hz : (x != 0) = false := by simpa using h0
        have HS4 : Hid (Gathered l (k + 1) yes first m1 m4 m3 (sum + x)) := by
          have := HS3.out
          rw [if_pos h0, if_neg (by simp [h0])] at this
          exact this
        clear h0
        go_wp2_with fail
        go_roundg (gk - 1)
        case rel => exact ⟨k + 1, yes, first, m1, m4, m3, sum + x, by omega, by omega, by omega, by omega, by omega, HS4, rfl, rfl, rfl, rfl, rfl, rfl, by go_num, rfl⟩
        case measure => omega
      · have hz : (x != 0) = true := by simpa using h0
        by_cases hf : first < 0
        · have hfd : decide (first < 0) = true := by simpa using hf
          have HS4 : Hid (Gathered l (k + 1) (yes + 1) k m1 m4 m3 (sum + x)) := by
            have := HS3.out
            rw [if_neg h0, if_pos ⟨h0, hf⟩] at this
            exact this
          clear h0 hf
          go_wp2_with fail
          go_roundg (gk - 1)
          case rel => exact ⟨k + 1, yes + 1, k, m1, m4, m3, sum + x, by omega, by omega, by omega, by omega, by omega, HS4, rfl, rfl, rfl, rfl, rfl, rfl, by go_num, rfl⟩
          case measure => omega
        · have hfd : decide (first < 0) = false := by simpa using hf
          have HS4 : Hid (Gathered l (k + 1) (yes + 1) first m1 m4 m3 (sum + x)) := by
            have := HS3.out
            rw [if_neg h0, if_neg (fun h => hf h.2)] at this
            exact this
          clear h0 hf
          go_wp2_with fail
          go_roundg (gk - 1)
          case rel => exact ⟨k + 1, yes + 1, first, m1, m4, m3, sum + x, by omega, by omega, by omega, by omega, by omega, HS4, rfl, rfl, rfl, rfl, rfl, rfl, by go_num, rfl⟩
          case measure => omega
    · obtain ⟨g1, ⟨g2a, g2b⟩, g3, g4, g5, g6⟩ := HG.out
      rw [List.drop_eq_nil_of_le (by omega)] at g1 g2a g3 g4 g6
      have e1 : yes = countF l := by simpa [countF] using g1
      have e2 : first = firstGo l 0 := by
        by_cases hf : first < 0
        · obtain ⟨a, b⟩ := g2a hf; rw [a, ← b]; rfl
        · exact g2b (by omega)
      have e3 : least = minF l := g3
      have e4 : twoF l = (great, second) := g4.symm
      have e5 : sum = sumF l := g6
      clear g1 g2a g2b g3 g4 g5 g6 HG
      have E1 := Lib.hid e1; have E2 := Lib.hid e2; have E3 := Lib.hid e3; have E4 := Lib.hid e4; have E5 := Lib.hid e5
      clear e1 e2 e3 e4 e5
      have hcl := cntGe_le l 0
      rcases HC.out with h | h | h | h | h | h | h | h | h | h
      case inr.inr.inr.inr.inr.inr.inr.inl =>
        subst h
        go_wp2_with fail
        go_loopg [12] (cntGe l 0) (fun g rv wr => ∃ (q : Int), 0 ≤ q ∧ q + g = cntGe l 0 ∧ cntGe l q ≤ g ∧ Hid (mexGo l g q = mexF l) ∧ rv = .int .i64 q ∧ w = wr)
        case atStart => exact ⟨0, by omega, by omega, Nat.le_refl _, rfl, rfl, rfl⟩
        case round =>
          obtain ⟨q, hq0, hq, hg, HZ, rfl, rfl⟩ := hrel
          by_cases hm : q ∈ l
          · have hc := cntGe_lt hm
            obtain ⟨g, rfl⟩ : ∃ g, gk = g + 1 := ⟨gk - 1, by omega⟩
            have HZ2 : Hid (mexGo l g (q + 1) = mexF l) := by
              have := HZ.out
              simp only [mexGo] at this
              rw [if_pos hm] at this
              exact this
            have hd : decide (q ∈ l) = true := decide_eq_true hm
            have hk6 : q ≤ 1000000 := by omega
            clear hm
            go_wp2_with (go_at_call 36; refine (occurs_any _ _ _ l _ _ H.out hl).mono ?_; rintro e w' ⟨rfl, rfl⟩; rw [hd])
            go_roundg g
            case rel => exact ⟨q + 1, by omega, by omega, by omega, HZ2, rfl, rfl⟩
            case measure => omega
          · have HZ2 : Hid (q = mexF l) := by
              have := HZ.out
              cases gk with
              | zero => exact this
              | succ g => simp only [mexGo] at this; rw [if_neg hm] at this; exact this
            have hd : decide (q ∈ l) = false := decide_eq_false hm
            clear hm
            go_wp2_with (go_at_call 36; refine (occurs_any _ _ _ l _ _ H.out hl).mono ?_; rintro e w' ⟨rfl, rfl⟩; rw [hd])
            go_ret
            exact ⟨ret_int HZ2.out, rfl⟩
      case inr.inr.inr.inr.inr.inr.inr.inr.inr =>
        subst h
        clear E1 E2 E3 E4 E5
        by_cases h0 : l.length = 0
        · have HZ : Hid ((0 : Int) = foldF 29 l) := by show _ = _; rw [List.length_eq_zero_iff.1 h0]; rfl
          have hb0 : ((l.length : Int) == 0) = true := by simp; exact List.length_eq_zero_iff.1 h0
          go_wp2_with fail
          go_ret
          exact ⟨ret_int HZ.out, rfl⟩
        · obtain ⟨b, o, rfl, hb, hc⟩ := H.out.at_ 0 (by omega)
          have HZ : Hid (l[0]'(by omega) = foldF 29 l) := by
            show _ = _
            cases l with
            | nil => simp at h0
            | cons x l => rfl
          have hc' : w.cell? ⟨b, o, none⟩ = some (.int .i64 (l[0]'(by omega))) := by simpa using hc
          clear hc
          have hb0 : ((l.length : Int) == 0) = false := by simp; intro hh; rw [hh] at h0; exact h0 rfl
          have hpos : 0 < l.length := by omega
          generalize (l[0]'(by omega) : Int) = x0 at *
          clear h0
          go_wp2_with fail
          go_ret
          exact ⟨ret_int HZ.out, rfl⟩
      all_goals
        subst h
        go_wp2_with (first
          | (go_at_call 27; refine (refTruth_any _ _).mono ?_; rintro e w' ⟨rfl, rfl⟩)
          | (go_at_call 13; refine (refSaturate_any _ _).mono ?_; rintro e w' ⟨rfl, rfl⟩))
        go_ret
        refine ⟨ret_int ?_, rfl⟩
        simp only [foldF]
        first
          | (rw [E1.out]; rfl)
          | (rw [E2.out]; rfl)
          | (rw [E3.out]; rfl)
          | (rw [E4.out]; rfl)
          | (rw [E5.out]; rfl)

set_option maxRecDepth 100000 in
set_option maxHeartbeats 1000000 in
theorem evalFold_any (A : Option Addr) (n c : Nat) (l : List Int) (op : Int) (w : World) (h : IntsR w A n l) (hl : n ≤ 1000) :
    Calls Try.prog 11 #[.int .i64 op, .slice A n c] w fun e w' => e = .returned (.tuple #[.int .i64 (foldR op l).1, .int .i64 (foldR op l).2]) ∧ w = w' := by
  obtain rfl := h.1
  have H := Lib.hid h; clear h
  cases hag : aggregate op with
  | false =>
    have HF : Hid (foldR op l = (0, 2)) := by show foldR op l = _; unfold foldR; rw [if_pos hag]
    go_enter Try.func11, Try.ntmps11
    go_wp2_with (go_at_call 20; refine (aggregate_any _ _).mono ?_; rintro e w' ⟨rfl, rfl⟩; rw [hag])
    go_ret2
    exact ⟨ret_pair HF.out, rfl⟩
  | true =>
    have hop : 20 ≤ op ∧ op ≤ 29 := by unfold aggregate at hag; exact of_decide_eq_true hag
    have HOP := Lib.hid hop; clear hop
    by_cases h24 : 24 ≤ l.length
    · have HF : Hid (foldR op l = (0, 3)) := by show foldR op l = _; unfold foldR; rw [if_neg (by rw [hag]; decide), if_pos h24]
      go_enter Try.func11, Try.ntmps11
      go_wp2_with (go_at_call 20; refine (aggregate_any _ _).mono ?_; rintro e w' ⟨rfl, rfl⟩; rw [hag])
      go_ret2
      exact ⟨ret_pair HF.out, rfl⟩
    · have h24' : l.length < 24 := by omega
      have hd24 : decide (24 ≤ l.length) = false := by simp; omega
      have HF0 : Hid (foldR op l = if l.all numB = false then (0, 2) else (foldF op l, 0)) := by show foldR op l = _; unfold foldR; rw [if_neg (by rw [hag]; decide), if_neg h24]
      clear h24
      cases hall : l.all numB with
      | false =>
        go_enter Try.func11, Try.ntmps11
        go_wp2_with (first
          | (go_at_call 20; refine (aggregate_any _ _).mono ?_; rintro e w' ⟨rfl, rfl⟩; rw [hag])
          | (go_at_call 21; refine (inRange_any _ _ _ l _ H.out (by omega)).mono ?_; rintro e w' ⟨rfl, rfl⟩; rw [hall]))
        go_ret2
        exact ⟨ret_pair (by rw [HF0.out, if_pos hall]), rfl⟩
      | true =>
        have HN : Hid (∀ x ∈ l, Num x) := fun x hx => num_of_numB (List.all_eq_true.1 hall x hx)
        go_enter Try.func11, Try.ntmps11
        go_wp2_with (first
          | (go_at_call 20; refine (aggregate_any _ _).mono ?_; rintro e w' ⟨rfl, rfl⟩; rw [hag])
          | (go_at_call 21; refine (inRange_any _ _ _ l _ H.out (by omega)).mono ?_; rintro e w' ⟨rfl, rfl⟩; rw [hall])
          | (go_at_call 22; refine (fold_any _ _ _ l _ _ H.out hl HOP.out.1 HOP.out.2 HN.out).mono ?_; rintro e w' ⟨rfl, rfl⟩))
        go_ret2
        exact ⟨ret_pair (by rw [HF0.out, if_neg (by rw [hall]; decide)]), rfl⟩

set_option maxRecDepth 100000 in
set_option maxHeartbeats 1000000 in
theorem refFoldR_any (A : Option Addr) (n c : Nat) (l : List Int) (op : Int) (w : World) (h : IntsR w A n l) (hl : n ≤ 1000) :
    Calls Try.prog 12 #[.int .i64 op, .slice A n c] w fun e w' => e = .returned (.tuple #[.int .i64 (foldR op l).1, .int .i64 (foldR op l).2]) ∧ w = w' := by
  obtain rfl := h.1
  have H := Lib.hid h; clear h
  cases hag : aggregate op with
  | false =>
    have HF : Hid (foldR op l = (0, 2)) := by show foldR op l = _; unfold foldR; rw [if_pos hag]
    go_enter Try.func12, Try.ntmps12
    go_wp2_with (go_at_call 23; refine (refAggregate_any _ _).mono ?_; rintro e w' ⟨rfl, rfl⟩; rw [hag])
    go_ret2
    exact ⟨ret_pair HF.out, rfl⟩
  | true =>
    have hop : 20 ≤ op ∧ op ≤ 29 := by unfold aggregate at hag; exact of_decide_eq_true hag
    have HOP := Lib.hid hop; clear hop
    by_cases h24 : 24 ≤ l.length
    · have HF : Hid (foldR op l = (0, 3)) := by show foldR op l = _; unfold foldR; rw [if_neg (by rw [hag]; decide), if_pos h24]
      go_enter Try.func12, Try.ntmps12
      go_wp2_with (go_at_call 23; refine (refAggregate_any _ _).mono ?_; rintro e w' ⟨rfl, rfl⟩; rw [hag])
      go_ret2
      exact ⟨ret_pair HF.out, rfl⟩
    · have h24' : l.length < 24 := by omega
      have hd24 : decide (24 ≤ l.length) = false := by simp; omega
      have HF0 : Hid (foldR op l = if l.all numB = false then (0, 2) else (foldF op l, 0)) := by show foldR op l = _; unfold foldR; rw [if_neg (by rw [hag]; decide), if_neg h24]
      clear h24
      go_enter Try.func12, Try.ntmps12
      go_wp2_with (go_at_call 23; refine (refAggregate_any _ _).mono ?_; rintro e w' ⟨rfl, rfl⟩; rw [hag])
      go_loopg [6] l.length (fun g iv wr => ∃ k : Nat, k + g = l.length ∧ iv = .int .i64 k ∧ Hid (l.all numB = (l.drop k).all numB) ∧ w = wr)
      case atStart => exact ⟨0, by omega, rfl, rfl, rfl⟩
      case round =>
        obtain ⟨k, hk, rfl, HK, rfl⟩ := hrel
        by_cases hlt : k < l.length
        · obtain ⟨b, o, rfl, hb, hc⟩ := H.out.at_ k hlt
          have hstep : Hid ((l.drop k).all numB = (numB l[k] && (l.drop (k + 1)).all numB)) := by
            show (l.drop k).all numB = _
            rw [List.drop_eq_getElem_cons hlt]; rfl
          cases hnk : numB l[k] with
          | true =>
            go_wp2_with (go_at_call 19; refine (refNumber_any _ _).mono ?_; rintro e w' ⟨rfl, rfl⟩; rw [hnk])
            go_roundg (gk - 1)
            case rel => exact ⟨k + 1, by omega, by go_num, by show _ = _; rw [HK.out, hstep.out, hnk]; rfl, rfl⟩
            case measure => omega
          | false =>
            go_wp2_with (go_at_call 19; refine (refNumber_any _ _).mono ?_; rintro e w' ⟨rfl, rfl⟩; rw [hnk])
            go_ret2
            exact ⟨ret_pair (by rw [HF0.out, if_pos (by rw [HK.out, hstep.out, hnk]; rfl)]), rfl⟩
        · have hall : l.all numB = true := by rw [HK.out, List.drop_eq_nil_of_le (by omega)]; rfl
          have HN : Hid (∀ x ∈ l, Num x) := fun x hx => num_of_numB (List.all_eq_true.1 hall x hx)
          go_wp2_with (go_at_call 24; refine (refFold_any _ _ _ l _ _ H.out hl HOP.out.1 HOP.out.2 HN.out).mono ?_; rintro e w' ⟨rfl, rfl⟩)
          go_ret2
          exact ⟨ret_pair (by rw [HF0.out, if_neg (by rw [hall]; decide)]), rfl⟩

end Go.Proofs.Ytdojkmbgmomghaa
