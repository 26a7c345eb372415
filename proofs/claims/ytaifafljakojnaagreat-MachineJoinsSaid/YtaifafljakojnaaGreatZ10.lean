/- Merged of: WNb WTh WTi WTj (see NOTES.md). -/
import Derived.Test.YtaifafljakojnaaGreatZ09
import Derived.Lib.Strings
set_option linter.unusedSimpArgs false
set_option linter.unnecessarySimpa false
set_option linter.unusedVariables false

/- Contracts: Name, of the program and of the reference. -/
namespace Go.Proofs.YtaifafljakojnaaGreat
open Go.RowKit

def nameF (s : ByteArray) : Bool := decide (1 ≤ s.size ∧ s.size ≤ 24) && letterB (s.data.toList.headD 0) && s.data.toList.all inWordB && !reservedB s

theorem head_at (s : ByteArray) (h : 0 < s.size) : s.data.toList.headD 0 = s[0] := by
  have h' : 0 < s.data.toList.length := by simpa using h
  show s.data.toList.headD 0 = s.data.toList[0]
  match hl : s.data.toList, h' with
  | x :: l, _ => rfl
theorem bytes_at (s : ByteArray) (k : Nat) (h : k < s.size) : s.data.toList[k]'(by simpa using h) = s[k] := rfl

set_option maxRecDepth 100000 in
set_option maxHeartbeats 1000000 in
theorem name_any (s : ByteArray) (w : World) (hs : s.size ≤ 1000000) : Calls Tryz.prog 167 #[.string s] w fun e w' => e = .returned (.bool (nameF s)) ∧ w = w' := by
  by_cases hn : 1 ≤ s.size ∧ s.size ≤ 24
  · obtain ⟨hn1, hn2⟩ := hn
    have h0 : 0 < s.size := by omega
    have HF : Hid (nameF s = (letterB s[0] && s.data.toList.all inWordB && !reservedB s)) := by
      show nameF s = _
      unfold nameF
      rw [head_at s h0, show decide (1 ≤ s.size ∧ s.size ≤ 24) = true by simp; omega]; simp
    cases hl : letterB s[0] with
    | false =>
      rw [hl] at HF
      go_enter Tryz.func167, Tryz.ntmps167
      go_wp2_with (go_at_call 171; refine (letter_any s[0] _).mono ?_; rintro e w' ⟨rfl, rfl⟩)
      go_ret
      exact ⟨ret_bool (by rw [HF.out]; rfl), rfl⟩
    | true =>
      rw [hl] at HF
      go_enter Tryz.func167, Tryz.ntmps167
      go_wp2_with (go_at_call 171; refine (letter_any s[0] _).mono ?_; rintro e w' ⟨rfl, rfl⟩)
      go_loopg [3, 20] s.size (fun m _x z wr => ∃ j : Nat, j ≤ s.size ∧ m = s.size - j ∧ Hid ((s.data.toList.take j).all inWordB = true) ∧ z = .int .i64 j ∧ w = wr)
      case atStart => exact ⟨0, by omega, rfl, rfl, rfl, rfl⟩
      case round =>
        obtain ⟨j, hj, rfl, HK, rfl, rfl⟩ := hrel
        by_cases hlt : j < s.size
        · have hd0 : decide (j < s.size) = true := by simpa using hlt
          cases hw : inWordB s[j] with
          | false =>
            have HG := Lib.hid (all_false_at (f := inWordB) (l := s.data.toList) (by simpa using hlt) (show inWordB (s.data.toList[j]'(by simpa using hlt)) = false from hw))
            go_wp2_with (go_at_call 172; refine (inWord_any s[j] _).mono ?_; rintro e w' ⟨rfl, rfl⟩)
            go_ret
            exact ⟨ret_bool (by rw [HF.out, HG.out]; rfl), rfl⟩
          | true =>
            have HG := Lib.hid (all_take_succ (f := inWordB) (l := s.data.toList) (by simpa using hlt) HK.out (show inWordB (s.data.toList[j]'(by simpa using hlt)) = true from hw))
            go_wp2_with (go_at_call 172; refine (inWord_any s[j] _).mono ?_; rintro e w' ⟨rfl, rfl⟩)
            go_roundg (s.size - (j + 1))
            case rel => exact ⟨j + 1, by omega, rfl, HG, by go_num, rfl⟩
            case measure => omega
        · have hd0 : decide (j < s.size) = false := by simpa using hlt
          have HG := Lib.hid (all_of_take (f := inWordB) (l := s.data.toList) (by simp; omega) HK.out)
          rw [HG.out] at HF
          go_wp2_with (go_at_call 173; refine (reserved_any s _).mono ?_; rintro e w' ⟨rfl, rfl⟩)
          all_goals (go_ret; exact ⟨ret_bool (by rw [HF.out]; simp), rfl⟩)
  · have HF : Hid (nameF s = false) := by
      show nameF s = false
      unfold nameF
      rw [show decide (1 ≤ s.size ∧ s.size ≤ 24) = false by simpa using hn]; rfl
    rcases (show s.size = 0 ∨ 24 < s.size by omega) with h | h
    · have h' : s.size < 1 := by omega
      clear hn h
      go_enter Tryz.func167, Tryz.ntmps167
      go_wp2
      go_ret
      exact ⟨ret_bool HF.out.symm, rfl⟩
    · have h' : 1 ≤ s.size := by omega
      clear hn
      go_enter Tryz.func167, Tryz.ntmps167
      go_wp2
      go_ret
      exact ⟨ret_bool HF.out.symm, rfl⟩

set_option maxRecDepth 100000 in
set_option maxHeartbeats 1000000 in
theorem refName_any (s : ByteArray) (w : World) (hs : s.size ≤ 1000000) : Calls Tryz.prog 170 #[.string s] w fun e w' => e = .returned (.bool (nameF s)) ∧ w = w' := by
  by_cases hn : 1 ≤ s.size ∧ s.size ≤ 24
  · obtain ⟨hn1, hn2⟩ := hn
    have h0 : 0 < s.size := by omega
    have HF : Hid (nameF s = (letterB s[0] && s.data.toList.all inWordB && !reservedB s)) := by
      show nameF s = _
      unfold nameF
      rw [head_at s h0, show decide (1 ≤ s.size ∧ s.size ≤ 24) = true by simp; omega]; simp
    cases hl : letterB s[0] with
    | false =>
      rw [hl] at HF
      go_enter Tryz.func170, Tryz.ntmps170
      go_wp2_with (go_at_call 175; refine (refLetter_any s[0] _).mono ?_; rintro e w' ⟨rfl, rfl⟩)
      go_ret
      exact ⟨ret_bool (by rw [HF.out]; rfl), rfl⟩
    | true =>
      rw [hl] at HF
      have HS : Hid ((s.data.toList.take 1).all inWordB = true) := by
        have := all_take_succ (f := inWordB) (l := s.data.toList) (k := 0) (by simpa using h0) rfl (by show inWordB s[0] = true; unfold inWordB; rw [hl]; rfl)
        exact this
      go_enter Tryz.func170, Tryz.ntmps170
      go_wp2_with (go_at_call 175; refine (refLetter_any s[0] _).mono ?_; rintro e w' ⟨rfl, rfl⟩)
      go_loopg [3] (s.size - 1) (fun m z wr => ∃ j : Nat, j ≤ s.size ∧ m = s.size - j ∧ Hid ((s.data.toList.take j).all inWordB = true) ∧ z = .int .i64 j ∧ w = wr)
      case atStart => exact ⟨1, by omega, rfl, HS, rfl, rfl⟩
      case round =>
        obtain ⟨j, hj, rfl, HK, rfl, rfl⟩ := hrel
        by_cases hlt : j < s.size
        · have hd0 : decide (j < s.size) = true := by simpa using hlt
          cases hw : inWordB s[j] with
          | false =>
            have HG := Lib.hid (all_false_at (f := inWordB) (l := s.data.toList) (by simpa using hlt) (show inWordB (s.data.toList[j]'(by simpa using hlt)) = false from hw))
            go_wp2_with (go_at_call 176; refine (refInner_any s[j] _).mono ?_; rintro e w' ⟨rfl, rfl⟩)
            go_ret
            exact ⟨ret_bool (by rw [HF.out, HG.out]; rfl), rfl⟩
          | true =>
            have HG := Lib.hid (all_take_succ (f := inWordB) (l := s.data.toList) (by simpa using hlt) HK.out (show inWordB (s.data.toList[j]'(by simpa using hlt)) = true from hw))
            go_wp2_with (go_at_call 176; refine (refInner_any s[j] _).mono ?_; rintro e w' ⟨rfl, rfl⟩)
            go_roundg (s.size - (j + 1))
            case rel => exact ⟨j + 1, by omega, rfl, HG, by go_num, rfl⟩
            case measure => omega
        · have hd0 : decide (j < s.size) = false := by simpa using hlt
          have HG := Lib.hid (all_of_take (f := inWordB) (l := s.data.toList) (by simp; omega) HK.out)
          rw [HG.out] at HF
          go_wp2_with (go_at_call 177; refine (refReserved_any s _).mono ?_; rintro e w' ⟨rfl, rfl⟩)
          all_goals (go_ret; exact ⟨ret_bool (by rw [HF.out]; simp), rfl⟩)
  · have HF : Hid (nameF s = false) := by
      show nameF s = false
      unfold nameF
      rw [show decide (1 ≤ s.size ∧ s.size ≤ 24) = false by simpa using hn]; rfl
    rcases (show s.size = 0 ∨ 24 < s.size by omega) with h | h
    · have h' : s.size < 1 := by omega
      clear hn h
      go_enter Tryz.func170, Tryz.ntmps170
      go_wp2
      go_ret
      exact ⟨ret_bool HF.out.symm, rfl⟩
    · have h' : 1 ≤ s.size := by omega
      clear hn
      go_enter Tryz.func170, Tryz.ntmps170
      go_wp2
      go_ret
      exact ⟨ret_bool HF.out.symm, rfl⟩

end Go.Proofs.YtaifafljakojnaaGreat

/- Contracts: the reference's formed and named. -/
namespace Go.Proofs.YtaifafljakojnaaGreat
open Go.RowKit

theorem formedF_false {vars : Nat} {r : Rule} (h : ¬ FOK vars r) : formedF vars r = false := by
  rw [Bool.eq_false_iff]; intro hb; exact h ((formedF_iff vars r).1 hb)

theorem nodupT_take_succ {α : Type} {l : List α} {k : Nat} (h : k < l.length) (hn : (l.take k).Nodup) (hne : ∀ j (hj : j < k), l[j] ≠ l[k]) : (l.take (k + 1)).Nodup := by
  rw [List.take_succ_eq_append_getElem h, List.nodup_append]
  refine ⟨hn, by simp, ?_⟩
  intro a ha b hb
  simp at hb
  subst hb
  rw [List.mem_take_iff_getElem] at ha
  obtain ⟨j, hj, rfl⟩ := ha
  exact hne j (by omega)
theorem notT_nodup {α : Type} {l : List α} {j k : Nat} (hj : j < k) (hk : k < l.length) (he : l[j] = l[k]) : ¬ l.Nodup := by
  intro hn
  have := (List.nodup_iff_pairwise_ne.1 hn)
  rw [List.pairwise_iff_getElem] at this
  exact this j k (by omega) hk hj he

set_option maxRecDepth 100000 in
set_option maxHeartbeats 2000000 in
theorem refFormed_any (v : Value) (r : Rule) (vars : Nat) (w : World) (h : RuleV w v r) (hvars : vars ≤ 1000) (hL : lightR r = true) :
    Calls Tryz.prog 165 #[v, .int .i64 vars] w fun e w' => e = .returned (.bool (formedF vars r)) ∧ Bel w w' := by
  obtain ⟨G, c, S, c2, rfl, hG, _, _, hS, _, _⟩ := h
  have HG := Lib.hid (fun w' (k : Bel w w') => TermsR.keep hG k); clear hG
  have HS := Lib.hid (fun w' (k : Bel w w') => SetsR.keep hS k); clear hS
  obtain ⟨_, l2, l3, l4⟩ := lightR_parts hL
  have HL4 := Lib.hid l4; clear l4 hL
  have HB := Bel.refl (w.alloc (.cells #[.string r.name, .slice G r.guard.length c, .slice S r.sets.length c2] 143))
  by_cases hn : 1 ≤ r.sets.length ∧ r.sets.length ≤ 6
  · have hin : inB (r.sets.length : Int) 1 6 = true := inB_true (by omega) (by omega)
    cases hvg : validF r.guard vars with
    | false =>
      have HF : Hid (formedF vars r = false) := formedF_false fun h => by rw [h.guard] at hvg; cases hvg
      go_enter Tryz.func165, Tryz.ntmps165
      go_wp2_with (first
        | (go_at_call 162; refine (in07_any _ _ _ _).mono ?_; rintro e w' ⟨rfl, rfl⟩)
        | (go_at_call 40; refine (refValid_any _ _ _ r.guard _ _ (HG.out _ (box_bel HB)) (by omega)).mono ?_; rintro e w' ⟨rfl, hb⟩; rw [hvg]; replace HB := HB.trans hb; clear hb))
      go_ret
      exact ⟨ret_bool HF.out.symm, box_bel HB⟩
    | true =>
      have HVG := Lib.hid hvg; clear hvg
      go_enter Tryz.func165, Tryz.ntmps165
      go_wp2_with (first
        | (go_at_call 162; refine (in07_any _ _ _ _).mono ?_; rintro e w' ⟨rfl, rfl⟩)
        | (go_at_call 40; refine (refValid_any _ _ _ r.guard _ _ (HG.out _ (box_bel HB)) (by omega)).mono ?_; rintro e w' ⟨rfl, hb⟩; rw [HVG.out]; replace HB := HB.trans hb; clear hb))
      clear hin
      go_loopg [5, 6] r.sets.length (fun m z _y wr => ∃ j : Nat, j ≤ r.sets.length ∧ m = r.sets.length - j ∧ z = .int .i64 j ∧ Hid ((r.sets.take j).all (fun s => decide (0 ≤ s.var ∧ s.var ≤ (vars : Int) - 1) && validF s.value vars) = true ∧ ((r.sets.map SetT.var).take j).Nodup) ∧ Bel (w.alloc (.cells #[.string r.name, .slice G r.guard.length c, .slice S r.sets.length c2] 143)) wr)
      case atStart => exact ⟨0, by omega, rfl, rfl, ⟨rfl, by simp⟩, HB⟩
      case round =>
        clear HB
        obtain ⟨i, hi, rfl, rfl, HJ, HB⟩ := hrel
        have q1 := box_cell HB 2 rfl
        have q2 := box_lt HB
        by_cases hlt : i < r.sets.length
        · have hd0 : decide (i < r.sets.length) = true := by simpa using hlt
          obtain ⟨b, o, R, c', rfl, hb, s1, s2, hTv, _, _⟩ := (HS.out _ (box_bel HB)).at_ i hlt
          have HTv := Lib.hid hTv; clear hTv
          have hlen := HL4.out _ (List.getElem_mem hlt)
          by_cases hr : 0 ≤ r.sets[i].var ∧ r.sets[i].var ≤ (vars : Int) - 1
          · have hin : inB r.sets[i].var 0 ((vars : Int) - 1) = true := inB_true hr.1 hr.2
            cases hvs : validF r.sets[i].value vars with
            | false =>
              have HF : Hid (formedF vars r = false) := formedF_false fun h => by have := (h.sets _ (List.getElem_mem hlt)).2; rw [hvs] at this; cases this
              go_wp2_with (first
                | (go_at_call 162; refine (in07_any _ _ _ _).mono ?_; rintro e w' ⟨rfl, rfl⟩)
                | (go_at_call 40; refine (refValid_any _ _ _ r.sets[i].value _ _ HTv.out (by omega)).mono ?_; rintro e w' ⟨rfl, hbb⟩; rw [hvs]; replace HB := HB.trans hbb; clear hbb))
              go_ret
              exact ⟨ret_bool HF.out.symm, box_bel HB⟩
            | true =>
              have HOK := Lib.hid (show (decide (0 ≤ r.sets[i].var ∧ r.sets[i].var ≤ (vars : Int) - 1) && validF r.sets[i].value vars) = true by rw [hvs, decide_eq_true hr]; rfl)
              have HVS := Lib.hid hvs
              clear hvs hr
              go_wp2_with (first
                | (go_at_call 162; refine (in07_any _ _ _ _).mono ?_; rintro e w' ⟨rfl, rfl⟩)
                | (go_at_call 40; refine (refValid_any _ _ _ r.sets[i].value _ _ HTv.out (by omega)).mono ?_; rintro e w' ⟨rfl, hbb⟩; rw [HVS.out]; replace HB := HB.trans hbb; clear hbb hb s1 s2 q1 q2; clear HTv))
              clear hin hd0
              go_loopg [6] i (fun m x ws => ∃ j : Nat, j ≤ i ∧ m = i - j ∧ x = .int .i64 j ∧ Hid (∀ q, (hq : q < j) → (hq' : q < r.sets.length) → r.sets[q].var ≠ r.sets[i].var) ∧ Bel (w.alloc (.cells #[.string r.name, .slice G r.guard.length c, .slice (some ⟨b, o, none⟩) r.sets.length c2] 143)) ws)
              case atStart => exact ⟨0, by omega, rfl, rfl, fun q hq => absurd hq (by omega), HB⟩
              case round =>
                clear HB
                obtain ⟨j, hj, rfl, rfl, HQ, HB⟩ := hrel
                have q1 := box_cell HB 2 rfl
                have q2 := box_lt HB
                by_cases hlt2 : j < i
                · have hji : j < r.sets.length := by omega
                  obtain ⟨b', o', R', c'', e', hb', s1', _, _, _, _⟩ := (HS.out _ (box_bel HB)).at_ j hji
                  obtain ⟨rfl, rfl⟩ : b = b' ∧ o = o' := by simpa using e'
                  obtain ⟨b', o', R', c'', e', _, s1, _, _, _, _⟩ := (HS.out _ (box_bel HB)).at_ i hlt
                  obtain ⟨rfl, rfl⟩ : b = b' ∧ o = o' := by simpa using e'
                  clear e'
                  have hd : decide (j < i) = true := by simpa using hlt2
                  go_wp2
                  go_quiet (fail)
                  go_wp2
                  · have he : (r.sets[j].var == r.sets[i].var) = true := by assumption
                    go_ret
                    refine ⟨ret_bool ?_, (box_bel HB).drewN _⟩
                    symm
                    refine formedF_false fun hf => ?_
                    exact notT_nodup hlt2 (by simpa using hlt) (by simpa using he) hf.diff
                  · have he : (r.sets[j].var == r.sets[i].var) = false := by assumption
                    go_roundg (i - (j + 1))
                    case rel =>
                      refine ⟨j + 1, by omega, rfl, by go_num, ?_, HB.drewN _⟩
                      intro q hq hq'
                      rcases Nat.lt_or_ge q j with h | h
                      · exact HQ.out q h hq'
                      · obtain rfl : q = j := by omega
                        simpa using he
                    case measure => omega
                · have hd : decide (j < i) = false := by simpa using hlt2
                  go_wp2
                  go_roundg (r.sets.length - (i + 1))
                  case rel =>
                    refine ⟨i + 1, by omega, rfl, by go_num, ⟨all_take_succ hlt HJ.out.1 HOK.out, nodupT_take_succ (by simpa using hlt) HJ.out.2 ?_⟩, HB⟩
                    intro q hq
                    have := HQ.out q (by omega) (by omega)
                    simpa using this
                  case measure => omega
          · have hin : inB r.sets[i].var 0 ((vars : Int) - 1) = false := by
              rw [inB_false_iff]; omega
            have HF : Hid (formedF vars r = false) := formedF_false fun h => hr (h.sets _ (List.getElem_mem hlt)).1
            clear hr
            go_wp2_with (go_at_call 162; refine (in07_any _ _ _ _).mono ?_; rintro e w' ⟨rfl, rfl⟩)
            go_ret
            exact ⟨ret_bool HF.out.symm, box_bel HB⟩
        · have hd0 : decide (i < r.sets.length) = false := by simpa using hlt
          go_wp2_with fail
          go_ret
          refine ⟨ret_bool ?_, box_bel HB⟩
          symm
          rw [formedF_iff]
          obtain ⟨a1, a2⟩ := HJ.out
          rw [List.take_of_length_le (by omega)] at a1
          rw [List.take_of_length_le (by simp; omega)] at a2
          refine ⟨hn.1, hn.2, HVG.out, fun s hs => ?_, a2⟩
          have := List.all_eq_true.1 a1 s hs
          rw [Bool.and_eq_true] at this
          exact ⟨of_decide_eq_true this.1, this.2⟩
  · have hin : inB (r.sets.length : Int) 1 6 = false := by rw [inB_false_iff]; omega
    have HF : Hid (formedF vars r = false) := formedF_false fun h => hn ⟨h.pos, h.le⟩
    clear hn
    go_enter Tryz.func165, Tryz.ntmps165
    go_wp2_with (go_at_call 162; refine (in07_any _ _ _ _).mono ?_; rintro e w' ⟨rfl, rfl⟩)
    go_ret
    exact ⟨ret_bool HF.out.symm, box_bel HB⟩

def namesF (l : List ByteArray) : Bool := l.all nameF && decide l.Nodup
def namedF (p : Prg) : Bool := nameF p.name && namesF (p.vars.map Var.name) && namesF (p.rules.map Rule.name)

end Go.Proofs.YtaifafljakojnaaGreat

/- Contract: the reference's named. -/
namespace Go.Proofs.YtaifafljakojnaaGreat
open Go.RowKit

theorem str_inj {a b : ByteArray} (h : (a.toList == b.toList) = true) : a = b := by
  have h1 : a.toList = b.toList := by simpa using h
  rw [Lib.toList_data, Lib.toList_data] at h1
  cases a; cases b
  simp only [ByteArray.mk.injEq]
  exact Array.toList_inj.1 h1
theorem str_ne {a b : ByteArray} (h : (a.toList == b.toList) = false) : a ≠ b := by
  rintro rfl; simp at h
theorem namesF_iff (l : List ByteArray) : namesF l = true ↔ (∀ s ∈ l, nameF s = true) ∧ l.Nodup := by
  unfold namesF; simp only [Bool.and_eq_true, decide_eq_true_eq, List.all_eq_true]
theorem namedF_false1 {p : Prg} (h : ¬ namesF (p.vars.map Var.name) = true) : namedF p = false := by
  unfold namedF; rw [Bool.eq_false_iff.2 h]; simp
theorem namedF_false2 {p : Prg} (h : ¬ namesF (p.rules.map Rule.name) = true) : namedF p = false := by
  unfold namedF; rw [Bool.eq_false_iff.2 h]; simp

set_option maxRecDepth 100000 in
set_option maxHeartbeats 4000000 in
theorem refNamed_any (v : Value) (p : Prg) (w : World) (h : PrgV w v p) (hL : lightP p = true) :
    Calls Tryz.prog 163 #[v] w fun e w' => e = .returned (.bool (namedF p)) ∧ Bel w w' := by
  obtain ⟨A, k, A2, k2, rfl, hV, _, _, hR, _, _⟩ := h
  have HV := Lib.hid (fun w' (k : Bel w w') => VarsR.keep hV k); clear hV
  have HR := Lib.hid (fun w' (k : Bel w w') => RulesR.keep hR k); clear hR
  obtain ⟨p1, p2, p3, p4, p5⟩ := lightP_parts hL
  have HP4 := Lib.hid p4
  have HP5 := Lib.hid (fun r hr => (lightR_parts (p5 r hr)).1)
  clear p4 p5 hL
  have HB := Bel.refl (w.alloc (.cells #[.string p.name, .slice A p.vars.length k, .slice A2 p.rules.length k2] 26))
  cases hnm : nameF p.name with
  | false =>
    have HF : Hid (namedF p = false) := by show namedF p = false; unfold namedF; rw [hnm]; rfl
    go_enter Tryz.func163, Tryz.ntmps163
    go_wp2_with (go_at_call 170; refine (refName_any _ _ (by omega)).mono ?_; rintro e w' ⟨rfl, rfl⟩)
    go_ret
    exact ⟨ret_bool HF.out.symm, box_bel HB⟩
  | true =>
    have HNM := Lib.hid hnm
    go_enter Tryz.func163, Tryz.ntmps163
    go_wp2_with (go_at_call 170; refine (refName_any _ _ (by omega)).mono ?_; rintro e w' ⟨rfl, rfl⟩)
    clear hnm
    go_loopg [3, 4] p.vars.length (fun m z _y wr => ∃ j : Nat, j ≤ p.vars.length ∧ m = p.vars.length - j ∧ z = .int .i64 j ∧ Hid ((∀ q, q < j → (hq : q < p.vars.length) → nameF p.vars[q].name = true) ∧ ((p.vars.map Var.name).take j).Nodup) ∧ Bel (w.alloc (.cells #[.string p.name, .slice A p.vars.length k, .slice A2 p.rules.length k2] 26)) wr)
    case atStart => exact ⟨0, by omega, rfl, rfl, ⟨fun q hq => absurd hq (by omega), by simp⟩, HB⟩
    case round =>
      clear HB
      obtain ⟨i, hi, rfl, rfl, HJ, HB⟩ := hrel
      have q1 := box_cell HB 1 rfl
      have q2 := box_lt HB
      by_cases hlt : i < p.vars.length
      · have hd0 : decide (i < p.vars.length) = true := by simpa using hlt
        have hnl := HP4.out _ (List.getElem_mem hlt)
        go_wp2
        clear hd0 q1 q2
        go_loopg [4] i (fun m x ws => ∃ j : Nat, j ≤ i ∧ m = i - j ∧ x = .int .i64 j ∧ Hid (∀ q, (hq : q < j) → (hq' : q < p.vars.length) → p.vars[q].name ≠ p.vars[i].name) ∧ Bel (w.alloc (.cells #[.string p.name, .slice A p.vars.length k, .slice A2 p.rules.length k2] 26)) ws)
        case atStart => exact ⟨0, by omega, rfl, rfl, fun q hq => absurd hq (by omega), HB⟩
        case round =>
          clear HB
          obtain ⟨j, hj, rfl, rfl, HQ, HB⟩ := hrel
          have q1 := box_cell HB 1 rfl
          have q2 := box_lt HB
          obtain ⟨b, o, rfl, hb, hc, _⟩ := (HV.out _ (box_bel HB)).at_ i hlt
          by_cases hlt2 : j < i
          · have hji : j < p.vars.length := by omega
            obtain ⟨b', o', e', hb', hc', _⟩ := (HV.out _ (box_bel HB)).at_ j hji
            obtain ⟨rfl, rfl⟩ : b = b' ∧ o = o' := by simpa using e'
            clear e'
            have hd : decide (j < i) = true := by simpa using hlt2
            go_wp2
            go_quiet (fail)
            go_wp2
            · have he : (p.vars[j].name.toList == p.vars[i].name.toList) = true := by assumption
              go_ret
              refine ⟨ret_bool ?_, (box_bel HB).drewN _⟩
              symm
              refine namedF_false1 fun hf => ?_
              exact notT_nodup hlt2 (by simpa using hlt) (by simpa using str_inj he) ((namesF_iff _).1 hf).2
            · have he : (p.vars[j].name.toList == p.vars[i].name.toList) = false := by assumption
              go_roundg (i - (j + 1))
              case rel =>
                refine ⟨j + 1, by omega, rfl, by go_num, ?_, HB.drewN _⟩
                intro q hq hq'
                rcases Nat.lt_or_ge q j with h | h
                · exact HQ.out q h hq'
                · obtain rfl : q = j := by omega
                  exact str_ne he
              case measure => omega
          · have hd : decide (j < i) = false := by simpa using hlt2
            cases hnn : nameF p.vars[i].name with
            | false =>
              have HF : Hid (namedF p = false) := namedF_false1 fun hf => by
                have := ((namesF_iff _).1 hf).1 p.vars[i].name (List.mem_map_of_mem (List.getElem_mem hlt))
                rw [hnn] at this; cases this
              go_wp2_with (go_at_call 170; refine (refName_any _ _ (by omega)).mono ?_; rintro e w' ⟨rfl, rfl⟩)
              go_ret
              exact ⟨ret_bool HF.out.symm, box_bel HB⟩
            | true =>
              have HNN := Lib.hid hnn
              go_wp2_with (go_at_call 170; refine (refName_any _ _ (by omega)).mono ?_; rintro e w' ⟨rfl, rfl⟩)
              go_roundg (p.vars.length - (i + 1))
              case rel =>
                refine ⟨i + 1, by omega, rfl, by go_num, ⟨?_, nodupT_take_succ (by simpa using hlt) HJ.out.2 ?_⟩, HB⟩
                · intro q hq hq'
                  rcases Nat.lt_or_ge q i with h | h
                  · exact HJ.out.1 q h hq'
                  · obtain rfl : q = i := by omega
                    exact HNN.out
                · intro q hq
                  have := HQ.out q (by omega) (by omega)
                  simpa using this
              case measure => omega
      · have hd0 : decide (i < p.vars.length) = false := by simpa using hlt
        have HE : Hid (namesF (p.vars.map Var.name) = true) := by
          show namesF (p.vars.map Var.name) = true
          rw [namesF_iff]
          obtain ⟨a1, a2⟩ := HJ.out
          rw [List.take_of_length_le (by simp; omega)] at a2
          refine ⟨fun s hs => ?_, a2⟩
          obtain ⟨x, hx, rfl⟩ := List.mem_map.1 hs
          obtain ⟨q, hq, rfl⟩ := List.getElem_of_mem hx
          exact a1 q (by omega) hq
        have HE1 := HE
        clear HE HJ
        go_wp2_with fail
        clear hd0 q1 q2 hi hlt
        go_loopg [5, 6] p.rules.length (fun m z _y wr => ∃ j : Nat, j ≤ p.rules.length ∧ m = p.rules.length - j ∧ z = .int .i64 j ∧ Hid ((∀ q, q < j → (hq : q < p.rules.length) → nameF p.rules[q].name = true) ∧ ((p.rules.map Rule.name).take j).Nodup) ∧ Bel (w.alloc (.cells #[.string p.name, .slice A p.vars.length k, .slice A2 p.rules.length k2] 26)) wr)
        case atStart => exact ⟨0, by omega, rfl, rfl, ⟨fun q hq => absurd hq (by omega), by simp⟩, HB⟩
        case round =>
          clear HB
          obtain ⟨i, hi, rfl, rfl, HJ, HB⟩ := hrel
          have q1 := box_cell HB 2 rfl
          have q2 := box_lt HB
          by_cases hlt : i < p.rules.length
          · have hd0 : decide (i < p.rules.length) = true := by simpa using hlt
            have hnl := HP5.out _ (List.getElem_mem hlt)
            go_wp2
            clear hd0 q1 q2
            go_loopg [6] i (fun m x ws => ∃ j : Nat, j ≤ i ∧ m = i - j ∧ x = .int .i64 j ∧ Hid (∀ q, (hq : q < j) → (hq' : q < p.rules.length) → p.rules[q].name ≠ p.rules[i].name) ∧ Bel (w.alloc (.cells #[.string p.name, .slice A p.vars.length k, .slice A2 p.rules.length k2] 26)) ws)
            case atStart => exact ⟨0, by omega, rfl, rfl, fun q hq => absurd hq (by omega), HB⟩
            case round =>
              clear HB
              obtain ⟨j, hj, rfl, rfl, HQ, HB⟩ := hrel
              have q1 := box_cell HB 2 rfl
              have q2 := box_lt HB
              obtain ⟨b, o, G1, c1, S1, c2, rfl, hb, hc, _⟩ := (HR.out _ (box_bel HB)).at_ i hlt
              by_cases hlt2 : j < i
              · have hji : j < p.rules.length := by omega
                obtain ⟨b', o', G2, c1p, S2, c2p, e', hb', hc', _⟩ := (HR.out _ (box_bel HB)).at_ j hji
                obtain ⟨rfl, rfl⟩ : b = b' ∧ o = o' := by simpa using e'
                clear e'
                have hd : decide (j < i) = true := by simpa using hlt2
                go_wp2
                go_quiet (fail)
                go_wp2
                · have he : (p.rules[j].name.toList == p.rules[i].name.toList) = true := by assumption
                  go_ret
                  refine ⟨ret_bool ?_, (box_bel HB).drewN _⟩
                  symm
                  refine namedF_false2 fun hf => ?_
                  exact notT_nodup hlt2 (by simpa using hlt) (by simpa using str_inj he) ((namesF_iff _).1 hf).2
                · have he : (p.rules[j].name.toList == p.rules[i].name.toList) = false := by assumption
                  go_roundg (i - (j + 1))
                  case rel =>
                    refine ⟨j + 1, by omega, rfl, by go_num, ?_, HB.drewN _⟩
                    intro q hq hq'
                    rcases Nat.lt_or_ge q j with h | h
                    · exact HQ.out q h hq'
                    · obtain rfl : q = j := by omega
                      exact str_ne he
                  case measure => omega
              · have hd : decide (j < i) = false := by simpa using hlt2
                cases hnn : nameF p.rules[i].name with
                | false =>
                  have HF : Hid (namedF p = false) := namedF_false2 fun hf => by
                    have := ((namesF_iff _).1 hf).1 p.rules[i].name (List.mem_map_of_mem (List.getElem_mem hlt))
                    rw [hnn] at this; cases this
                  go_wp2_with (go_at_call 170; refine (refName_any _ _ (by omega)).mono ?_; rintro e w' ⟨rfl, rfl⟩)
                  go_ret
                  exact ⟨ret_bool HF.out.symm, box_bel HB⟩
                | true =>
                  have HNN := Lib.hid hnn
                  go_wp2_with (go_at_call 170; refine (refName_any _ _ (by omega)).mono ?_; rintro e w' ⟨rfl, rfl⟩)
                  go_roundg (p.rules.length - (i + 1))
                  case rel =>
                    refine ⟨i + 1, by omega, rfl, by go_num, ⟨?_, nodupT_take_succ (by simpa using hlt) HJ.out.2 ?_⟩, HB⟩
                    · intro q hq hq'
                      rcases Nat.lt_or_ge q i with h | h
                      · exact HJ.out.1 q h hq'
                      · obtain rfl : q = i := by omega
                        exact HNN.out
                    · intro q hq
                      have := HQ.out q (by omega) (by omega)
                      simpa using this
                  case measure => omega
          · have hd0 : decide (i < p.rules.length) = false := by simpa using hlt
            have HE : Hid (namesF (p.rules.map Rule.name) = true) := by
              show namesF (p.rules.map Rule.name) = true
              rw [namesF_iff]
              obtain ⟨a1, a2⟩ := HJ.out
              rw [List.take_of_length_le (by simp; omega)] at a2
              refine ⟨fun s hs => ?_, a2⟩
              obtain ⟨x, hx, rfl⟩ := List.mem_map.1 hs
              obtain ⟨q, hq, rfl⟩ := List.getElem_of_mem hx
              exact a1 q (by omega) hq
            go_wp2_with fail
            go_ret
            refine ⟨ret_bool ?_, box_bel HB⟩
            symm
            unfold namedF
            rw [HNM.out, HE1.out, HE.out]; rfl

end Go.Proofs.YtaifafljakojnaaGreat

/- Contracts: Check and Valid of the reference's layer 7. -/
namespace Go.Proofs.YtaifafljakojnaaGreat
open Go.RowKit

def checkF (p : Prg) : Int :=
  if ¬ (1 ≤ p.vars.length ∧ p.vars.length ≤ 6 ∧ p.rules.length ≤ 12) then 3
  else if namedF p = false then 5
  else if p.vars.all numbersF = false then 2
  else if p.rules.all (formedF p.vars.length) = false then 7
  else if p.rules.all (typedF (kindsF p)) = false then 6
  else 0

theorem RulesR.at_V {w : World} {A : Option Addr} {n : Nat} {xs : List Rule} (h : RulesR w A n xs) (k : Nat) (hk : k < xs.length) :
    ∃ b o G c S c2, A = some ⟨b, o, none⟩ ∧ b < w.heap.size ∧ w.cell? ⟨b, o + k * 3, none⟩ = some (.string xs[k].name) ∧ w.cell? ⟨b, o + k * 3 + 1, none⟩ = some (.slice G xs[k].guard.length c) ∧ w.cell? ⟨b, o + k * 3 + 2, none⟩ = some (.slice S xs[k].sets.length c2)
      ∧ RuleV w (.agg #[.string xs[k].name, .slice G xs[k].guard.length c, .slice S xs[k].sets.length c2]) xs[k] := by
  obtain ⟨b, o, G, c, S, c2, e, hb, h1, h2, h3, h4, h5, h6, h7, h8, h9⟩ := h.at_ k hk
  exact ⟨b, o, G, c, S, c2, e, hb, h1, h2, h3, G, c, S, c2, rfl, h4, h5, h6, h7, h8, h9⟩

theorem kinds_known {p : Prg} (h : p.vars.all numbersF = true) : (kindsF p).all knownK = true := by
  rw [List.all_eq_true] at *
  intro k hk
  obtain ⟨x, hx, rfl⟩ := List.mem_map.1 hk
  have := h x hx
  unfold numbersF at this
  have := of_decide_eq_true this
  unfold knownK
  simp
  omega
theorem kindsF_length (p : Prg) : (kindsF p).length = p.vars.length := by simp [kindsF]

set_option maxRecDepth 100000 in
set_option maxHeartbeats 4000000 in
theorem refCheck_any (v : Value) (p : Prg) (w : World) (h : PrgV w v p) (hL : lightP p = true) :
    Calls Tryz.prog 146 #[v] w fun e w' => e = .returned (.int .i64 (checkF p)) ∧ Bel w w' := by
  have HPV := Lib.hid (fun w' (k : Bel w w') => h.keep k)
  obtain ⟨A, k, A2, k2, rfl, hV, _, _, hR, _, _⟩ := h
  have HV := Lib.hid (fun w' (k : Bel w w') => VarsR.keep hV k); clear hV
  have HR := Lib.hid (fun w' (k : Bel w w') => RulesR.keep hR k); clear hR
  obtain ⟨p1, p2, p3, p4, p5⟩ := lightP_parts hL
  have HP5 := Lib.hid p5
  have HL := Lib.hid hL
  clear p4 p5 hL
  have HB := Bel.refl (w.alloc (.cells #[.string p.name, .slice A p.vars.length k, .slice A2 p.rules.length k2] 26))
  by_cases hn : 1 ≤ p.vars.length ∧ p.vars.length ≤ 6 ∧ p.rules.length ≤ 12
  · obtain ⟨n1, n2, n3⟩ := hn
    have hin : inB (p.vars.length : Int) 1 6 = true := inB_true (by omega) (by omega)
    have HC1 : Hid (checkF p = if namedF p = false then 5 else if p.vars.all numbersF = false then 2 else if p.rules.all (formedF p.vars.length) = false then 7 else if p.rules.all (typedF (kindsF p)) = false then 6 else 0) := by
      show checkF p = _
      unfold checkF; rw [if_neg (by omega)]
    cases hnm : namedF p with
    | false =>
      rw [hnm, if_pos rfl] at HC1
      go_enter Tryz.func146, Tryz.ntmps146
      go_wp2_with (first
        | (go_at_call 162; refine (in07_any _ _ _ _).mono ?_; rintro e w' ⟨rfl, rfl⟩)
        | (go_at_call 163; refine (refNamed_any _ p _ (HPV.out _ (box_bel HB)) HL.out).mono ?_; rintro e w' ⟨rfl, hb⟩; rw [hnm]; replace HB := HB.trans hb; clear hb))
      go_ret
      exact ⟨ret_int HC1.out.symm, box_bel HB⟩
    | true =>
      rw [hnm, if_neg (by decide)] at HC1
      have HNM := Lib.hid hnm; clear hnm
      go_enter Tryz.func146, Tryz.ntmps146
      go_wp2_with (first
        | (go_at_call 162; refine (in07_any _ _ _ _).mono ?_; rintro e w' ⟨rfl, rfl⟩)
        | (go_at_call 163; refine (refNamed_any _ p _ (HPV.out _ (box_bel HB)) HL.out).mono ?_; rintro e w' ⟨rfl, hb⟩; rw [HNM.out]; replace HB := HB.trans hb; clear hb))
      clear hin
      go_loopg [3] p.vars.length (fun m z wr => ∃ j : Nat, j ≤ p.vars.length ∧ m = p.vars.length - j ∧ z = .int .i64 j ∧ Hid ((p.vars.take j).all numbersF = true) ∧ Bel (w.alloc (.cells #[.string p.name, .slice A p.vars.length k, .slice A2 p.rules.length k2] 26)) wr)
      case atStart => exact ⟨0, by omega, rfl, rfl, rfl, HB⟩
      case round =>
        clear HB
        obtain ⟨i, hi, rfl, rfl, HJ, HB⟩ := hrel
        have q1 := box_cell HB 1 rfl
        have q2 := box_lt HB
        by_cases hlt : i < p.vars.length
        · have hd0 : decide (i < p.vars.length) = true := by simpa using hlt
          obtain ⟨b, o, rfl, hb, c0, c1, c2, c3, c4, c5⟩ := (HV.out _ (box_bel HB)).at_ i hlt
          cases hnn : numbersF p.vars[i] with
          | false =>
            rw [all_false_at hlt hnn, if_pos rfl] at HC1
            go_wp2_with (go_at_call 164; refine (refNumbers_any p.vars[i] _).mono ?_; rintro e w' ⟨rfl, hbb⟩; rw [hnn]; replace HB := HB.trans hbb; clear hbb)
            go_ret
            exact ⟨ret_int HC1.out.symm, box_bel HB⟩
          | true =>
            have HN := Lib.hid (all_take_succ hlt HJ.out hnn)
            have HNN := Lib.hid hnn; clear hnn
            go_wp2_with (go_at_call 164; refine (refNumbers_any p.vars[i] _).mono ?_; rintro e w' ⟨rfl, hbb⟩; rw [HNN.out]; replace HB := HB.trans hbb; clear hbb)
            go_roundg (p.vars.length - (i + 1))
            case rel => exact ⟨i + 1, by omega, rfl, by go_num, HN, HB⟩
            case measure => omega
        · have hd0 : decide (i < p.vars.length) = false := by simpa using hlt
          rw [all_of_take (by omega) HJ.out, if_neg (by decide)] at HC1
          clear HJ
          go_wp2_with fail
          clear hd0 q1 q2 hi hlt
          go_loopg [4] p.rules.length (fun m z wr => ∃ j : Nat, j ≤ p.rules.length ∧ m = p.rules.length - j ∧ z = .int .i64 j ∧ Hid ((p.rules.take j).all (formedF p.vars.length) = true) ∧ Bel (w.alloc (.cells #[.string p.name, .slice A p.vars.length k, .slice A2 p.rules.length k2] 26)) wr)
          case atStart => exact ⟨0, by omega, rfl, rfl, rfl, HB⟩
          case round =>
            clear HB
            obtain ⟨i, hi, rfl, rfl, HJ, HB⟩ := hrel
            have q1 := box_cell HB 1 rfl
            have q3 := box_cell HB 2 rfl
            have q2 := box_lt HB
            by_cases hlt : i < p.rules.length
            · have hd0 : decide (i < p.rules.length) = true := by simpa using hlt
              have hLr := HP5.out _ (List.getElem_mem hlt)
              obtain ⟨b, o, G, c, S, c2, rfl, hb, c0, c1, c2', hRV⟩ := (HR.out _ (box_bel HB)).at_V i hlt
              have HRV := Lib.hid (fun w' (k : Bel wr w') => hRV.keep k); clear hRV
              have hcell := Lib.hid (fun w' (k : Bel wr w') => And.intro ((k.cell q2).trans q1) (And.intro ((k.cell q2).trans q3) (And.intro ((k.cell hb).trans c0) (And.intro ((k.cell hb).trans c1) (And.intro ((k.cell hb).trans c2') (Nat.lt_of_lt_of_le q2 k.size))))))
              have HB2 := Bel.refl wr
              have HLr := Lib.hid hLr; clear hLr
              cases hff : formedF p.vars.length p.rules[i] with
              | false =>
                rw [all_false_at hlt hff, if_pos rfl] at HC1
                go_wp2_with fail
                replace HB2 := HB2.drew
                go_region_held3 (fun w' => w'.cell? ⟨w.heap.size, 1, none⟩ = some (.slice A p.vars.length k) ∧ w'.cell? ⟨w.heap.size, 2, none⟩ = some (.slice (some ⟨b, o, none⟩) p.rules.length k2) ∧ w'.cell? ⟨b, o + i * 3, none⟩ = some (.string p.rules[i].name) ∧ w'.cell? ⟨b, o + i * 3 + 1, none⟩ = some (.slice G p.rules[i].guard.length c) ∧ w'.cell? ⟨b, o + i * 3 + 2, none⟩ = some (.slice S p.rules[i].sets.length c2) ∧ w.heap.size < w'.heap.size) (exact hcell.out _ HB2) (first | (go_simp; go_at_call 165; refine (refFormed_any _ p.rules[i] p.vars.length _ (HRV.out _ HB2) (by omega) HLr.out).mono ?_; rintro e w' ⟨rfl, hbb⟩; rw [hff]; replace HB2 := HB2.trans hbb; clear hbb))
                go_wp2_with fail
                go_ret
                exact ⟨ret_int HC1.out.symm, (box_bel HB).trans HB2⟩
              | true =>
                have HN := Lib.hid (all_take_succ hlt HJ.out hff)
                have HFF := Lib.hid hff; clear hff
                go_wp2_with fail
                replace HB2 := HB2.drew
                go_region_held3 (fun w' => w'.cell? ⟨w.heap.size, 1, none⟩ = some (.slice A p.vars.length k) ∧ w'.cell? ⟨w.heap.size, 2, none⟩ = some (.slice (some ⟨b, o, none⟩) p.rules.length k2) ∧ w'.cell? ⟨b, o + i * 3, none⟩ = some (.string p.rules[i].name) ∧ w'.cell? ⟨b, o + i * 3 + 1, none⟩ = some (.slice G p.rules[i].guard.length c) ∧ w'.cell? ⟨b, o + i * 3 + 2, none⟩ = some (.slice S p.rules[i].sets.length c2) ∧ w.heap.size < w'.heap.size) (exact hcell.out _ HB2) (first | (go_simp; go_at_call 165; refine (refFormed_any _ p.rules[i] p.vars.length _ (HRV.out _ HB2) (by omega) HLr.out).mono ?_; rintro e w' ⟨rfl, hbb⟩; rw [HFF.out]; replace HB2 := HB2.trans hbb; clear hbb))
                go_wp2_with fail
                go_roundg (p.rules.length - (i + 1))
                case rel => exact ⟨i + 1, by omega, rfl, by go_num, HN, HB.trans HB2⟩
                case measure => omega
            · have hd0 : decide (i < p.rules.length) = false := by simpa using hlt
              have HALL := Lib.hid (all_of_take (by omega) HJ.out)
              rw [HALL.out, if_neg (by decide)] at HC1
              clear HJ
              go_wp2_with fail
              clear hd0 q1 q2 q3 hi hlt
              go_loopg [5] p.rules.length (fun m z wr => ∃ j : Nat, j ≤ p.rules.length ∧ m = p.rules.length - j ∧ z = .int .i64 j ∧ Hid ((p.rules.take j).all (typedF (kindsF p)) = true) ∧ Bel (w.alloc (.cells #[.string p.name, .slice A p.vars.length k, .slice A2 p.rules.length k2] 26)) wr)
              case atStart => exact ⟨0, by omega, rfl, rfl, rfl, HB⟩
              case round =>
                clear HB
                obtain ⟨i, hi, rfl, rfl, HJ, HB⟩ := hrel
                have q0 := box_cell HB 0 rfl
                have q1 := box_cell HB 1 rfl
                have q3 := box_cell HB 2 rfl
                have q2 := box_lt HB
                by_cases hlt : i < p.rules.length
                · have hd0 : decide (i < p.rules.length) = true := by simpa using hlt
                  have hLr := HP5.out _ (List.getElem_mem hlt)
                  have hfo := (formedF_iff _ _).1 (List.all_eq_true.1 HALL.out _ (List.getElem_mem hlt))
                  rw [← kindsF_length p] at hfo
                  obtain ⟨b, o, G, c, S, c2, rfl, hb, c0, c1, c2', hRV⟩ := (HR.out _ (box_bel HB)).at_V i hlt
                  have HRV := Lib.hid (fun w' (k : Bel wr w') => hRV.keep k); clear hRV
                  have hcell := Lib.hid (fun w' (k : Bel wr w') => And.intro ((k.cell q2).trans q0) (And.intro ((k.cell q2).trans q1) (And.intro ((k.cell q2).trans q3) (And.intro ((k.cell hb).trans c0) (And.intro ((k.cell hb).trans c1) (And.intro ((k.cell hb).trans c2') (Nat.lt_of_lt_of_le q2 k.size)))))))
                  have HB2 := Bel.refl wr
                  have HLr := Lib.hid hLr; clear hLr
                  have HFO := Lib.hid hfo; clear hfo
                  obtain ⟨tv, htv⟩ : ∃ tv, typedF (kindsF p) p.rules[i] = tv := ⟨_, rfl⟩
                  have HTV := Lib.hid htv
                  go_wp2_with fail
                  replace HB2 := HB2.drew
                  go_region_held3 (fun w' => w'.cell? ⟨w.heap.size, 0, none⟩ = some (.string p.name) ∧ w'.cell? ⟨w.heap.size, 1, none⟩ = some (.slice A p.vars.length k) ∧ w'.cell? ⟨w.heap.size, 2, none⟩ = some (.slice (some ⟨b, o, none⟩) p.rules.length k2) ∧ w'.cell? ⟨b, o + i * 3, none⟩ = some (.string p.rules[i].name) ∧ w'.cell? ⟨b, o + i * 3 + 1, none⟩ = some (.slice G p.rules[i].guard.length c) ∧ w'.cell? ⟨b, o + i * 3 + 2, none⟩ = some (.slice S p.rules[i].sets.length c2) ∧ w.heap.size < w'.heap.size) (exact hcell.out _ HB2) (first
                    | (go_simp; go_at_call 21; refine (refKinds_any _ p _ (HPV.out _ ((box_bel HB).trans HB2)) (by omega)).mono ?_; rintro e w' ⟨KA, kc, rfl, hK, _, _, hbb⟩; replace HB2 := HB2.trans hbb; clear hbb)
                    | (go_simp; go_at_call 166; refine (refTyped_any _ p.rules[i] _ _ (kindsF p) _ (HRV.out _ HB2) hK HFO.out HLr.out).mono ?_; rintro e w' ⟨rfl, hbb⟩; rw [HTV.out]; replace HB2 := HB2.trans hbb; clear hbb))
                  cases tv with
                  | false =>
                    rw [all_false_at hlt HTV.out, if_pos rfl] at HC1
                    go_wp2_with fail
                    go_ret
                    exact ⟨ret_int HC1.out.symm, (box_bel HB).trans HB2⟩
                  | true =>
                    have HN := Lib.hid (all_take_succ hlt HJ.out HTV.out)
                    go_wp2_with fail
                    go_roundg (p.rules.length - (i + 1))
                    case rel => exact ⟨i + 1, by omega, rfl, by go_num, HN, HB.trans HB2⟩
                    case measure => omega
                · have hd0 : decide (i < p.rules.length) = false := by simpa using hlt
                  rw [all_of_take (by omega) HJ.out, if_neg (by decide)] at HC1
                  go_wp2_with fail
                  go_ret
                  exact ⟨ret_int HC1.out.symm, box_bel HB⟩
  · have HF : Hid (checkF p = 3) := by show checkF p = 3; unfold checkF; rw [if_pos hn]
    by_cases hv : 1 ≤ p.vars.length ∧ p.vars.length ≤ 6
    · have hin : inB (p.vars.length : Int) 1 6 = true := inB_true (by omega) (by omega)
      have hr : 12 < p.rules.length := by omega
      have hd : decide (12 < p.rules.length) = true := by simpa using hr
      clear hn hv
      go_enter Tryz.func146, Tryz.ntmps146
      go_wp2_with (go_at_call 162; refine (in07_any _ _ _ _).mono ?_; rintro e w' ⟨rfl, rfl⟩)
      go_ret
      exact ⟨ret_int HF.out.symm, box_bel HB⟩
    · have hin : inB (p.vars.length : Int) 1 6 = false := by rw [inB_false_iff]; omega
      clear hn hv
      go_enter Tryz.func146, Tryz.ntmps146
      go_wp2_with (go_at_call 162; refine (in07_any _ _ _ _).mono ?_; rintro e w' ⟨rfl, rfl⟩)
      go_ret
      exact ⟨ret_int HF.out.symm, box_bel HB⟩

theorem refPrgValid_any (v : Value) (p : Prg) (w : World) (h : PrgV w v p) (hL : lightP p = true) :
    Calls Tryz.prog 116 #[v] w fun e w' => e = .returned (.bool (decide (checkF p = 0))) ∧ Bel w w' := by
  have HPV := Lib.hid (fun w' (k : Bel w w') => h.keep k)
  obtain ⟨A, k, A2, k2, rfl, _, _, _, _, _, _⟩ := h
  have HB := (Bel.refl w).alloc (.cells #[.string p.name, .slice A p.vars.length k, .slice A2 p.rules.length k2] 26)
  go_enter Tryz.func116, Tryz.ntmps116
  go_wp2_with (go_at_call 146; refine (refCheck_any _ p _ (HPV.out _ HB) hL).mono ?_; rintro e w' ⟨rfl, hb⟩; replace HB := HB.trans hb; clear hb)
  go_ret
  exact ⟨ret_bool (by rw [Bool.eq_iff_iff]; simp), HB⟩

end Go.Proofs.YtaifafljakojnaaGreat

