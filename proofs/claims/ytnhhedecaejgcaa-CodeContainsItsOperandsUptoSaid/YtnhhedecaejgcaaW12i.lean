/- The contract of examine. -/
import Derived.Test.YtnhhedecaejgcaaW12h
namespace Go.Proofs.Ytnhhedecaejgcaa
open Go.RowKit

theorem effect_any {w0 : World} {B : Nat} {w : World} {L : Option Addr} {n c : Nat} {v : Int} {H : Option Addr} {hc : Nat} {hs : List Int} {O : Option Addr} {oc : Nat} {tr : List Tr} {most : Int} (h : VerSt w0 B w L n c v H hc hs O oc tr most)
    (i : Nat) (op arg y : Int) (hn : hs.length ≤ 1000000) (hi : i + 1 < hs.length) (hy0 : -10 ≤ y) (hy1 : y ≤ 1000000) (htr : tr.length ≤ 100) (h1 : 1 ≤ op) (h2 : op ≤ 10) (h78 : op = 7 ∨ op = 8 → 0 ≤ arg ∧ arg < hs.length) (h9 : op = 9 → 0 ≤ arg ∧ arg + 1 < hs.length) (h10 : op = 10 → 1 ≤ tr.length) :
    Calls Try.prog 49 #[.pointer (some ⟨B, 0, none⟩), .int .i64 i, .agg #[.int .i64 op, .int .i64 arg], .int .i64 y] w (RetEff w0 B w L n c v H hc hs most (giftsF ⟨op, arg⟩ i y) (trNext ⟨op, arg⟩ i y tr)) := by
  rcases (show op = 1 ∨ op = 2 ∨ op = 3 ∨ op = 4 ∨ op = 5 ∨ op = 6 ∨ op = 7 ∨ op = 8 ∨ op = 9 ∨ op = 10 by omega) with e | e | e | e | e | e | e | e | e | e
  · exact effect_o1 h i op arg y hn hi hy0 hy1 e
  · exact effect_o2 h i op arg y hn hi hy0 hy1 e
  · exact effect_o3 h i op arg y hn hi hy0 hy1 e
  · exact effect_o4 h i op arg y hn hi hy0 hy1 e
  · exact effect_o5 h i op arg y hn hi hy0 hy1 e
  · exact effect_o6 h i op arg y hn hi hy0 hy1 e
  · exact effect_o7 h i op arg y hn hi hy0 hy1 e (h78 (.inl e)).1 (h78 (.inl e)).2
  · exact effect_o8 h i op arg y hn hi hy0 hy1 e (h78 (.inr e)).1 (h78 (.inr e)).2
  · exact effect_o9 h i op arg y hn hi hy0 hy1 e (h9 e).1 (h9 e).2 htr
  · exact effect_o10 h i op arg y hn hi hy0 hy1 e (h10 e) htr

def RetExam (w0 : World) (B : Nat) (L : Option Addr) (n c : Nat) (v : Int) (H : Option Addr) (hc : Nat) (r : Option (List Int × List Tr × Int) × Int) (e : Ending) (w' : World) : Prop :=
  e = .returned (.int .i64 r.2) ∧ Bel w0 w' ∧ ∀ hs' tr' m', r.1 = some (hs', tr', m') → ∃ O oc, VerSt w0 B w' L n c v H hc hs' O oc tr' m'

theorem RetEff.exam {w0 : World} {B : Nat} {w : World} {L : Option Addr} {n c : Nat} {v : Int} {H : Option Addr} {hc : Nat} {hs : List Int} {tr : List Tr} {most : Int} {l : List Term} {i : Nat} {x : Term} {y : Int} {e : Ending} {w' : World}
    (h : RetEff w0 B w L n c v H hc hs most (giftsF x i y) (trNext x i y tr) e w') (hx : insAt l i = x) (hy : ig hs i = y) (hck : checksF l v tr i x y = true) : RetExam w0 B L n c v H hc (stepP l v i hs tr most) e w' := by
  have e1 : stepP l v i hs tr most = match giveR hs most (giftsF x i y) with
    | (some (hs', m), _) => (some (hs', trNext x i y tr, m), 0)
    | (none, e) => (none, e) := by
    unfold stepP
    rw [hx, hy, if_neg (by rw [hck]; simp)]
    rcases giveR hs most (giftsF x i y) with ⟨_ | ⟨hs1, m1⟩, e2⟩ <;> rfl
  obtain ⟨h1, h2, _, h4⟩ := h
  rw [e1]
  unfold RetExam
  have hz : ∀ r, (giveR hs most (giftsF x i y)).1 = some r → (giveR hs most (giftsF x i y)).2 = 0 := by
    intro r hr
    unfold giveR at hr ⊢
    split at hr
    · cases hr
    · rename_i hs' hg
      split at hr
      · cases hr
      · rename_i m hm
        rfl
  rcases hg : giveR hs most (giftsF x i y) with ⟨_ | ⟨hs1, m1⟩, e2⟩
  · rw [hg] at h1 h4
    exact ⟨h1, h2, fun hs' tr' m' hh => by cases hh⟩
  · have := hz (hs1, m1) (by rw [hg])
    rw [hg] at h1 h4 this
    simp at this
    subst this
    refine ⟨h1, h2, fun hs' tr' m' hh => ?_⟩
    simp at hh
    obtain ⟨rfl, rfl, rfl⟩ := hh
    exact h4 _ _ rfl

theorem exam_bad {w0 : World} {B : Nat} {L : Option Addr} {n c : Nat} {v : Int} {H : Option Addr} {hc : Nat} {hs : List Int} {tr : List Tr} {most : Int} {l : List Term} {i : Nat} {x : Term} {y : Int} {w' : World}
    (hx : insAt l i = x) (hy : ig hs i = y) (hck : checksF l v tr i x y = false) (hb : Bel w0 w') : RetExam w0 B L n c v H hc (stepP l v i hs tr most) (.returned (.int .i64 7)) w' := by
  have e1 : stepP l v i hs tr most = (none, 7) := by
    unfold stepP
    rw [hx, hy, if_pos hck]
  rw [e1]
  exact ⟨rfl, hb, fun _ _ _ hh => by cases hh⟩

set_option maxRecDepth 100000 in
set_option maxHeartbeats 8000000 in
theorem examine_any {w0 : World} {B : Nat} {w : World} {L : Option Addr} {n c : Nat} {v : Int} {H : Option Addr} {hc : Nat} {hs : List Int} {O : Option Addr} {oc : Nat} {tr : List Tr} {most : Int} {l : List Term} (h : VerSt w0 B w L n c v H hc hs O oc tr most)
    (hT : TermsR w0 L n l) (hn : n ≤ 100000) (hcap : n ≤ c) (i : Nat) (hi : i < n) (hlen : hs.length = n + 1) (hy0 : -10 ≤ ig hs i) (hy1 : ig hs i ≤ 1000000) (htr : tr.length ≤ 100)
    (hI1 : (innerF tr n).2.1 ≤ n) (hI2 : 0 ≤ (innerF tr n).2.2) (hI3 : (innerF tr n).2.2 ≤ 1000000) :
    Calls Try.prog 29 #[.pointer (some ⟨B, 0, none⟩), .int .i64 i] w (RetExam w0 B L n c v H hc (stepP l v i hs tr most)) := by
  obtain rfl := hT.1
  have hil : i < hs.length := by omega
  obtain ⟨b, o, rfl, hb, k1, k2⟩ := TermsR.at_ (hT.keep h.bel) i hi
  obtain ⟨gH, rfl, hgl, q1, q2, q3⟩ := h.int_at i hil
  have hxi := insAt_get hi
  have hyi := ig_get hil
  rw [hyi] at hy0 hy1
  have c0 := h.blk.cell 0 (v := .slice (some ⟨b, o, none⟩) l.length c) rfl
  have c23 := h.blk.cell 23 (v := .slice (some ⟨gH, 0, none⟩) hs.length hc) rfl
  have hBl := h.blk.lt
  generalize hs[i] = y at *
  generalize l[i] = x at *
  obtain ⟨op, arg⟩ := x
  simp only [] at k1 k2
  have HX := Lib.hid hxi
  have HY := Lib.hid hyi
  have HT := Lib.hid hT
  have HS := Lib.hid h
  have Hlen := Lib.hid hlen
  have HI1 := Lib.hid hI1
  have HI2 := Lib.hid hI2
  have HI3 := Lib.hid hI3
  clear hT h hxi hyi hlen hI1 hI2 hI3
  go_enter Try.func29, Try.ntmps29
  go_upto_region 1 with fail
  go_cut [5, 6] (fun pv yv wc => ∃ g : Nat, pv = .pointer (some ⟨g, 0, none⟩) ∧ yv = .int .i64 y ∧ Hid (Blk wc g #[.int .i64 op, .int .i64 arg] 40) ∧ Hid (VerSt w0 B wc (some ⟨b, o, none⟩) l.length c v (some ⟨gH, 0, none⟩) hc hs O oc tr most))
  case first =>
    go_region
    all_goals
      go_wp2_with fail
      go_meet
      exact ⟨w.heap.size, rfl, rfl, (Blk.new _ _ _).drew, (HS.out.alloc _).drew⟩
  case rest =>
    clear k1 k2 q1 q2 q3 c0 c23 hBl hb hgl
    obtain ⟨g, rfl, rfl, HK, HVc⟩ := hcut
    have HV := Lib.hid (fun w' (k : Bel wc w') => HVc.out.keep k)
    have HB := Bel.refl wc
    have p0 := HK.out.cell 0 rfl
    have p1 := HK.out.cell 1 rfl
    have p2 := HK.out.lt
    have p3 := HVc.out.blk.lt
    have p4 := HVc.out.blk.cell 24 (v := .slice O tr.length oc) rfl
    have hl6 : l.length ≤ 1000000 := by omega
    have HF : Hid (∀ w', Bel wc w' → checksF l v tr i ⟨op, arg⟩ y = false → RetExam w0 B (some ⟨b, o, none⟩) l.length c v (some ⟨gH, 0, none⟩) hc (stepP l v i hs tr most) (.returned (.int .i64 7)) w') :=
      fun w' k hck => exam_bad HX.out HY.out hck (HVc.out.bel.trans k)
    by_cases a1 : y < 0
    · have a1b : decide (y < 0) = true := by simpa using a1
      have HC : checksF l v tr i ⟨op, arg⟩ y = false := by unfold checksF; rw [show decide (0 ≤ y) = false by simpa using a1]; rfl
      replace HC := Lib.hid HC
      go_wp2_with fail
      go_ret
      exact HF.out _ HB HC.out
    have a1b : decide (y < 0) = false := by simpa using a1
    have a1c : decide (0 ≤ y) = true := by simpa using a1
    cases ck : knownF ⟨op, arg⟩ v with
    | false =>
      have HC : Hid (checksF l v tr i ⟨op, arg⟩ y = false) := by show checksF l v tr i ⟨op, arg⟩ y = false; unfold checksF; rw [ck]; simp
      clear a1c
      go_wp2_with (first
        | (go_at_call 44; refine (known_any B _ v _ _ _ ⟨op, arg⟩ _ (HV.out _ HB).blk).mono ?_; rintro e w' ⟨rfl, hb'⟩; rw [ck]; replace HB := HB.trans hb'; clear hb'; have p0 := (HK.out.keep HB).cell 0 rfl; have p1 := (HK.out.keep HB).cell 1 rfl; have p2 := (HK.out.keep HB).lt; have p3 := (HV.out _ HB).blk.lt; have p4 := (HV.out _ HB).blk.cell 24 (v := .slice O tr.length oc) rfl))
      go_ret
      exact HF.out _ HB HC.out
    | true =>
    have hop : 1 ≤ op ∧ op ≤ 10 := by
      unfold knownF at ck
      simp only [Bool.and_eq_true, decide_eq_true_eq] at ck
      exact ck.1.1.1
    obtain ⟨hop1, hop2⟩ := hop
    by_cases a3 : (needsF ⟨op, arg⟩ && tr.isEmpty) = true
    · have HC : Hid (checksF l v tr i ⟨op, arg⟩ y = false) := by show checksF l v tr i ⟨op, arg⟩ y = false; unfold checksF; rw [a3]; simp
      rw [Bool.and_eq_true] at a3
      obtain ⟨cn, a4⟩ := a3
      have a5 : ((tr.length : Int) == 0) = true := by simpa using a4
      clear a4 a1c
      go_wp2_with (first
        | (go_at_call 44; refine (known_any B _ v _ _ _ ⟨op, arg⟩ _ (HV.out _ HB).blk).mono ?_; rintro e w' ⟨rfl, hb'⟩; rw [ck]; replace HB := HB.trans hb'; clear hb'; have p0 := (HK.out.keep HB).cell 0 rfl; have p1 := (HK.out.keep HB).cell 1 rfl; have p2 := (HK.out.keep HB).lt; have p3 := (HV.out _ HB).blk.lt; have p4 := (HV.out _ HB).blk.cell 24 (v := .slice O tr.length oc) rfl)
        | (go_at_call 45; refine (needsLoop_any _ ⟨op, arg⟩ _).mono ?_; rintro e w' ⟨rfl, hb'⟩; rw [cn]; replace HB := HB.trans hb'; clear hb'; have p0 := (HK.out.keep HB).cell 0 rfl; have p1 := (HK.out.keep HB).cell 1 rfl; have p2 := (HK.out.keep HB).lt; have p3 := (HV.out _ HB).blk.lt; have p4 := (HV.out _ HB).blk.cell 24 (v := .slice O tr.length oc) rfl))
      go_ret
      exact HF.out _ HB HC.out
    rw [Bool.not_eq_true] at a3
    have A3 := Lib.hid a3; clear a3
    have a6 : needsF ⟨op, arg⟩ = true → ((tr.length : Int) == 0) = false := by
      intro hh
      have := A3.out
      rw [hh, Bool.true_and] at this
      cases tr with
      | nil => simp at this
      | cons => simp; omega
    have A6 := Lib.hid a6; clear a6
    by_cases a7 : y < wantsF op
    · have HC : Hid (checksF l v tr i ⟨op, arg⟩ y = false) := by show checksF l v tr i ⟨op, arg⟩ y = false; unfold checksF; rw [show decide (wantsF op ≤ y) = false by simpa using a7]; simp
      have hcase : ((op = 5 ∨ op = 7) ∧ y < 1) ∨ (op = 6 ∧ y < 2) := by
        unfold wantsF at a7
        split at a7
        · left; exact ⟨by assumption, by omega⟩
        · split at a7
          · right; exact ⟨by assumption, by omega⟩
          · omega
      clear a7 a1c
      cases cn : needsF ⟨op, arg⟩ with
      | false =>
        rcases hcase with ⟨rfl | rfl, a9⟩ | ⟨rfl, a9⟩
        · go_wp2_with (first
            | (go_at_call 44; refine (known_any B _ v _ _ _ ⟨5, arg⟩ _ (HV.out _ HB).blk).mono ?_; rintro e w' ⟨rfl, hb'⟩; rw [ck]; replace HB := HB.trans hb'; clear hb'; have p0 := (HK.out.keep HB).cell 0 rfl; have p1 := (HK.out.keep HB).cell 1 rfl; have p2 := (HK.out.keep HB).lt; have p3 := (HV.out _ HB).blk.lt; have p4 := (HV.out _ HB).blk.cell 24 (v := .slice O tr.length oc) rfl)
            | (go_at_call 45; refine (needsLoop_any _ ⟨5, arg⟩ _).mono ?_; rintro e w' ⟨rfl, hb'⟩; rw [cn]; replace HB := HB.trans hb'; clear hb'; have p0 := (HK.out.keep HB).cell 0 rfl; have p1 := (HK.out.keep HB).cell 1 rfl; have p2 := (HK.out.keep HB).lt; have p3 := (HV.out _ HB).blk.lt; have p4 := (HV.out _ HB).blk.cell 24 (v := .slice O tr.length oc) rfl))
          go_ret
          exact HF.out _ HB HC.out
        · go_wp2_with (first
            | (go_at_call 44; refine (known_any B _ v _ _ _ ⟨7, arg⟩ _ (HV.out _ HB).blk).mono ?_; rintro e w' ⟨rfl, hb'⟩; rw [ck]; replace HB := HB.trans hb'; clear hb'; have p0 := (HK.out.keep HB).cell 0 rfl; have p1 := (HK.out.keep HB).cell 1 rfl; have p2 := (HK.out.keep HB).lt; have p3 := (HV.out _ HB).blk.lt; have p4 := (HV.out _ HB).blk.cell 24 (v := .slice O tr.length oc) rfl)
            | (go_at_call 45; refine (needsLoop_any _ ⟨7, arg⟩ _).mono ?_; rintro e w' ⟨rfl, hb'⟩; rw [cn]; replace HB := HB.trans hb'; clear hb'; have p0 := (HK.out.keep HB).cell 0 rfl; have p1 := (HK.out.keep HB).cell 1 rfl; have p2 := (HK.out.keep HB).lt; have p3 := (HV.out _ HB).blk.lt; have p4 := (HV.out _ HB).blk.cell 24 (v := .slice O tr.length oc) rfl))
          go_ret
          exact HF.out _ HB HC.out
        · go_wp2_with (first
            | (go_at_call 44; refine (known_any B _ v _ _ _ ⟨6, arg⟩ _ (HV.out _ HB).blk).mono ?_; rintro e w' ⟨rfl, hb'⟩; rw [ck]; replace HB := HB.trans hb'; clear hb'; have p0 := (HK.out.keep HB).cell 0 rfl; have p1 := (HK.out.keep HB).cell 1 rfl; have p2 := (HK.out.keep HB).lt; have p3 := (HV.out _ HB).blk.lt; have p4 := (HV.out _ HB).blk.cell 24 (v := .slice O tr.length oc) rfl)
            | (go_at_call 45; refine (needsLoop_any _ ⟨6, arg⟩ _).mono ?_; rintro e w' ⟨rfl, hb'⟩; rw [cn]; replace HB := HB.trans hb'; clear hb'; have p0 := (HK.out.keep HB).cell 0 rfl; have p1 := (HK.out.keep HB).cell 1 rfl; have p2 := (HK.out.keep HB).lt; have p3 := (HV.out _ HB).blk.lt; have p4 := (HV.out _ HB).blk.cell 24 (v := .slice O tr.length oc) rfl))
          go_ret
          exact HF.out _ HB HC.out
      | true =>
        have a8 := A6.out cn
        rcases hcase with ⟨rfl | rfl, a9⟩ | ⟨rfl, a9⟩
        · go_wp2_with (first
            | (go_at_call 44; refine (known_any B _ v _ _ _ ⟨5, arg⟩ _ (HV.out _ HB).blk).mono ?_; rintro e w' ⟨rfl, hb'⟩; rw [ck]; replace HB := HB.trans hb'; clear hb'; have p0 := (HK.out.keep HB).cell 0 rfl; have p1 := (HK.out.keep HB).cell 1 rfl; have p2 := (HK.out.keep HB).lt; have p3 := (HV.out _ HB).blk.lt; have p4 := (HV.out _ HB).blk.cell 24 (v := .slice O tr.length oc) rfl)
            | (go_at_call 45; refine (needsLoop_any _ ⟨5, arg⟩ _).mono ?_; rintro e w' ⟨rfl, hb'⟩; rw [cn]; replace HB := HB.trans hb'; clear hb'; have p0 := (HK.out.keep HB).cell 0 rfl; have p1 := (HK.out.keep HB).cell 1 rfl; have p2 := (HK.out.keep HB).lt; have p3 := (HV.out _ HB).blk.lt; have p4 := (HV.out _ HB).blk.cell 24 (v := .slice O tr.length oc) rfl))
          go_ret
          exact HF.out _ HB HC.out
        · go_wp2_with (first
            | (go_at_call 44; refine (known_any B _ v _ _ _ ⟨7, arg⟩ _ (HV.out _ HB).blk).mono ?_; rintro e w' ⟨rfl, hb'⟩; rw [ck]; replace HB := HB.trans hb'; clear hb'; have p0 := (HK.out.keep HB).cell 0 rfl; have p1 := (HK.out.keep HB).cell 1 rfl; have p2 := (HK.out.keep HB).lt; have p3 := (HV.out _ HB).blk.lt; have p4 := (HV.out _ HB).blk.cell 24 (v := .slice O tr.length oc) rfl)
            | (go_at_call 45; refine (needsLoop_any _ ⟨7, arg⟩ _).mono ?_; rintro e w' ⟨rfl, hb'⟩; rw [cn]; replace HB := HB.trans hb'; clear hb'; have p0 := (HK.out.keep HB).cell 0 rfl; have p1 := (HK.out.keep HB).cell 1 rfl; have p2 := (HK.out.keep HB).lt; have p3 := (HV.out _ HB).blk.lt; have p4 := (HV.out _ HB).blk.cell 24 (v := .slice O tr.length oc) rfl))
          go_ret
          exact HF.out _ HB HC.out
        · go_wp2_with (first
            | (go_at_call 44; refine (known_any B _ v _ _ _ ⟨6, arg⟩ _ (HV.out _ HB).blk).mono ?_; rintro e w' ⟨rfl, hb'⟩; rw [ck]; replace HB := HB.trans hb'; clear hb'; have p0 := (HK.out.keep HB).cell 0 rfl; have p1 := (HK.out.keep HB).cell 1 rfl; have p2 := (HK.out.keep HB).lt; have p3 := (HV.out _ HB).blk.lt; have p4 := (HV.out _ HB).blk.cell 24 (v := .slice O tr.length oc) rfl)
            | (go_at_call 45; refine (needsLoop_any _ ⟨6, arg⟩ _).mono ?_; rintro e w' ⟨rfl, hb'⟩; rw [cn]; replace HB := HB.trans hb'; clear hb'; have p0 := (HK.out.keep HB).cell 0 rfl; have p1 := (HK.out.keep HB).cell 1 rfl; have p2 := (HK.out.keep HB).lt; have p3 := (HV.out _ HB).blk.lt; have p4 := (HV.out _ HB).blk.cell 24 (v := .slice O tr.length oc) rfl))
          go_ret
          exact HF.out _ HB HC.out
    have a7b : Hid (decide (wantsF op ≤ y) = true) := by show decide (wantsF op ≤ y) = true; simpa using a7
    have w57 : op = 5 ∨ op = 7 → decide (y < 1) = false := by
      intro hh; unfold wantsF at a7; rw [if_pos hh] at a7; simpa using a7
    have w6 : op = 6 → decide (y < 2) = false := by
      intro hh; unfold wantsF at a7; rw [if_neg (by omega), if_pos hh] at a7; simpa using a7
    have W57 := Lib.hid w57
    have W6 := Lib.hid w6
    clear w57 w6 a7
    cases ce : eachF l tr i ⟨op, arg⟩ with
    | false =>
      have HC : Hid (checksF l v tr i ⟨op, arg⟩ y = false) := by show checksF l v tr i ⟨op, arg⟩ y = false; unfold checksF; rw [ce]; simp
      obtain rfl : op = 9 := by
        unfold eachF at ce
        rw [Bool.or_eq_false_iff] at ce
        simpa using ce.1
      have cn : needsF ⟨9, arg⟩ = false := by simp [needsF]
      go_wp2_with (first
        | (go_at_call 44; refine (known_any B _ v _ _ _ ⟨9, arg⟩ _ (HV.out _ HB).blk).mono ?_; rintro e w' ⟨rfl, hb'⟩; rw [ck]; replace HB := HB.trans hb'; clear hb'; have p0 := (HK.out.keep HB).cell 0 rfl; have p1 := (HK.out.keep HB).cell 1 rfl; have p2 := (HK.out.keep HB).lt; have p3 := (HV.out _ HB).blk.lt; have p4 := (HV.out _ HB).blk.cell 24 (v := .slice O tr.length oc) rfl)
        | (go_at_call 45; refine (needsLoop_any _ ⟨9, arg⟩ _).mono ?_; rintro e w' ⟨rfl, hb'⟩; rw [cn]; replace HB := HB.trans hb'; clear hb'; have p0 := (HK.out.keep HB).cell 0 rfl; have p1 := (HK.out.keep HB).cell 1 rfl; have p2 := (HK.out.keep HB).lt; have p3 := (HV.out _ HB).blk.lt; have p4 := (HV.out _ HB).blk.cell 24 (v := .slice O tr.length oc) rfl)
        | (go_at_call 46; refine (eachAllowed_any (HV.out _ HB) HT.out hl6 i ⟨9, arg⟩).mono ?_; rintro e w' ⟨rfl, hb'⟩; rw [ce]; replace HB := HB.trans hb'; clear hb'; have p0 := (HK.out.keep HB).cell 0 rfl; have p1 := (HK.out.keep HB).cell 1 rfl; have p2 := (HK.out.keep HB).lt; have p3 := (HV.out _ HB).blk.lt; have p4 := (HV.out _ HB).blk.cell 24 (v := .slice O tr.length oc) rfl))
      go_ret
      exact HF.out _ HB HC.out
    | true =>
    cases cx : nextF l tr i ⟨op, arg⟩ y with
    | false =>
      have HC : Hid (checksF l v tr i ⟨op, arg⟩ y = false) := by show checksF l v tr i ⟨op, arg⟩ y = false; unfold checksF; rw [cx]; simp
      obtain rfl : op = 10 := by
        unfold nextF at cx
        rw [Bool.or_eq_false_iff] at cx
        simpa using cx.1
      have cn : needsF ⟨10, arg⟩ = false := by simp [needsF]
      go_wp2_with (first
        | (go_at_call 44; refine (known_any B _ v _ _ _ ⟨10, arg⟩ _ (HV.out _ HB).blk).mono ?_; rintro e w' ⟨rfl, hb'⟩; rw [ck]; replace HB := HB.trans hb'; clear hb'; have p0 := (HK.out.keep HB).cell 0 rfl; have p1 := (HK.out.keep HB).cell 1 rfl; have p2 := (HK.out.keep HB).lt; have p3 := (HV.out _ HB).blk.lt; have p4 := (HV.out _ HB).blk.cell 24 (v := .slice O tr.length oc) rfl)
        | (go_at_call 45; refine (needsLoop_any _ ⟨10, arg⟩ _).mono ?_; rintro e w' ⟨rfl, hb'⟩; rw [cn]; replace HB := HB.trans hb'; clear hb'; have p0 := (HK.out.keep HB).cell 0 rfl; have p1 := (HK.out.keep HB).cell 1 rfl; have p2 := (HK.out.keep HB).lt; have p3 := (HV.out _ HB).blk.lt; have p4 := (HV.out _ HB).blk.cell 24 (v := .slice O tr.length oc) rfl)
        | (go_at_call 46; refine (eachAllowed_any (HV.out _ HB) HT.out hl6 i ⟨10, arg⟩).mono ?_; rintro e w' ⟨rfl, hb'⟩; rw [ce]; replace HB := HB.trans hb'; clear hb'; have p0 := (HK.out.keep HB).cell 0 rfl; have p1 := (HK.out.keep HB).cell 1 rfl; have p2 := (HK.out.keep HB).lt; have p3 := (HV.out _ HB).blk.lt; have p4 := (HV.out _ HB).blk.cell 24 (v := .slice O tr.length oc) rfl)
        | (go_at_call 47; refine (nextAllowed_any (l := l) (HV.out _ HB) rfl i ⟨10, arg⟩ _ HI2.out HI3.out).mono ?_; rintro e w' ⟨rfl, hb'⟩; rw [cx]; replace HB := HB.trans hb'; clear hb'; have p0 := (HK.out.keep HB).cell 0 rfl; have p1 := (HK.out.keep HB).cell 1 rfl; have p2 := (HK.out.keep HB).lt; have p3 := (HV.out _ HB).blk.lt; have p4 := (HV.out _ HB).blk.cell 24 (v := .slice O tr.length oc) rfl))
      go_ret
      exact HF.out _ HB HC.out
    | true =>
    cases cj : jumpF l tr i ⟨op, arg⟩ with
    | false =>
      have HC : Hid (checksF l v tr i ⟨op, arg⟩ y = false) := by show checksF l v tr i ⟨op, arg⟩ y = false; unfold checksF; rw [cj]; simp
      have hop : op = 7 ∨ op = 8 := by
        unfold jumpF at cj
        rw [Bool.or_eq_false_iff] at cj
        have := cj.1
        simp at this
        omega
      rcases hop with rfl | rfl
      · have w1 := W57.out (.inr rfl)
        have cn : needsF ⟨7, arg⟩ = false := by simp [needsF]
        go_wp2_with (first
          | (go_at_call 44; refine (known_any B _ v _ _ _ ⟨7, arg⟩ _ (HV.out _ HB).blk).mono ?_; rintro e w' ⟨rfl, hb'⟩; rw [ck]; replace HB := HB.trans hb'; clear hb'; have p0 := (HK.out.keep HB).cell 0 rfl; have p1 := (HK.out.keep HB).cell 1 rfl; have p2 := (HK.out.keep HB).lt; have p3 := (HV.out _ HB).blk.lt; have p4 := (HV.out _ HB).blk.cell 24 (v := .slice O tr.length oc) rfl)
          | (go_at_call 45; refine (needsLoop_any _ ⟨7, arg⟩ _).mono ?_; rintro e w' ⟨rfl, hb'⟩; rw [cn]; replace HB := HB.trans hb'; clear hb'; have p0 := (HK.out.keep HB).cell 0 rfl; have p1 := (HK.out.keep HB).cell 1 rfl; have p2 := (HK.out.keep HB).lt; have p3 := (HV.out _ HB).blk.lt; have p4 := (HV.out _ HB).blk.cell 24 (v := .slice O tr.length oc) rfl)
          | (go_at_call 46; refine (eachAllowed_any (HV.out _ HB) HT.out hl6 i ⟨7, arg⟩).mono ?_; rintro e w' ⟨rfl, hb'⟩; rw [ce]; replace HB := HB.trans hb'; clear hb'; have p0 := (HK.out.keep HB).cell 0 rfl; have p1 := (HK.out.keep HB).cell 1 rfl; have p2 := (HK.out.keep HB).lt; have p3 := (HV.out _ HB).blk.lt; have p4 := (HV.out _ HB).blk.cell 24 (v := .slice O tr.length oc) rfl)
          | (go_at_call 47; refine (nextAllowed_any (l := l) (HV.out _ HB) rfl i ⟨7, arg⟩ _ HI2.out HI3.out).mono ?_; rintro e w' ⟨rfl, hb'⟩; rw [cx]; replace HB := HB.trans hb'; clear hb'; have p0 := (HK.out.keep HB).cell 0 rfl; have p1 := (HK.out.keep HB).cell 1 rfl; have p2 := (HK.out.keep HB).lt; have p3 := (HV.out _ HB).blk.lt; have p4 := (HV.out _ HB).blk.cell 24 (v := .slice O tr.length oc) rfl)
          | (go_at_call 48; refine (jumpAllowed_any (HV.out _ HB) HT.out hl6 hcap i ⟨7, arg⟩ HI1.out).mono ?_; rintro e w' ⟨rfl, hb'⟩; rw [cj]; replace HB := HB.trans hb'; clear hb'; have p0 := (HK.out.keep HB).cell 0 rfl; have p1 := (HK.out.keep HB).cell 1 rfl; have p2 := (HK.out.keep HB).lt; have p3 := (HV.out _ HB).blk.lt; have p4 := (HV.out _ HB).blk.cell 24 (v := .slice O tr.length oc) rfl))
        go_ret
        exact HF.out _ HB HC.out
      · have cn : needsF ⟨8, arg⟩ = false := by simp [needsF]
        go_wp2_with (first
          | (go_at_call 44; refine (known_any B _ v _ _ _ ⟨8, arg⟩ _ (HV.out _ HB).blk).mono ?_; rintro e w' ⟨rfl, hb'⟩; rw [ck]; replace HB := HB.trans hb'; clear hb'; have p0 := (HK.out.keep HB).cell 0 rfl; have p1 := (HK.out.keep HB).cell 1 rfl; have p2 := (HK.out.keep HB).lt; have p3 := (HV.out _ HB).blk.lt; have p4 := (HV.out _ HB).blk.cell 24 (v := .slice O tr.length oc) rfl)
          | (go_at_call 45; refine (needsLoop_any _ ⟨8, arg⟩ _).mono ?_; rintro e w' ⟨rfl, hb'⟩; rw [cn]; replace HB := HB.trans hb'; clear hb'; have p0 := (HK.out.keep HB).cell 0 rfl; have p1 := (HK.out.keep HB).cell 1 rfl; have p2 := (HK.out.keep HB).lt; have p3 := (HV.out _ HB).blk.lt; have p4 := (HV.out _ HB).blk.cell 24 (v := .slice O tr.length oc) rfl)
          | (go_at_call 46; refine (eachAllowed_any (HV.out _ HB) HT.out hl6 i ⟨8, arg⟩).mono ?_; rintro e w' ⟨rfl, hb'⟩; rw [ce]; replace HB := HB.trans hb'; clear hb'; have p0 := (HK.out.keep HB).cell 0 rfl; have p1 := (HK.out.keep HB).cell 1 rfl; have p2 := (HK.out.keep HB).lt; have p3 := (HV.out _ HB).blk.lt; have p4 := (HV.out _ HB).blk.cell 24 (v := .slice O tr.length oc) rfl)
          | (go_at_call 47; refine (nextAllowed_any (l := l) (HV.out _ HB) rfl i ⟨8, arg⟩ _ HI2.out HI3.out).mono ?_; rintro e w' ⟨rfl, hb'⟩; rw [cx]; replace HB := HB.trans hb'; clear hb'; have p0 := (HK.out.keep HB).cell 0 rfl; have p1 := (HK.out.keep HB).cell 1 rfl; have p2 := (HK.out.keep HB).lt; have p3 := (HV.out _ HB).blk.lt; have p4 := (HV.out _ HB).blk.cell 24 (v := .slice O tr.length oc) rfl)
          | (go_at_call 48; refine (jumpAllowed_any (HV.out _ HB) HT.out hl6 hcap i ⟨8, arg⟩ HI1.out).mono ?_; rintro e w' ⟨rfl, hb'⟩; rw [cj]; replace HB := HB.trans hb'; clear hb'; have p0 := (HK.out.keep HB).cell 0 rfl; have p1 := (HK.out.keep HB).cell 1 rfl; have p2 := (HK.out.keep HB).lt; have p3 := (HV.out _ HB).blk.lt; have p4 := (HV.out _ HB).blk.cell 24 (v := .slice O tr.length oc) rfl))
        go_ret
        exact HF.out _ HB HC.out
    | true =>
    have HC : checksF l v tr i ⟨op, arg⟩ y = true := by
      unfold checksF
      simp only []
      rw [a1c, ck, A3.out, a7b.out, ce, cx, cj]; rfl
    replace HC := Lib.hid HC
    have E78 : Hid (op = 7 ∨ op = 8 → 0 ≤ arg ∧ arg < hs.length) := by
      intro hh
      have hh2 : decide (op ≠ 7 ∧ op ≠ 8) = false := by simp; omega
      unfold jumpF at cj
      simp only [hh2, Bool.false_or, Bool.and_eq_true, decide_eq_true_eq] at cj
      have := HI1.out
      rw [Hlen.out]
      omega
    have E9 : Hid (op = 9 → 0 ≤ arg ∧ arg + 1 < hs.length) := by
      intro hh
      have hh2 : decide (op ≠ 9) = false := by simp [hh]
      unfold eachF at ce
      simp only [hh2, Bool.false_or, Bool.and_eq_true, decide_eq_true_eq] at ce
      rw [Hlen.out]
      omega
    have E10 : Hid (op = 10 → 1 ≤ tr.length) := by
      intro hh
      have hh2 : decide (op ≠ 10) = false := by simp [hh]
      unfold nextF at cx
      simp only [hh2, Bool.false_or, Bool.and_eq_true, decide_eq_true_eq] at cx
      cases tr with
      | nil => rw [innerF_nil] at cx; simp at cx; omega
      | cons => simp
    clear a1c A3 a7b
    by_cases o57 : op = 5 ∨ op = 7
    · have w1 := W57.out o57
      rcases o57 with rfl | rfl
      · have cn : needsF ⟨5, arg⟩ = false := by simp [needsF]
        go_wp2_with (first
          | (go_at_call 44; refine (known_any B _ v _ _ _ ⟨5, arg⟩ _ (HV.out _ HB).blk).mono ?_; rintro e w' ⟨rfl, hb'⟩; rw [ck]; replace HB := HB.trans hb'; clear hb'; have p0 := (HK.out.keep HB).cell 0 rfl; have p1 := (HK.out.keep HB).cell 1 rfl; have p2 := (HK.out.keep HB).lt; have p3 := (HV.out _ HB).blk.lt; have p4 := (HV.out _ HB).blk.cell 24 (v := .slice O tr.length oc) rfl)
          | (go_at_call 45; refine (needsLoop_any _ ⟨5, arg⟩ _).mono ?_; rintro e w' ⟨rfl, hb'⟩; rw [cn]; replace HB := HB.trans hb'; clear hb'; have p0 := (HK.out.keep HB).cell 0 rfl; have p1 := (HK.out.keep HB).cell 1 rfl; have p2 := (HK.out.keep HB).lt; have p3 := (HV.out _ HB).blk.lt; have p4 := (HV.out _ HB).blk.cell 24 (v := .slice O tr.length oc) rfl)
          | (go_at_call 46; refine (eachAllowed_any (HV.out _ HB) HT.out hl6 i ⟨5, arg⟩).mono ?_; rintro e w' ⟨rfl, hb'⟩; rw [ce]; replace HB := HB.trans hb'; clear hb'; have p0 := (HK.out.keep HB).cell 0 rfl; have p1 := (HK.out.keep HB).cell 1 rfl; have p2 := (HK.out.keep HB).lt; have p3 := (HV.out _ HB).blk.lt; have p4 := (HV.out _ HB).blk.cell 24 (v := .slice O tr.length oc) rfl)
          | (go_at_call 47; refine (nextAllowed_any (l := l) (HV.out _ HB) rfl i ⟨5, arg⟩ _ HI2.out HI3.out).mono ?_; rintro e w' ⟨rfl, hb'⟩; rw [cx]; replace HB := HB.trans hb'; clear hb'; have p0 := (HK.out.keep HB).cell 0 rfl; have p1 := (HK.out.keep HB).cell 1 rfl; have p2 := (HK.out.keep HB).lt; have p3 := (HV.out _ HB).blk.lt; have p4 := (HV.out _ HB).blk.cell 24 (v := .slice O tr.length oc) rfl)
          | (go_at_call 48; refine (jumpAllowed_any (HV.out _ HB) HT.out hl6 hcap i ⟨5, arg⟩ HI1.out).mono ?_; rintro e w' ⟨rfl, hb'⟩; rw [cj]; replace HB := HB.trans hb'; clear hb'; have p0 := (HK.out.keep HB).cell 0 rfl; have p1 := (HK.out.keep HB).cell 1 rfl; have p2 := (HK.out.keep HB).lt; have p3 := (HV.out _ HB).blk.lt; have p4 := (HV.out _ HB).blk.cell 24 (v := .slice O tr.length oc) rfl))
        refine (effect_any (HV.out _ HB) i 5 arg y (by rw [Hlen.out]; omega) (by rw [Hlen.out]; omega) hy0 hy1 htr (by omega) (by omega) (fun h => E78.out (by first | exact h | simp)) (fun h => E9.out (by first | exact h | simp)) (fun h => E10.out (by first | exact h | simp))).mono ?_
        intro e w2 hret
        obtain ⟨z, rfl⟩ : ∃ z : Int, e = .returned (.int .i64 z) := ⟨_, hret.1⟩
        have HQ := Lib.hid (hret.exam HX.out HY.out HC.out); clear hret
        go_wp2_with fail
        go_ret
        exact HQ.out
      · have cn : needsF ⟨7, arg⟩ = false := by simp [needsF]
        go_wp2_with (first
          | (go_at_call 44; refine (known_any B _ v _ _ _ ⟨7, arg⟩ _ (HV.out _ HB).blk).mono ?_; rintro e w' ⟨rfl, hb'⟩; rw [ck]; replace HB := HB.trans hb'; clear hb'; have p0 := (HK.out.keep HB).cell 0 rfl; have p1 := (HK.out.keep HB).cell 1 rfl; have p2 := (HK.out.keep HB).lt; have p3 := (HV.out _ HB).blk.lt; have p4 := (HV.out _ HB).blk.cell 24 (v := .slice O tr.length oc) rfl)
          | (go_at_call 45; refine (needsLoop_any _ ⟨7, arg⟩ _).mono ?_; rintro e w' ⟨rfl, hb'⟩; rw [cn]; replace HB := HB.trans hb'; clear hb'; have p0 := (HK.out.keep HB).cell 0 rfl; have p1 := (HK.out.keep HB).cell 1 rfl; have p2 := (HK.out.keep HB).lt; have p3 := (HV.out _ HB).blk.lt; have p4 := (HV.out _ HB).blk.cell 24 (v := .slice O tr.length oc) rfl)
          | (go_at_call 46; refine (eachAllowed_any (HV.out _ HB) HT.out hl6 i ⟨7, arg⟩).mono ?_; rintro e w' ⟨rfl, hb'⟩; rw [ce]; replace HB := HB.trans hb'; clear hb'; have p0 := (HK.out.keep HB).cell 0 rfl; have p1 := (HK.out.keep HB).cell 1 rfl; have p2 := (HK.out.keep HB).lt; have p3 := (HV.out _ HB).blk.lt; have p4 := (HV.out _ HB).blk.cell 24 (v := .slice O tr.length oc) rfl)
          | (go_at_call 47; refine (nextAllowed_any (l := l) (HV.out _ HB) rfl i ⟨7, arg⟩ _ HI2.out HI3.out).mono ?_; rintro e w' ⟨rfl, hb'⟩; rw [cx]; replace HB := HB.trans hb'; clear hb'; have p0 := (HK.out.keep HB).cell 0 rfl; have p1 := (HK.out.keep HB).cell 1 rfl; have p2 := (HK.out.keep HB).lt; have p3 := (HV.out _ HB).blk.lt; have p4 := (HV.out _ HB).blk.cell 24 (v := .slice O tr.length oc) rfl)
          | (go_at_call 48; refine (jumpAllowed_any (HV.out _ HB) HT.out hl6 hcap i ⟨7, arg⟩ HI1.out).mono ?_; rintro e w' ⟨rfl, hb'⟩; rw [cj]; replace HB := HB.trans hb'; clear hb'; have p0 := (HK.out.keep HB).cell 0 rfl; have p1 := (HK.out.keep HB).cell 1 rfl; have p2 := (HK.out.keep HB).lt; have p3 := (HV.out _ HB).blk.lt; have p4 := (HV.out _ HB).blk.cell 24 (v := .slice O tr.length oc) rfl))
        refine (effect_any (HV.out _ HB) i 7 arg y (by rw [Hlen.out]; omega) (by rw [Hlen.out]; omega) hy0 hy1 htr (by omega) (by omega) (fun h => E78.out (by first | exact h | simp)) (fun h => E9.out (by first | exact h | simp)) (fun h => E10.out (by first | exact h | simp))).mono ?_
        intro e w2 hret
        obtain ⟨z, rfl⟩ : ∃ z : Int, e = .returned (.int .i64 z) := ⟨_, hret.1⟩
        have HQ := Lib.hid (hret.exam HX.out HY.out HC.out); clear hret
        go_wp2_with fail
        go_ret
        exact HQ.out
    · have o5 : (op == 5) = false := by simp; omega
      have o7 : (op == 7) = false := by simp; omega
      by_cases o6 : op = 6
      · have w1 := W6.out o6
        subst o6
        have cn : needsF ⟨6, arg⟩ = false := by simp [needsF]
        go_wp2_with (first
          | (go_at_call 44; refine (known_any B _ v _ _ _ ⟨6, arg⟩ _ (HV.out _ HB).blk).mono ?_; rintro e w' ⟨rfl, hb'⟩; rw [ck]; replace HB := HB.trans hb'; clear hb'; have p0 := (HK.out.keep HB).cell 0 rfl; have p1 := (HK.out.keep HB).cell 1 rfl; have p2 := (HK.out.keep HB).lt; have p3 := (HV.out _ HB).blk.lt; have p4 := (HV.out _ HB).blk.cell 24 (v := .slice O tr.length oc) rfl)
          | (go_at_call 45; refine (needsLoop_any _ ⟨6, arg⟩ _).mono ?_; rintro e w' ⟨rfl, hb'⟩; rw [cn]; replace HB := HB.trans hb'; clear hb'; have p0 := (HK.out.keep HB).cell 0 rfl; have p1 := (HK.out.keep HB).cell 1 rfl; have p2 := (HK.out.keep HB).lt; have p3 := (HV.out _ HB).blk.lt; have p4 := (HV.out _ HB).blk.cell 24 (v := .slice O tr.length oc) rfl)
          | (go_at_call 46; refine (eachAllowed_any (HV.out _ HB) HT.out hl6 i ⟨6, arg⟩).mono ?_; rintro e w' ⟨rfl, hb'⟩; rw [ce]; replace HB := HB.trans hb'; clear hb'; have p0 := (HK.out.keep HB).cell 0 rfl; have p1 := (HK.out.keep HB).cell 1 rfl; have p2 := (HK.out.keep HB).lt; have p3 := (HV.out _ HB).blk.lt; have p4 := (HV.out _ HB).blk.cell 24 (v := .slice O tr.length oc) rfl)
          | (go_at_call 47; refine (nextAllowed_any (l := l) (HV.out _ HB) rfl i ⟨6, arg⟩ _ HI2.out HI3.out).mono ?_; rintro e w' ⟨rfl, hb'⟩; rw [cx]; replace HB := HB.trans hb'; clear hb'; have p0 := (HK.out.keep HB).cell 0 rfl; have p1 := (HK.out.keep HB).cell 1 rfl; have p2 := (HK.out.keep HB).lt; have p3 := (HV.out _ HB).blk.lt; have p4 := (HV.out _ HB).blk.cell 24 (v := .slice O tr.length oc) rfl)
          | (go_at_call 48; refine (jumpAllowed_any (HV.out _ HB) HT.out hl6 hcap i ⟨6, arg⟩ HI1.out).mono ?_; rintro e w' ⟨rfl, hb'⟩; rw [cj]; replace HB := HB.trans hb'; clear hb'; have p0 := (HK.out.keep HB).cell 0 rfl; have p1 := (HK.out.keep HB).cell 1 rfl; have p2 := (HK.out.keep HB).lt; have p3 := (HV.out _ HB).blk.lt; have p4 := (HV.out _ HB).blk.cell 24 (v := .slice O tr.length oc) rfl))
        refine (effect_any (HV.out _ HB) i 6 arg y (by rw [Hlen.out]; omega) (by rw [Hlen.out]; omega) hy0 hy1 htr (by omega) (by omega) (fun h => E78.out (by first | exact h | simp)) (fun h => E9.out (by first | exact h | simp)) (fun h => E10.out (by first | exact h | simp))).mono ?_
        intro e w2 hret
        obtain ⟨z, rfl⟩ : ∃ z : Int, e = .returned (.int .i64 z) := ⟨_, hret.1⟩
        have HQ := Lib.hid (hret.exam HX.out HY.out HC.out); clear hret
        go_wp2_with fail
        go_ret
        exact HQ.out
      · have o6' : (op == 6) = false := by simpa using o6
        cases cn : needsF ⟨op, arg⟩ with
        | false =>
          go_wp2_with (first
            | (go_at_call 44; refine (known_any B _ v _ _ _ ⟨op, arg⟩ _ (HV.out _ HB).blk).mono ?_; rintro e w' ⟨rfl, hb'⟩; rw [ck]; replace HB := HB.trans hb'; clear hb'; have p0 := (HK.out.keep HB).cell 0 rfl; have p1 := (HK.out.keep HB).cell 1 rfl; have p2 := (HK.out.keep HB).lt; have p3 := (HV.out _ HB).blk.lt; have p4 := (HV.out _ HB).blk.cell 24 (v := .slice O tr.length oc) rfl)
            | (go_at_call 45; refine (needsLoop_any _ ⟨op, arg⟩ _).mono ?_; rintro e w' ⟨rfl, hb'⟩; rw [cn]; replace HB := HB.trans hb'; clear hb'; have p0 := (HK.out.keep HB).cell 0 rfl; have p1 := (HK.out.keep HB).cell 1 rfl; have p2 := (HK.out.keep HB).lt; have p3 := (HV.out _ HB).blk.lt; have p4 := (HV.out _ HB).blk.cell 24 (v := .slice O tr.length oc) rfl)
            | (go_at_call 46; refine (eachAllowed_any (HV.out _ HB) HT.out hl6 i ⟨op, arg⟩).mono ?_; rintro e w' ⟨rfl, hb'⟩; rw [ce]; replace HB := HB.trans hb'; clear hb'; have p0 := (HK.out.keep HB).cell 0 rfl; have p1 := (HK.out.keep HB).cell 1 rfl; have p2 := (HK.out.keep HB).lt; have p3 := (HV.out _ HB).blk.lt; have p4 := (HV.out _ HB).blk.cell 24 (v := .slice O tr.length oc) rfl)
            | (go_at_call 47; refine (nextAllowed_any (l := l) (HV.out _ HB) rfl i ⟨op, arg⟩ _ HI2.out HI3.out).mono ?_; rintro e w' ⟨rfl, hb'⟩; rw [cx]; replace HB := HB.trans hb'; clear hb'; have p0 := (HK.out.keep HB).cell 0 rfl; have p1 := (HK.out.keep HB).cell 1 rfl; have p2 := (HK.out.keep HB).lt; have p3 := (HV.out _ HB).blk.lt; have p4 := (HV.out _ HB).blk.cell 24 (v := .slice O tr.length oc) rfl)
            | (go_at_call 48; refine (jumpAllowed_any (HV.out _ HB) HT.out hl6 hcap i ⟨op, arg⟩ HI1.out).mono ?_; rintro e w' ⟨rfl, hb'⟩; rw [cj]; replace HB := HB.trans hb'; clear hb'; have p0 := (HK.out.keep HB).cell 0 rfl; have p1 := (HK.out.keep HB).cell 1 rfl; have p2 := (HK.out.keep HB).lt; have p3 := (HV.out _ HB).blk.lt; have p4 := (HV.out _ HB).blk.cell 24 (v := .slice O tr.length oc) rfl))
          refine (effect_any (HV.out _ HB) i op arg y (by rw [Hlen.out]; omega) (by rw [Hlen.out]; omega) hy0 hy1 htr (by omega) (by omega) (fun h => E78.out (by first | exact h | simp)) (fun h => E9.out (by first | exact h | simp)) (fun h => E10.out (by first | exact h | simp))).mono ?_
          intro e w2 hret
          obtain ⟨z, rfl⟩ : ∃ z : Int, e = .returned (.int .i64 z) := ⟨_, hret.1⟩
          have HQ := Lib.hid (hret.exam HX.out HY.out HC.out); clear hret
          go_wp2_with fail
          go_ret
          exact HQ.out
        | true =>
          have a8 := A6.out cn
          go_wp2_with (first
            | (go_at_call 44; refine (known_any B _ v _ _ _ ⟨op, arg⟩ _ (HV.out _ HB).blk).mono ?_; rintro e w' ⟨rfl, hb'⟩; rw [ck]; replace HB := HB.trans hb'; clear hb'; have p0 := (HK.out.keep HB).cell 0 rfl; have p1 := (HK.out.keep HB).cell 1 rfl; have p2 := (HK.out.keep HB).lt; have p3 := (HV.out _ HB).blk.lt; have p4 := (HV.out _ HB).blk.cell 24 (v := .slice O tr.length oc) rfl)
            | (go_at_call 45; refine (needsLoop_any _ ⟨op, arg⟩ _).mono ?_; rintro e w' ⟨rfl, hb'⟩; rw [cn]; replace HB := HB.trans hb'; clear hb'; have p0 := (HK.out.keep HB).cell 0 rfl; have p1 := (HK.out.keep HB).cell 1 rfl; have p2 := (HK.out.keep HB).lt; have p3 := (HV.out _ HB).blk.lt; have p4 := (HV.out _ HB).blk.cell 24 (v := .slice O tr.length oc) rfl)
            | (go_at_call 46; refine (eachAllowed_any (HV.out _ HB) HT.out hl6 i ⟨op, arg⟩).mono ?_; rintro e w' ⟨rfl, hb'⟩; rw [ce]; replace HB := HB.trans hb'; clear hb'; have p0 := (HK.out.keep HB).cell 0 rfl; have p1 := (HK.out.keep HB).cell 1 rfl; have p2 := (HK.out.keep HB).lt; have p3 := (HV.out _ HB).blk.lt; have p4 := (HV.out _ HB).blk.cell 24 (v := .slice O tr.length oc) rfl)
            | (go_at_call 47; refine (nextAllowed_any (l := l) (HV.out _ HB) rfl i ⟨op, arg⟩ _ HI2.out HI3.out).mono ?_; rintro e w' ⟨rfl, hb'⟩; rw [cx]; replace HB := HB.trans hb'; clear hb'; have p0 := (HK.out.keep HB).cell 0 rfl; have p1 := (HK.out.keep HB).cell 1 rfl; have p2 := (HK.out.keep HB).lt; have p3 := (HV.out _ HB).blk.lt; have p4 := (HV.out _ HB).blk.cell 24 (v := .slice O tr.length oc) rfl)
            | (go_at_call 48; refine (jumpAllowed_any (HV.out _ HB) HT.out hl6 hcap i ⟨op, arg⟩ HI1.out).mono ?_; rintro e w' ⟨rfl, hb'⟩; rw [cj]; replace HB := HB.trans hb'; clear hb'; have p0 := (HK.out.keep HB).cell 0 rfl; have p1 := (HK.out.keep HB).cell 1 rfl; have p2 := (HK.out.keep HB).lt; have p3 := (HV.out _ HB).blk.lt; have p4 := (HV.out _ HB).blk.cell 24 (v := .slice O tr.length oc) rfl))
          refine (effect_any (HV.out _ HB) i op arg y (by rw [Hlen.out]; omega) (by rw [Hlen.out]; omega) hy0 hy1 htr (by omega) (by omega) (fun h => E78.out (by first | exact h | simp)) (fun h => E9.out (by first | exact h | simp)) (fun h => E10.out (by first | exact h | simp))).mono ?_
          intro e w2 hret
          obtain ⟨z, rfl⟩ : ∃ z : Int, e = .returned (.int .i64 z) := ⟨_, hret.1⟩
          have HQ := Lib.hid (hret.exam HX.out HY.out HC.out); clear hret
          go_wp2_with fail
          go_ret
          exact HQ.out

end Go.Proofs.Ytnhhedecaejgcaa
