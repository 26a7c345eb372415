/- The walk of TermGrows. -/
import Derived.Test.YtglhfdoahmmoeaaL05c
namespace Go.Proofs.Ytglhfdoahmmoeaa
open Go.RowKit

theorem gmax1 (a : Int) (h : 0 ≤ a) : gmax [a] = a := by simp [gmax]; omega
theorem gmax2 (a b : Int) (h : 0 ≤ a) : gmax [a, b] = max a b := by simp [gmax]; omega
theorem gmax3 (a b c : Int) (h : 0 ≤ a) : gmax [a, b, c] = max (max a b) c := by simp [gmax]; omega

/-- An operation with so many whole operands: its end, levels and validity. -/
theorem grown_facts (O : Int) (ts : List Term) (h18 : 18 ≤ O) (h43 : O ≤ 43) (hF : Full ts (arity O)) (hargs : ∀ t ∈ ts, argF t 6 = true) (D N : Int) (hD : gmax (rl depthNum ts) = D) (hN : gmax (rl nestNum ts) = N) :
    endF (⟨O, 0⟩ :: ts) 0 = (⟨O, 0⟩ :: ts : List Term).length ∧ depthF (⟨O, 0⟩ :: ts) = D + 1 ∧ nestF (⟨O, 0⟩ :: ts) = (if aggregate O then N + 1 else N) ∧
      validF (⟨O, 0⟩ :: ts) 6 = (decide ((⟨O, 0⟩ :: ts : List Term).length ≤ 200) && decide (D < 24) && decide ((if aggregate O then N + 1 else N) ≤ 2)) := by
  have h1 : 1 ≤ arity O := by unfold arity; repeat' split <;> omega
  have hFt : Full (⟨O, 0⟩ :: ts) 1 := Full.mk (t := ⟨O, 0⟩) hF h1
  have e1 : depthF (⟨O, 0⟩ :: ts) = D + 1 := by
    have := grow_levels depthNum (t := ⟨O, 0⟩) hF h1
    unfold depthF; rw [this, hD]; rfl
  have e2 : nestF (⟨O, 0⟩ :: ts) = (if aggregate O then N + 1 else N) := by
    have := grow_levels nestNum (t := ⟨O, 0⟩) hF h1
    unfold nestF; rw [this, hN]; rfl
  refine ⟨full_end hFt, e1, e2, ?_⟩
  have harg : ∀ t ∈ (⟨O, 0⟩ :: ts : List Term), argF t 6 = true := by
    intro t ht
    rcases List.mem_cons.1 ht with e | e
    · subst e; unfold argF; rw [if_neg (by show ¬ O = 1; omega), if_neg (by show ¬ (O = 5 ∨ O = 12); omega)]; rfl
    · exact hargs t e
  rw [Bool.eq_iff_iff, validF_parts, e1, e2]
  simp only [Bool.and_eq_true, decide_eq_true_eq]
  constructor
  · rintro ⟨a, _, _, d, e⟩; exact ⟨⟨a, by omega⟩, e⟩
  · rintro ⟨⟨a, d⟩, e⟩; exact ⟨a, hFt, harg, by omega, e⟩

set_option maxRecDepth 100000 in
set_option maxHeartbeats 2000000 in
theorem termGrows_1 (op : Int) (Aa Ab Ac : Option Addr) (na ca nb cb nc cc : Nat) (ea eb ec : List Term) (w : World) (ha : TermsR w Aa na ea) (hb : TermsR w Ab nb eb) (hc : TermsR w Ac nc ec)
    (hla : na ≤ 250) (hlb : nb ≤ 250) (hlc : nc ≤ 250) (hva : validF ea 6 = true) (hvb : validF eb 6 = true) (hvc : validF ec 6 = true) (har : arity (18 + modF op 26) = 1) :
    Calls Try.prog 6 #[.int .i64 op, .slice Aa na ca, .slice Ab nb cb, .slice Ac nc cc] w fun e w' => e = .returned (.bool true) ∧ Bel w w' := by
  have Ha := Lib.hid (fun w' (k : Bel w w') => ha.keep k)
  have Hb := Lib.hid (fun w' (k : Bel w w') => hb.keep k)
  have Hc := Lib.hid (fun w' (k : Bel w w') => hc.keep k)
  have hda : decide (na ≤ 250) = true := by simpa using hla
  have hdb : decide (nb ≤ 250) = true := by simpa using hlb
  have hdc : decide (nc ≤ 250) = true := by simpa using hlc
  have hm1 : 0 ≤ modF op 26 := Int.emod_nonneg _ (by omega)
  have hm2 : modF op 26 < 26 := Int.emod_lt_of_pos _ (by omega)
  have hO1 : 18 ≤ 18 + modF op 26 := by omega
  have hO2 : 18 + modF op 26 ≤ 43 := by omega
  obtain ⟨_, hFa, h3a, _, _⟩ := (validF_parts ea 6).1 hva
  obtain ⟨_, hFb, h3b, _, _⟩ := (validF_parts eb 6).1 hvb
  obtain ⟨_, hFc, h3c, _, _⟩ := (validF_parts ec 6).1 hvc
  have HG := grown_facts (18 + modF op 26) ea hO1 hO2 (by rw [har]; exact hFa) (fun t ht => h3a t ht) (depthF ea) (nestF ea) (by rw [rl_single _ hFa]; exact gmax1 _ (depthF_le ea).1) (by rw [rl_single _ hFa]; exact gmax1 _ (nestF_le ea).1)
  obtain ⟨g1, g2, g3, g4⟩ := HG
  have hel : (⟨18 + modF op 26, 0⟩ :: ea : List Term).length = 1 + na := by
    have e1 := ha.1; have e2 := hb.1; have e3 := hc.1
    simp; omega
  have HC : Hid ((⟨18 + modF op 26, 0⟩ :: ea : List Term).flatMap termCells = [.int .i64 (18 + modF op 26), .int .i64 0] ++ ea.flatMap termCells) := by
    show _ = _
    simp [termCells]
  rw [hel] at g1 g4
  have hda1 := depthF_le ea; have hdb1 := depthF_le eb; have hdc1 := depthF_le ec
  have hna1 := nestF_le ea; have hnb1 := nestF_le eb; have hnc1 := nestF_le ec
  rw [ha.1] at hda1 hna1
  rw [hb.1] at hdb1 hnb1
  rw [hc.1] at hdc1 hnc1
  clear ha hb hc hFa hFb hFc h3a h3b h3c hel
  generalize (⟨18 + modF op 26, 0⟩ :: ea : List Term) = E at *
  generalize hOO : 18 + modF op 26 = O at *
  have HG4 := Lib.hid g4
  clear g4
  generalize hdA : depthF ea = dA at *
  generalize hdB : depthF eb = dB at *
  generalize hdC : depthF ec = dC at *
  generalize hnA : nestF ea = nA at *
  generalize hnB : nestF eb = nB at *
  generalize hnC : nestF ec = nC at *
  obtain ⟨hda1, hda2⟩ := hda1
  obtain ⟨hdb1, hdb2⟩ := hdb1
  obtain ⟨hdc1, hdc2⟩ := hdc1
  obtain ⟨hna1, hna2⟩ := hna1
  obtain ⟨hnb1, hnb2⟩ := hnb1
  obtain ⟨hnc1, hnc2⟩ := hnc1
  obtain ⟨i0, hi0, hz0, hz1, hz2⟩ := info_parts term_info
  have hb0 := Bel.refl w
  have HG1 := Lib.hid g1
  have HG2 := Lib.hid g2
  have HG3 := Lib.hid g3
  clear g1 g2 g3
  go_enter Try.func6, Try.ntmps6
  go_upto_region 12 with (first
    | (go_at_call 10; refine (light_any _ _ _ _).mono ?_; rintro e w' ⟨rfl, rfl⟩)
    | (go_at_call_of 22 Aa; refine (Calls.rel (w0 := w) (by assumption) (refValid_any _ _ _ ea _ _ (Ha.out _ (by assumption)) (by omega))).mono ?_; rintro e wn ⟨rfl, hbn⟩; rw [hva])
    | (go_at_call_of 22 Ab; refine (Calls.rel (w0 := w) (by assumption) (refValid_any _ _ _ eb _ _ (Hb.out _ (by assumption)) (by omega))).mono ?_; rintro e wn ⟨rfl, hbn⟩; rw [hvb])
    | (go_at_call_of 22 Ac; refine (Calls.rel (w0 := w) (by assumption) (refValid_any _ _ _ ec _ _ (Hc.out _ (by assumption)) (by omega))).mono ?_; rintro e wn ⟨rfl, hbn⟩; rw [hvc])
    | (go_at_call 23; refine (mod_any _ _ _ (by omega) (by omega)).mono ?_; rintro e w' ⟨rfl, rfl⟩)
    | (go_at_call 13; refine (refArity_any _ _).mono ?_; rintro e w' ⟨rfl, rfl⟩)
    | (at_builtin; go_must (refine wpList_extend _ rfl (.tmp 47) (.tmp 48) 22 rfl w.heap.size 31 i0 (.agg #[.int .i64 0, .int .i64 0]) 2 16 Try.underlying22 hi0 hz0 hz1 hz2 rfl (by decide) (some ⟨wn.heap.size, 0, none⟩) 1 1 ([.int .i64 O, .int .i64 0]) rfl (World.ownsRow_lit _ _ 1 hbn.size (by unfold maxLen; omega) rfl) Aa na ca (ea.flatMap termCells) rfl (Ha.out _ (hbn.alloc _)).cells (termCells_one _) (by unfold maxLen; omega) (by omega) (by have := hbn.size; simp; omega) ?_; intro A3 c3 w3 hown3 hgr3 _; have hb3 : Bel w w3 := (hbn.alloc _).push (World.ownsRow_lit (e := 31) (size := 2) _ _ 1 hbn.size (by unfold maxLen; omega) rfl) hgr3; have HO3 := Lib.hid (fun w' (k : Bel w3 w') => k.owns hown3); clear hown3 hgr3; have hbr3 := Bel.refl w3))
    | (go_at_call_of 18 Aa; refine (Calls.rel (w0 := w3) (by assumption) (depth_any _ _ _ ea _ (Ha.out _ (hb3.trans (by assumption))) (by omega))).mono ?_; rintro e wn ⟨rfl, hbn⟩; rw [hdA])
    | (go_at_call_of 20 Aa; refine (Calls.rel (w0 := w3) (by assumption) (nest_any _ _ _ ea _ (Ha.out _ (hb3.trans (by assumption))) (by omega))).mono ?_; rintro e wn ⟨rfl, hbn⟩; rw [hnA])
    | (go_at_call_of 18 Ab; refine (Calls.rel (w0 := w3) (by assumption) (depth_any _ _ _ eb _ (Hb.out _ (hb3.trans (by assumption))) (by omega))).mono ?_; rintro e wn ⟨rfl, hbn⟩; rw [hdB])
    | (go_at_call_of 20 Ab; refine (Calls.rel (w0 := w3) (by assumption) (nest_any _ _ _ eb _ (Hb.out _ (hb3.trans (by assumption))) (by omega))).mono ?_; rintro e wn ⟨rfl, hbn⟩; rw [hnB])
    | (go_at_call_of 18 Ac; refine (Calls.rel (w0 := w3) (by assumption) (depth_any _ _ _ ec _ (Hc.out _ (hb3.trans (by assumption))) (by omega))).mono ?_; rintro e wn ⟨rfl, hbn⟩; rw [hdC])
    | (go_at_call_of 20 Ac; refine (Calls.rel (w0 := w3) (by assumption) (nest_any _ _ _ ec _ (Hc.out _ (hb3.trans (by assumption))) (by omega))).mono ?_; rintro e wn ⟨rfl, hbn⟩; rw [hnC]))
  have HE := Lib.hid (fun w' (k : Bel w3 w') => show TermsR w' A3 (1 + na) E from own_terms (by rw [HC.out]; first | exact HO3.out w' k | (have := HO3.out w' k; simpa [List.append_assoc] using this)))
  have hlen6 : 1 + na ≤ 1000000 := by omega
  have hlen6' : 1 + na ≤ 751 := by omega
  cases hag : aggregate O with
  | true =>
    have hg3 : nestF E = nA + 1 := by rw [HG3.out, hag]; rfl
    have hg4 : validF E 6 = (decide ((1 + na : Nat) ≤ 200) && decide (dA < 24) && decide (nA + 1 ≤ 2)) := by rw [HG4.out, hag]; rfl
    have HV := Lib.hid hg4; clear hg4
    have hg1 := HG1.out
    have hg2 := HG2.out
    go_wp2_with (first
      | (go_at_call 25; refine (refAggregate_any _ _).mono ?_; rintro e w' ⟨rfl, rfl⟩; rw [hag])
      | (go_at_call 11; refine (Calls.rel (w0 := w3) (by assumption) (awake_any _)).mono ?_; rintro e wn ⟨rfl, hbn⟩)
      | (go_at_call 18; refine (Calls.rel (w0 := w3) (by assumption) (depth_any _ _ _ E _ (HE.out _ (by assumption)) hlen6)).mono ?_; rintro e wn ⟨rfl, hbn⟩)
      | (go_at_call 20; refine (Calls.rel (w0 := w3) (by assumption) (nest_any _ _ _ E _ (HE.out _ (by assumption)) hlen6)).mono ?_; rintro e wn ⟨rfl, hbn⟩)
      | (go_at_call 14; refine (end_any _ _ _ E _ _ (HE.out _ (by assumption)) hlen6).mono ?_; rintro e w' ⟨rfl, rfl⟩)
      | (go_at_call 24; refine (Calls.rel (w0 := w3) (by assumption) (valid_any _ _ _ E _ _ (HE.out _ (by assumption)) hlen6)).mono ?_; rintro e wn ⟨rfl, hbn⟩))
    all_goals
      go_ret
      refine ⟨ret_bool ?_, hb3.trans (by assumption)⟩
      rw [HV.out]
      by_cases c1 : 1 + na ≤ 200 <;> by_cases c2 : dA < 24 <;> by_cases c3 : nA + 1 ≤ 2 <;> first | omega | (simp [c1, c2, c3]; done) | (simp [c1, c2, c3]; omega)
  | false =>
    have hg3 : nestF E = nA := by rw [HG3.out, hag]; rfl
    have hg4 : validF E 6 = (decide ((1 + na : Nat) ≤ 200) && decide (dA < 24) && decide (nA ≤ 2)) := by rw [HG4.out, hag]; rfl
    have HV := Lib.hid hg4; clear hg4
    have hg1 := HG1.out
    have hg2 := HG2.out
    go_wp2_with (first
      | (go_at_call 25; refine (refAggregate_any _ _).mono ?_; rintro e w' ⟨rfl, rfl⟩; rw [hag])
      | (go_at_call 11; refine (Calls.rel (w0 := w3) (by assumption) (awake_any _)).mono ?_; rintro e wn ⟨rfl, hbn⟩)
      | (go_at_call 18; refine (Calls.rel (w0 := w3) (by assumption) (depth_any _ _ _ E _ (HE.out _ (by assumption)) hlen6)).mono ?_; rintro e wn ⟨rfl, hbn⟩)
      | (go_at_call 20; refine (Calls.rel (w0 := w3) (by assumption) (nest_any _ _ _ E _ (HE.out _ (by assumption)) hlen6)).mono ?_; rintro e wn ⟨rfl, hbn⟩)
      | (go_at_call 14; refine (end_any _ _ _ E _ _ (HE.out _ (by assumption)) hlen6).mono ?_; rintro e w' ⟨rfl, rfl⟩)
      | (go_at_call 24; refine (Calls.rel (w0 := w3) (by assumption) (valid_any _ _ _ E _ _ (HE.out _ (by assumption)) hlen6)).mono ?_; rintro e wn ⟨rfl, hbn⟩))
    all_goals
      go_ret
      refine ⟨ret_bool ?_, hb3.trans (by assumption)⟩
      rw [HV.out]
      by_cases c1 : 1 + na ≤ 200 <;> by_cases c2 : dA < 24 <;> by_cases c3 : nA ≤ 2 <;> first | omega | (simp [c1, c2, c3]; done) | (simp [c1, c2, c3]; omega)

set_option maxRecDepth 100000 in
set_option maxHeartbeats 2000000 in
theorem termGrows_2 (op : Int) (Aa Ab Ac : Option Addr) (na ca nb cb nc cc : Nat) (ea eb ec : List Term) (w : World) (ha : TermsR w Aa na ea) (hb : TermsR w Ab nb eb) (hc : TermsR w Ac nc ec)
    (hla : na ≤ 250) (hlb : nb ≤ 250) (hlc : nc ≤ 250) (hva : validF ea 6 = true) (hvb : validF eb 6 = true) (hvc : validF ec 6 = true) (har : arity (18 + modF op 26) = 2) :
    Calls Try.prog 6 #[.int .i64 op, .slice Aa na ca, .slice Ab nb cb, .slice Ac nc cc] w fun e w' => e = .returned (.bool true) ∧ Bel w w' := by
  have Ha := Lib.hid (fun w' (k : Bel w w') => ha.keep k)
  have Hb := Lib.hid (fun w' (k : Bel w w') => hb.keep k)
  have Hc := Lib.hid (fun w' (k : Bel w w') => hc.keep k)
  have hda : decide (na ≤ 250) = true := by simpa using hla
  have hdb : decide (nb ≤ 250) = true := by simpa using hlb
  have hdc : decide (nc ≤ 250) = true := by simpa using hlc
  have hm1 : 0 ≤ modF op 26 := Int.emod_nonneg _ (by omega)
  have hm2 : modF op 26 < 26 := Int.emod_lt_of_pos _ (by omega)
  have hO1 : 18 ≤ 18 + modF op 26 := by omega
  have hO2 : 18 + modF op 26 ≤ 43 := by omega
  obtain ⟨_, hFa, h3a, _, _⟩ := (validF_parts ea 6).1 hva
  obtain ⟨_, hFb, h3b, _, _⟩ := (validF_parts eb 6).1 hvb
  obtain ⟨_, hFc, h3c, _, _⟩ := (validF_parts ec 6).1 hvc
  have HG := grown_facts (18 + modF op 26) (ea ++ eb) hO1 hO2 (by rw [har]; exact (hFa.add hFb (by omega) (by omega))) (fun t ht => (List.mem_append.1 ht).elim (h3a t) (h3b t)) (max (depthF ea) (depthF eb)) (max (nestF ea) (nestF eb)) (by rw [rl_append _ _ _ 1 hFa, rl_single _ hFa, rl_single _ hFb]; exact gmax2 _ _ (depthF_le ea).1) (by rw [rl_append _ _ _ 1 hFa, rl_single _ hFa, rl_single _ hFb]; exact gmax2 _ _ (nestF_le ea).1)
  obtain ⟨g1, g2, g3, g4⟩ := HG
  have hel : (⟨18 + modF op 26, 0⟩ :: (ea ++ eb) : List Term).length = 1 + na + nb := by
    have e1 := ha.1; have e2 := hb.1; have e3 := hc.1
    simp; omega
  have HC : Hid ((⟨18 + modF op 26, 0⟩ :: (ea ++ eb) : List Term).flatMap termCells = [.int .i64 (18 + modF op 26), .int .i64 0] ++ ea.flatMap termCells ++ eb.flatMap termCells) := by
    show _ = _
    simp [termCells]
  rw [hel] at g1 g4
  have hda1 := depthF_le ea; have hdb1 := depthF_le eb; have hdc1 := depthF_le ec
  have hna1 := nestF_le ea; have hnb1 := nestF_le eb; have hnc1 := nestF_le ec
  rw [ha.1] at hda1 hna1
  rw [hb.1] at hdb1 hnb1
  rw [hc.1] at hdc1 hnc1
  clear ha hb hc hFa hFb hFc h3a h3b h3c hel
  generalize (⟨18 + modF op 26, 0⟩ :: (ea ++ eb) : List Term) = E at *
  generalize hOO : 18 + modF op 26 = O at *
  have HG4 := Lib.hid g4
  clear g4
  generalize hdA : depthF ea = dA at *
  generalize hdB : depthF eb = dB at *
  generalize hdC : depthF ec = dC at *
  generalize hnA : nestF ea = nA at *
  generalize hnB : nestF eb = nB at *
  generalize hnC : nestF ec = nC at *
  obtain ⟨hda1, hda2⟩ := hda1
  obtain ⟨hdb1, hdb2⟩ := hdb1
  obtain ⟨hdc1, hdc2⟩ := hdc1
  obtain ⟨hna1, hna2⟩ := hna1
  obtain ⟨hnb1, hnb2⟩ := hnb1
  obtain ⟨hnc1, hnc2⟩ := hnc1
  obtain ⟨i0, hi0, hz0, hz1, hz2⟩ := info_parts term_info
  have hb0 := Bel.refl w
  have HG1 := Lib.hid g1
  have HG2 := Lib.hid g2
  have HG3 := Lib.hid g3
  clear g1 g2 g3
  go_enter Try.func6, Try.ntmps6
  go_upto_region 7 with (first
    | (go_at_call 10; refine (light_any _ _ _ _).mono ?_; rintro e w' ⟨rfl, rfl⟩)
    | (go_at_call_of 22 Aa; refine (Calls.rel (w0 := w) (by assumption) (refValid_any _ _ _ ea _ _ (Ha.out _ (by assumption)) (by omega))).mono ?_; rintro e wn ⟨rfl, hbn⟩; rw [hva])
    | (go_at_call_of 22 Ab; refine (Calls.rel (w0 := w) (by assumption) (refValid_any _ _ _ eb _ _ (Hb.out _ (by assumption)) (by omega))).mono ?_; rintro e wn ⟨rfl, hbn⟩; rw [hvb])
    | (go_at_call_of 22 Ac; refine (Calls.rel (w0 := w) (by assumption) (refValid_any _ _ _ ec _ _ (Hc.out _ (by assumption)) (by omega))).mono ?_; rintro e wn ⟨rfl, hbn⟩; rw [hvc])
    | (go_at_call 23; refine (mod_any _ _ _ (by omega) (by omega)).mono ?_; rintro e w' ⟨rfl, rfl⟩)
    | (go_at_call 13; refine (refArity_any _ _).mono ?_; rintro e w' ⟨rfl, rfl⟩)
    | (at_builtin; go_must (refine wpList_extend _ rfl (.tmp 47) (.tmp 48) 22 rfl w.heap.size 31 i0 (.agg #[.int .i64 0, .int .i64 0]) 2 16 Try.underlying22 hi0 hz0 hz1 hz2 rfl (by decide) (some ⟨wn.heap.size, 0, none⟩) 1 1 ([.int .i64 O, .int .i64 0]) rfl (World.ownsRow_lit _ _ 1 hbn.size (by unfold maxLen; omega) rfl) Aa na ca (ea.flatMap termCells) rfl (Ha.out _ (hbn.alloc _)).cells (termCells_one _) (by unfold maxLen; omega) (by omega) (by have := hbn.size; simp; omega) ?_; intro A3 c3 w3 hown3 hgr3 _; have hb3 : Bel w w3 := (hbn.alloc _).push (World.ownsRow_lit (e := 31) (size := 2) _ _ 1 hbn.size (by unfold maxLen; omega) rfl) hgr3; have HO3 := Lib.hid (fun w' (k : Bel w3 w') => k.owns hown3); clear hown3 hgr3; have hbr3 := Bel.refl w3))
    | (go_at_call_of 18 Aa; refine (Calls.rel (w0 := w3) (by assumption) (depth_any _ _ _ ea _ (Ha.out _ (hb3.trans (by assumption))) (by omega))).mono ?_; rintro e wn ⟨rfl, hbn⟩; rw [hdA])
    | (go_at_call_of 20 Aa; refine (Calls.rel (w0 := w3) (by assumption) (nest_any _ _ _ ea _ (Ha.out _ (hb3.trans (by assumption))) (by omega))).mono ?_; rintro e wn ⟨rfl, hbn⟩; rw [hnA])
    | (go_at_call_of 18 Ab; refine (Calls.rel (w0 := w3) (by assumption) (depth_any _ _ _ eb _ (Hb.out _ (hb3.trans (by assumption))) (by omega))).mono ?_; rintro e wn ⟨rfl, hbn⟩; rw [hdB])
    | (go_at_call_of 20 Ab; refine (Calls.rel (w0 := w3) (by assumption) (nest_any _ _ _ eb _ (Hb.out _ (hb3.trans (by assumption))) (by omega))).mono ?_; rintro e wn ⟨rfl, hbn⟩; rw [hnB])
    | (go_at_call_of 18 Ac; refine (Calls.rel (w0 := w3) (by assumption) (depth_any _ _ _ ec _ (Hc.out _ (hb3.trans (by assumption))) (by omega))).mono ?_; rintro e wn ⟨rfl, hbn⟩; rw [hdC])
    | (go_at_call_of 20 Ac; refine (Calls.rel (w0 := w3) (by assumption) (nest_any _ _ _ ec _ (Hc.out _ (hb3.trans (by assumption))) (by omega))).mono ?_; rintro e wn ⟨rfl, hbn⟩; rw [hnC]))
  go_upto_region 8 with (first
    | (at_builtin; go_must (refine wpList_extend _ rfl (.tmp 57) (.tmp 58) 22 rfl w.heap.size 31 i0 (.agg #[.int .i64 0, .int .i64 0]) 2 16 Try.underlying22 hi0 hz0 hz1 hz2 rfl (by decide) A3 (1 + na) c3 ([.int .i64 O, .int .i64 0] ++ ea.flatMap termCells) rfl (HO3.out _ hbn) Ab nb cb (eb.flatMap termCells) rfl (Hb.out _ (hb3.trans hbn)).cells (termCells_one _) (by unfold maxLen; omega) (by omega) (by have := hb3.size; have := hbn.size; omega) ?_; intro A4 c4 w4 hown4 hgr4 _; have hb4 : Bel w w4 := (hb3.trans hbn).push (HO3.out _ hbn) hgr4; have HO4 := Lib.hid (fun w' (k : Bel w4 w') => k.owns hown4); clear hown4 hgr4; have hbr4 := Bel.refl w4)))
  go_cut [10, 11] (fun dv nv wc => dv = .int .i64 (max dA dB) ∧ nv = .int .i64 (max nA nB) ∧ Bel w4 wc)
  case first =>
    go_wp2_with (first
      | (go_at_call_of 18 Aa; refine (Calls.rel (w0 := w4) (by assumption) (depth_any _ _ _ ea _ (Ha.out _ (hb4.trans (by assumption))) (by omega))).mono ?_; rintro e wn ⟨rfl, hbn⟩; rw [hdA])
      | (go_at_call_of 20 Aa; refine (Calls.rel (w0 := w4) (by assumption) (nest_any _ _ _ ea _ (Ha.out _ (hb4.trans (by assumption))) (by omega))).mono ?_; rintro e wn ⟨rfl, hbn⟩; rw [hnA])
      | (go_at_call_of 18 Ab; refine (Calls.rel (w0 := w4) (by assumption) (depth_any _ _ _ eb _ (Hb.out _ (hb4.trans (by assumption))) (by omega))).mono ?_; rintro e wn ⟨rfl, hbn⟩; rw [hdB])
      | (go_at_call_of 20 Ab; refine (Calls.rel (w0 := w4) (by assumption) (nest_any _ _ _ eb _ (Hb.out _ (hb4.trans (by assumption))) (by omega))).mono ?_; rintro e wn ⟨rfl, hbn⟩; rw [hnB])
      | (go_at_call_of 18 Ac; refine (Calls.rel (w0 := w4) (by assumption) (depth_any _ _ _ ec _ (Hc.out _ (hb4.trans (by assumption))) (by omega))).mono ?_; rintro e wn ⟨rfl, hbn⟩; rw [hdC])
      | (go_at_call_of 20 Ac; refine (Calls.rel (w0 := w4) (by assumption) (nest_any _ _ _ ec _ (Hc.out _ (hb4.trans (by assumption))) (by omega))).mono ?_; rintro e wn ⟨rfl, hbn⟩; rw [hnC]))
    all_goals
      go_meet
      refine ⟨?_, ?_, by assumption⟩ <;> first | (rw [Int.max_eq_left (by omega)]; done) | (rw [Int.max_eq_right (by omega)]; done)
  case rest =>
  obtain ⟨rfl, rfl, hbc⟩ := hcut
  have hmd1 : 0 ≤ max dA dB := by omega
  have hmd2 : max dA dB ≤ 250 := by omega
  have hmn1 : 0 ≤ max nA nB := by omega
  have hmn2 : max nA nB ≤ 250 := by omega
  generalize max dA dB = dM at *
  generalize max nA nB = nM at *
  go_upto_region 12 with (first
    | (go_at_call 13; refine (refArity_any _ _).mono ?_; rintro e w' ⟨rfl, rfl⟩))
  have HE := Lib.hid (fun w' (k : Bel w4 w') => show TermsR w' A4 (1 + na + nb) E from own_terms (by rw [HC.out]; first | exact HO4.out w' k | (have := HO4.out w' k; simpa [List.append_assoc] using this)))
  have hlen6 : 1 + na + nb ≤ 1000000 := by omega
  have hlen6' : 1 + na + nb ≤ 751 := by omega
  cases hag : aggregate O with
  | true =>
    have hg3 : nestF E = nM + 1 := by rw [HG3.out, hag]; rfl
    have hg4 : validF E 6 = (decide ((1 + na + nb : Nat) ≤ 200) && decide (dM < 24) && decide (nM + 1 ≤ 2)) := by rw [HG4.out, hag]; rfl
    have HV := Lib.hid hg4; clear hg4
    have hg1 := HG1.out
    have hg2 := HG2.out
    go_wp2_with (first
      | (go_at_call 25; refine (refAggregate_any _ _).mono ?_; rintro e w' ⟨rfl, rfl⟩; rw [hag])
      | (go_at_call 11; refine (Calls.rel (w0 := w4) (by assumption) (awake_any _)).mono ?_; rintro e wn ⟨rfl, hbn⟩)
      | (go_at_call 18; refine (Calls.rel (w0 := w4) (by assumption) (depth_any _ _ _ E _ (HE.out _ (by assumption)) hlen6)).mono ?_; rintro e wn ⟨rfl, hbn⟩)
      | (go_at_call 20; refine (Calls.rel (w0 := w4) (by assumption) (nest_any _ _ _ E _ (HE.out _ (by assumption)) hlen6)).mono ?_; rintro e wn ⟨rfl, hbn⟩)
      | (go_at_call 14; refine (end_any _ _ _ E _ _ (HE.out _ (by assumption)) hlen6).mono ?_; rintro e w' ⟨rfl, rfl⟩)
      | (go_at_call 24; refine (Calls.rel (w0 := w4) (by assumption) (valid_any _ _ _ E _ _ (HE.out _ (by assumption)) hlen6)).mono ?_; rintro e wn ⟨rfl, hbn⟩))
    all_goals
      go_ret
      refine ⟨ret_bool ?_, hb4.trans (by assumption)⟩
      rw [HV.out]
      by_cases c1 : 1 + na + nb ≤ 200 <;> by_cases c2 : dM < 24 <;> by_cases c3 : nM + 1 ≤ 2 <;> first | omega | (simp [c1, c2, c3]; done) | (simp [c1, c2, c3]; omega)
  | false =>
    have hg3 : nestF E = nM := by rw [HG3.out, hag]; rfl
    have hg4 : validF E 6 = (decide ((1 + na + nb : Nat) ≤ 200) && decide (dM < 24) && decide (nM ≤ 2)) := by rw [HG4.out, hag]; rfl
    have HV := Lib.hid hg4; clear hg4
    have hg1 := HG1.out
    have hg2 := HG2.out
    go_wp2_with (first
      | (go_at_call 25; refine (refAggregate_any _ _).mono ?_; rintro e w' ⟨rfl, rfl⟩; rw [hag])
      | (go_at_call 11; refine (Calls.rel (w0 := w4) (by assumption) (awake_any _)).mono ?_; rintro e wn ⟨rfl, hbn⟩)
      | (go_at_call 18; refine (Calls.rel (w0 := w4) (by assumption) (depth_any _ _ _ E _ (HE.out _ (by assumption)) hlen6)).mono ?_; rintro e wn ⟨rfl, hbn⟩)
      | (go_at_call 20; refine (Calls.rel (w0 := w4) (by assumption) (nest_any _ _ _ E _ (HE.out _ (by assumption)) hlen6)).mono ?_; rintro e wn ⟨rfl, hbn⟩)
      | (go_at_call 14; refine (end_any _ _ _ E _ _ (HE.out _ (by assumption)) hlen6).mono ?_; rintro e w' ⟨rfl, rfl⟩)
      | (go_at_call 24; refine (Calls.rel (w0 := w4) (by assumption) (valid_any _ _ _ E _ _ (HE.out _ (by assumption)) hlen6)).mono ?_; rintro e wn ⟨rfl, hbn⟩))
    all_goals
      go_ret
      refine ⟨ret_bool ?_, hb4.trans (by assumption)⟩
      rw [HV.out]
      by_cases c1 : 1 + na + nb ≤ 200 <;> by_cases c2 : dM < 24 <;> by_cases c3 : nM ≤ 2 <;> first | omega | (simp [c1, c2, c3]; done) | (simp [c1, c2, c3]; omega)

set_option maxRecDepth 100000 in
set_option maxHeartbeats 2000000 in
theorem termGrows_3 (op : Int) (Aa Ab Ac : Option Addr) (na ca nb cb nc cc : Nat) (ea eb ec : List Term) (w : World) (ha : TermsR w Aa na ea) (hb : TermsR w Ab nb eb) (hc : TermsR w Ac nc ec)
    (hla : na ≤ 250) (hlb : nb ≤ 250) (hlc : nc ≤ 250) (hva : validF ea 6 = true) (hvb : validF eb 6 = true) (hvc : validF ec 6 = true) (har : arity (18 + modF op 26) = 3) :
    Calls Try.prog 6 #[.int .i64 op, .slice Aa na ca, .slice Ab nb cb, .slice Ac nc cc] w fun e w' => e = .returned (.bool true) ∧ Bel w w' := by
  have Ha := Lib.hid (fun w' (k : Bel w w') => ha.keep k)
  have Hb := Lib.hid (fun w' (k : Bel w w') => hb.keep k)
  have Hc := Lib.hid (fun w' (k : Bel w w') => hc.keep k)
  have hda : decide (na ≤ 250) = true := by simpa using hla
  have hdb : decide (nb ≤ 250) = true := by simpa using hlb
  have hdc : decide (nc ≤ 250) = true := by simpa using hlc
  have hm1 : 0 ≤ modF op 26 := Int.emod_nonneg _ (by omega)
  have hm2 : modF op 26 < 26 := Int.emod_lt_of_pos _ (by omega)
  have hO1 : 18 ≤ 18 + modF op 26 := by omega
  have hO2 : 18 + modF op 26 ≤ 43 := by omega
  obtain ⟨_, hFa, h3a, _, _⟩ := (validF_parts ea 6).1 hva
  obtain ⟨_, hFb, h3b, _, _⟩ := (validF_parts eb 6).1 hvb
  obtain ⟨_, hFc, h3c, _, _⟩ := (validF_parts ec 6).1 hvc
  have HG := grown_facts (18 + modF op 26) (ea ++ eb ++ ec) hO1 hO2 (by rw [har]; exact ((hFa.add hFb (by omega) (by omega)).add hFc (by omega) (by omega))) (fun t ht => (List.mem_append.1 ht).elim (fun h => (List.mem_append.1 h).elim (h3a t) (h3b t)) (h3c t)) (max (max (depthF ea) (depthF eb)) (depthF ec)) (max (max (nestF ea) (nestF eb)) (nestF ec)) (by rw [rl_append _ _ _ _ (hFa.add hFb (by omega) (by omega)), rl_append _ _ _ 1 hFa, rl_single _ hFa, rl_single _ hFb, rl_single _ hFc]; exact gmax3 _ _ _ (depthF_le ea).1) (by rw [rl_append _ _ _ _ (hFa.add hFb (by omega) (by omega)), rl_append _ _ _ 1 hFa, rl_single _ hFa, rl_single _ hFb, rl_single _ hFc]; exact gmax3 _ _ _ (nestF_le ea).1)
  obtain ⟨g1, g2, g3, g4⟩ := HG
  have hel : (⟨18 + modF op 26, 0⟩ :: (ea ++ eb ++ ec) : List Term).length = 1 + na + nb + nc := by
    have e1 := ha.1; have e2 := hb.1; have e3 := hc.1
    simp; omega
  have HC : Hid ((⟨18 + modF op 26, 0⟩ :: (ea ++ eb ++ ec) : List Term).flatMap termCells = [.int .i64 (18 + modF op 26), .int .i64 0] ++ ea.flatMap termCells ++ eb.flatMap termCells ++ ec.flatMap termCells) := by
    show _ = _
    simp [termCells]
  rw [hel] at g1 g4
  have hda1 := depthF_le ea; have hdb1 := depthF_le eb; have hdc1 := depthF_le ec
  have hna1 := nestF_le ea; have hnb1 := nestF_le eb; have hnc1 := nestF_le ec
  rw [ha.1] at hda1 hna1
  rw [hb.1] at hdb1 hnb1
  rw [hc.1] at hdc1 hnc1
  clear ha hb hc hFa hFb hFc h3a h3b h3c hel
  generalize (⟨18 + modF op 26, 0⟩ :: (ea ++ eb ++ ec) : List Term) = E at *
  generalize hOO : 18 + modF op 26 = O at *
  have HG4 := Lib.hid g4
  clear g4
  generalize hdA : depthF ea = dA at *
  generalize hdB : depthF eb = dB at *
  generalize hdC : depthF ec = dC at *
  generalize hnA : nestF ea = nA at *
  generalize hnB : nestF eb = nB at *
  generalize hnC : nestF ec = nC at *
  obtain ⟨hda1, hda2⟩ := hda1
  obtain ⟨hdb1, hdb2⟩ := hdb1
  obtain ⟨hdc1, hdc2⟩ := hdc1
  obtain ⟨hna1, hna2⟩ := hna1
  obtain ⟨hnb1, hnb2⟩ := hnb1
  obtain ⟨hnc1, hnc2⟩ := hnc1
  obtain ⟨i0, hi0, hz0, hz1, hz2⟩ := info_parts term_info
  have hb0 := Bel.refl w
  have HG1 := Lib.hid g1
  have HG2 := Lib.hid g2
  have HG3 := Lib.hid g3
  clear g1 g2 g3
  go_enter Try.func6, Try.ntmps6
  go_upto_region 7 with (first
    | (go_at_call 10; refine (light_any _ _ _ _).mono ?_; rintro e w' ⟨rfl, rfl⟩)
    | (go_at_call_of 22 Aa; refine (Calls.rel (w0 := w) (by assumption) (refValid_any _ _ _ ea _ _ (Ha.out _ (by assumption)) (by omega))).mono ?_; rintro e wn ⟨rfl, hbn⟩; rw [hva])
    | (go_at_call_of 22 Ab; refine (Calls.rel (w0 := w) (by assumption) (refValid_any _ _ _ eb _ _ (Hb.out _ (by assumption)) (by omega))).mono ?_; rintro e wn ⟨rfl, hbn⟩; rw [hvb])
    | (go_at_call_of 22 Ac; refine (Calls.rel (w0 := w) (by assumption) (refValid_any _ _ _ ec _ _ (Hc.out _ (by assumption)) (by omega))).mono ?_; rintro e wn ⟨rfl, hbn⟩; rw [hvc])
    | (go_at_call 23; refine (mod_any _ _ _ (by omega) (by omega)).mono ?_; rintro e w' ⟨rfl, rfl⟩)
    | (go_at_call 13; refine (refArity_any _ _).mono ?_; rintro e w' ⟨rfl, rfl⟩)
    | (at_builtin; go_must (refine wpList_extend _ rfl (.tmp 47) (.tmp 48) 22 rfl w.heap.size 31 i0 (.agg #[.int .i64 0, .int .i64 0]) 2 16 Try.underlying22 hi0 hz0 hz1 hz2 rfl (by decide) (some ⟨wn.heap.size, 0, none⟩) 1 1 ([.int .i64 O, .int .i64 0]) rfl (World.ownsRow_lit _ _ 1 hbn.size (by unfold maxLen; omega) rfl) Aa na ca (ea.flatMap termCells) rfl (Ha.out _ (hbn.alloc _)).cells (termCells_one _) (by unfold maxLen; omega) (by omega) (by have := hbn.size; simp; omega) ?_; intro A3 c3 w3 hown3 hgr3 _; have hb3 : Bel w w3 := (hbn.alloc _).push (World.ownsRow_lit (e := 31) (size := 2) _ _ 1 hbn.size (by unfold maxLen; omega) rfl) hgr3; have HO3 := Lib.hid (fun w' (k : Bel w3 w') => k.owns hown3); clear hown3 hgr3; have hbr3 := Bel.refl w3))
    | (go_at_call_of 18 Aa; refine (Calls.rel (w0 := w3) (by assumption) (depth_any _ _ _ ea _ (Ha.out _ (hb3.trans (by assumption))) (by omega))).mono ?_; rintro e wn ⟨rfl, hbn⟩; rw [hdA])
    | (go_at_call_of 20 Aa; refine (Calls.rel (w0 := w3) (by assumption) (nest_any _ _ _ ea _ (Ha.out _ (hb3.trans (by assumption))) (by omega))).mono ?_; rintro e wn ⟨rfl, hbn⟩; rw [hnA])
    | (go_at_call_of 18 Ab; refine (Calls.rel (w0 := w3) (by assumption) (depth_any _ _ _ eb _ (Hb.out _ (hb3.trans (by assumption))) (by omega))).mono ?_; rintro e wn ⟨rfl, hbn⟩; rw [hdB])
    | (go_at_call_of 20 Ab; refine (Calls.rel (w0 := w3) (by assumption) (nest_any _ _ _ eb _ (Hb.out _ (hb3.trans (by assumption))) (by omega))).mono ?_; rintro e wn ⟨rfl, hbn⟩; rw [hnB])
    | (go_at_call_of 18 Ac; refine (Calls.rel (w0 := w3) (by assumption) (depth_any _ _ _ ec _ (Hc.out _ (hb3.trans (by assumption))) (by omega))).mono ?_; rintro e wn ⟨rfl, hbn⟩; rw [hdC])
    | (go_at_call_of 20 Ac; refine (Calls.rel (w0 := w3) (by assumption) (nest_any _ _ _ ec _ (Hc.out _ (hb3.trans (by assumption))) (by omega))).mono ?_; rintro e wn ⟨rfl, hbn⟩; rw [hnC]))
  go_upto_region 8 with (first
    | (at_builtin; go_must (refine wpList_extend _ rfl (.tmp 57) (.tmp 58) 22 rfl w.heap.size 31 i0 (.agg #[.int .i64 0, .int .i64 0]) 2 16 Try.underlying22 hi0 hz0 hz1 hz2 rfl (by decide) A3 (1 + na) c3 ([.int .i64 O, .int .i64 0] ++ ea.flatMap termCells) rfl (HO3.out _ hbn) Ab nb cb (eb.flatMap termCells) rfl (Hb.out _ (hb3.trans hbn)).cells (termCells_one _) (by unfold maxLen; omega) (by omega) (by have := hb3.size; have := hbn.size; omega) ?_; intro A4 c4 w4 hown4 hgr4 _; have hb4 : Bel w w4 := (hb3.trans hbn).push (HO3.out _ hbn) hgr4; have HO4 := Lib.hid (fun w' (k : Bel w4 w') => k.owns hown4); clear hown4 hgr4; have hbr4 := Bel.refl w4)))
  go_cut [10, 11] (fun dv nv wc => dv = .int .i64 (max dA dB) ∧ nv = .int .i64 (max nA nB) ∧ Bel w4 wc)
  case first =>
    go_wp2_with (first
      | (go_at_call_of 18 Aa; refine (Calls.rel (w0 := w4) (by assumption) (depth_any _ _ _ ea _ (Ha.out _ (hb4.trans (by assumption))) (by omega))).mono ?_; rintro e wn ⟨rfl, hbn⟩; rw [hdA])
      | (go_at_call_of 20 Aa; refine (Calls.rel (w0 := w4) (by assumption) (nest_any _ _ _ ea _ (Ha.out _ (hb4.trans (by assumption))) (by omega))).mono ?_; rintro e wn ⟨rfl, hbn⟩; rw [hnA])
      | (go_at_call_of 18 Ab; refine (Calls.rel (w0 := w4) (by assumption) (depth_any _ _ _ eb _ (Hb.out _ (hb4.trans (by assumption))) (by omega))).mono ?_; rintro e wn ⟨rfl, hbn⟩; rw [hdB])
      | (go_at_call_of 20 Ab; refine (Calls.rel (w0 := w4) (by assumption) (nest_any _ _ _ eb _ (Hb.out _ (hb4.trans (by assumption))) (by omega))).mono ?_; rintro e wn ⟨rfl, hbn⟩; rw [hnB])
      | (go_at_call_of 18 Ac; refine (Calls.rel (w0 := w4) (by assumption) (depth_any _ _ _ ec _ (Hc.out _ (hb4.trans (by assumption))) (by omega))).mono ?_; rintro e wn ⟨rfl, hbn⟩; rw [hdC])
      | (go_at_call_of 20 Ac; refine (Calls.rel (w0 := w4) (by assumption) (nest_any _ _ _ ec _ (Hc.out _ (hb4.trans (by assumption))) (by omega))).mono ?_; rintro e wn ⟨rfl, hbn⟩; rw [hnC]))
    all_goals
      go_meet
      refine ⟨?_, ?_, by assumption⟩ <;> first | (rw [Int.max_eq_left (by omega)]; done) | (rw [Int.max_eq_right (by omega)]; done)
  case rest =>
  obtain ⟨rfl, rfl, hbc⟩ := hcut
  have hmd1 : 0 ≤ max dA dB := by omega
  have hmd2 : max dA dB ≤ 250 := by omega
  have hmn1 : 0 ≤ max nA nB := by omega
  have hmn2 : max nA nB ≤ 250 := by omega
  generalize max dA dB = dM at *
  generalize max nA nB = nM at *
  go_upto_region 11 with (first
    | (go_at_call 13; refine (refArity_any _ _).mono ?_; rintro e w' ⟨rfl, rfl⟩)
    | (at_builtin; go_must (refine wpList_extend _ rfl (.tmp 71) (.tmp 72) 22 rfl w.heap.size 31 i0 (.agg #[.int .i64 0, .int .i64 0]) 2 16 Try.underlying22 hi0 hz0 hz1 hz2 rfl (by decide) A4 (1 + na + nb) c4 ([.int .i64 O, .int .i64 0] ++ ea.flatMap termCells ++ eb.flatMap termCells) rfl (HO4.out _ hbc) Ac nc cc (ec.flatMap termCells) rfl (Hc.out _ (hb4.trans hbc)).cells (termCells_one _) (by unfold maxLen; omega) (by omega) (by have := hb4.size; have := hbc.size; omega) ?_; intro A5 c5 w5 hown5 hgr5 _; have hb5 : Bel w w5 := (hb4.trans hbc).push (HO4.out _ hbc) hgr5; have HO5 := Lib.hid (fun w' (k : Bel w5 w') => k.owns hown5); clear hown5 hgr5; have hbr5 := Bel.refl w5)))
  go_cut [10, 11] (fun dv nv wc => dv = .int .i64 (max dM dC) ∧ nv = .int .i64 (max nM nC) ∧ Bel w5 wc)
  case first =>
    go_wp2_with (first
      | (go_at_call_of 18 Aa; refine (Calls.rel (w0 := w5) (by assumption) (depth_any _ _ _ ea _ (Ha.out _ (hb5.trans (by assumption))) (by omega))).mono ?_; rintro e wn ⟨rfl, hbn⟩; rw [hdA])
      | (go_at_call_of 20 Aa; refine (Calls.rel (w0 := w5) (by assumption) (nest_any _ _ _ ea _ (Ha.out _ (hb5.trans (by assumption))) (by omega))).mono ?_; rintro e wn ⟨rfl, hbn⟩; rw [hnA])
      | (go_at_call_of 18 Ab; refine (Calls.rel (w0 := w5) (by assumption) (depth_any _ _ _ eb _ (Hb.out _ (hb5.trans (by assumption))) (by omega))).mono ?_; rintro e wn ⟨rfl, hbn⟩; rw [hdB])
      | (go_at_call_of 20 Ab; refine (Calls.rel (w0 := w5) (by assumption) (nest_any _ _ _ eb _ (Hb.out _ (hb5.trans (by assumption))) (by omega))).mono ?_; rintro e wn ⟨rfl, hbn⟩; rw [hnB])
      | (go_at_call_of 18 Ac; refine (Calls.rel (w0 := w5) (by assumption) (depth_any _ _ _ ec _ (Hc.out _ (hb5.trans (by assumption))) (by omega))).mono ?_; rintro e wn ⟨rfl, hbn⟩; rw [hdC])
      | (go_at_call_of 20 Ac; refine (Calls.rel (w0 := w5) (by assumption) (nest_any _ _ _ ec _ (Hc.out _ (hb5.trans (by assumption))) (by omega))).mono ?_; rintro e wn ⟨rfl, hbn⟩; rw [hnC]))
    all_goals
      go_meet
      refine ⟨?_, ?_, by assumption⟩ <;> first | (rw [Int.max_eq_left (by omega)]; done) | (rw [Int.max_eq_right (by omega)]; done)
  case rest =>
  rename_i wc2
  obtain ⟨rfl, rfl, hbc2⟩ := hcut
  have hld1 : 0 ≤ max dM dC := by omega
  have hld2 : max dM dC ≤ 250 := by omega
  have hln1 : 0 ≤ max nM nC := by omega
  have hln2 : max nM nC ≤ 250 := by omega
  generalize max dM dC = dL at *
  generalize max nM nC = nL at *
  have HE := Lib.hid (fun w' (k : Bel w5 w') => show TermsR w' A5 (1 + na + nb + nc) E from own_terms (by rw [HC.out]; first | exact HO5.out w' k | (have := HO5.out w' k; simpa [List.append_assoc] using this)))
  have hlen6 : 1 + na + nb + nc ≤ 1000000 := by omega
  have hlen6' : 1 + na + nb + nc ≤ 751 := by omega
  cases hag : aggregate O with
  | true =>
    have hg3 : nestF E = nL + 1 := by rw [HG3.out, hag]; rfl
    have hg4 : validF E 6 = (decide ((1 + na + nb + nc : Nat) ≤ 200) && decide (dL < 24) && decide (nL + 1 ≤ 2)) := by rw [HG4.out, hag]; rfl
    have HV := Lib.hid hg4; clear hg4
    have hg1 := HG1.out
    have hg2 := HG2.out
    go_wp2_with (first
      | (go_at_call 25; refine (refAggregate_any _ _).mono ?_; rintro e w' ⟨rfl, rfl⟩; rw [hag])
      | (go_at_call 11; refine (Calls.rel (w0 := w5) (by assumption) (awake_any _)).mono ?_; rintro e wn ⟨rfl, hbn⟩)
      | (go_at_call 18; refine (Calls.rel (w0 := w5) (by assumption) (depth_any _ _ _ E _ (HE.out _ (by assumption)) hlen6)).mono ?_; rintro e wn ⟨rfl, hbn⟩)
      | (go_at_call 20; refine (Calls.rel (w0 := w5) (by assumption) (nest_any _ _ _ E _ (HE.out _ (by assumption)) hlen6)).mono ?_; rintro e wn ⟨rfl, hbn⟩)
      | (go_at_call 14; refine (end_any _ _ _ E _ _ (HE.out _ (by assumption)) hlen6).mono ?_; rintro e w' ⟨rfl, rfl⟩)
      | (go_at_call 24; refine (Calls.rel (w0 := w5) (by assumption) (valid_any _ _ _ E _ _ (HE.out _ (by assumption)) hlen6)).mono ?_; rintro e wn ⟨rfl, hbn⟩))
    all_goals
      go_ret
      refine ⟨ret_bool ?_, hb5.trans (by assumption)⟩
      rw [HV.out]
      by_cases c1 : 1 + na + nb + nc ≤ 200 <;> by_cases c2 : dL < 24 <;> by_cases c3 : nL + 1 ≤ 2 <;> first | omega | (simp [c1, c2, c3]; done) | (simp [c1, c2, c3]; omega)
  | false =>
    have hg3 : nestF E = nL := by rw [HG3.out, hag]; rfl
    have hg4 : validF E 6 = (decide ((1 + na + nb + nc : Nat) ≤ 200) && decide (dL < 24) && decide (nL ≤ 2)) := by rw [HG4.out, hag]; rfl
    have HV := Lib.hid hg4; clear hg4
    have hg1 := HG1.out
    have hg2 := HG2.out
    go_wp2_with (first
      | (go_at_call 25; refine (refAggregate_any _ _).mono ?_; rintro e w' ⟨rfl, rfl⟩; rw [hag])
      | (go_at_call 11; refine (Calls.rel (w0 := w5) (by assumption) (awake_any _)).mono ?_; rintro e wn ⟨rfl, hbn⟩)
      | (go_at_call 18; refine (Calls.rel (w0 := w5) (by assumption) (depth_any _ _ _ E _ (HE.out _ (by assumption)) hlen6)).mono ?_; rintro e wn ⟨rfl, hbn⟩)
      | (go_at_call 20; refine (Calls.rel (w0 := w5) (by assumption) (nest_any _ _ _ E _ (HE.out _ (by assumption)) hlen6)).mono ?_; rintro e wn ⟨rfl, hbn⟩)
      | (go_at_call 14; refine (end_any _ _ _ E _ _ (HE.out _ (by assumption)) hlen6).mono ?_; rintro e w' ⟨rfl, rfl⟩)
      | (go_at_call 24; refine (Calls.rel (w0 := w5) (by assumption) (valid_any _ _ _ E _ _ (HE.out _ (by assumption)) hlen6)).mono ?_; rintro e wn ⟨rfl, hbn⟩))
    all_goals
      go_ret
      refine ⟨ret_bool ?_, hb5.trans (by assumption)⟩
      rw [HV.out]
      by_cases c1 : 1 + na + nb + nc ≤ 200 <;> by_cases c2 : dL < 24 <;> by_cases c3 : nL ≤ 2 <;> first | omega | (simp [c1, c2, c3]; done) | (simp [c1, c2, c3]; omega)

set_option maxRecDepth 100000 in
set_option maxHeartbeats 2000000 in
theorem termGrows_walk (op : Int) (Aa : Option Addr) (na ca : Nat) (ea : List Term) (Ab : Option Addr) (nb cb : Nat) (eb : List Term) (Ac : Option Addr) (nc cc : Nat) (ec : List Term) (w : World) (_ : InI64 op)
    (ha : TermsR w Aa na ea) (_ : ∀ t ∈ ea, GoodT t) (_ : na ≤ ca) (_ : ca ≤ maxLen) (hb : TermsR w Ab nb eb) (_ : ∀ t ∈ eb, GoodT t) (_ : nb ≤ cb) (_ : cb ≤ maxLen) (hc : TermsR w Ac nc ec) (_ : ∀ t ∈ ec, GoodT t) (_ : nc ≤ cc) (_ : cc ≤ maxLen) :
    Calls Try.prog 6 #[.int .i64 op, .slice Aa na ca, .slice Ab nb cb, .slice Ac nc cc] w fun e w' => e = .returned (.bool true) ∧ Bel w w' := by
  by_cases hall : (na ≤ 250 ∧ nb ≤ 250 ∧ nc ≤ 250) ∧ validF ea 6 = true ∧ validF eb 6 = true ∧ validF ec 6 = true
  · obtain ⟨⟨h1, h2, h3⟩, h4, h5, h6⟩ := hall
    have hm1 : 0 ≤ modF op 26 := Int.emod_nonneg _ (by omega)
    have hm2 : modF op 26 < 26 := Int.emod_lt_of_pos _ (by omega)
    have har : arity (18 + modF op 26) = 1 ∨ arity (18 + modF op 26) = 2 ∨ arity (18 + modF op 26) = 3 := by unfold arity; repeat' split <;> omega
    rcases har with h | h | h
    · exact termGrows_1 op Aa Ab Ac na ca nb cb nc cc ea eb ec w ha hb hc h1 h2 h3 h4 h5 h6 h
    · exact termGrows_2 op Aa Ab Ac na ca nb cb nc cc ea eb ec w ha hb hc h1 h2 h3 h4 h5 h6 h
    · exact termGrows_3 op Aa Ab Ac na ca nb cb nc cc ea eb ec w ha hb hc h1 h2 h3 h4 h5 h6 h
  · have HN := Lib.hid hall
    clear hall
    have Ha := Lib.hid (fun w' (k : Bel w w') => ha.keep k)
    have Hb := Lib.hid (fun w' (k : Bel w w') => hb.keep k)
    have Hc := Lib.hid (fun w' (k : Bel w w') => hc.keep k)
    clear ha hb hc
    have hb0 := Bel.refl w
    generalize hva : validF ea 6 = va at *
    generalize hvb : validF eb 6 = vb at *
    generalize hvc : validF ec 6 = vc at *
    by_cases h1 : na ≤ 250
    case neg =>
      have hd : decide (na ≤ 250) = false := by simpa using h1
      go_enter Try.func6, Try.ntmps6
      go_wp2_with (first
        | (go_at_call 10; refine (light_any _ _ _ _).mono ?_; rintro e w' ⟨rfl, rfl⟩)
        | (go_at_call 11; refine (awake_any _).mono ?_; rintro e wn ⟨rfl, hbn⟩))
      go_ret
      exact ⟨rfl, hbn⟩
    have hd1 : decide (na ≤ 250) = true := by simpa using h1
    by_cases h2 : nb ≤ 250
    case neg =>
      have hd : decide (nb ≤ 250) = false := by simpa using h2
      go_enter Try.func6, Try.ntmps6
      go_wp2_with (first
        | (go_at_call 10; refine (light_any _ _ _ _).mono ?_; rintro e w' ⟨rfl, rfl⟩)
        | (go_at_call 11; refine (awake_any _).mono ?_; rintro e wn ⟨rfl, hbn⟩))
      go_ret
      exact ⟨rfl, hbn⟩
    have hd2 : decide (nb ≤ 250) = true := by simpa using h2
    by_cases h3 : nc ≤ 250
    case neg =>
      have hd : decide (nc ≤ 250) = false := by simpa using h3
      go_enter Try.func6, Try.ntmps6
      go_wp2_with (first
        | (go_at_call 10; refine (light_any _ _ _ _).mono ?_; rintro e w' ⟨rfl, rfl⟩)
        | (go_at_call 11; refine (awake_any _).mono ?_; rintro e wn ⟨rfl, hbn⟩))
      go_ret
      exact ⟨rfl, hbn⟩
    have hd3 : decide (nc ≤ 250) = true := by simpa using h3
    have HVA := Lib.hid hva; clear hva
    have HVB := Lib.hid hvb; clear hvb
    have HVC := Lib.hid hvc; clear hvc
    cases va
    case false =>
      go_enter Try.func6, Try.ntmps6
      go_wp2_with (first
        | (go_at_call 10; refine (light_any _ _ _ _).mono ?_; rintro e w' ⟨rfl, rfl⟩)
        | (go_at_call_of 22 Aa; refine (Calls.rel (w0 := w) (by assumption) (refValid_any _ _ _ ea _ _ (Ha.out _ (by assumption)) (by omega))).mono ?_; rintro e wn ⟨rfl, hbn⟩; rw [HVA.out])
        | (go_at_call 11; refine (Calls.rel (w0 := w) (by assumption) (awake_any _)).mono ?_; rintro e wn ⟨rfl, hbn⟩))
      go_ret
      exact ⟨rfl, by assumption⟩
    cases vb
    case false =>
      go_enter Try.func6, Try.ntmps6
      go_wp2_with (first
        | (go_at_call 10; refine (light_any _ _ _ _).mono ?_; rintro e w' ⟨rfl, rfl⟩)
        | (go_at_call_of 22 Aa; refine (Calls.rel (w0 := w) (by assumption) (refValid_any _ _ _ ea _ _ (Ha.out _ (by assumption)) (by omega))).mono ?_; rintro e wn ⟨rfl, hbn⟩; rw [HVA.out])
        | (go_at_call_of 22 Ab; refine (Calls.rel (w0 := w) (by assumption) (refValid_any _ _ _ eb _ _ (Hb.out _ (by assumption)) (by omega))).mono ?_; rintro e wn ⟨rfl, hbn⟩; rw [HVB.out])
        | (go_at_call 11; refine (Calls.rel (w0 := w) (by assumption) (awake_any _)).mono ?_; rintro e wn ⟨rfl, hbn⟩))
      go_ret
      exact ⟨rfl, by assumption⟩
    cases vc
    case false =>
      go_enter Try.func6, Try.ntmps6
      go_wp2_with (first
        | (go_at_call 10; refine (light_any _ _ _ _).mono ?_; rintro e w' ⟨rfl, rfl⟩)
        | (go_at_call_of 22 Aa; refine (Calls.rel (w0 := w) (by assumption) (refValid_any _ _ _ ea _ _ (Ha.out _ (by assumption)) (by omega))).mono ?_; rintro e wn ⟨rfl, hbn⟩; rw [HVA.out])
        | (go_at_call_of 22 Ab; refine (Calls.rel (w0 := w) (by assumption) (refValid_any _ _ _ eb _ _ (Hb.out _ (by assumption)) (by omega))).mono ?_; rintro e wn ⟨rfl, hbn⟩; rw [HVB.out])
        | (go_at_call_of 22 Ac; refine (Calls.rel (w0 := w) (by assumption) (refValid_any _ _ _ ec _ _ (Hc.out _ (by assumption)) (by omega))).mono ?_; rintro e wn ⟨rfl, hbn⟩; rw [HVC.out])
        | (go_at_call 11; refine (Calls.rel (w0 := w) (by assumption) (awake_any _)).mono ?_; rintro e wn ⟨rfl, hbn⟩))
      go_ret
      exact ⟨rfl, by assumption⟩
    exact absurd ⟨⟨h1, h2, h3⟩, rfl, rfl, rfl⟩ HN.out

end Go.Proofs.Ytglhfdoahmmoeaa
