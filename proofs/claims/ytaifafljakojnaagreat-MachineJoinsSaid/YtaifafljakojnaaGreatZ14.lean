/- Merged of: WMb W11d PE WEa (see NOTES.md). -/
import Derived.Test.YtaifafljakojnaaGreatZ13
import Derived.Test.YtaifafljakojnaaGreatZ12
set_option linter.unusedSimpArgs false
set_option linter.unnecessarySimpa false
set_option linter.unusedVariables false

/- Contracts: the reference's Check and Valid of configurations. -/
namespace Go.Proofs.YtaifafljakojnaaGreat
open Go.RowKit

theorem tableF_length (p : Prg) (g : Graph) : (tableF p g).length = g.ids.length := by simp [tableF]
theorem tableF_at {p : Prg} {g : Graph} {v : Nat} (h : v < (tableF p g).length) : (tableF p g)[v] = rowF p g v := by simp [tableF]
theorem rowF_length (p : Prg) (g : Graph) (v : Nat) : (rowF p g v).length = p.vars.length := by simp [rowF]
theorem rowF_at {p : Prg} {g : Graph} {v i : Nat} (h : i < (rowF p g v).length) : (rowF p g v)[i] = boundsF (p.vars[i]'(by rw [rowF_length] at h; exact h)) g v := by simp [rowF]

set_option maxRecDepth 100000 in
set_option maxHeartbeats 4000000 in
theorem refMemCheck_any (v : Value) (p : Prg) (v2 : Value) (g : Graph) (v3 : Value) (c : Config) (w : World) (h : PrgV w v p) (h2 : GraphV w v2 g) (h3 : ConfV w v3 c) (hL : lightP p = true) (hG : lightG g = true) (hC : lightC c = true) :
    Calls Tryz.prog 30 #[v, v2, v3] w fun e w' => e = .returned (.int .i64 (memF p g c)) ∧ Bel w w' := by
  have HPV := Lib.hid (fun w' (k : Bel w w') => h.keep k)
  have HGV := Lib.hid (fun w' (k : Bel w w') => h2.keep k)
  obtain ⟨A, k, A2, k2, rfl, _, _, _, _, _, _⟩ := h
  obtain ⟨A3, k3, A4, k4, rfl, _, _, _, _, _, _⟩ := h2
  obtain ⟨A5, k5, rfl, hCR, _, _⟩ := h3
  have HCR := Lib.hid (fun w' (k : Bel w w') => RowsR.keep hCR k); clear hCR
  have HL := Lib.hid hL
  have HGL := Lib.hid hG
  obtain ⟨l1, l2⟩ := lightC_parts hC
  have HL2 := Lib.hid l2
  clear hL hG hC l2
  have HW := Bel.refl ((w.alloc (.cells #[.string p.name, .slice A p.vars.length k, .slice A2 p.rules.length k2] 26)).alloc (.cells #[.slice A3 g.ids.length k3, .slice A4 g.ports.length k4] 30))
  by_cases hf : fitsF p g = 0
  · obtain ⟨f1, f2, _⟩ := fits_zero hf
    have HF1 := Lib.hid (check_numbers f1)
    have HF2 := Lib.hid f2
    have HFZ := Lib.hid hf
    have HM : Hid (memF p g c = if confB (tableF p g) c = false then 10 else 0) := by show memF p g c = _; unfold memF; rw [if_neg (by simpa using hf)]
    have HTL : Hid ((tableF p g).length = g.ports.length) := by show (tableF p g).length = _; rw [tableF_length, f2.ids]
    clear hf f1 f2
    have hv6 := HF1.out.2.2.1
    by_cases hn : c.length = g.ports.length
    · have hb : (c.length != c.length) = false := by simp
      have HN := Lib.hid hn
      rw [← hn] at HGV HW ⊢
      clear hn
      go_enter Tryz.func30, Tryz.ntmps30
      go_wp2_with (go_at_call 64; refine (refFits_any _ p _ g _ (HPV.out _ (box2_bel HW)) (HGV.out _ (box2_bel HW)) HL.out HGL.out).mono ?_; rintro e w' ⟨rfl, hb⟩; rw [HFZ.out]; replace HW := HW.trans hb; clear hb; obtain ⟨p0, p1, p2, g0, g1, gsz⟩ := pgbox HW)
      clear hb p0 p1 p2 g0 g1 gsz
      go_loopg [8, 9, 10, 11] c.length (fun m z _y _x _u wr => ∃ j : Nat, j ≤ c.length ∧ m = c.length - j ∧ z = .int .i64 j ∧ Hid (∀ i, i < j → (h1 : i < c.length) → stateB (rowF p g i) c[i] = true) ∧ Bel ((w.alloc (.cells #[.string p.name, .slice A p.vars.length k, .slice A2 p.rules.length k2] 26)).alloc (.cells #[.slice A3 g.ids.length k3, .slice A4 c.length k4] 30)) wr)
      case atStart => exact ⟨0, by omega, rfl, rfl, fun i hi => absurd hi (by omega), HW⟩
      case round =>
        clear HW
        obtain ⟨v, hv, rfl, rfl, HJ, HW⟩ := hrel
        obtain ⟨p0, p1, p2, g0, g1, gsz⟩ := pgbox HW
        by_cases hlt : v < c.length
        · have hd0 : decide (v < c.length) = true := by simpa using hlt
          have hvp : v < g.ports.length := by rw [← HN.out]; exact hlt
          obtain ⟨b, o, R, rc, rfl, hb, hc, hI, _, _⟩ := (HCR.out _ (box2_bel HW)).at_ v hlt
          have hrl := HL2.out _ (List.getElem_mem hlt)
          by_cases hnl : c[v].length = p.vars.length
          · have hb1 : (c[v].length != p.vars.length) = false := by simpa using hnl
            have hb2 : ((c[v].length : Int) != (p.vars.length : Int)) = false := by simp; omega
            have HNL := Lib.hid hnl
            clear hnl
            go_wp2_with fail
            go_quiet (fail)
            go_wp2_with fail
            clear hb1 hb2 p0 p1 p2 g0 g1 gsz hd0 hb hc hI
            go_loopg [9, 10, 11] c[v].length (fun m z _y _x ws => ∃ j : Nat, j ≤ c[v].length ∧ m = c[v].length - j ∧ z = .int .i64 j ∧ Hid (∀ i, i < j → (h1 : i < c[v].length) → (h2 : i < (rowF p g v).length) → (rowF p g v)[i].1 ≤ c[v][i] ∧ c[v][i] ≤ (rowF p g v)[i].2) ∧ Bel ((w.alloc (.cells #[.string p.name, .slice A p.vars.length k, .slice A2 p.rules.length k2] 26)).alloc (.cells #[.slice A3 g.ids.length k3, .slice A4 c.length k4] 30)) ws)
            case atStart => exact ⟨0, by omega, rfl, rfl, fun i hi => absurd hi (by omega), HW.drewN _⟩
            case round =>
              clear HW
              obtain ⟨j, hj, rfl, rfl, HQ, HW⟩ := hrel
              obtain ⟨p0, p1, p2, g0, g1, gsz⟩ := pgbox HW
              obtain ⟨b', o', R', rc', e', hb, hc, hI, _, _⟩ := (HCR.out _ (box2_bel HW)).at_ v hlt
              obtain ⟨rfl, rfl⟩ : b = b' ∧ o = o' := by simpa using e'
              clear e'
              by_cases hlt2 : j < c[v].length
              · have hd0 : decide (j < c[v].length) = true := by simpa using hlt2
                have hjv : j < p.vars.length := by rw [← HNL.out]; exact hlt2
                have hjr : j < (rowF p g v).length := by rw [rowF_length]; exact hjv
                have HRE := Lib.hid (rowF_at hjr)
                have HNX := Lib.hid (List.all_eq_true.1 HF1.out.1 _ (List.getElem_mem hjv))
                have hdv : decide (v < c.length) = true := by simpa using hlt
                go_wp2_with fail
                refine (ends_any _ p _ g v j _ (HPV.out _ (box2_bel HW)) (HGV.out _ (box2_bel HW)) hjv HNX.out HF2.out hvp HGL.out).mono ?_
                rintro e w' ⟨rfl, hbe⟩
                rw [← HRE.out]
                replace HW := HW.trans hbe
                clear hbe p0 p1 p2 g0 g1 gsz hb hc hI
                obtain ⟨p0, p1, p2, g0, g1, gsz⟩ := pgbox HW
                obtain ⟨b', o', R2, rc2, e', hb, hc, hI, _, _⟩ := (HCR.out _ (box2_bel HW)).at_ v hlt
                obtain ⟨rfl, rfl⟩ : b = b' ∧ o = o' := by simpa using e'
                clear e'
                obtain ⟨b3, o3, rfl, hb3, hc3⟩ := hI.at_ j hlt2
                by_cases hin : (rowF p g v)[j].1 ≤ c[v][j] ∧ c[v][j] ≤ (rowF p g v)[j].2
                · have d1 : inB c[v][j] (rowF p g v)[j].1 (rowF p g v)[j].2 = true := inB_true hin.1 hin.2
                  have HIN := Lib.hid hin; clear hin
                  go_wp2_with (go_at_call 31; refine (in01_any _ _ _ _).mono ?_; rintro e w' ⟨rfl, rfl⟩)
                  go_roundg (c[v].length - (j + 1))
                  case rel =>
                    refine ⟨j + 1, by omega, rfl, by go_num, ?_, HW⟩
                    intro i hi a1 a2
                    rcases Nat.lt_or_ge i j with h | h
                    · exact HQ.out i h a1 a2
                    · obtain rfl : i = j := by omega
                      exact HIN.out
                  case measure => omega
                · have d1 : inB c[v][j] (rowF p g v)[j].1 (rowF p g v)[j].2 = false := inB_false (by omega)
                  have HCF : Hid (confB (tableF p g) c = false) := confB_false fun hh => by
                    have h3 := hh.2 v hlt (by rw [HTL.out]; exact hvp)
                    rw [tableF_at] at h3
                    exact hin ((stateB_iff.1 h3).2 j hlt2 hjr)
                  rw [HCF.out, if_pos rfl] at HM
                  clear hin
                  go_wp2_with (go_at_call 31; refine (in01_any _ _ _ _).mono ?_; rintro e w' ⟨rfl, rfl⟩)
                  go_ret
                  exact ⟨ret_int HM.out.symm, box2_bel HW⟩
              · have hd0 : decide (j < c[v].length) = false := by simpa using hlt2
                have hdv : decide (v < c.length) = true := by simpa using hlt
                go_wp2_with fail
                go_roundg (c.length - (v + 1))
                case rel =>
                  refine ⟨v + 1, by omega, rfl, by go_num, ?_, HW⟩
                  intro i hi a1
                  rcases Nat.lt_or_ge i v with h | h
                  · exact HJ.out i h a1
                  · obtain rfl : i = v := by omega
                    rw [stateB_iff]
                    exact ⟨by rw [rowF_length, HNL.out], fun q b1 b2 => HQ.out q (by omega) b1 b2⟩
                case measure => omega
          · obtain ⟨n1, n2⟩ := nat_bne hnl
            have HCF : Hid (confB (tableF p g) c = false) := confB_false fun hh => by
              have h3 := hh.2 v hlt (by rw [HTL.out]; exact hvp)
              rw [tableF_at] at h3
              have := (stateB_iff.1 h3).1
              rw [rowF_length] at this
              exact hnl this
            rw [HCF.out, if_pos rfl] at HM
            clear hnl
            go_wp2_with fail
            go_quiet (fail)
            go_wp2_with fail
            go_ret
            exact ⟨ret_int HM.out.symm, (box2_bel HW).drewN _⟩
        · have hd0 : decide (v < c.length) = false := by simpa using hlt
          have HCF : Hid (confB (tableF p g) c = true) := by
            show confB (tableF p g) c = true
            rw [confB_iff]
            refine ⟨by rw [HTL.out, HN.out], fun i a1 a2 => ?_⟩
            rw [tableF_at]
            exact HJ.out i (by omega) a1
          rw [HCF.out, if_neg (by decide)] at HM
          go_wp2_with fail
          go_ret
          exact ⟨ret_int HM.out.symm, box2_bel HW⟩
    · obtain ⟨n1, n2⟩ := nat_bne hn
      have HCF : Hid (confB (tableF p g) c = false) := confB_false fun hh => hn (by rw [hh.1, HTL.out])
      rw [HCF.out, if_pos rfl] at HM
      clear hn
      go_enter Tryz.func30, Tryz.ntmps30
      go_wp2_with (go_at_call 64; refine (refFits_any _ p _ g _ (HPV.out _ (box2_bel HW)) (HGV.out _ (box2_bel HW)) HL.out HGL.out).mono ?_; rintro e w' ⟨rfl, hb⟩; rw [HFZ.out]; replace HW := HW.trans hb; clear hb; obtain ⟨p0, p1, p2, g0, g1, gsz⟩ := pgbox HW)
      go_ret
      exact ⟨ret_int HM.out.symm, box2_bel HW⟩
  · have HM : Hid (memF p g c = fitsF p g) := by show memF p g c = _; unfold memF; rw [if_pos hf]
    have hfb : (fitsF p g != 0) = true := by simpa using hf
    go_enter Tryz.func30, Tryz.ntmps30
    go_wp2_with (go_at_call 64; refine (refFits_any _ p _ g _ (HPV.out _ (box2_bel HW)) (HGV.out _ (box2_bel HW)) HL.out HGL.out).mono ?_; rintro e w' ⟨rfl, hb⟩; replace HW := HW.trans hb; clear hb)
    go_ret
    exact ⟨ret_int HM.out.symm, box2_bel HW⟩

theorem refMemValid_any (v : Value) (p : Prg) (v2 : Value) (g : Graph) (v3 : Value) (c : Config) (w : World) (h : PrgV w v p) (h2 : GraphV w v2 g) (h3 : ConfV w v3 c) (hL : lightP p = true) (hG : lightG g = true) (hC : lightC c = true) :
    Calls Tryz.prog 12 #[v, v2, v3] w fun e w' => e = .returned (.bool (decide (memF p g c = 0))) ∧ Bel w w' := by
  have HPV := Lib.hid (fun w' (k : Bel w w') => h.keep k)
  have HGV := Lib.hid (fun w' (k : Bel w w') => h2.keep k)
  have HCV := Lib.hid (fun w' (k : Bel w w') => h3.keep k)
  obtain ⟨A, k, A2, k2, rfl, _, _, _, _, _, _⟩ := h
  obtain ⟨A3, k3, A4, k4, rfl, _, _, _, _, _, _⟩ := h2
  obtain ⟨A5, k5, rfl, _, _, _⟩ := h3
  have HW := Bel.refl ((w.alloc (.cells #[.string p.name, .slice A p.vars.length k, .slice A2 p.rules.length k2] 26)).alloc (.cells #[.slice A3 g.ids.length k3, .slice A4 g.ports.length k4] 30))
  go_enter Tryz.func12, Tryz.ntmps12
  go_wp2_with (go_at_call 30; refine (refMemCheck_any _ p _ g _ c _ (HPV.out _ (box2_bel HW)) (HGV.out _ (box2_bel HW)) (HCV.out _ (box2_bel HW)) hL hG hC).mono ?_; rintro e w' ⟨rfl, hb⟩; replace HW := HW.trans hb; clear hb)
  go_ret
  exact ⟨ret_bool (by rw [Bool.eq_iff_iff]; simp), box2_bel HW⟩

end Go.Proofs.YtaifafljakojnaaGreat

/- Contracts of the reference's fold, and of Fold of both. -/
namespace Go.Proofs.YtaifafljakojnaaGreat
open Go.RowKit

/-- What the reference's loop has gathered, and what is still to come. -/
structure Gathered (l : List Int) (k : Nat) (yes first least great second sum : Int) : Prop where
  yes : yes + countF (l.drop k) = countF l
  first : (first < 0 → first = -1 ∧ firstGo (l.drop k) k = firstGo l 0) ∧ (0 ≤ first → first = firstGo l 0)
  least : (l.drop k).foldl min least = minF l
  two : twoGo (l.drop k) great second = twoF l
  ord : second ≤ great
  sum : (l.drop k).foldl (· + ·) sum = sumF l

theorem gathered_zero (l : List Int) : Gathered l 0 0 (-1) 1073741824 (-1073741824) (-1073741824) 0 :=
  ⟨by simp, ⟨fun _ => ⟨rfl, rfl⟩, fun h => by omega⟩, rfl, rfl, by omega, rfl⟩

theorem gathered_succ {l : List Int} {k : Nat} {yes first least great second sum : Int} (h : Gathered l k yes first least great second sum) (hk : k < l.length) :
    Gathered l (k + 1) (if l[k] = 0 then yes else yes + 1) (if l[k] ≠ 0 ∧ first < 0 then (k : Int) else first) (min least l[k]) (max great l[k]) (max second (min great l[k])) (sum + l[k]) := by
  have hd := List.drop_eq_getElem_cons hk
  obtain ⟨h1, ⟨h2a, h2b⟩, h3, h4, h5, h6⟩ := h
  rw [hd] at h1 h3 h4 h6
  rw [countF_cons] at h1
  refine ⟨?_, ?_, ?_, ?_, ?_, ?_⟩
  · split <;> simp_all <;> omega
  · constructor
    · intro hf
      split at hf
      · omega
      · rename_i hc
        rw [if_neg hc]
        obtain ⟨e1, e2⟩ := h2a hf
        refine ⟨e1, ?_⟩
        rw [hd] at e2
        simp only [firstGo] at e2
        rw [if_neg (by intro h0; exact hc ⟨h0, hf⟩)] at e2
        exact e2
    · intro hf
      split
      · rename_i hc
        obtain ⟨e1, e2⟩ := h2a hc.2
        rw [hd] at e2
        simp only [firstGo] at e2
        rw [if_pos hc.1] at e2
        exact e2
      · rename_i hc
        rw [if_neg hc] at hf
        exact h2b hf
  · rw [List.foldl_cons] at h3; exact h3
  · simp only [twoGo] at h4
    by_cases hg : great < l[k]
    · rw [if_pos hg] at h4
      rw [show max great l[k] = l[k] by omega, show max second (min great l[k]) = great by omega]
      exact h4
    · rw [if_neg hg] at h4
      rw [show max great l[k] = great by omega, show max second (min great l[k]) = max second l[k] by omega]
      exact h4
  · omega
  · rw [List.foldl_cons] at h6; exact h6

set_option maxRecDepth 100000 in
set_option maxHeartbeats 1000000 in
theorem refFold_any (A : Option Addr) (n c : Nat) (l : List Int) (op : Int) (w : World) (h : IntsR w A n l) (hl : n ≤ 1000) (h1 : 20 ≤ op) (h2 : op ≤ 29) (hn : ∀ x ∈ l, Num x) :
    Calls Tryz.prog 120 #[.int .i64 op, .slice A n c] w fun e w' => e = .returned (.int .i64 (foldF op l)) ∧ w = w' := by
  obtain rfl := h.1
  have H := Lib.hid h; clear h
  have HN := Lib.hid hn; clear hn
  have HC : Hid (op = 20 ∨ op = 21 ∨ op = 22 ∨ op = 23 ∨ op = 24 ∨ op = 25 ∨ op = 26 ∨ op = 27 ∨ op = 28 ∨ op = 29) := by show _ ∨ _; omega
  clear h1 h2
  go_enter Tryz.func120, Tryz.ntmps120
  go_wp2_with fail
  go_loopg [5, 6, 7, 8, 9, 10, 11] l.length (fun g yv fv lv gv sv mv iv wr => ∃ (k : Nat) (yes first least great second sum : Int), k + g = l.length ∧ 0 ≤ yes ∧ yes ≤ k ∧ -(1073741824 * k) ≤ sum ∧ sum ≤ 1073741824 * k ∧ Hid (Gathered l k yes first least great second sum) ∧
    yv = .int .i64 yes ∧ fv = .int .i64 first ∧ lv = .int .i64 least ∧ gv = .int .i64 great ∧ sv = .int .i64 second ∧ mv = .int .i64 sum ∧ iv = .int .i64 k ∧ w = wr)
  case atStart => exact ⟨0, 0, -1, _, _, _, 0, by omega, by omega, by omega, by omega, by omega, gathered_zero l, rfl, rfl, rfl, rfl, rfl, rfl, rfl, rfl⟩
  case round =>
    obtain ⟨k, yes, first, least, great, second, sum, hk, hy1, hy2, hs1, hs2, HG, rfl, rfl, rfl, rfl, rfl, rfl, rfl, rfl⟩ := hrel
    by_cases hlt : k < l.length
    · obtain ⟨b, o, rfl, hb, hc⟩ := H.out.at_ k hlt
      have HS := Lib.hid (gathered_succ HG.out hlt)
      have hx := HN.out l[k] (List.getElem_mem _)
      unfold Num at hx
      obtain ⟨hx1, hx2⟩ := hx
      generalize l[k] = x at *
      obtain ⟨m1, hm1, hm1'⟩ := ite_min least x
      obtain ⟨m2, hm2, hm2'⟩ := ite_min great x
      obtain ⟨m3, hm3, hm3'⟩ := ite_max second m2
      obtain ⟨m4, hm4, hm4'⟩ := ite_max great x
      have HS2 := HS.out
      rw [← hm1', ← hm2', ← hm3', ← hm4'] at HS2
      have HS3 := Lib.hid HS2; clear HS2 HS hm1' hm2' hm3' hm4'
      by_cases h0 : x = 0
      · have hz : (x != 0) = false := by simpa using h0
        have HS4 : Hid (Gathered l (k + 1) yes first m1 m4 m3 (sum + x)) := by
          have := HS3.out
          rw [if_pos h0, if_neg (by simp [h0])] at this
          exact this
        clear h0
        go_wp2_with fail
        go_roundg (gk - 1)
        case rel => exact ⟨k + 1, yes, first, m1, m4, m3, sum + x, by omega, by omega, by omega, by omega, by omega, HS4, rfl, rfl, rfl, rfl, rfl, rfl, by go_num, rfl⟩
        case measure => omega
      · have hz : (x != 0) = true := by simpa using h0
        by_cases hf : first < 0
        · have hfd : decide (first < 0) = true := by simpa using hf
          have HS4 : Hid (Gathered l (k + 1) (yes + 1) k m1 m4 m3 (sum + x)) := by
            have := HS3.out
            rw [if_neg h0, if_pos ⟨h0, hf⟩] at this
            exact this
          clear h0 hf
          go_wp2_with fail
          go_roundg (gk - 1)
          case rel => exact ⟨k + 1, yes + 1, k, m1, m4, m3, sum + x, by omega, by omega, by omega, by omega, by omega, HS4, rfl, rfl, rfl, rfl, rfl, rfl, by go_num, rfl⟩
          case measure => omega
        · have hfd : decide (first < 0) = false := by simpa using hf
          have HS4 : Hid (Gathered l (k + 1) (yes + 1) first m1 m4 m3 (sum + x)) := by
            have := HS3.out
            rw [if_neg h0, if_neg (fun h => hf h.2)] at this
            exact this
          clear h0 hf
          go_wp2_with fail
          go_roundg (gk - 1)
          case rel => exact ⟨k + 1, yes + 1, first, m1, m4, m3, sum + x, by omega, by omega, by omega, by omega, by omega, HS4, rfl, rfl, rfl, rfl, rfl, rfl, by go_num, rfl⟩
          case measure => omega
    · obtain ⟨g1, ⟨g2a, g2b⟩, g3, g4, g5, g6⟩ := HG.out
      rw [List.drop_eq_nil_of_le (by omega)] at g1 g2a g3 g4 g6
      have e1 : yes = countF l := by simpa [countF] using g1
      have e2 : first = firstGo l 0 := by
        by_cases hf : first < 0
        · obtain ⟨a, b⟩ := g2a hf; rw [a, ← b]; rfl
        · exact g2b (by omega)
      have e3 : least = minF l := g3
      have e4 : twoF l = (great, second) := g4.symm
      have e5 : sum = sumF l := g6
      clear g1 g2a g2b g3 g4 g5 g6 HG
      have E1 := Lib.hid e1; have E2 := Lib.hid e2; have E3 := Lib.hid e3; have E4 := Lib.hid e4; have E5 := Lib.hid e5
      clear e1 e2 e3 e4 e5
      have hcl := cntGe_le l 0
      rcases HC.out with h | h | h | h | h | h | h | h | h | h
      case inr.inr.inr.inr.inr.inr.inr.inl =>
        subst h
        go_wp2_with fail
        go_loopg [12] (cntGe l 0) (fun g rv wr => ∃ (q : Int), 0 ≤ q ∧ q + g = cntGe l 0 ∧ cntGe l q ≤ g ∧ Hid (mexGo l g q = mexF l) ∧ rv = .int .i64 q ∧ w = wr)
        case atStart => exact ⟨0, by omega, by omega, Nat.le_refl _, rfl, rfl, rfl⟩
        case round =>
          obtain ⟨q, hq0, hq, hg, HZ, rfl, rfl⟩ := hrel
          by_cases hm : q ∈ l
          · have hc := cntGe_lt hm
            obtain ⟨g, rfl⟩ : ∃ g, gk = g + 1 := ⟨gk - 1, by omega⟩
            have HZ2 : Hid (mexGo l g (q + 1) = mexF l) := by
              have := HZ.out
              simp only [mexGo] at this
              rw [if_pos hm] at this
              exact this
            have hd : decide (q ∈ l) = true := decide_eq_true hm
            have hk6 : q ≤ 1000000 := by omega
            clear hm
            go_wp2_with (go_at_call 148; refine (occurs_any _ _ _ l _ _ H.out hl).mono ?_; rintro e w' ⟨rfl, rfl⟩; rw [hd])
            go_roundg g
            case rel => exact ⟨q + 1, by omega, by omega, by omega, HZ2, rfl, rfl⟩
            case measure => omega
          · have HZ2 : Hid (q = mexF l) := by
              have := HZ.out
              cases gk with
              | zero => exact this
              | succ g => simp only [mexGo] at this; rw [if_neg hm] at this; exact this
            have hd : decide (q ∈ l) = false := decide_eq_false hm
            clear hm
            go_wp2_with (go_at_call 148; refine (occurs_any _ _ _ l _ _ H.out hl).mono ?_; rintro e w' ⟨rfl, rfl⟩; rw [hd])
            go_ret
            exact ⟨ret_int HZ2.out, rfl⟩
      case inr.inr.inr.inr.inr.inr.inr.inr.inr =>
        subst h
        clear E1 E2 E3 E4 E5
        by_cases h0 : l.length = 0
        · have HZ : Hid ((0 : Int) = foldF 29 l) := by show _ = _; rw [List.length_eq_zero_iff.1 h0]; rfl
          have hb0 : ((l.length : Int) == 0) = true := by simp; exact List.length_eq_zero_iff.1 h0
          go_wp2_with fail
          go_ret
          exact ⟨ret_int HZ.out, rfl⟩
        · obtain ⟨b, o, rfl, hb, hc⟩ := H.out.at_ 0 (by omega)
          have HZ : Hid (l[0]'(by omega) = foldF 29 l) := by
            show _ = _
            cases l with
            | nil => simp at h0
            | cons x l => rfl
          have hc' : w.cell? ⟨b, o, none⟩ = some (.int .i64 (l[0]'(by omega))) := by simpa using hc
          clear hc
          have hb0 : ((l.length : Int) == 0) = false := by simp; intro hh; rw [hh] at h0; exact h0 rfl
          have hpos : 0 < l.length := by omega
          generalize (l[0]'(by omega) : Int) = x0 at *
          clear h0
          go_wp2_with fail
          go_ret
          exact ⟨ret_int HZ.out, rfl⟩
      all_goals
        subst h
        go_wp2_with (first
          | (go_at_call 79; refine (refTruth_any _ _).mono ?_; rintro e w' ⟨rfl, rfl⟩)
          | (go_at_call 35; refine (refSaturate_any _ _).mono ?_; rintro e w' ⟨rfl, rfl⟩))
        go_ret
        refine ⟨ret_int ?_, rfl⟩
        simp only [foldF]
        first
          | (rw [E1.out]; rfl)
          | (rw [E2.out]; rfl)
          | (rw [E3.out]; rfl)
          | (rw [E4.out]; rfl)
          | (rw [E5.out]; rfl)

set_option maxRecDepth 100000 in
set_option maxHeartbeats 1000000 in
theorem evalFold_any (A : Option Addr) (n c : Nat) (l : List Int) (op : Int) (w : World) (h : IntsR w A n l) (hl : n ≤ 1000) :
    Calls Tryz.prog 115 #[.int .i64 op, .slice A n c] w fun e w' => e = .returned (.tuple #[.int .i64 (foldR op l).1, .int .i64 (foldR op l).2]) ∧ w = w' := by
  obtain rfl := h.1
  have H := Lib.hid h; clear h
  cases hag : aggregate op with
  | false =>
    have HF : Hid (foldR op l = (0, 2)) := by show foldR op l = _; unfold foldR; rw [if_pos hag]
    go_enter Tryz.func115, Tryz.ntmps115
    go_wp2_with (go_at_call 102; refine (aggregate_any _ _).mono ?_; rintro e w' ⟨rfl, rfl⟩; rw [hag])
    go_ret2
    exact ⟨ret_pair HF.out, rfl⟩
  | true =>
    have hop : 20 ≤ op ∧ op ≤ 29 := by unfold aggregate at hag; exact of_decide_eq_true hag
    have HOP := Lib.hid hop; clear hop
    by_cases h24 : 24 ≤ l.length
    · have HF : Hid (foldR op l = (0, 3)) := by show foldR op l = _; unfold foldR; rw [if_neg (by rw [hag]; decide), if_pos h24]
      go_enter Tryz.func115, Tryz.ntmps115
      go_wp2_with (go_at_call 102; refine (aggregate_any _ _).mono ?_; rintro e w' ⟨rfl, rfl⟩; rw [hag])
      go_ret2
      exact ⟨ret_pair HF.out, rfl⟩
    · have h24' : l.length < 24 := by omega
      have hd24 : decide (24 ≤ l.length) = false := by simp; omega
      have HF0 : Hid (foldR op l = if l.all numB = false then (0, 2) else (foldF op l, 0)) := by show foldR op l = _; unfold foldR; rw [if_neg (by rw [hag]; decide), if_neg h24]
      clear h24
      cases hall : l.all numB with
      | false =>
        go_enter Tryz.func115, Tryz.ntmps115
        go_wp2_with (first
          | (go_at_call 102; refine (aggregate_any _ _).mono ?_; rintro e w' ⟨rfl, rfl⟩; rw [hag])
          | (go_at_call 144; refine (inRange_any _ _ _ l _ H.out (by omega)).mono ?_; rintro e w' ⟨rfl, rfl⟩; rw [hall]))
        go_ret2
        exact ⟨ret_pair (by rw [HF0.out, if_pos hall]), rfl⟩
      | true =>
        have HN : Hid (∀ x ∈ l, Num x) := fun x hx => num_of_numB (List.all_eq_true.1 hall x hx)
        go_enter Tryz.func115, Tryz.ntmps115
        go_wp2_with (first
          | (go_at_call 102; refine (aggregate_any _ _).mono ?_; rintro e w' ⟨rfl, rfl⟩; rw [hag])
          | (go_at_call 144; refine (inRange_any _ _ _ l _ H.out (by omega)).mono ?_; rintro e w' ⟨rfl, rfl⟩; rw [hall])
          | (go_at_call 145; refine (fold_any _ _ _ l _ _ H.out hl HOP.out.1 HOP.out.2 HN.out).mono ?_; rintro e w' ⟨rfl, rfl⟩))
        go_ret2
        exact ⟨ret_pair (by rw [HF0.out, if_neg (by rw [hall]; decide)]), rfl⟩

set_option maxRecDepth 100000 in
set_option maxHeartbeats 1000000 in
theorem refFoldR_any (A : Option Addr) (n c : Nat) (l : List Int) (op : Int) (w : World) (h : IntsR w A n l) (hl : n ≤ 1000) :
    Calls Tryz.prog 72 #[.int .i64 op, .slice A n c] w fun e w' => e = .returned (.tuple #[.int .i64 (foldR op l).1, .int .i64 (foldR op l).2]) ∧ w = w' := by
  obtain rfl := h.1
  have H := Lib.hid h; clear h
  cases hag : aggregate op with
  | false =>
    have HF : Hid (foldR op l = (0, 2)) := by show foldR op l = _; unfold foldR; rw [if_pos hag]
    go_enter Tryz.func72, Tryz.ntmps72
    go_wp2_with (go_at_call 93; refine (refAggregate_any _ _).mono ?_; rintro e w' ⟨rfl, rfl⟩; rw [hag])
    go_ret2
    exact ⟨ret_pair HF.out, rfl⟩
  | true =>
    have hop : 20 ≤ op ∧ op ≤ 29 := by unfold aggregate at hag; exact of_decide_eq_true hag
    have HOP := Lib.hid hop; clear hop
    by_cases h24 : 24 ≤ l.length
    · have HF : Hid (foldR op l = (0, 3)) := by show foldR op l = _; unfold foldR; rw [if_neg (by rw [hag]; decide), if_pos h24]
      go_enter Tryz.func72, Tryz.ntmps72
      go_wp2_with (go_at_call 93; refine (refAggregate_any _ _).mono ?_; rintro e w' ⟨rfl, rfl⟩; rw [hag])
      go_ret2
      exact ⟨ret_pair HF.out, rfl⟩
    · have h24' : l.length < 24 := by omega
      have hd24 : decide (24 ≤ l.length) = false := by simp; omega
      have HF0 : Hid (foldR op l = if l.all numB = false then (0, 2) else (foldF op l, 0)) := by show foldR op l = _; unfold foldR; rw [if_neg (by rw [hag]; decide), if_neg h24]
      clear h24
      go_enter Tryz.func72, Tryz.ntmps72
      go_wp2_with (go_at_call 93; refine (refAggregate_any _ _).mono ?_; rintro e w' ⟨rfl, rfl⟩; rw [hag])
      go_loopg [6] l.length (fun g iv wr => ∃ k : Nat, k + g = l.length ∧ iv = .int .i64 k ∧ Hid (l.all numB = (l.drop k).all numB) ∧ w = wr)
      case atStart => exact ⟨0, by omega, rfl, rfl, rfl⟩
      case round =>
        obtain ⟨k, hk, rfl, HK, rfl⟩ := hrel
        by_cases hlt : k < l.length
        · obtain ⟨b, o, rfl, hb, hc⟩ := H.out.at_ k hlt
          have hstep : Hid ((l.drop k).all numB = (numB l[k] && (l.drop (k + 1)).all numB)) := by
            show (l.drop k).all numB = _
            rw [List.drop_eq_getElem_cons hlt]; rfl
          cases hnk : numB l[k] with
          | true =>
            go_wp2_with (go_at_call 15; refine (refNumber_any _ _).mono ?_; rintro e w' ⟨rfl, rfl⟩; rw [hnk])
            go_roundg (gk - 1)
            case rel => exact ⟨k + 1, by omega, by go_num, by show _ = _; rw [HK.out, hstep.out, hnk]; rfl, rfl⟩
            case measure => omega
          | false =>
            go_wp2_with (go_at_call 15; refine (refNumber_any _ _).mono ?_; rintro e w' ⟨rfl, rfl⟩; rw [hnk])
            go_ret2
            exact ⟨ret_pair (by rw [HF0.out, if_pos (by rw [HK.out, hstep.out, hnk]; rfl)]), rfl⟩
        · have hall : l.all numB = true := by rw [HK.out, List.drop_eq_nil_of_le (by omega)]; rfl
          have HN : Hid (∀ x ∈ l, Num x) := fun x hx => num_of_numB (List.all_eq_true.1 hall x hx)
          go_wp2_with (go_at_call 120; refine (refFold_any _ _ _ l _ _ H.out hl HOP.out.1 HOP.out.2 HN.out).mono ?_; rintro e w' ⟨rfl, rfl⟩)
          go_ret2
          exact ⟨ret_pair (by rw [HF0.out, if_neg (by rw [hall]; decide)]), rfl⟩

end Go.Proofs.YtaifafljakojnaaGreat

/- The plain form of evaluation, and that its values are numbers of the rule language. -/
namespace Go.Proofs.YtaifafljakojnaaGreat

def linkF (g : Graph) (v : Nat) (port : Int) : Link := (g.ports.getD v []).getD port.toNat default
def factF (g : Graph) (op : Int) (v : Nat) (port : Int) : Int :=
  if op = 6 then g.ids.length else if op = 7 then gmax g.ids else if op = 8 then g.ids.getD v 0 else if op = 9 then (g.ports.getD v []).length
  else if op = 10 then truthI (decide (v = 0)) else if op = 11 then port
  else if op = 13 then g.ids.getD (linkF g v port).to.toNat 0
  else if op = 14 then (g.ports.getD (linkF g v port).to.toNat []).length
  else if op = 15 then truthI (decide ((linkF g v port).to = 0))
  else if op = 16 then (linkF g v port).weight
  else portF (g.ports.getD (linkF g v port).to.toNat []) v
def leafF (g : Graph) (c : Config) (v : Nat) (port : Int) (t : Term) : Int :=
  if t.op = 1 then t.arg else if t.op = 2 then 1 else if t.op = 3 then 0 else if t.op = 4 then -1
  else if t.op = 5 then (c.getD v []).getD t.arg.toNat 0
  else if t.op = 12 then (c.getD (linkF g v port).to.toNat []).getD t.arg.toNat 0
  else factF g t.op v port
def evalF (g : Graph) (c : Config) (v : Nat) : Int → Ex → Int
  | port, .leaf t => leafF g c v port t
  | port, .un t a => if aggregate t.op then foldF t.op ((List.range (g.ports.getD v []).length).map fun (k : Nat) => evalF g c v (k : Int) a) else unaryF t.op (evalF g c v port a)
  | port, .bin t a b => binaryF t.op (evalF g c v port a) (evalF g c v port b)
  | port, .tri _ a b d => if evalF g c v port a ≠ 0 then evalF g c v port b else evalF g c v port d

def boundOK : Bool → Ex → Prop
  | b, .leaf t => nearOp t.op = true → b = true
  | b, .un t a => boundOK (b || aggregate t.op) a
  | b, .bin _ x y => boundOK b x ∧ boundOK b y
  | b, .tri _ x y z => boundOK b x ∧ boundOK b y ∧ boundOK b z
theorem ifK_ne {b : Bool} {k : Int} (h : ifK b k ≠ 0) : b = true ∧ k ≠ 0 := by
  unfold ifK at h
  cases b
  · exact absurd rfl h
  · exact ⟨rfl, h⟩
theorem singleK_ne {op a : Int} (h : singleK op a ≠ 0) : a ≠ 0 := by
  unfold singleK at h
  rintro rfl
  repeat' split at h
  all_goals exact h rfl
theorem doubleK_ne {op a b : Int} (h : doubleK op a b ≠ 0) : a ≠ 0 ∧ b ≠ 0 := by
  unfold doubleK at h
  repeat' split at h
  all_goals
    have := (ifK_ne h).1
    simp at this
    omega
theorem kind_bound {kinds : List Int} {x : Ex} : ∀ {b : Bool}, kindF kinds b x ≠ 0 → boundOK b x := by
  induction x with
  | leaf t =>
    intro b h hn
    simp only [kindF] at h
    cases b
    · rw [hn] at h; exact absurd rfl h
    · rfl
  | un t a ih => intro b h; exact ih (singleK_ne h)
  | bin t x y ihx ihy => intro b h; obtain ⟨h1, h2⟩ := doubleK_ne h; exact ⟨ihx h1, ihy h2⟩
  | tri t x y z ihx ihy ihz =>
    intro b h
    obtain ⟨h1, h2⟩ := ifK_ne h
    simp at h1
    refine ⟨ihx (by omega), ihy h2, ihz ?_⟩
    rw [← h1.2]; exact h2

theorem firstGo_range (l : List Int) : ∀ i : Int, firstGo l i = -1 ∨ (i ≤ firstGo l i ∧ firstGo l i < i + l.length) := by
  induction l with
  | nil => intro i; left; rfl
  | cons a l ih =>
    intro i
    simp only [firstGo]
    split
    · right; simp; omega
    · rcases ih (i + 1) with h | h
      · left; exact h
      · right; simp; omega
theorem foldl_min_num (l : List Int) : ∀ z : Int, Num z → (∀ x ∈ l, Num x) → Num (l.foldl min z) := by
  induction l with
  | nil => intro z hz _; exact hz
  | cons a l ih =>
    intro z hz h
    refine ih _ ?_ (fun x hx => h x (by simp [hx]))
    have := h a (by simp)
    unfold Num at *
    omega
theorem twoGo_num (l : List Int) : ∀ a b : Int, Num a → Num b → (∀ x ∈ l, Num x) → Num (twoGo l a b).1 ∧ Num (twoGo l a b).2 := by
  induction l with
  | nil => intro a b ha hb _; exact ⟨ha, hb⟩
  | cons x l ih =>
    intro a b ha hb h
    have hx := h x (by simp)
    have hr : ∀ y ∈ l, Num y := fun y hy => h y (by simp [hy])
    simp only [twoGo]
    split
    · exact ih _ _ hx ha hr
    · refine ih _ _ ha ?_ hr
      unfold Num at *
      omega
theorem foldF_num {op : Int} {l : List Int} (hn : ∀ x ∈ l, Num x) (hl : l.length ≤ 1000) : Num (foldF op l) := by
  unfold foldF
  split
  · exact truthI_num _
  split
  · exact truthI_num _
  split
  · have := countF_le l; unfold Num; omega
  split
  · have := firstGo_range l 0; unfold Num; omega
  split
  · exact foldl_min_num l _ (by unfold Num; omega) hn
  split
  · exact (twoGo_num l _ _ (by unfold Num; omega) (by unfold Num; omega) hn).1
  split
  · exact satF_num _
  split
  · have h1 := mexGo_eq l (cntGe l 0) 0 (Nat.le_refl _)
    have h2 := cntGe_le l 0
    unfold mexF Num
    omega
  split
  · exact (twoGo_num l _ _ (by unfold Num; omega) (by unfold Num; omega) hn).2
  · cases l with
    | nil => unfold Num; simp
    | cons a l => exact hn a (by simp)
theorem unaryF_num {op a : Int} (h : Num a) : Num (unaryF op a) := by
  unfold unaryF
  split
  · unfold Num at *; omega
  · exact truthI_num _
theorem binaryF_num {op a b : Int} : Num (binaryF op a b) := satF_num _

/-- A configuration on a graph that it fits, and a node. -/
structure SOK (p : Prg) (g : Graph) (c : Config) (v : Nat) : Prop where
  fits : fitsF p g = 0
  conf : confB (tableF p g) c = true
  node : v < g.ports.length
theorem SOK.gok {p : Prg} {g : Graph} {c : Config} {v : Nat} (h : SOK p g c v) : GOK g := (fits_zero h.fits).2.1
theorem SOK.len {p : Prg} {g : Graph} {c : Config} {v : Nat} (h : SOK p g c v) : c.length = g.ports.length := by
  rw [(confB_iff.1 h.conf).1, tableF_length, h.gok.ids]
theorem SOK.row {p : Prg} {g : Graph} {c : Config} {v : Nat} (h : SOK p g c v) {u : Nat} (hu : u < g.ports.length) : (c[u]'(by rw [h.len]; exact hu)).length = p.vars.length := by
  have := (confB_iff.1 h.conf).2 u (by rw [h.len]; exact hu) (by rw [tableF_length, h.gok.ids]; exact hu)
  rw [tableF_at] at this
  have := (stateB_iff.1 this).1
  rwa [rowF_length] at this
theorem SOK.val {p : Prg} {g : Graph} {c : Config} {v : Nat} (h : SOK p g c v) {u i : Nat} (hu : u < g.ports.length) (hi : i < p.vars.length) :
    (boundsF p.vars[i] g u).1 ≤ (c[u]'(by rw [h.len]; exact hu))[i]'(by rw [h.row hu]; exact hi) ∧ (c[u]'(by rw [h.len]; exact hu))[i]'(by rw [h.row hu]; exact hi) ≤ (boundsF p.vars[i] g u).2 := by
  have h1 := (confB_iff.1 h.conf).2 u (by rw [h.len]; exact hu) (by rw [tableF_length, h.gok.ids]; exact hu)
  rw [tableF_at] at h1
  have := (stateB_iff.1 h1).2 i (by rw [h.row hu]; exact hi) (by rw [rowF_length]; exact hi)
  rwa [rowF_at] at this
theorem SOK.small {p : Prg} {g : Graph} {c : Config} {v : Nat} (h : SOK p g c v) {u i : Nat} (hu : u < g.ports.length) (hi : i < p.vars.length) : Num ((c.getD u []).getD i 0) := by
  have h1 := h.val hu hi
  have h2 := bounds_small (List.all_eq_true.1 (check_numbers (fits_zero h.fits).1).1 _ (List.getElem_mem hi)) h.gok hu
  have e1 : c.getD u [] = c[u]'(by rw [h.len]; exact hu) := getD_eq (by rw [h.len]; exact hu)
  rw [e1, getD_eq (by rw [h.row hu]; exact hi)]
  unfold Num
  omega
/-- The link at a port of a node. -/
theorem link_at {g : Graph} (hg : GOK g) {v k : Nat} (hv : v < g.ports.length) (hk : k < g.ports[v].length) :
    linkF g v (k : Int) = g.ports[v][k] ∧ ∃ t : Nat, g.ports[v][k].to = (t : Int) ∧ t < g.ports.length ∧ 1 ≤ g.ports[v][k].weight ∧ g.ports[v][k].weight ≤ 15 ∧ g.ports[v].length < g.ports.length := by
  have h1 := hg.links v hv
  obtain ⟨a1, a2, a3, a4, a5⟩ := linkOK_iff.1 ((linksOK_iff.1 h1).1 _ (List.getElem_mem hk))
  obtain ⟨t, ht⟩ := Int.eq_ofNat_of_zero_le a1
  refine ⟨?_, t, ht, by omega, a4, a5, linksOK_len hv h1⟩
  unfold linkF
  rw [getD_eq hv, Int.toNat_natCast, getD_eq hk]
def portOK (g : Graph) (v : Nat) (b : Bool) (port : Int) : Prop := b = true → ∃ k : Nat, port = (k : Int) ∧ k < (g.ports.getD v []).length
theorem getD_mem_or {l : List Int} {k : Nat} {P : Int → Prop} (h0 : P 0) (h : ∀ x ∈ l, P x) : P (l.getD k 0) := by
  rw [List.getD_eq_getElem?_getD]
  cases hx : l[k]? with
  | none => exact h0
  | some x => exact h x (List.mem_of_getElem? hx)
theorem fact_num {g : Graph} (hg : GOK g) {op : Int} {v : Nat} {port : Int} {b : Bool} (hv : v < g.ports.length) (hop : 6 ≤ op ∧ op ≤ 17 ∧ op ≠ 12) (hb : nearOp op = true → b = true) (hp : portOK g v b port) : Num (factF g op v port) := by
  have hle := hg.le
  have hids := hg.ids
  obtain ⟨g1, g2⟩ := gmax_le255 hg
  have hid : ∀ k, Num (g.ids.getD k 0) := fun k => getD_mem_or (P := Num) (by unfold Num; omega) (fun x hx => by have := hg.idr x hx; unfold Num; omega)
  have hlen : ∀ u, (g.ports.getD u []).length ≤ 24 := fun u => by
    rcases Nat.lt_or_ge u g.ports.length with h | h
    · rw [getD_eq h]; have := linksOK_len h (hg.links u h); omega
    · rw [List.getD_eq_getElem?_getD, List.getElem?_eq_none h]; simp
  by_cases hn : 11 ≤ op
  · have hnear : nearOp op = true := by unfold nearOp; simp; omega
    obtain ⟨k, rfl, hk⟩ := hp (hb hnear)
    rw [getD_eq hv] at hk
    obtain ⟨e, t, ht, htl, w1, w2, hl⟩ := link_at hg hv hk
    have hr := portF_range (g.ports.getD t []) (v : Int)
    have := hlen t
    have hlv := hlen v
    unfold factF
    rw [e, ht, Int.toNat_natCast]
    generalize g.ports[v][k].weight = wt at *
    generalize (g.ports.getD t []).length = len at *
    generalize portF (g.ports.getD t []) (v : Int) = pf at *
    generalize (g.ports.getD v []).length = lv at *
    generalize gmax g.ids = gm at *
    have n0 : Num (g.ids.length : Int) := by unfold Num; omega
    have n1 : Num gm := by unfold Num; omega
    have n2 : Num (lv : Int) := by unfold Num; omega
    have n3 : Num (k : Int) := by unfold Num; omega
    have n4 : Num (len : Int) := by unfold Num; omega
    have n5 : Num wt := by unfold Num; omega
    have n6 : Num pf := by unfold Num; omega
    by_cases c1 : op = 6
    · rw [if_pos c1]; exact n0
    rw [if_neg c1]
    by_cases c2 : op = 7
    · rw [if_pos c2]; exact n1
    rw [if_neg c2]
    by_cases c3 : op = 8
    · rw [if_pos c3]; exact hid _
    rw [if_neg c3]
    by_cases c4 : op = 9
    · rw [if_pos c4]; exact n2
    rw [if_neg c4]
    by_cases c5 : op = 10
    · rw [if_pos c5]; exact truthI_num _
    rw [if_neg c5]
    by_cases c6 : op = 11
    · rw [if_pos c6]; exact n3
    rw [if_neg c6]
    by_cases c7 : op = 13
    · rw [if_pos c7]; exact hid _
    rw [if_neg c7]
    by_cases c8 : op = 14
    · rw [if_pos c8]; exact n4
    rw [if_neg c8]
    by_cases c9 : op = 15
    · rw [if_pos c9]; exact truthI_num _
    rw [if_neg c9]
    by_cases c10 : op = 16
    · rw [if_pos c10]; exact n5
    rw [if_neg c10]
    exact n6
  · unfold factF
    have hlv := hlen v
    by_cases c1 : op = 6
    · rw [if_pos c1]; unfold Num; omega
    rw [if_neg c1]
    by_cases c2 : op = 7
    · rw [if_pos c2]; unfold Num; omega
    rw [if_neg c2]
    by_cases c3 : op = 8
    · rw [if_pos c3]; exact hid _
    rw [if_neg c3]
    by_cases c4 : op = 9
    · rw [if_pos c4]; unfold Num; omega
    rw [if_neg c4]
    by_cases c5 : op = 10
    · rw [if_pos c5]; exact truthI_num _
    exfalso; omega
theorem leaf_num {p : Prg} {g : Graph} {c : Config} {v : Nat} (h : SOK p g c v) {t : Term} {port : Int} {b : Bool} (har : arity t.op = 0) (ha : argF t p.vars.length = true) (hb : nearOp t.op = true → b = true) (hp : portOK g v b port) : Num (leafF g c v port t) := by
  have hr := (arity_bounds t.op).1 har
  obtain ⟨op, arg⟩ := t
  dsimp only at *
  unfold leafF
  dsimp only
  by_cases h1 : op = 1
  · rw [if_pos h1]
    subst h1
    have hd : decide (0 ≤ arg ∧ arg ≤ 1073741824) = true := ha
    have := of_decide_eq_true hd
    unfold Num; omega
  rw [if_neg h1]
  split
  · unfold Num; omega
  split
  · unfold Num; omega
  split
  · unfold Num; omega
  split
  · rename_i h5
    obtain ⟨a1, a2⟩ := arg_var ha (.inl h5)
    obtain ⟨a, rfl⟩ := Int.eq_ofNat_of_zero_le a1
    rw [Int.toNat_natCast]
    exact h.small h.node (by omega)
  split
  · rename_i h12
    obtain ⟨a1, a2⟩ := arg_var ha (.inr h12)
    obtain ⟨a, rfl⟩ := Int.eq_ofNat_of_zero_le a1
    obtain ⟨k, rfl, hk⟩ := hp (hb (by unfold nearOp; simp; omega))
    rw [getD_eq h.node] at hk
    obtain ⟨e, t, ht, htl, _⟩ := link_at h.gok h.node hk
    rw [e, ht, Int.toNat_natCast, Int.toNat_natCast]
    exact h.small htl (by omega)
  · rename_i h2 h3 h4 h5 h12
    exact fact_num h.gok h.node (by omega) hb hp
theorem ports_len {g : Graph} (hg : GOK g) {v : Nat} (hv : v < g.ports.length) : (g.ports.getD v []).length < 24 := by
  rw [getD_eq hv]; have := linksOK_len hv (hg.links v hv); have := hg.le; omega
theorem eval_num {p : Prg} {g : Graph} {c : Config} {v : Nat} (h : SOK p g c v) {x : Ex} (hx : x.ok) (ha : ∀ t ∈ x.terms, argF t p.vars.length = true) : ∀ {b : Bool} {port : Int}, boundOK b x → portOK g v b port → Num (evalF g c v port x) := by
  induction x with
  | leaf t => intro b port hb hp; exact leaf_num h hx (ha t (by simp [Ex.terms])) hb hp
  | un t a ih =>
    intro b port hb hp
    have ha' : ∀ s ∈ a.terms, argF s p.vars.length = true := fun s hs => ha s (by simp [Ex.terms, hs])
    simp only [evalF]
    split
    · rename_i hag
      refine foldF_num (fun y hy => ?_) (by rw [List.length_map, List.length_range]; have := ports_len h.gok h.node; omega)
      obtain ⟨k, hk, rfl⟩ := List.mem_map.1 hy
      rw [List.mem_range] at hk
      refine ih hx.2 ha' (b := true) ?_ (fun _ => ⟨k, rfl, hk⟩)
      have hb' : boundOK (b || aggregate t.op) a := hb
      rwa [hag, Bool.or_true] at hb'
    · rename_i hag
      refine unaryF_num (ih hx.2 ha' (b := b) ?_ hp)
      have hb' : boundOK (b || aggregate t.op) a := hb
      rwa [show aggregate t.op = false by simpa using hag, Bool.or_false] at hb'
  | bin t x y ihx ihy => intro b port hb hp; exact binaryF_num
  | tri t x y z ihx ihy ihz =>
    intro b port hb hp
    simp only [evalF]
    obtain ⟨_, _, o2, o3⟩ := hx
    split
    · exact ihy o2 (fun s hs => ha s (by simp [Ex.terms, hs])) hb.2.1 hp
    · exact ihz o3 (fun s hs => ha s (by simp [Ex.terms, hs])) hb.2.2 hp

end Go.Proofs.YtaifafljakojnaaGreat

/- Contracts: the reference's Fact and leaf. -/
namespace Go.Proofs.YtaifafljakojnaaGreat
open Go.RowKit

theorem fact_op {op : Int} (h : 6 ≤ op ∧ op ≤ 17 ∧ op ≠ 12) : (op = 6 ∨ op = 7 ∨ op = 8 ∨ op = 9 ∨ op = 10 ∨ op = 11) ∨ (op = 13 ∨ op = 14 ∨ op = 15 ∨ op = 16 ∨ op = 17) := by omega

set_option maxRecDepth 100000 in
set_option maxHeartbeats 2000000 in
theorem refFact_any (v2 : Value) (g : Graph) (op : Int) (v : Nat) (port : Int) (b : Bool) (w : World) (h2 : GraphV w v2 g) (hg : GOK g) (hv : v < g.ports.length) (hop : 6 ≤ op ∧ op ≤ 17 ∧ op ≠ 12) (hb : nearOp op = true → b = true) (hp : portOK g v b port) :
    Calls Tryz.prog 69 #[v2, .int .i64 op, .int .i64 v, .int .i64 port] w fun e w' => e = .returned (.int .i64 (factF g op v port)) ∧ Bel w w' := by
  have HGV := Lib.hid (fun w' (k : Bel w w') => h2.keep k)
  obtain ⟨A, k, A2, k2, rfl, hI, _, _, hP, _, _⟩ := h2
  have hids := hg.ids
  have hle := hg.le
  have hvi : v < g.ids.length := by omega
  have hl1000 : g.ids.length ≤ 1000 := by omega
  obtain ⟨b1, o1, rfl, hb1, hid⟩ := hI.at_ v hvi
  obtain ⟨b2, o2, R, rc, rfl, hb2, hrow, hL, _, _⟩ := hP.at_ v hv
  have HB := (Bel.refl w).alloc (.cells #[.slice (some ⟨b1, o1, none⟩) g.ids.length k, .slice (some ⟨b2, o2, none⟩) g.ports.length k2] 30)
  have hdv : decide (v < g.ports.length) = true := by simpa using hv
  have hdi : decide (v < g.ids.length) = true := by simpa using hvi
  have HID := Lib.hid hids
  clear hids
  rcases fact_op hop with (rfl | rfl | rfl | rfl | rfl | rfl) | hnear
  · have HF : Hid (factF g 6 v port = g.ports.length) := by show factF g 6 v port = _; unfold factF; rw [if_pos rfl, HID.out]
    clear hI hP hb hp hop
    go_enter Tryz.func69, Tryz.ntmps69
    go_wp2
    go_ret
    exact ⟨ret_int HF.out.symm, HB⟩
  · clear hI hP hb hp hop
    have HF : Hid (factF g 7 v port = gmax g.ids) := rfl
    go_enter Tryz.func69, Tryz.ntmps69
    go_wp2_with (go_at_call 118; refine (greatest_any _ g _ (HGV.out _ HB) hl1000).mono ?_; rintro e w' ⟨rfl, hbb⟩; replace HB := HB.trans hbb; clear hbb)
    go_ret
    exact ⟨ret_int HF.out.symm, HB⟩
  · have HF : Hid (factF g 8 v port = g.ids[v]) := getD_eq hvi
    clear hI hP hb hp hop
    go_enter Tryz.func69, Tryz.ntmps69
    go_wp2
    go_ret
    exact ⟨ret_int HF.out.symm, HB⟩
  · have HF : Hid (factF g 9 v port = (g.ports[v].length : Int)) := by show factF g 9 v port = _; rw [← getD_eq (d := []) hv]; rfl
    clear hI hP hb hp hop
    go_enter Tryz.func69, Tryz.ntmps69
    go_wp2
    go_ret
    exact ⟨ret_int HF.out.symm, HB⟩
  · have HF : Hid (factF g 10 v port = truthI (decide (v = 0))) := rfl
    obtain ⟨z, hz⟩ : ∃ z, decide (v = 0) = z := ⟨_, rfl⟩
    rw [hz] at HF
    have hz1 : ((v : Int) == 0) = z := by rw [← hz, Bool.eq_iff_iff]; simp
    have hz2 : (v == 0) = z := by rw [← hz, Bool.eq_iff_iff]; simp
    clear hI hP hb hp hop hz
    go_enter Tryz.func69, Tryz.ntmps69
    go_wp2_with (go_at_call 79; refine (refTruth_any _ _).mono ?_; rintro e w' ⟨rfl, rfl⟩)
    go_ret
    exact ⟨ret_int HF.out.symm, HB⟩
  · have HF : Hid (factF g 11 v port = port) := rfl
    clear hI hP hb hp hop
    go_enter Tryz.func69, Tryz.ntmps69
    go_wp2
    go_ret
    exact ⟨ret_int HF.out.symm, HB⟩
  · obtain ⟨q, rfl, hq⟩ := hp (hb (by unfold nearOp; simp; omega))
    rw [getD_eq hv] at hq
    obtain ⟨e, t, ht, htl, _⟩ := link_at hg hv hq
    obtain ⟨b3, o3, rfl, hb3, hto, hwe⟩ := hL.at_ q hq
    have hti : t < g.ids.length := by rw [HID.out]; exact htl
    obtain ⟨b4, o4, e4, _, hid4⟩ := hI.at_ t hti
    obtain ⟨rfl, rfl⟩ : b1 = b4 ∧ o1 = o4 := by simpa using e4
    obtain ⟨b5, o5, R5, rc5, e5, _, hrow5, _, _, _⟩ := hP.at_ t htl
    obtain ⟨rfl, rfl⟩ : b2 = b5 ∧ o2 = o5 := by simpa using e5
    rw [ht] at hto
    have hdt : decide (t < g.ports.length) = true := by simpa using htl
    have hdti : decide (t < g.ids.length) = true := by simpa using hti
    have hdq : decide (q < g.ports[v].length) = true := by simpa using hq
    have HE := Lib.hid e
    have HT := Lib.hid ht
    clear hI hP hb hp hop e4 e5 e ht hL
    rcases hnear with rfl | rfl | rfl | rfl | rfl
    · have HF : Hid (factF g 13 v (q : Int) = g.ids[t]) := by show g.ids.getD (linkF g v q).to.toNat 0 = _; rw [HE.out, HT.out, Int.toNat_natCast, getD_eq hti]
      go_enter Tryz.func69, Tryz.ntmps69
      go_wp2
      go_ret
      exact ⟨ret_int HF.out.symm, HB⟩
    · have HF : Hid (factF g 14 v (q : Int) = (g.ports[t].length : Int)) := by show ((g.ports.getD (linkF g v q).to.toNat []).length : Int) = _; rw [HE.out, HT.out, Int.toNat_natCast, getD_eq htl]
      go_enter Tryz.func69, Tryz.ntmps69
      go_wp2
      go_ret
      exact ⟨ret_int HF.out.symm, HB⟩
    · have HF : Hid (factF g 15 v (q : Int) = truthI (decide ((t : Int) = 0))) := by show truthI (decide ((linkF g v q).to = 0)) = _; rw [HE.out, HT.out]
      obtain ⟨z, hz⟩ : ∃ z, decide ((t : Int) = 0) = z := ⟨_, rfl⟩
      rw [hz] at HF
      have hz1 : ((t : Int) == 0) = z := by rw [← hz, Bool.eq_iff_iff]; simp
      have hz2 : (t == 0) = z := by rw [← hz, Bool.eq_iff_iff]; simp
      clear hz
      go_enter Tryz.func69, Tryz.ntmps69
      go_wp2_with (go_at_call 79; refine (refTruth_any _ _).mono ?_; rintro e w' ⟨rfl, rfl⟩)
      go_ret
      exact ⟨ret_int HF.out.symm, HB⟩
    · have HF : Hid (factF g 16 v (q : Int) = g.ports[v][q].weight) := by show (linkF g v q).weight = _; rw [HE.out]
      go_enter Tryz.func69, Tryz.ntmps69
      go_wp2
      go_ret
      exact ⟨ret_int HF.out.symm, HB⟩
    · have HF : Hid (factF g 17 v (q : Int) = portF g.ports[t] v) := by show portF (g.ports.getD (linkF g v q).to.toNat []) v = _; rw [HE.out, HT.out, Int.toNat_natCast, getD_eq htl]
      go_enter Tryz.func69, Tryz.ntmps69
      go_wp2_with (go_at_call 119; refine (port01_any _ g t (v : Int) _ (HGV.out _ HB) htl).mono ?_; rintro e w' ⟨rfl, hbb⟩; replace HB := HB.trans hbb; clear hbb)
      go_ret
      exact ⟨ret_int HF.out.symm, HB⟩

theorem leaf_op {op : Int} (h : 1 ≤ op ∧ op ≤ 17) : (op = 1 ∨ op = 2 ∨ op = 3 ∨ op = 4) ∨ op = 5 ∨ op = 12 ∨ (6 ≤ op ∧ op ≤ 17 ∧ op ≠ 12) := by omega


end Go.Proofs.YtaifafljakojnaaGreat

