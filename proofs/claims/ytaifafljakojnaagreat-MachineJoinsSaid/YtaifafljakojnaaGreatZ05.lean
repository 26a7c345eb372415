/- Merged of: WGd WGb WGe Steps (see NOTES.md). -/
import Derived.Test.YtaifafljakojnaaGreatZ04
import Derived.Deep.RegionHeld3
import Derived.Deep.WholeRow
import Derived.Laws.OwnMore
import Derived.Laws.CopyOwn
set_option linter.unusedSimpArgs false
set_option linter.unnecessarySimpa false
set_option linter.unusedVariables false

/- Contracts of the reference's linksValid and Valid on graphs. -/
namespace Go.Proofs.YtaifafljakojnaaGreat
open Go.RowKit

theorem linksOK_bad {n v : Nat} {ls : List Link} {i : Nat} (h : i < ls.length) (hb : linkOK n v ls[i] = false) : linksOK n v ls = false := by
  unfold linksOK; rw [all_false_at h hb]; rfl
theorem linksOK_dup {n v : Nat} {ls : List Link} {j i : Nat} (hj : j < i) (h : i < ls.length) (he : ls[j].to = ls[i].to) : linksOK n v ls = false := by
  unfold linksOK
  have : decide ((ls.map Link.to).Nodup) = false := by
    simp only [decide_eq_false_iff_not]
    exact not_nodup hj (by simpa using h) (by simpa using he)
  rw [this]; simp

set_option maxRecDepth 100000 in
set_option maxHeartbeats 1000000 in
theorem linksValid_any (A : Option Addr) (c : Nat) (ls : List Link) (v n : Nat) (w : World) (h : LinksR w A ls.length ls) (hl : ls.length ≤ 1000000) (hn : n ≤ 1000000) :
    Calls Tryz.prog 147 #[.slice A ls.length c, .int .i64 v, .int .i64 n] w fun e w' => e = .returned (.bool (linksOK n v ls)) ∧ Bel w w' := by
  have H := Lib.hid (fun w' (k : Bel w w') => LinksR.keep h k); clear h
  go_enter Tryz.func147, Tryz.ntmps147
  go_wp2
  go_loopg [7, 8] ls.length (fun m x _y wr => ∃ j : Nat, j ≤ ls.length ∧ m = ls.length - j ∧ Hid ((ls.take j).all (linkOK n v) = true ∧ ((ls.map Link.to).take j).Nodup) ∧ x = .int .i64 j ∧ Bel w wr)
  case atStart => exact ⟨0, by omega, rfl, ⟨rfl, by simp⟩, rfl, Bel.refl _⟩
  case round =>
    obtain ⟨i, hi, rfl, HK, rfl, HB⟩ := hrel
    by_cases hlt : i < ls.length
    · obtain ⟨b, o, rfl, hb, hl1, hl2⟩ := (H.out _ HB).at_ i hlt
      cases hok : linkOK n v ls[i] with
      | false =>
        have HF := Lib.hid (linksOK_bad hlt hok)
        have HO := Lib.hid hok; clear hok
        go_wp2_with (go_at_call 31; refine (in01_any _ _ _ _).mono ?_; rintro e w' ⟨rfl, rfl⟩)
        all_goals first
          | (go_ret; exact ⟨ret_bool HF.out.symm, HB⟩)
          | (exfalso
             have a1 : inB ls[i].to 0 (↑n - 1) = true := by assumption
             obtain ⟨a2, a3'⟩ : (ls[i].to == (v : Int)) = false ∧ (!inB ls[i].weight 1 15) = false := by assumption
             have a3 : inB ls[i].weight 1 15 = true := by simpa using a3'
             rw [inB_iff] at a1 a3
             have a4 : ls[i].to ≠ (v : Int) := by simpa using a2
             have := HO.out
             rw [linkOK_iff.2 ⟨by omega, by omega, a4, by omega, by omega⟩] at this
             cases this)
      | true =>
        obtain ⟨q1, q2, q3, q4, q5⟩ := linkOK_iff.1 hok
        have a1 : inB ls[i].to 0 (↑n - 1) = true := inB_true (by omega) (by omega)
        have a2 : (ls[i].to == (v : Int)) = false := by simpa using q3
        have a3 : inB ls[i].weight 1 15 = true := inB_true (by omega) (by omega)
        have HO := Lib.hid hok; clear hok q3
        go_wp2_with (go_at_call 31; refine (in01_any _ _ _ _).mono ?_; rintro e w' ⟨rfl, rfl⟩)
        clear a1 a2 a3
        go_loopg [8] i (fun m x ws => ∃ j : Nat, j ≤ i ∧ m = i - j ∧ Hid (∀ q, (hq : q < j) → (hq' : q < ls.length) → ls[q].to ≠ ls[i].to) ∧ x = .int .i64 j ∧ Bel wr ws)
        case atStart => exact ⟨0, by omega, rfl, fun q hq => absurd hq (by omega), rfl, Bel.refl _⟩
        case round =>
          obtain ⟨j, hj, rfl, HJ, rfl, HB2⟩ := hrel
          by_cases hlt2 : j < i
          · have hji : j < ls.length := by omega
            obtain ⟨b', o', e', hb', hj1, _⟩ := (H.out _ (HB.trans HB2)).at_ j hji
            obtain ⟨rfl, rfl⟩ : b = b' ∧ o = o' := by simpa using e'
            clear e'
            have hi1 := (HB2.cell hb).trans hl1
            have hd : decide (j < i) = true := by simpa using hlt2
            go_wp2
            go_quiet (fail)
            go_wp2
            · have he : (ls[j].to == ls[i].to) = true := by assumption
              go_ret
              exact ⟨ret_bool (linksOK_dup hlt2 hlt (by simpa using he)).symm, (HB.trans HB2).drewN _⟩
            · have he : (ls[j].to == ls[i].to) = false := by assumption
              go_roundg (i - (j + 1))
              case rel =>
                refine ⟨j + 1, by omega, rfl, ?_, by go_num, HB2.drewN _⟩
                intro q hq hq'
                rcases Nat.lt_or_ge q j with h | h
                · exact HJ.out q h hq'
                · obtain rfl : q = j := by omega
                  simpa using he
              case measure => omega
          · have hd : decide (j < i) = false := by simpa using hlt2
            go_wp2
            go_roundg (ls.length - (i + 1))
            case rel =>
              refine ⟨i + 1, by omega, rfl, ⟨all_take_succ hlt HK.out.1 HO.out, nodup_take_succ (by simpa using hlt) HK.out.2 ?_⟩, by go_num, HB.trans HB2⟩
              intro q hq
              have := HJ.out q (by omega) (by omega)
              simpa using this
            case measure => omega
    · go_wp2
      go_ret
      refine ⟨ret_bool ?_, HB⟩
      symm
      rw [linksOK_iff]
      have h1 := HK.out
      rw [List.take_of_length_le (by omega), List.take_of_length_le (by simp; omega)] at h1
      exact ⟨List.all_eq_true.1 h1.1, h1.2⟩

end Go.Proofs.YtaifafljakojnaaGreat

/- Contracts: Terms, Quick and what the laws ask ahead of their walks. -/
namespace Go.Proofs.YtaifafljakojnaaGreat
open Go.RowKit

def termsR (r : Rule) : Nat := r.guard.length + (r.sets.map (fun s => s.value.length)).sum
def termsF (p : Prg) : Nat := (p.rules.map termsR).sum
theorem sum_take_succ {α : Type} (f : α → Nat) (l : List α) (k : Nat) (h : k < l.length) : ((l.take (k + 1)).map f).sum = ((l.take k).map f).sum + f l[k] := by
  rw [List.take_succ_eq_append_getElem h, List.map_append, List.sum_append]; simp
theorem sum_le_mul {α : Type} (f : α → Nat) (l : List α) (b : Nat) (h : ∀ x ∈ l, f x ≤ b) : (l.map f).sum ≤ l.length * b := by
  induction l with
  | nil => simp
  | cons x l ih =>
    have h1 := h x (by simp)
    have h2 := ih (fun y hy => h y (by simp [hy]))
    simp only [List.map_cons, List.sum_cons, List.length_cons, Nat.add_mul]
    omega
theorem termsR_le {r : Rule} (h : lightR r = true) : termsR r ≤ 2750 := by
  unfold lightR at h
  simp at h
  obtain ⟨⟨⟨h1, h2⟩, h3⟩, h4⟩ := h
  have := sum_le_mul (fun s : SetT => s.value.length) r.sets 250 h4
  unfold termsR
  have : r.sets.length * 250 ≤ 2500 := by omega
  omega
theorem lightP_parts {p : Prg} (h : lightP p = true) : p.name.size ≤ 40 ∧ p.vars.length ≤ 10 ∧ p.rules.length ≤ 16 ∧ (∀ x ∈ p.vars, x.name.size ≤ 40) ∧ (∀ r ∈ p.rules, lightR r = true) := by
  unfold lightP at h
  simp at h
  obtain ⟨⟨⟨⟨h1, h2⟩, h3⟩, h4⟩, h5⟩ := h
  exact ⟨h1, h2, h3, h4, h5⟩
theorem lightR_parts {r : Rule} (h : lightR r = true) : r.name.size ≤ 40 ∧ r.sets.length ≤ 10 ∧ r.guard.length ≤ 250 ∧ ∀ s ∈ r.sets, s.value.length ≤ 250 := by
  unfold lightR at h
  simp at h
  obtain ⟨⟨⟨h1, h2⟩, h3⟩, h4⟩ := h
  exact ⟨h1, h2, h3, h4⟩
theorem termsF_le {p : Prg} (h : lightP p = true) : termsF p ≤ 44000 := by
  obtain ⟨_, _, h3, _, h5⟩ := lightP_parts h
  have := sum_le_mul termsR p.rules 2750 (fun r hr => termsR_le (h5 r hr))
  unfold termsF
  have : p.rules.length * 2750 ≤ 44000 := by omega
  omega
theorem lightG_parts {g : Graph} (h : lightG g = true) : g.ids.length ≤ 30 ∧ g.ports.length ≤ 30 ∧ ∀ r ∈ g.ports, r.length ≤ 30 := by
  unfold lightG at h
  simp at h
  obtain ⟨⟨h1, h2⟩, h3⟩ := h
  exact ⟨h1, h2, h3⟩
theorem degreesF_le {g : Graph} (h : lightG g = true) : 1 ≤ degreesF g ∧ degreesF g ≤ 30 := by
  obtain ⟨_, _, h3⟩ := lightG_parts h
  refine ⟨foldl_nmax_ge _ _, foldl_nmax_le _ _ _ (by omega) ?_⟩
  intro x hx
  obtain ⟨r, hr, rfl⟩ := List.mem_map.1 hx
  exact h3 r hr

set_option maxRecDepth 100000 in
set_option maxHeartbeats 1000000 in
theorem terms_any (v : Value) (p : Prg) (w : World) (h : PrgV w v p) (hlight : lightP p = true) :
    Calls Tryz.prog 49 #[v] w fun e w' => e = .returned (.int .i64 (termsF p : Nat)) ∧ Bel w w' := by
  obtain ⟨A, k, A2, k2, rfl, _, _, _, hr, _, _⟩ := h
  obtain ⟨_, _, hp3, _, hp5⟩ := lightP_parts hlight
  have HP := Lib.hid hp5; clear hp5 hlight
  have HR := Lib.hid hr; clear hr
  go_enter Tryz.func49, Tryz.ntmps49
  go_wp2
  go_loopg [3, 4, 5] p.rules.length (fun m s i _z wr => ∃ j : Nat, j ≤ p.rules.length ∧ m = p.rules.length - j ∧ s = .int .i64 ((((p.rules.take j).map termsR).sum : Nat) : Int) ∧ ((p.rules.take j).map termsR).sum ≤ j * 2750 ∧ i = .int .i64 j ∧ w.alloc (.cells #[.string p.name, .slice A p.vars.length k, .slice A2 p.rules.length k2] 26) = wr)
  case atStart => exact ⟨0, by omega, rfl, rfl, by simp, rfl, rfl⟩
  case round =>
    obtain ⟨i, hi, rfl, rfl, hsum, rfl, rfl⟩ := hrel
    by_cases hlt : i < p.rules.length
    · obtain ⟨b, o, G, c, S, c2, rfl, hb, hc1, hc2, hc3, _, _, _, hS, _, _⟩ := HR.out.at_ i hlt
      have HS := Lib.hid hS; clear hS
      have hL := HP.out p.rules[i] (List.getElem_mem hlt)
      obtain ⟨_, hr2, hr3, hr4⟩ := lightR_parts hL
      have H4 := Lib.hid hr4; clear hr4
      have hT := termsR_le hL
      have HT : Hid (∀ t, ((p.rules[i].sets.take p.rules[i].sets.length).map (fun s => s.value.length)).sum = t → ((p.rules.take i).map termsR).sum + p.rules[i].guard.length + t = ((p.rules.take (i + 1)).map termsR).sum) := by
        intro t ht
        rw [List.take_of_length_le (Nat.le_refl _)] at ht
        rw [sum_take_succ termsR _ _ hlt]
        unfold termsR at *
        omega
      have hsum2 : Hid (((p.rules.take (i + 1)).map termsR).sum ≤ (i + 1) * 2750) := by
        show ((p.rules.take (i + 1)).map termsR).sum ≤ (i + 1) * 2750
        rw [sum_take_succ termsR _ _ hlt]; omega
      clear hL hT
      generalize ((p.rules.take i).map termsR).sum = N at *
      go_wp2
      go_loopg [3, 5] p.rules[i].sets.length (fun m s x ws => ∃ j : Nat, j ≤ p.rules[i].sets.length ∧ m = p.rules[i].sets.length - j ∧ s = .int .i64 ((N + p.rules[i].guard.length + ((p.rules[i].sets.take j).map (fun s => s.value.length)).sum : Nat) : Int) ∧ ((p.rules[i].sets.take j).map (fun s => s.value.length)).sum ≤ j * 250 ∧ x = .int .i64 j ∧ w.alloc (.cells #[.string p.name, .slice A p.vars.length k, .slice (some ⟨b, o, none⟩) p.rules.length k2] 26) = ws)
      case atStart => exact ⟨0, by omega, rfl, by simp, by simp, rfl, rfl⟩
      case round =>
        obtain ⟨q, hq, rfl, rfl, hs2, rfl, rfl⟩ := hrel
        by_cases hlt2 : q < p.rules[i].sets.length
        · obtain ⟨b', o', R, c', rfl, hb', hs1, hs3, _, _, _⟩ := HS.out.at_ q hlt2
          have hv := H4.out _ (List.getElem_mem hlt2)
          have hss := Lib.hid (sum_take_succ (fun s : SetT => s.value.length) _ _ hlt2)
          generalize hg : ((p.rules[i].sets.take q).map (fun s => s.value.length)).sum = M at *
          clear hg
          go_wp2
          go_roundg (p.rules[i].sets.length - (q + 1))
          case rel => exact ⟨q + 1, by omega, rfl, by rw [hss.out]; go_num, by rw [hss.out]; omega, by go_num, rfl⟩
          case measure => omega
        · have e : q = p.rules[i].sets.length := by omega
          have HQ := Lib.hid (HT.out _ (by rw [← e]))
          clear e
          generalize hg : ((p.rules[i].sets.take q).map (fun s => s.value.length)).sum = M at *
          clear hg
          go_wp2
          go_roundg (p.rules.length - (i + 1))
          case rel => exact ⟨i + 1, by omega, rfl, by rw [← HQ.out], hsum2.out, by go_num, rfl⟩
          case measure => omega
    · go_wp2
      go_ret
      exact ⟨ret_int (by unfold termsF; rw [List.take_of_length_le (by omega)]), (Bel.refl _).alloc _⟩

def quickF (p : Prg) (g : Graph) : Bool := lightP p && lightG g && decide (termsF p * g.ports.length * degreesF g * degreesF g ≤ 100000)

theorem wrap_mul {a b : Nat} {x y : Nat} (ha : a ≤ x) (hb : b ≤ y) (h : x * y ≤ 9223372036854775807) : IntKind.i64.wrap ((a : Int) * (b : Int)) = ((a * b : Nat) : Int) := by
  have h1 : a * b ≤ x * y := Nat.mul_le_mul ha hb
  rw [← Int.natCast_mul]
  exact IntWalk.i64_in _ (by omega)

set_option maxRecDepth 100000 in
set_option maxHeartbeats 1000000 in
theorem quick_any (v : Value) (p : Prg) (v2 : Value) (g : Graph) (w : World) (h : PrgV w v p) (h2 : GraphV w v2 g) :
    Calls Tryz.prog 24 #[v, v2] w fun e w' => e = .returned (.bool (quickF p g)) ∧ Bel w w' := by
  have HP := Lib.hid (fun w' (k : Bel w w') => h.keep k)
  have HG := Lib.hid (fun w' (k : Bel w w') => h2.keep k)
  obtain ⟨A, k, A2, k2, rfl, _, _, _, _, _, _⟩ := h
  obtain ⟨A3, k3, A4, k4, rfl, _, _, _, _, _, _⟩ := h2
  have HW := Bel.refl ((w.alloc (.cells #[.string p.name, .slice A p.vars.length k, .slice A2 p.rules.length k2] 26)).alloc (.cells #[.slice A3 g.ids.length k3, .slice A4 g.ports.length k4] 30))
  cases hlp : lightP p with
  | false =>
    have HF : Hid (quickF p g = false) := by show quickF p g = false; simp [quickF, hlp]
    go_enter Tryz.func24, Tryz.ntmps24
    go_wp2_with (go_at_call 47; refine (lightProgram_any _ p _ (HP.out _ (box2_bel HW))).mono ?_; rintro e w' ⟨rfl, hb⟩; replace HW := HW.trans hb; clear hb)
    go_ret
    exact ⟨ret_bool HF.out.symm, box2_bel HW⟩
  | true =>
    cases hlg : lightG g with
    | false =>
      have HF : Hid (quickF p g = false) := by show quickF p g = false; simp [quickF, hlg]
      go_enter Tryz.func24, Tryz.ntmps24
      go_wp2_with (first
        | (go_at_call 47; refine (lightProgram_any _ p _ (HP.out _ (box2_bel HW))).mono ?_; rintro e w' ⟨rfl, hb⟩; replace HW := HW.trans hb; clear hb; obtain ⟨p0, p1, p2, g0, g1, gsz⟩ := pgbox HW)
        | (go_at_call 48; refine (lightGraph_any _ g _ (HG.out _ (box2_bel HW))).mono ?_; rintro e w2 ⟨rfl, hb⟩; replace HW := HW.trans hb; clear hb))
      go_ret
      exact ⟨ret_bool HF.out.symm, box2_bel HW⟩
    | true =>
      have hT := termsF_le hlp
      have hD := degreesF_le hlg
      have hN := (lightG_parts hlg).2.1
      have w1 := wrap_mul hT hN (by decide)
      have w2 := wrap_mul (Nat.mul_le_mul hT hN) hD.2 (by decide)
      have w3 := wrap_mul (Nat.mul_le_mul (Nat.mul_le_mul hT hN) hD.2) hD.2 (by decide)
      have HF : Hid (quickF p g = decide (termsF p * g.ports.length * degreesF g * degreesF g ≤ 100000)) := by show quickF p g = _; simp [quickF, hlp, hlg]
      have HL := Lib.hid hlp
      have W2 := Lib.hid w2; have W3 := Lib.hid w3
      rw [← Int.natCast_mul] at W2 W3
      clear hT hD hN w2 w3
      go_enter Tryz.func24, Tryz.ntmps24
      go_wp2_with (first
        | (go_at_call 47; refine (lightProgram_any _ p _ (HP.out _ (box2_bel HW))).mono ?_; rintro e w' ⟨rfl, hb⟩; replace HW := HW.trans hb; clear hb; obtain ⟨p0, p1, p2, g0, g1, gsz⟩ := pgbox HW)
        | (go_at_call 48; refine (lightGraph_any _ g _ (HG.out _ (box2_bel HW))).mono ?_; rintro e w2 ⟨rfl, hb⟩; replace HW := HW.trans hb; clear hb p0 p1 p2 g0 g1 gsz; obtain ⟨p0, p1, p2, g0, g1, gsz⟩ := pgbox HW)
        | (go_at_call 19; refine (degrees_any _ g _ (HG.out _ (box2_bel HW))).mono ?_; rintro e w2 ⟨rfl, hb⟩; replace HW := HW.trans hb; clear hb p0 p1 p2 g0 g1 gsz; obtain ⟨p0, p1, p2, g0, g1, gsz⟩ := pgbox HW))
      replace HW := HW.drew
      go_region_held3 (fun w' => w'.cell? ⟨w.heap.size, 0, none⟩ = some (.string p.name) ∧ w'.cell? ⟨w.heap.size, 1, none⟩ = some (.slice A p.vars.length k) ∧ w'.cell? ⟨w.heap.size, 2, none⟩ = some (.slice A2 p.rules.length k2) ∧ w'.cell? ⟨w.heap.size + 1, 0, none⟩ = some (.slice A3 g.ids.length k3) ∧ w'.cell? ⟨w.heap.size + 1, 1, none⟩ = some (.slice A4 g.ports.length k4) ∧ w.heap.size + 1 < w'.heap.size) (exact pgbox HW) (first | (go_simp; go_at_call 49; refine (terms_any _ p _ (HP.out _ (box2_bel HW)) HL.out).mono ?_; rintro e w4 ⟨rfl, hb⟩; replace HW := HW.trans hb; clear hb))
      all_goals
        go_wp2
        go_ret
        refine ⟨ret_bool ?_, box2_bel HW⟩
        rw [HF.out, Bool.eq_iff_iff]
        simp only [decide_eq_true_eq, ← Int.natCast_mul]
        rw [W2.out, ← Int.natCast_mul, W3.out]; omega

end Go.Proofs.YtaifafljakojnaaGreat

/- Contract of the reference's Valid on graphs. -/
namespace Go.Proofs.YtaifafljakojnaaGreat
open Go.RowKit

theorem graphB_false {g : Graph} (h : ¬ GOK g) : graphB g = false := by
  rw [Bool.eq_false_iff]; intro hb; exact h ((graphB_iff g).1 hb)

set_option maxRecDepth 100000 in
set_option maxHeartbeats 4000000 in
theorem refGraphValid_any (v : Value) (g : Graph) (w : World) (h : GraphV w v g) (hlg : lightG g = true) :
    Calls Tryz.prog 117 #[v] w fun e w' => e = .returned (.bool (graphB g)) ∧ Bel w w' := by
  have HG := Lib.hid (fun w' (k : Bel w w') => h.keep k)
  obtain ⟨A, k, A2, k2, rfl, hI, _, _, hP, _, _⟩ := h
  have HI := Lib.hid (fun w' (k : Bel w w') => IntsR.keep hI k); clear hI
  have HP := Lib.hid (fun w' (k : Bel w w') => PortsR.keep hP k); clear hP
  obtain ⟨hl1, hl2, hl3⟩ := lightG_parts hlg
  have HL3 := Lib.hid hl3; clear hl3 hlg
  by_cases hn : 1 ≤ g.ports.length ∧ g.ports.length ≤ 24 ∧ g.ids.length = g.ports.length
  · obtain ⟨hn1, hn2, hn3⟩ := hn
    have hb1 : inB (g.ports.length : Int) 1 24 = true := inB_true (by omega) (by omega)
    rw [hn3] at HI HG ⊢
    have HN := Lib.hid hn3; clear hn3
    have hb2 : (g.ports.length != g.ports.length) = false := by simp
    have HW := Bel.refl (w.alloc (.cells #[.slice A g.ports.length k, .slice A2 g.ports.length k2] 30))
    go_enter Tryz.func117, Tryz.ntmps117
    go_wp2_with (go_at_call 31; refine (in01_any _ _ _ _).mono ?_; rintro e w' ⟨rfl, rfl⟩)
    clear hb1 hb2
    go_loopg [4, 5] g.ports.length (fun m x _y wr => ∃ j : Nat, j ≤ g.ports.length ∧ m = g.ports.length - j ∧ Hid ((g.ids.take j).all (fun i => decide (0 ≤ i ∧ i ≤ 255)) = true ∧ (g.ids.take j).Nodup ∧ ∀ q, q < j → (hq : q < g.ports.length) → linksOK g.ports.length q g.ports[q] = true) ∧ x = .int .i64 j ∧ Bel (w.alloc (.cells #[.slice A g.ports.length k, .slice A2 g.ports.length k2] 30)) wr)
    case atStart => exact ⟨0, by omega, rfl, ⟨rfl, by simp, fun q hq => absurd hq (by omega)⟩, rfl, HW⟩
    case round =>
      clear HW
      obtain ⟨i, hi, rfl, HK, rfl, HB⟩ := hrel
      have b0 := box_cell HB 0 rfl
      have b1 := box_cell HB 1 rfl
      have bs := box_lt HB
      by_cases hlt : i < g.ports.length
      · have hd0 : decide (i < g.ports.length) = true := by simpa using hlt
        have hlt' : i < g.ids.length := by rw [HN.out]; exact hlt
        obtain ⟨b, o, rfl, hb, hid⟩ := (HI.out _ (box_bel HB)).at_ i hlt'
        obtain ⟨b', o', R, c', rfl, hb', hrow, hL, _, _⟩ := (HP.out _ (box_bel HB)).at_ i hlt
        have HL := Lib.hid hL; clear hL
        have hle := HL3.out g.ports[i] (List.getElem_mem hlt)
        cases hio : decide (0 ≤ g.ids[i] ∧ g.ids[i] ≤ 255) with
        | false =>
          have hio' := of_decide_eq_false hio
          have HF : Hid (graphB g = false) := graphB_false fun hg => hio' (hg.idr _ (List.getElem_mem hlt'))
          have hin : inB g.ids[i] 0 255 = false := inB_false (by omega)
          clear hio hio'
          go_wp2_with (go_at_call 31; refine (in01_any _ _ _ _).mono ?_; rintro e w' ⟨rfl, rfl⟩)
          go_ret
          exact ⟨ret_bool HF.out.symm, box_bel HB⟩
        | true =>
          have hio' := of_decide_eq_true hio
          have hin : inB g.ids[i] 0 255 = true := inB_true hio'.1 hio'.2
          have HIO := Lib.hid hio
          clear hio hio'
          cases hok : linksOK g.ports.length i g.ports[i] with
          | false =>
            have HF : Hid (graphB g = false) := graphB_false fun hg => by have := hg.links i hlt; rw [hok] at this; cases this
            by_cases hge : g.ports.length ≤ g.ports[i].length
            · have hd : decide (g.ports.length ≤ g.ports[i].length) = true := by simpa using hge
              go_wp2_with (go_at_call 31; refine (in01_any _ _ _ _).mono ?_; rintro e w' ⟨rfl, rfl⟩)
              go_ret
              exact ⟨ret_bool HF.out.symm, box_bel HB⟩
            · have hd : decide (g.ports.length ≤ g.ports[i].length) = false := by simpa using hge
              go_wp2_with (first
                | (go_at_call 31; refine (in01_any _ _ _ _).mono ?_; rintro e w' ⟨rfl, rfl⟩)
                | (go_at_call 147; refine (linksValid_any _ _ g.ports[i] i g.ports.length _ HL.out (by omega) (by omega)).mono ?_; rintro e w' ⟨rfl, hbb⟩; replace HB := HB.trans hbb; clear hbb))
              go_ret
              exact ⟨ret_bool HF.out.symm, box_bel HB⟩
          | true =>
            have hge := linksOK_len hlt hok
            have hd : decide (g.ports.length ≤ g.ports[i].length) = false := by simp; omega
            have HOK := Lib.hid hok
            go_wp2_with (first
              | (go_at_call 31; refine (in01_any _ _ _ _).mono ?_; rintro e w' ⟨rfl, rfl⟩)
              | (go_at_call 147; refine (linksValid_any _ _ g.ports[i] i g.ports.length _ HL.out (by omega) (by omega)).mono ?_; rintro e w' ⟨rfl, hbb⟩; replace HB := HB.trans hbb; clear hbb hb hb' hid hrow; clear HL b0 b1 bs; have b0 := box_cell HB 0 rfl; have b1 := box_cell HB 1 rfl; have bs := box_lt HB))
            clear hok hin hd hd0 hge hle
            go_loopg [5] i (fun m x ws => ∃ j : Nat, j ≤ i ∧ m = i - j ∧ Hid (∀ q, (hq : q < j) → (hq' : q < g.ids.length) → g.ids[q] ≠ g.ids[i]) ∧ x = .int .i64 j ∧ Bel (w.alloc (.cells #[.slice (some ⟨b, o, none⟩) g.ports.length k, .slice (some ⟨b', o', none⟩) g.ports.length k2] 30)) ws)
            case atStart => exact ⟨0, by omega, rfl, fun q hq => absurd hq (by omega), rfl, HB⟩
            case round =>
              clear HB b0 b1 bs
              obtain ⟨j, hj, rfl, HJ, rfl, HB⟩ := hrel
              have b0 := box_cell HB 0 rfl
              have bs := box_lt HB
              by_cases hlt2 : j < i
              · have hji : j < g.ids.length := by omega
                have hjn : j < g.ports.length := by omega
                obtain ⟨b2, o2, e2, hb2, hj1⟩ := (HI.out _ (box_bel HB)).at_ j hji
                obtain ⟨rfl, rfl⟩ : b = b2 ∧ o = o2 := by simpa using e2
                obtain ⟨b2, o2, e2, _, hi1⟩ := (HI.out _ (box_bel HB)).at_ i hlt'
                obtain ⟨rfl, rfl⟩ : b = b2 ∧ o = o2 := by simpa using e2
                clear e2
                have hd : decide (j < i) = true := by simpa using hlt2
                go_wp2
                go_quiet (fail)
                go_wp2
                · have he : (g.ids[j] == g.ids[i]) = true := by assumption
                  go_ret
                  refine ⟨ret_bool ?_, (box_bel HB).drewN _⟩
                  symm
                  refine graphB_false fun hg => ?_
                  exact not_nodup hlt2 hlt' (by simpa using he) hg.idn
                · have he : (g.ids[j] == g.ids[i]) = false := by assumption
                  go_roundg (i - (j + 1))
                  case rel =>
                    refine ⟨j + 1, by omega, rfl, ?_, by go_num, HB.drewN _⟩
                    intro q hq hq'
                    rcases Nat.lt_or_ge q j with h | h
                    · exact HJ.out q h hq'
                    · obtain rfl : q = j := by omega
                      simpa using he
                  case measure => omega
              · have hd : decide (j < i) = false := by simpa using hlt2
                go_wp2
                go_roundg (g.ports.length - (i + 1))
                case rel =>
                  refine ⟨i + 1, by omega, rfl, ⟨all_take_succ hlt' HK.out.1 HIO.out, nodup_take_succ hlt' HK.out.2.1 (fun q hq => HJ.out q (by omega) (by omega)), ?_⟩, by go_num, HB⟩
                  intro q hq hq'
                  rcases Nat.lt_or_ge q i with h | h
                  · exact HK.out.2.2 q h hq'
                  · obtain rfl : q = i := by omega
                    exact HOK.out
                case measure => omega
      · have hd0 : decide (i < g.ports.length) = false := by simpa using hlt
        have HK1 : Hid (g.ids.all (fun i => decide (0 ≤ i ∧ i ≤ 255)) = true ∧ g.ids.Nodup ∧ ∀ q, (hq : q < g.ports.length) → linksOK g.ports.length q g.ports[q] = true) := by
          obtain ⟨a1, a2, a3⟩ := HK.out
          rw [List.take_of_length_le (by rw [HN.out]; omega)] at a1 a2
          exact ⟨a1, a2, fun q hq => a3 q (by omega) hq⟩
        clear HK
        go_wp2
        clear hd0
        go_loopg [6, 7, 8, 9] g.ports.length (fun m x _y _z _u ws => ∃ j : Nat, j ≤ g.ports.length ∧ m = g.ports.length - j ∧ Hid (∀ q, q < j → (hq : q < g.ports.length) → ∀ l ∈ g.ports[q], backOK g q l = true) ∧ x = .int .i64 j ∧ Bel (w.alloc (.cells #[.slice A g.ports.length k, .slice A2 g.ports.length k2] 30)) ws)
        case atStart => exact ⟨0, by omega, rfl, fun q hq => absurd hq (by omega), rfl, HB⟩
        case round =>
          clear HB b0 b1 bs hlt hi
          obtain ⟨v, hv, rfl, HQ, rfl, HB⟩ := hrel
          by_cases hlt : v < g.ports.length
          · have hd0 : decide (v < g.ports.length) = true := by simpa using hlt
            go_wp2
            clear hd0
            go_loopg [7, 8, 9] g.ports[v].length (fun m x _y _z ws => ∃ j : Nat, j ≤ g.ports[v].length ∧ m = g.ports[v].length - j ∧ Hid ((g.ports[v].take j).all (backOK g v) = true) ∧ x = .int .i64 j ∧ Bel (w.alloc (.cells #[.slice A g.ports.length k, .slice A2 g.ports.length k2] 30)) ws)
            case atStart => exact ⟨0, by omega, rfl, rfl, rfl, HB⟩
            case round =>
              clear HB
              obtain ⟨j, hj, rfl, HJ, rfl, HB⟩ := hrel
              have b0 := box_cell HB 0 rfl
              have b1 := box_cell HB 1 rfl
              have bs := box_lt HB
              obtain ⟨b', o', R, c', rfl, hb', hrow, hL, _, _⟩ := (HP.out _ (box_bel HB)).at_ v hlt
              have hle := HL3.out g.ports[v] (List.getElem_mem hlt)
              by_cases hlt2 : j < g.ports[v].length
              · obtain ⟨b2, o2, rfl, hb2, hto, hwe⟩ := hL.at_ j hlt2
                obtain ⟨hv1, hv2⟩ := linksOK_iff.1 (HK1.out.2.2 v hlt)
                obtain ⟨l1, l2, l3, l4, l5⟩ := linkOK_iff.1 (hv1 _ (List.getElem_mem hlt2))
                obtain ⟨t, ht⟩ := Int.eq_ofNat_of_zero_le l1
                have htl : t < g.ports.length := by omega
                have HBK : Hid (backOK g v g.ports[v][j] = (g.ports[t].any fun k => k.to == (v : Int) && k.weight == g.ports[v][j].weight)) := by
                  show backOK g v g.ports[v][j] = _
                  unfold backOK; rw [ht, Int.toNat_natCast, getD_eq htl]
                have hnd := (linksOK_iff.1 (HK1.out.2.2 t htl)).2
                rw [ht] at hto
                have HB2 := HB.alloc (.cells #[.int .i64 (t : Int), .int .i64 g.ports[v][j].weight] 62)
                clear hL hv1 hv2 l1 l2 l3 ht
                go_wp2_with fail
                refine (port01_any _ g t (v : Int) _ (HG.out _ (box_bel HB2)) htl).mono ?_
                rintro e w2 ⟨rfl, hbb⟩
                have bx0 := box_cell hbb 0 rfl
                have bx1 := box_cell hbb 1 rfl
                have bxs := box_lt hbb
                have hbw := box_bel hbb
                have b1' := (hbw.cell bs).trans b1
                have hrange := portF_range g.ports[t] (v : Int)
                by_cases hk : portF g.ports[t] (v : Int) < 0
                · have hd1 : decide (portF g.ports[t] (v : Int) < 0) = true := by simpa using hk
                  have HF : Hid (graphB g = false) := graphB_false fun hg => by
                    have := hg.back v hlt _ (List.getElem_mem hlt2)
                    rw [HBK.out, back_none hk] at this; cases this
                  go_wp2_with fail
                  go_quiet (fail)
                  go_wp2_with fail
                  go_ret
                  exact ⟨ret_bool HF.out.symm, ((box_bel HB).trans hbw).drewN _⟩
                · obtain ⟨q, hq, hqe, hqt⟩ := portF_some (Int.not_lt.1 hk)
                  rw [hqe]
                  have hd1 : decide ((q : Int) < 0) = false := by simp
                  have HW1 := Lib.hid (back_weight (x := g.ports[v][j].weight) hnd q hq hqt)
                  obtain ⟨b4, o4, R4, c4, e4, hb4, hrow4, hL4, _, _⟩ := (HP.out _ ((box_bel HB).trans hbw)).at_ t htl
                  obtain ⟨rfl, rfl⟩ : b' = b4 ∧ o' = o4 := by simpa using e4
                  obtain ⟨b5, o5, rfl, hb5, _, hwe5⟩ := hL4.at_ q hq
                  have hd2 : decide (t < g.ports.length) = true := by simpa using htl
                  clear e4 hL4 hk hrange hqe hqt hnd
                  go_wp2_with fail
                  go_quiet (fail)
                  go_wp2_with fail
                  · have he : (g.ports[t][q].weight != g.ports[v][j].weight) = true := by assumption
                    go_ret
                    refine ⟨ret_bool ?_, ((box_bel HB).trans hbw).drewN _⟩
                    symm
                    refine graphB_false fun hg => ?_
                    have := hg.back v hlt _ (List.getElem_mem hlt2)
                    rw [HBK.out, HW1.out] at this
                    simp at this he
                    exact he this
                  · have he : (g.ports[t][q].weight != g.ports[v][j].weight) = false := by assumption
                    go_roundg (g.ports[v].length - (j + 1))
                    case rel =>
                      refine ⟨j + 1, by omega, rfl, all_take_succ hlt2 HJ.out ?_, by go_num, (HB.trans hbw).drewN _⟩
                      rw [HBK.out, HW1.out]
                      simpa using he
                    case measure => omega
              · go_wp2
                go_roundg (g.ports.length - (v + 1))
                case rel =>
                  refine ⟨v + 1, by omega, rfl, ?_, by go_num, HB⟩
                  intro q hq hq'
                  rcases Nat.lt_or_ge q v with h | h
                  · exact HQ.out q h hq'
                  · obtain rfl : q = v := by omega
                    exact List.all_eq_true.1 (all_of_take (by omega) HJ.out)
                case measure => omega
          · have hd0 : decide (v < g.ports.length) = false := by simpa using hlt
            go_wp2
            go_ret
            refine ⟨ret_bool ?_, box_bel HB⟩
            symm
            rw [graphB_iff]
            refine ⟨hn1, hn2, HN.out, ?_, HK1.out.2.1, HK1.out.2.2, fun q hq => HQ.out q (by omega) hq⟩
            intro i hi
            have := List.all_eq_true.1 HK1.out.1 i hi
            simpa using this
  · have HF : Hid (graphB g = false) := graphB_false fun hg => hn ⟨hg.pos, hg.le, hg.ids⟩
    by_cases hn2 : 1 ≤ g.ports.length ∧ g.ports.length ≤ 24
    · have hb1 : inB (g.ports.length : Int) 1 24 = true := inB_true (by omega) (by omega)
      have hb2 : (g.ids.length != g.ports.length) = true := by simp; omega
      have hb3 : ((g.ids.length : Int) != (g.ports.length : Int)) = true := by simp; omega
      go_enter Tryz.func117, Tryz.ntmps117
      go_wp2_with (go_at_call 31; refine (in01_any _ _ _ _).mono ?_; rintro e w' ⟨rfl, rfl⟩)
      go_ret
      exact ⟨ret_bool HF.out.symm, (Bel.refl _).alloc _⟩
    · have hb1 : inB (g.ports.length : Int) 1 24 = false := inB_false (by omega)
      go_enter Tryz.func117, Tryz.ntmps117
      go_wp2_with (go_at_call 31; refine (in01_any _ _ _ _).mono ?_; rintro e w' ⟨rfl, rfl⟩)
      go_ret
      exact ⟨ret_bool HF.out.symm, (Bel.refl _).alloc _⟩

end Go.Proofs.YtaifafljakojnaaGreat

/- Laws of single operations, in the form in which a region that draws its order meets them: make, a struct that is built, a whole row that is stored. -/
namespace Go.Proofs.YtaifafljakojnaaGreat
open Go.RowKit

section
variable {P : Program}
theorem wp_build_is {o : Oper} {a : Act} {w : World} {K : Act → World → Prop} {Q : Exit → Act → World → Prop} (t : TypeId) (parts : Array (Nat × Operand)) (ho : o.op = .build t parts) (cells : Array Value)
    (hb : P.built t (parts.map fun (i, x) => (i, a.eval x)).toList = some cells) (h : K (a.put o.dst (.agg cells)) w) : o.wp P a w K Q :=
  wp_build t parts ho (by rw [hb]; rfl) (by rw [hb]; exact h)
theorem step_build {ops : Array Oper} {o : Oper} {a : Act} {w : World} {K : Act → World → Prop} {Q : Exit → Act → World → Prop} {E : Prop} (hgd : o.guard = none) (t : TypeId) (parts : Array (Nat × Operand)) (ho : o.op = .build t parts) (cells : Array Value)
    (hb : P.built t (parts.map fun (i, x) => (i, a.eval x)).toList = some cells) (h : K (a.put o.dst (.agg cells)) w) : if Region.wanted o (yielded ops a.tmps) = true then Oper.wp P o a w K Q else E := by
  have hw : Region.wanted o (yielded ops a.tmps) = true := by simp [Region.wanted, hgd]
  rw [if_pos hw]
  exact wp_build_is t parts ho cells hb h
theorem step_storeRow {ops : Array Oper} {o : Oper} {a : Act} {w : World} {K : Act → World → Prop} {Q : Exit → Act → World → Prop} {E : Prop} (hgd : o.guard = none) (ty : TypeId) (x y : Operand) (ho : o.op = .store ty x y)
    (g : Nat) (cells : Array Value) (hx : a.eval x = .pointer (some ⟨g, 0, none⟩)) (hy : a.eval y = .agg cells)
    (t : TypeId) (old : Array Value) (hg : w.heap[g]? = some (.cells old t (0, 0))) (hi : (P.info? ty).map (·.size) = some cells.size)
    (hold : old.size = cells.size) (h1 : cells.all (·.oneCell') = true) (h : K (a.put o.dst undef) (w.setRow g cells)) :
    if Region.wanted o (yielded ops a.tmps) = true then Oper.wp P o a w K Q else E := by
  have hw : Region.wanted o (yielded ops a.tmps) = true := by simp [Region.wanted, hgd]
  rw [if_pos hw]
  exact wp_store_row ty x y ho g cells hx hy t old hg hi hold h1 h

theorem step_alloc {ops : Array Oper} {o : Oper} {a : Act} (w : World) {K : Act → World → Prop} {Q : Exit → Act → World → Prop} {E : Prop} (hgd : o.guard = none) (t : TypeId) (ho : o.op = .alloc t) (cs : Array Value)
    (hr : (Instr.alloc t true (.tuple #[])).run P w = .ok (.pointer (some ⟨w.heap.size, 0, none⟩)) (w.alloc (.cells cs t)))
    (h : ∀ g w', w.heap.size ≤ g → Blk w' g cs t → Bel w w' → K (a.put o.dst (.pointer (some ⟨g, 0, none⟩))) w') : if Region.wanted o (yielded ops a.tmps) = true then Oper.wp P o a w K Q else E := by
  have hw : Region.wanted o (yielded ops a.tmps) = true := by simp [Region.wanted, hgd]
  rw [if_pos hw]
  unfold Oper.wp execOp
  simp only [ho, hr, Sem.run_bind, Result.andThen_ok, Sem.run_pure]
  exact h _ _ (Nat.le_refl _) (Blk.new _ _ _) ((Bel.refl w).alloc _)
/-- A whole row stored into a block of the call's own. -/
theorem Blk.row {w : World} {B : Nat} {cs : Array Value} {t : TypeId} (h : Blk w B cs t) (cs' : Array Value) : Blk (w.setRow B cs') B cs' t := setRow_heap w B cs cs' t _ h
theorem grown_row (w : World) (g : Nat) (cs : Array Value) : w.grownBy (w.setRow g cs) (some g) :=
  ⟨rfl, rfl, rfl, by simp [World.setRow], fun k hk hne => by
    have : k ≠ g := by rintro rfl; exact hne rfl
    simp [World.setRow, Array.getElem?_modify]
    intro h; exact absurd h.symm this⟩

theorem wp_make {o : Oper} {a : Act} (w : World) {K : Act → World → Prop} {Q : Exit → Act → World → Prop} (t : TypeId) (x y : Operand) (ho : o.op = .makeSlice t x y)
    (base : Nat) (e : TypeId) (i : TypeInfo) (z : Value) (size : Nat) (ht : P.underlying t = some (.slice e)) (hi : P.info? e = some i) (hz : i.zero = some z) (hsize : i.size = size)
    (kl kc : IntKind) (n : Nat) (hx : a.eval x = .int kl (n : Int)) (hy : a.eval y = .int kc (n : Int)) (hbytes : i.bytes * n ≤ 281474976710656) (h63 : n ≤ maxLen) (hbase : base ≤ w.heap.size)
    (h : ∀ g w', w'.ownsRow base e size (.slice (some ⟨g, 0, none⟩) n n) n (madeCells z.cells (n * size)).toList → Bel w w' → K (a.put o.dst (.slice (some ⟨g, 0, none⟩) n n)) w') : o.wp P a w K Q := by
  obtain ⟨w', hr, h2, h3⟩ := run_make_full (P := P) w base t e i z size ht hi hz hsize kl kc n hbytes h63 hbase
  unfold Oper.wp execOp
  simp only [ho, hx, hy, Sem.run_bind, hr, Result.andThen_ok, Sem.run_pure]
  exact h _ w' h2 ((Bel.refl w).grown h3 (fun k hk => by cases hk))
theorem step_make {ops : Array Oper} {o : Oper} {a : Act} (w : World) {K : Act → World → Prop} {Q : Exit → Act → World → Prop} {E : Prop} (hgd : o.guard = none) (t : TypeId) (x y : Operand) (ho : o.op = .makeSlice t x y)
    (base : Nat) (e : TypeId) (i : TypeInfo) (z : Value) (size : Nat) (ht : P.underlying t = some (.slice e)) (hi : P.info? e = some i) (hz : i.zero = some z) (hsize : i.size = size)
    (kl kc : IntKind) (n : Nat) (hx : a.eval x = .int kl (n : Int)) (hy : a.eval y = .int kc (n : Int)) (hbytes : i.bytes * n ≤ 281474976710656) (h63 : n ≤ maxLen) (hbase : base ≤ w.heap.size)
    (h : ∀ g w', w'.ownsRow base e size (.slice (some ⟨g, 0, none⟩) n n) n (madeCells z.cells (n * size)).toList → Bel w w' → K (a.put o.dst (.slice (some ⟨g, 0, none⟩) n n)) w') :
    if Region.wanted o (yielded ops a.tmps) = true then Oper.wp P o a w K Q else E := by
  have hw : Region.wanted o (yielded ops a.tmps) = true := by simp [Region.wanted, hgd]
  rw [if_pos hw]
  exact wp_make w t x y ho base e i z size ht hi hz hsize kl kc n hx hy hbytes h63 hbase h
theorem wpList_make {ops : Array Oper} {rest : List Oper} {o : Oper} {a : Act} (w : World) {Q : Exit → Act → World → Prop} (hgd : o.guard = none) (t : TypeId) (x y : Operand) (ho : o.op = .makeSlice t x y)
    (base : Nat) (e : TypeId) (i : TypeInfo) (z : Value) (size : Nat) (ht : P.underlying t = some (.slice e)) (hi : P.info? e = some i) (hz : i.zero = some z) (hsize : i.size = size)
    (kl kc : IntKind) (n : Nat) (hx : a.eval x = .int kl (n : Int)) (hy : a.eval y = .int kc (n : Int)) (hbytes : i.bytes * n ≤ 281474976710656) (h63 : n ≤ maxLen) (hbase : base ≤ w.heap.size)
    (h : ∀ g w', w'.ownsRow base e size (.slice (some ⟨g, 0, none⟩) n n) n (madeCells z.cells (n * size)).toList → Bel w w' → wpList P ops Q rest (a.put o.dst (.slice (some ⟨g, 0, none⟩) n n)) w') : wpList P ops Q (o :: rest) a w :=
  wpList_plain hgd fun _ hK => wp_make w t x y ho base e i z size ht hi hz hsize kl kc n hx hy hbytes h63 hbase fun g w' h1 h2 => hK _ _ (h g w' h1 h2)
end

/-- The cells that make makes, for a type of one cell. -/
theorem made_one (z : Value) (hz : z.cells = #[z]) (n : Nat) : (madeCells z.cells (n * 1)).toList = List.replicate n z := by
  rw [hz, Nat.mul_one]
  apply List.ext_getElem?
  intro k
  simp only [madeCells, Array.toList_map, List.getElem?_map]
  by_cases hk : k < n
  · simp [hk, Nat.mod_one]
  · simp [hk]
end Go.Proofs.YtaifafljakojnaaGreat

