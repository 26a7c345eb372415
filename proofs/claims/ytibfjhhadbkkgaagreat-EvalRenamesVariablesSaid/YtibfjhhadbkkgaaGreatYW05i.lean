/- Merged of: W05i (see NOTES.md). -/
import Derived.Test.YtibfjhhadbkkgaaGreatYW05h
import Derived.Test.YtibfjhhadbkkgaaGreatZ04
import Derived.Test.YtibfjhhadbkkgaaGreatYCopy
import Derived.Test.YtibfjhhadbkkgaaGreatYL05c
set_option linter.unusedSimpArgs false
set_option linter.unnecessarySimpa false
set_option linter.unusedVariables false

/- Contracts of Rename of the program and of the reference. -/
namespace Go.Proofs.YtibfjhhadbkkgaaGreat
open Go.RowKit

theorem termCells_set (es : List Term) : ∀ (k : Nat) (t : Term) (v : Int), es[k]? = some t → (es.flatMap termCells).set (k * 2 + 1) (.int .i64 v) = (es.set k ⟨t.op, v⟩).flatMap termCells := by
  induction es with
  | nil => intro k t v h; simp at h
  | cons x es ih =>
    intro k t v h
    cases k with
    | zero => simp at h; subst h; simp [termCells]
    | succ k =>
      have := ih k t v (by simpa using h)
      have e : (k + 1) * 2 + 1 = (k * 2 + 1) + 1 + 1 := by omega
      rw [e]
      simp only [List.flatMap_cons, List.set_cons_succ, termCells, List.cons_append, List.nil_append]
      rw [← this]

/-- One more term is renamed in memory. -/
theorem ren_store {w : World} {base g c : Nat} {e : TypeId} {m : List Int} {es : List Term} {k : Nat} (h : k < es.length) (hop : es[k].op = 5 ∨ es[k].op = 12)
    (ho : w.ownsRow base e 2 (.slice (some ⟨g, 0, none⟩) es.length c) es.length ((renPart m es k).flatMap termCells)) :
    (w.setCell ⟨g, k * 2 + 1, none⟩ (.int .i64 (m.getD es[k].arg.toNat 0))).ownsRow base e 2 (.slice (some ⟨g, 0, none⟩) es.length c) es.length ((renPart m es (k + 1)).flatMap termCells) := by
  have h1 := (ho.stored (k * 2 + 1) (.int .i64 (m.getD es[k].arg.toNat 0))).1
  rw [termCells_set _ k es[k] _ (renPart_get m es k h)] at h1
  rw [renPart_succ m es k h]
  have : renTerm m es[k] = ⟨es[k].op, m.getD es[k].arg.toNat 0⟩ := by unfold renTerm; rw [if_pos hop]
  rw [this]; exact h1
theorem ren_skip {m : List Int} {es : List Term} {k : Nat} (h : k < es.length) (hop : ¬ (es[k].op = 5 ∨ es[k].op = 12)) : renPart m es (k + 1) = renPart m es k := by
  rw [renPart_succ m es k h]
  have : renTerm m es[k] = es[k] := by unfold renTerm; rw [if_neg hop]
  rw [this]
  have hg := renPart_get m es k h
  obtain ⟨hl, he⟩ := List.getElem?_eq_some_iff.1 hg
  rw [← he, List.set_getElem_self]

def RetRen (r : List Term × Int) (w : World) (e : Ending) (w' : World) : Prop := ∃ A c, e = .returned (.tuple #[.slice A r.1.length c, .int .i64 r.2]) ∧ TermsR w' A r.1.length r.1 ∧ Bel w w'

theorem argF_index {t : Term} {n : Int} (h : argF t n = true) (hop : t.op = 5 ∨ t.op = 12) : 0 ≤ t.arg ∧ t.arg < n := by
  unfold argF at h
  rw [if_neg (by omega), if_pos hop] at h
  simpa using h

set_option maxRecDepth 100000 in
set_option maxHeartbeats 2000000 in
theorem refRename_any (A : Option Addr) (n c : Nat) (es : List Term) (Am : Option Addr) (nm cm : Nat) (m : List Int) (w : World) (h : TermsR w A n es) (hm : IntsR w Am nm m) (hl : n ≤ 1000000) (hlm : nm ≤ 1000000) :
    Calls Tryz.prog 24 #[.slice A n c, .slice Am nm cm] w (RetRen (renameF es m) w) := by
  obtain rfl := h.1
  obtain rfl := hm.1
  have H := Lib.hid (fun w' (k : Bel w w') => h.keep k); clear h
  have HM := Lib.hid (fun w' (k : Bel w w') => hm.keep k); clear hm
  have hb0 := Bel.refl w
  obtain ⟨i0, hi0, hz0, hz1, hz2⟩ := info_parts term_info
  cases hv : validF es m.length with
  | false =>
    have HF : Hid (renameF es m = ([], 7)) := by show renameF es m = _; unfold renameF; rw [if_pos hv]
    go_enter Tryz.func24, Tryz.ntmps24
    go_wp2_with (go_at_call 23; refine (refValid_any _ _ _ es _ _ (H.out _ (by assumption)) hl).mono ?_; rintro e wn ⟨rfl, hbn⟩; rw [hv])
    go_ret2
    rw [HF.out]
    exact ⟨none, 0, rfl, SliceR.nil, hbn⟩
  | true =>
    have hv2 : ¬ validF es m.length = false := by rw [hv]; decide
    have HV := Lib.hid ((validF_parts es m.length).1 hv)
    go_enter Tryz.func24, Tryz.ntmps24
    go_wp2_with (go_at_call 23; refine (refValid_any _ _ _ es _ _ (H.out _ (by assumption)) hl).mono ?_; rintro e wn ⟨rfl, hbn⟩; rw [hv])
    clear hv
    go_loopg [6] m.length (fun g iv wr => ∃ k : Nat, k + g = m.length ∧ iv = .int .i64 k ∧ Hid (inVars m = inVars (m.drop k)) ∧ wn = wr)
    case atStart => exact ⟨0, by omega, rfl, rfl, rfl⟩
    case round =>
      obtain ⟨k, hk, rfl, HK, rfl⟩ := hrel
      by_cases hlt : k < m.length
      · obtain ⟨b, o, rfl, hb, hc1⟩ := (HM.out wn hbn).at_ k hlt
        have hstep : Hid (inVars (m.drop k) = (decide (0 ≤ m[k] ∧ m[k] < 6) && inVars (m.drop (k + 1)))) := by
          show inVars (m.drop k) = _
          unfold inVars
          rw [List.drop_eq_getElem_cons hlt]; rfl
        by_cases hx : 0 ≤ m[k] ∧ m[k] < 6
        · obtain ⟨hx1, hx2⟩ := hx
          go_wp2_with fail
          go_roundg (gk - 1)
          case rel => exact ⟨k + 1, by omega, by go_num, by show _ = _; rw [HK.out, hstep.out, decide_eq_true ⟨hx1, hx2⟩]; rfl, rfl⟩
          case measure => omega
        · have HF : Hid (renameF es m = ([], 2)) := by
            show renameF es m = _
            unfold renameF; rw [if_neg hv2, if_pos (by rw [HK.out, hstep.out, decide_eq_false hx]; rfl)]
          by_cases hx1 : m[k] < 0
          · have hd : decide (m[k] < 0) = true := by simpa using hx1
            go_wp2_with fail
            go_ret2
            rw [HF.out]
            exact ⟨none, 0, rfl, SliceR.nil, hbn⟩
          · have hd : decide (m[k] < 0) = false := by simpa using hx1
            have hd2 : 6 ≤ m[k] := by omega
            go_wp2_with fail
            go_ret2
            rw [HF.out]
            exact ⟨none, 0, rfl, SliceR.nil, hbn⟩
      · have HF : Hid (renameF es m = (es.map (renTerm m), 0)) := by
          show renameF es m = _
          unfold renameF; rw [if_neg hv2, if_neg (by rw [HK.out, List.drop_eq_nil_of_le (by omega)]; simp [inVars])]
        go_wp2_with (first
          | (at_builtin; go_must (refine wpList_extend _ rfl (.const (.slice none 0 0)) (.tmp 32) 31 rfl w.heap.size 90 i0 (.agg #[.int .i64 0, .int .i64 0]) 2 16 Tryz.underlying31 hi0 hz0 hz1 hz2 rfl (by decide) none 0 0 [] rfl (World.ownsRow_nil _ _ _ _) A es.length c (es.flatMap termCells) rfl (H.out _ hbn).cells (termCells_one _) (by unfold maxLen; omega) (by omega) hbn.size ?_; intro A3 c3 w3 hown3 hgr3 _; have hb3 : Bel w w3 := hbn.push (World.ownsRow_nil _ _ 0 2) hgr3; simp only [Nat.zero_add, List.nil_append] at hown3; have HO3 := Lib.hid hown3; clear hown3 hgr3)))
        obtain ⟨gb, c3', hA3, hgb1, _⟩ := HO3.out.form (HV.out.2.1.pos)
        injection hA3 with hA3 _ hcc3
        subst hA3
        subst hcc3
        clear HK hlt
        go_loopg [8] es.length (fun g iv wr => ∃ k : Nat, k + g = es.length ∧ iv = .int .i64 k ∧ Hid (wr.ownsRow w.heap.size 90 2 (.slice (some ⟨gb, 0, none⟩) es.length c3) es.length ((renPart m es k).flatMap termCells)) ∧ Bel w wr)
        case atStart => exact ⟨0, by omega, rfl, by show World.ownsRow _ _ _ _ _ _ _; rw [renPart_zero]; exact HO3.out, hb3⟩
        case round =>
          clear HO3 hb3
          obtain ⟨k, hk, rfl, HO, hbel⟩ := hrel
          by_cases hlt : k < es.length
          · have hrg := renPart_get m es k hlt
            obtain ⟨e1, e2⟩ := termCells_at _ k es[k] hrg
            obtain ⟨g1, hg1, _, hglt, hc1, _⟩ := own_at HO.out e1
            obtain ⟨g2, hg2, _, _, hc2, hf2⟩ := own_at HO.out e2
            obtain rfl : gb = g1 := by simpa using hg1
            obtain rfl : gb = g2 := by simpa using hg2
            clear hrg e1 e2 hg1 hg2
            have harg := HV.out.2.2.1 es[k] (List.getElem_mem _)
            by_cases hop : es[k].op = 5 ∨ es[k].op = 12
            · obtain ⟨ha1, ha2⟩ := argF_index harg hop
              obtain ⟨q, hq⟩ := Int.eq_ofNat_of_zero_le ha1
              have hqm : q < m.length := by omega
              obtain ⟨bm, om, rfl, hbm, hcm⟩ := (HM.out wr hbel).at_ q hqm
              have hmq : m.getD es[k].arg.toNat 0 = m[q] := by rw [hq, Int.toNat_natCast, List.getD_eq_getElem?_getD]; simp [hqm]
              have HMQ := Lib.hid hmq; clear hmq
              have HQ := Lib.hid hq
              have HOP := Lib.hid hop
              rw [hq] at hc2
              clear harg ha1 ha2 hq
              rcases hop with hop | hop
              all_goals
                go_wp2_with fail
                go_roundg (gk - 1)
                case rel => exact ⟨k + 1, by omega, by go_num, by
                  show World.ownsRow _ _ _ _ _ _ _
                  have := (ren_store hlt HOP.out HO.out)
                  rw [HMQ.out] at this; exact this, hbel.setCell (by simpa using hgb1) _⟩
                case measure => omega
            · have h5 : (es[k].op == 5) = false := by simp; omega
              have h12 : (es[k].op == 12) = false := by simp; omega
              have HSK := Lib.hid (ren_skip (m := m) hlt hop)
              clear hop
              go_wp2_with fail
              go_roundg (gk - 1)
              case rel => exact ⟨k + 1, by omega, by go_num, by show World.ownsRow _ _ _ _ _ _ _; rw [HSK.out]; exact HO.out, hbel⟩
              case measure => omega
          · go_wp2_with fail
            go_ret2
            rw [HF.out]
            refine ⟨some ⟨gb, 0, none⟩, c3, by simp, ?_, hbel⟩
            have := HO.out
            rw [renPart_full m es k (by omega)] at this
            simpa using own_terms this
end Go.Proofs.YtibfjhhadbkkgaaGreat

