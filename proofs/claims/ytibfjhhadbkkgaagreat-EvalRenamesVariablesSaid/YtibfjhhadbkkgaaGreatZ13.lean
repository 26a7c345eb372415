/- Merged of: WTk WTl WTm WDa (see NOTES.md). -/
import Derived.Test.YtibfjhhadbkkgaaGreatZ12
import Derived.Test.YtibfjhhadbkkgaaGreatZ05
import Derived.Test.YtibfjhhadbkkgaaGreatZ08
import Derived.Test.YtibfjhhadbkkgaaGreatZ03
set_option linter.unusedSimpArgs false
set_option linter.unnecessarySimpa false
set_option linter.unusedVariables false

/- Contract: the program's named. -/
namespace Go.Proofs.YtibfjhhadbkkgaaGreat
open Go.RowKit Go.Maps

def strLit (s : ByteArray) : Lit := .string s.data.toList
theorem strLit_inj {a b : ByteArray} (h : strLit a = strLit b) : a = b := by
  unfold strLit at h
  injection h with h
  cases a; cases b
  simp only [ByteArray.mk.injEq]
  exact Array.toList_inj.1 h
theorem strLits_mem {s : ByteArray} {l : List ByteArray} : strLit s ∈ l.map strLit ↔ s ∈ l := by
  constructor
  · intro h
    obtain ⟨x, hx, he⟩ := List.mem_map.1 h
    rwa [strLit_inj he] at hx
  · exact fun h => List.mem_map_of_mem h
theorem strKeyed : Keyed Tryz.prog 9 := string_keyed Tryz.underlying9
theorem boolZero (w : World) : (zeroValue 4).run Tryz.prog w = .ok (.bool false) w := by kernel_rfl
theorem mem_take_of {α : Type} {l : List α} {k : Nat} {x : α} (h : x ∈ l.take k) : ∃ j, ∃ hj : j < l.length, j < k ∧ l[j] = x := by
  rw [List.mem_take_iff_getElem] at h
  obtain ⟨j, hj, rfl⟩ := h
  exact ⟨j, by omega, by omega, rfl⟩

set_option maxRecDepth 100000 in
set_option maxHeartbeats 4000000 in
theorem named_any (v : Value) (p : Prg) (w : World) (h : PrgV w v p) (hL : lightP p = true) :
    Calls Tryz.prog 170 #[v] w fun e w' => e = .returned (.bool (namedF p)) ∧ Bel w w' := by
  obtain ⟨A, k, A2, k2, rfl, hV, _, _, hR, _, _⟩ := h
  have HV := Lib.hid (fun w' (k : Bel w w') => VarsR.keep hV k); clear hV
  have HR := Lib.hid (fun w' (k : Bel w w') => RulesR.keep hR k); clear hR
  obtain ⟨p1, p2, p3, p4, p5⟩ := lightP_parts hL
  have HP4 := Lib.hid p4
  have HP5 := Lib.hid (fun r hr => (lightR_parts (p5 r hr)).1)
  clear p4 p5 hL
  have HB := Bel.refl (w.alloc (.cells #[.string p.name, .slice A p.vars.length k, .slice A2 p.rules.length k2] 25))
  have hmm := @run_makeMap Tryz.prog
  cases hnm : nameF p.name with
  | false =>
    have HF : Hid (namedF p = false) := by show namedF p = false; unfold namedF; rw [hnm]; rfl
    go_enter Tryz.func170, Tryz.ntmps170
    go_wp2_with (go_at_call 175; refine (name_any _ _ (by omega)).mono ?_; rintro e w' ⟨rfl, rfl⟩)
    go_ret
    exact ⟨ret_bool HF.out.symm, box_bel HB⟩
  | true =>
    have HNM := Lib.hid hnm
    have HS0 := Lib.hid (SetR.made Tryz.prog 9 4 (w.alloc (.cells #[.string p.name, .slice A p.vars.length k, .slice A2 p.rules.length k2] 25)))
    replace HB := HB.alloc (.map #[] 0)
    simp only [World.size_alloc] at HS0
    go_enter Tryz.func170, Tryz.ntmps170
    go_wp2_with (go_at_call 175; refine (name_any _ _ (by omega)).mono ?_; rintro e w' ⟨rfl, rfl⟩)
    clear hnm
    go_loopg [5, 17] p.vars.length (fun m _x z wr => ∃ j : Nat, j ≤ p.vars.length ∧ m = p.vars.length - j ∧ z = .int .i64 j ∧ Hid ((∀ q, q < j → (hq : q < p.vars.length) → nameF p.vars[q].name = true) ∧ ((p.vars.map Var.name).take j).Nodup) ∧ Hid (SetR Tryz.prog 9 4 wr (w.heap.size + 1) j (((p.vars.map Var.name).take j).map strLit)) ∧ Bel (w.alloc (.cells #[.string p.name, .slice A p.vars.length k, .slice A2 p.rules.length k2] 25)) wr)
    case atStart => exact ⟨0, by omega, rfl, rfl, ⟨fun q hq => absurd hq (by omega), by simp⟩, HS0, HB⟩
    case round =>
      clear HB HS0
      obtain ⟨i, hi, rfl, rfl, HJ, HS, HB⟩ := hrel
      by_cases hlt : i < p.vars.length
      · have hd0 : decide (i < p.vars.length) = true := by simpa using hlt
        have hnl := HP4.out _ (List.getElem_mem hlt)
        obtain ⟨b, o, rfl, hb, hc0, hc1, hc2, hc3, hc4, hc5⟩ := (HV.out _ (box_bel HB)).at_ i hlt
        have hkey := WideMaps.keyOf_string_mk (P := Tryz.prog) (k := 9) Tryz.underlying9 (s := p.vars[i].name) (by unfold maxLen; omega)
        have HB2 := HB.alloc (.cells #[.string p.vars[i].name, .int .i64 p.vars[i].kind, .int .i64 p.vars[i].lo, .int .i64 p.vars[i].hi, .int .i64 p.vars[i].perNode, .int .i64 p.vars[i].perID] 48)
        have HS2 := Lib.hid (HS.out.keep ((Bel.refl wr).alloc (.cells #[.string p.vars[i].name, .int .i64 p.vars[i].kind, .int .i64 p.vars[i].lo, .int .i64 p.vars[i].hi, .int .i64 p.vars[i].perNode, .int .i64 p.vars[i].perID] 48)))
        obtain ⟨x, hx, hxi⟩ := HS2.out.look strKeyed Tryz.underlying172 Tryz.underlying4 (boolZero _) hkey
        have HXI := Lib.hid hxi
        have hms := HS2.out.lt
        have HKEY := Lib.hid hkey
        clear hxi hkey
        cases hnn : nameF p.vars[i].name with
        | false =>
          have HF : Hid (namedF p = false) := namedF_false1 fun hf => by
            have := ((namesF_iff _).1 hf).1 p.vars[i].name (List.mem_map_of_mem (List.getElem_mem hlt))
            rw [hnn] at this; cases this
          go_wp2_with (go_at_call 175; refine (name_any _ _ (by omega)).mono ?_; rintro e w' ⟨rfl, rfl⟩)
          go_ret
          exact ⟨ret_bool HF.out.symm, box_bel HB2⟩
        | true =>
          cases x with
          | true =>
            have HF : Hid (namedF p = false) := namedF_false1 fun hf => by
              have hm := HXI.out.1 rfl
              rw [show (Lit.string p.vars[i].name.data.toList) = strLit p.vars[i].name from rfl, strLits_mem] at hm
              obtain ⟨j, hj1, hj2, hj3⟩ := mem_take_of hm
              exact notT_nodup hj2 (by simpa using hlt) (by rw [hj3]; simp) ((namesF_iff _).1 hf).2
            go_wp2_with (go_at_call 175; refine (name_any _ _ (by omega)).mono ?_; rintro e w' ⟨rfl, rfl⟩)
            go_ret
            exact ⟨ret_bool HF.out.symm, box_bel HB2⟩
          | false =>
            have HNN := Lib.hid hnn
            have HT : Hid (((p.vars.map Var.name).take (i + 1)).Nodup) := by
              show List.Nodup _
              refine nodupT_take_succ (by simpa using hlt) HJ.out.2 (fun q hq he => ?_)
              have : (false : Bool) = true := HXI.out.2 (by
                rw [show (Lit.string p.vars[i].name.data.toList) = strLit p.vars[i].name from rfl, strLits_mem, List.mem_take_iff_getElem]
                refine ⟨q, by simp; omega, ?_⟩
                simp at he ⊢
                exact he)
              cases this
            go_wp2_with (first
              | (go_at_call 175; refine (name_any _ _ (by omega)).mono ?_; rintro e w' ⟨rfl, rfl⟩)
              | (at_mapUpdate; refine wpList_putSet _ rfl (.tmp 31) (.tmp 33) (.const (.bool true)) 172 rfl 9 4 strKeyed Tryz.underlying172 Tryz.underlying4 (w.heap.size + 1) i _ rfl HS2.out (by unfold maxLen; omega) _ _ rfl rfl HKEY.out trivial ?_; intro w3 hset hgr; have HB3 := HB2.map (by simp <;> omega) hgr; have HS3 := Lib.hid hset; clear hset hgr))
            go_roundg (p.vars.length - (i + 1))
            case rel =>
              refine ⟨i + 1, by omega, rfl, by go_num, ⟨?_, HT.out⟩, ?_, HB3⟩
              · intro q hq hq'
                rcases Nat.lt_or_ge q i with h | h
                · exact HJ.out.1 q h hq'
                · obtain rfl : q = i := by omega
                  exact HNN.out
              · obtain ⟨D, d1, d2, d3⟩ := HS3.out
                refine ⟨D, d1, d2, fun kl => ?_⟩
                obtain ⟨y, hy, hyi⟩ := d3 kl
                refine ⟨y, hy, ?_⟩
                rw [hyi, List.take_succ_eq_append_getElem (by simpa using hlt)]
                simp [strLit, or_comm]
            case measure => omega
      · have hd0 : decide (i < p.vars.length) = false := by simpa using hlt
        have HE : Hid (namesF (p.vars.map Var.name) = true) := by
          show namesF (p.vars.map Var.name) = true
          rw [namesF_iff]
          obtain ⟨a1, a2⟩ := HJ.out
          rw [List.take_of_length_le (by simp; omega)] at a2
          refine ⟨fun s hs => ?_, a2⟩
          obtain ⟨x, hx, rfl⟩ := List.mem_map.1 hs
          obtain ⟨q, hq, rfl⟩ := List.getElem_of_mem hx
          exact a1 q (by omega) hq
        have HE1 := HE
        have q1 := box_cell HB 2 rfl
        have q2 := box_lt HB
        have HS0 := Lib.hid (SetR.made Tryz.prog 9 4 wr)
        clear HE HJ HS
        have hmb : w.heap.size + 1 ≤ wr.heap.size := by omega
        replace HB := HB.alloc (.map #[] 0)
        go_wp2_with fail
        clear hd0 q1 q2 hi hlt
        generalize hmbe : wr.heap.size = mb at *
        clear hmbe
        go_loopg [8, 39] p.rules.length (fun m _x z wr => ∃ j : Nat, j ≤ p.rules.length ∧ m = p.rules.length - j ∧ z = .int .i64 j ∧ Hid ((∀ q, q < j → (hq : q < p.rules.length) → nameF p.rules[q].name = true) ∧ ((p.rules.map Rule.name).take j).Nodup) ∧ Hid (SetR Tryz.prog 9 4 wr (mb) j (((p.rules.map Rule.name).take j).map strLit)) ∧ Bel (w.alloc (.cells #[.string p.name, .slice A p.vars.length k, .slice A2 p.rules.length k2] 25)) wr)
        case atStart => exact ⟨0, by omega, rfl, rfl, ⟨fun q hq => absurd hq (by omega), by simp⟩, HS0, HB⟩
        case round =>
          clear HB HS0
          obtain ⟨i, hi, rfl, rfl, HJ, HS, HB⟩ := hrel
          by_cases hlt : i < p.rules.length
          · have hd0 : decide (i < p.rules.length) = true := by simpa using hlt
            have hnl := HP5.out _ (List.getElem_mem hlt)
            obtain ⟨b, o, G, c, S, c2, rfl, hb, hc0, hc1, hc2, _⟩ := (HR.out _ (box_bel HB)).at_ i hlt
            have hkey := WideMaps.keyOf_string_mk (P := Tryz.prog) (k := 9) Tryz.underlying9 (s := p.rules[i].name) (by unfold maxLen; omega)
            have HB2 := HB.alloc (.cells #[.string p.rules[i].name, .slice G p.rules[i].guard.length c, .slice S p.rules[i].sets.length c2] 69)
            have HS2 := Lib.hid (HS.out.keep ((Bel.refl wr).alloc (.cells #[.string p.rules[i].name, .slice G p.rules[i].guard.length c, .slice S p.rules[i].sets.length c2] 69)))
            obtain ⟨x, hx, hxi⟩ := HS2.out.look strKeyed Tryz.underlying172 Tryz.underlying4 (boolZero _) hkey
            have HXI := Lib.hid hxi
            have hms := HS2.out.lt
            have HKEY := Lib.hid hkey
            clear hxi hkey
            cases hnn : nameF p.rules[i].name with
            | false =>
              have HF : Hid (namedF p = false) := namedF_false2 fun hf => by
                have := ((namesF_iff _).1 hf).1 p.rules[i].name (List.mem_map_of_mem (List.getElem_mem hlt))
                rw [hnn] at this; cases this
              go_wp2_with (go_at_call 175; refine (name_any _ _ (by omega)).mono ?_; rintro e w' ⟨rfl, rfl⟩)
              go_ret
              exact ⟨ret_bool HF.out.symm, box_bel HB2⟩
            | true =>
              cases x with
              | true =>
                have HF : Hid (namedF p = false) := namedF_false2 fun hf => by
                  have hm := HXI.out.1 rfl
                  rw [show (Lit.string p.rules[i].name.data.toList) = strLit p.rules[i].name from rfl, strLits_mem] at hm
                  obtain ⟨j, hj1, hj2, hj3⟩ := mem_take_of hm
                  exact notT_nodup hj2 (by simpa using hlt) (by rw [hj3]; simp) ((namesF_iff _).1 hf).2
                go_wp2_with (go_at_call 175; refine (name_any _ _ (by omega)).mono ?_; rintro e w' ⟨rfl, rfl⟩)
                go_ret
                exact ⟨ret_bool HF.out.symm, box_bel HB2⟩
              | false =>
                have HNN := Lib.hid hnn
                have HT : Hid (((p.rules.map Rule.name).take (i + 1)).Nodup) := by
                  show List.Nodup _
                  refine nodupT_take_succ (by simpa using hlt) HJ.out.2 (fun q hq he => ?_)
                  have : (false : Bool) = true := HXI.out.2 (by
                    rw [show (Lit.string p.rules[i].name.data.toList) = strLit p.rules[i].name from rfl, strLits_mem, List.mem_take_iff_getElem]
                    refine ⟨q, by simp; omega, ?_⟩
                    simp at he ⊢
                    exact he)
                  cases this
                go_wp2_with (first
                  | (go_at_call 175; refine (name_any _ _ (by omega)).mono ?_; rintro e w' ⟨rfl, rfl⟩)
                  | (at_mapUpdate; refine wpList_putSet _ rfl (.tmp 53) (.tmp 55) (.const (.bool true)) 172 rfl 9 4 strKeyed Tryz.underlying172 Tryz.underlying4 (mb) i _ rfl HS2.out (by unfold maxLen; omega) _ _ rfl rfl HKEY.out trivial ?_; intro w3 hset hgr; have HB3 := HB2.map (by simp <;> omega) hgr; have HS3 := Lib.hid hset; clear hset hgr))
                go_roundg (p.rules.length - (i + 1))
                case rel =>
                  refine ⟨i + 1, by omega, rfl, by go_num, ⟨?_, HT.out⟩, ?_, HB3⟩
                  · intro q hq hq'
                    rcases Nat.lt_or_ge q i with h | h
                    · exact HJ.out.1 q h hq'
                    · obtain rfl : q = i := by omega
                      exact HNN.out
                  · obtain ⟨D, d1, d2, d3⟩ := HS3.out
                    refine ⟨D, d1, d2, fun kl => ?_⟩
                    obtain ⟨y, hy, hyi⟩ := d3 kl
                    refine ⟨y, hy, ?_⟩
                    rw [hyi, List.take_succ_eq_append_getElem (by simpa using hlt)]
                    simp [strLit, or_comm]
                case measure => omega
          · have hd0 : decide (i < p.rules.length) = false := by simpa using hlt
            have HE : Hid (namesF (p.rules.map Rule.name) = true) := by
              show namesF (p.rules.map Rule.name) = true
              rw [namesF_iff]
              obtain ⟨a1, a2⟩ := HJ.out
              rw [List.take_of_length_le (by simp; omega)] at a2
              refine ⟨fun s hs => ?_, a2⟩
              obtain ⟨x, hx, rfl⟩ := List.mem_map.1 hs
              obtain ⟨q, hq, rfl⟩ := List.getElem_of_mem hx
              exact a1 q (by omega) hq
            go_wp2_with fail
            go_ret
            refine ⟨ret_bool ?_, box_bel HB⟩
            symm
            unfold namedF
            rw [HNM.out, HE1.out, HE.out]; rfl

end Go.Proofs.YtibfjhhadbkkgaaGreat

/- Contract: the program's formed. -/
namespace Go.Proofs.YtibfjhhadbkkgaaGreat
open Go.RowKit Go.Maps

theorem nat_beq0 {n : Nat} (h : 1 ≤ n) : (n == 0) = false := by simp; omega
theorem int_beq0 {n : Nat} (h : 1 ≤ n) : ((n : Int) == 0) = false := by simp; omega

def intLit (x : Int) : Lit := .int .i64 x
theorem intLits_mem {x : Int} {l : List Int} : intLit x ∈ l.map intLit ↔ x ∈ l := by
  constructor
  · intro h
    obtain ⟨y, hy, he⟩ := List.mem_map.1 h
    unfold intLit at he
    injection he with _ he
    subst he; exact hy
  · exact fun h => List.mem_map_of_mem h
theorem intKeyed : Keyed Tryz.prog 3 := int_keyed Tryz.underlying3

set_option maxRecDepth 100000 in
set_option maxHeartbeats 4000000 in
theorem formed_any (v : Value) (r : Rule) (vars : Nat) (w : World) (h : RuleV w v r) (hvars : vars ≤ 1000) (hL : lightR r = true) :
    Calls Tryz.prog 172 #[v, .int .i64 vars] w fun e w' => e = .returned (.bool (formedF vars r)) ∧ Bel w w' := by
  obtain ⟨G, c, S, c2, rfl, hG, _, _, hS, _, _⟩ := h
  have HG := Lib.hid (fun w' (k : Bel w w') => TermsR.keep hG k); clear hG
  have HS := Lib.hid (fun w' (k : Bel w w') => SetsR.keep hS k); clear hS
  obtain ⟨_, l2, l3, l4⟩ := lightR_parts hL
  have HL4 := Lib.hid l4; clear l4 hL
  have HB := Bel.refl (w.alloc (.cells #[.string r.name, .slice G r.guard.length c, .slice S r.sets.length c2] 69))
  have hmm := @run_makeMap Tryz.prog
  by_cases hn : 1 ≤ r.sets.length ∧ r.sets.length ≤ 6
  · have hz : ((r.sets.length : Int) == 0) = false := int_beq0 (by omega)
    have hz' : (r.sets.length == 0) = false := nat_beq0 (by omega)
    have hz2 : decide (6 < r.sets.length) = false := by simp; omega
    cases hvg : validF r.guard vars with
    | false =>
      have HF : Hid (formedF vars r = false) := formedF_false fun h => by rw [h.guard] at hvg; cases hvg
      go_enter Tryz.func172, Tryz.ntmps172
      go_wp2_with (go_at_call 51; refine (valid_any _ _ _ r.guard _ _ (HG.out _ (box_bel HB)) (by omega)).mono ?_; rintro e w' ⟨rfl, hb⟩; rw [hvg]; replace HB := HB.trans hb; clear hb)
      go_ret
      exact ⟨ret_bool HF.out.symm, box_bel HB⟩
    | true =>
      have HVG := Lib.hid hvg; clear hvg
      go_enter Tryz.func172, Tryz.ntmps172
      go_wp2_with (go_at_call 51; refine (valid_any _ _ _ r.guard _ _ (HG.out _ (box_bel HB)) (by omega)).mono ?_; rintro e w1 ⟨rfl, hb⟩; rw [HVG.out]; replace HB := HB.trans hb; clear hb; have q1 := box_cell HB 2 rfl; have q2 := box_lt HB)
      clear hz hz' hz2 q1
      have HS0 := Lib.hid (SetR.made Tryz.prog 3 4 w1)
      replace HB := HB.alloc (.map #[] 0)
      obtain ⟨mb, hmb⟩ : ∃ mb, w1.heap.size = mb := ⟨_, rfl⟩
      rw [hmb] at q2
      simp only [hmb] at HS0 ⊢
      clear hmb
      go_loopg [7, 29] r.sets.length (fun m _x z wr => ∃ j : Nat, j ≤ r.sets.length ∧ m = r.sets.length - j ∧ z = .int .i64 j ∧ Hid ((r.sets.take j).all (fun s => decide (0 ≤ s.var ∧ s.var ≤ (vars : Int) - 1) && validF s.value vars) = true ∧ ((r.sets.map SetT.var).take j).Nodup) ∧ Hid (SetR Tryz.prog 3 4 wr mb j (((r.sets.map SetT.var).take j).map intLit)) ∧ Bel (w.alloc (.cells #[.string r.name, .slice G r.guard.length c, .slice S r.sets.length c2] 69)) wr)
      case atStart => exact ⟨0, by omega, rfl, rfl, ⟨rfl, by simp⟩, HS0, HB⟩
      case round =>
        clear HB HS0
        obtain ⟨i, hi, rfl, rfl, HJ, HM, HB⟩ := hrel
        by_cases hlt : i < r.sets.length
        · have hd0 : decide (i < r.sets.length) = true := by simpa using hlt
          obtain ⟨b, o, R, c', rfl, hb, s1, s2, hTv, _, _⟩ := (HS.out _ (box_bel HB)).at_ i hlt
          have HTv := Lib.hid (fun w' (k : Bel wr w') => TermsR.keep hTv k); clear hTv
          have hlen := HL4.out _ (List.getElem_mem hlt)
          have HB2 := Bel.refl (wr.alloc (.cells #[.int .i64 r.sets[i].var, .slice R r.sets[i].value.length c'] 66))
          by_cases hr : 0 ≤ r.sets[i].var ∧ r.sets[i].var ≤ (vars : Int) - 1
          · have hin : inB r.sets[i].var 0 ((vars : Int) - 1) = true := inB_true hr.1 hr.2
            have hkey := keyOf_int_mk (P := Tryz.prog) (k := 3) (q := .i64) Tryz.underlying3 (a := r.sets[i].var) (WalkArith.wf_i64 (by omega))
            have HM2 := Lib.hid (HM.out.keep (box_bel HB2))
            obtain ⟨x, hx, hxi⟩ := HM2.out.look intKeyed Tryz.underlying173 Tryz.underlying4 (boolZero _) hkey
            have HXI := Lib.hid hxi
            have HKEY := Lib.hid hkey
            clear hxi hkey
            cases x with
            | true =>
              have HF : Hid (formedF vars r = false) := formedF_false fun hf => by
                have hm := HXI.out.1 rfl
                rw [show (Lit.int .i64 r.sets[i].var) = intLit r.sets[i].var from rfl, intLits_mem] at hm
                obtain ⟨j, hj1, hj2, hj3⟩ := mem_take_of hm
                exact notT_nodup hj2 (by simpa using hlt) (by rw [hj3]; simp) hf.diff
              go_wp2_with (go_at_call 176; refine (within_any _ _ _ _).mono ?_; rintro e w' ⟨rfl, rfl⟩)
              go_ret
              exact ⟨ret_bool HF.out.symm, (box_bel HB).trans (box_bel HB2)⟩
            | false =>
              cases hvs : validF r.sets[i].value vars with
              | false =>
                have HF : Hid (formedF vars r = false) := formedF_false fun h => by have := (h.sets _ (List.getElem_mem hlt)).2; rw [hvs] at this; cases this
                go_wp2_with (first
                  | (go_at_call 176; refine (within_any _ _ _ _).mono ?_; rintro e w' ⟨rfl, rfl⟩)
                  | (go_at_call 51; refine (valid_any _ _ _ r.sets[i].value _ _ (HTv.out _ (box_bel HB2)) (by omega)).mono ?_; rintro e w' ⟨rfl, hbb⟩; rw [hvs]; replace HB2 := HB2.trans hbb; clear hbb))
                go_ret
                exact ⟨ret_bool HF.out.symm, (box_bel HB).trans (box_bel HB2)⟩
              | true =>
                have HOK := Lib.hid (show (decide (0 ≤ r.sets[i].var ∧ r.sets[i].var ≤ (vars : Int) - 1) && validF r.sets[i].value vars) = true by rw [hvs, decide_eq_true hr]; rfl)
                have HVS := Lib.hid hvs
                have HT : Hid (((r.sets.map SetT.var).take (i + 1)).Nodup) := by
                  show List.Nodup _
                  refine nodupT_take_succ (by simpa using hlt) HJ.out.2 (fun q hq he => ?_)
                  have : (false : Bool) = true := HXI.out.2 (by
                    rw [show (Lit.int .i64 r.sets[i].var) = intLit r.sets[i].var from rfl, intLits_mem, List.mem_take_iff_getElem]
                    refine ⟨q, by simp; omega, ?_⟩
                    simp at he ⊢
                    exact he)
                  cases this
                clear hvs hr
                go_wp2_with (first
                  | (go_at_call 176; refine (within_any _ _ _ _).mono ?_; rintro e w' ⟨rfl, rfl⟩)
                  | (go_at_call 51; refine (valid_any _ _ _ r.sets[i].value _ _ (HTv.out _ (box_bel HB2)) (by omega)).mono ?_; rintro e w2 ⟨rfl, hbb⟩; rw [HVS.out]; replace HB2 := HB2.trans hbb; have HM3 := Lib.hid (HM2.out.keep hbb); clear hbb hx; have q1 := box_cell HB2 0 rfl; have q3 := box_lt HB2)
                  | (at_mapUpdate; refine wpList_putSet _ rfl (.tmp 52) (.tmp 54) (.const (.bool true)) 173 rfl 3 4 intKeyed Tryz.underlying173 Tryz.underlying4 mb i _ rfl HM3.out (by unfold maxLen; omega) _ _ rfl rfl HKEY.out trivial ?_; intro w3 hset hgr; have HB3 := (HB.trans (box_bel HB2)).map (by simp <;> omega) hgr; have HM4 := Lib.hid hset; clear hset hgr))
                go_roundg (r.sets.length - (i + 1))
                case rel =>
                  refine ⟨i + 1, by omega, rfl, by go_num, ⟨all_take_succ hlt HJ.out.1 HOK.out, HT.out⟩, ?_, HB3⟩
                  obtain ⟨D, d1, d2, d3⟩ := HM4.out
                  refine ⟨D, d1, d2, fun kl => ?_⟩
                  obtain ⟨y, hy, hyi⟩ := d3 kl
                  refine ⟨y, hy, ?_⟩
                  rw [hyi, List.take_succ_eq_append_getElem (by simpa using hlt)]
                  simp [intLit, or_comm]
                case measure => omega
          · have hin : inB r.sets[i].var 0 ((vars : Int) - 1) = false := by
              rw [inB_false_iff]; omega
            have HF : Hid (formedF vars r = false) := formedF_false fun h => hr (h.sets _ (List.getElem_mem hlt)).1
            clear hr
            go_wp2_with (go_at_call 176; refine (within_any _ _ _ _).mono ?_; rintro e w' ⟨rfl, rfl⟩)
            go_ret
            exact ⟨ret_bool HF.out.symm, (box_bel HB).trans (box_bel HB2)⟩
        · have hd0 : decide (i < r.sets.length) = false := by simpa using hlt
          go_wp2_with fail
          go_ret
          refine ⟨ret_bool ?_, box_bel HB⟩
          symm
          rw [formedF_iff]
          obtain ⟨a1, a2⟩ := HJ.out
          rw [List.take_of_length_le (by omega)] at a1
          rw [List.take_of_length_le (by simp; omega)] at a2
          refine ⟨hn.1, hn.2, HVG.out, fun s hs => ?_, a2⟩
          have := List.all_eq_true.1 a1 s hs
          rw [Bool.and_eq_true] at this
          exact ⟨of_decide_eq_true this.1, this.2⟩
  · have HF : Hid (formedF vars r = false) := formedF_false fun h => hn ⟨h.pos, h.le⟩
    rcases (show r.sets.length = 0 ∨ 6 < r.sets.length by omega) with h0 | h0
    · have hz : ((r.sets.length : Int) == 0) = true := by simp [h0]
      have hz' : (r.sets.length == 0) = true := by simp [h0]
      clear hn
      have HH := Lib.hid h0; clear h0
      go_enter Tryz.func172, Tryz.ntmps172
      go_wp2_with fail
      go_ret
      exact ⟨ret_bool HF.out.symm, box_bel HB⟩
    · have hz : ((r.sets.length : Int) == 0) = false := int_beq0 (by omega)
      have hz' : (r.sets.length == 0) = false := nat_beq0 (by omega)
      have hz2 : decide (6 < r.sets.length) = true := by simpa using h0
      clear hn
      go_enter Tryz.func172, Tryz.ntmps172
      go_wp2_with fail
      go_ret
      exact ⟨ret_bool HF.out.symm, box_bel HB⟩

end Go.Proofs.YtibfjhhadbkkgaaGreat

/- Contracts: the program's Check and Valid of layer 7. -/
namespace Go.Proofs.YtibfjhhadbkkgaaGreat
open Go.RowKit

set_option maxRecDepth 100000 in
set_option maxHeartbeats 4000000 in
theorem check_any (v : Value) (p : Prg) (w : World) (h : PrgV w v p) (hL : lightP p = true) :
    Calls Tryz.prog 156 #[v] w fun e w' => e = .returned (.int .i64 (checkF p)) ∧ Bel w w' := by
  have HPV := Lib.hid (fun w' (k : Bel w w') => h.keep k)
  obtain ⟨A, k, A2, k2, rfl, hV, _, _, hR, _, _⟩ := h
  have HV := Lib.hid (fun w' (k : Bel w w') => VarsR.keep hV k); clear hV
  have HR := Lib.hid (fun w' (k : Bel w w') => RulesR.keep hR k); clear hR
  obtain ⟨p1, p2, p3, p4, p5⟩ := lightP_parts hL
  have HP5 := Lib.hid p5
  have HL := Lib.hid hL
  clear p4 p5 hL
  have HB := Bel.refl (w.alloc (.cells #[.string p.name, .slice A p.vars.length k, .slice A2 p.rules.length k2] 25))
  by_cases hn : 1 ≤ p.vars.length ∧ p.vars.length ≤ 6 ∧ p.rules.length ≤ 12
  · obtain ⟨n1, n2, n3⟩ := hn
    have hz : ((p.vars.length : Int) == 0) = false := int_beq0 n1
    have hz' : (p.vars.length == 0) = false := nat_beq0 n1
    have hz2 : decide (6 < p.vars.length) = false := by simp; omega
    have hz3 : decide (12 < p.rules.length) = false := by simp; omega
    have HC1 : Hid (checkF p = if namedF p = false then 5 else if p.vars.all numbersF = false then 2 else if p.rules.all (formedF p.vars.length) = false then 7 else if p.rules.all (typedF (kindsF p)) = false then 6 else 0) := by
      show checkF p = _
      unfold checkF; rw [if_neg (by omega)]
    cases hnm : namedF p with
    | false =>
      rw [hnm, if_pos rfl] at HC1
      go_enter Tryz.func156, Tryz.ntmps156
      go_wp2_with (go_at_call 170; refine (named_any _ p _ (HPV.out _ (box_bel HB)) HL.out).mono ?_; rintro e w' ⟨rfl, hb⟩; rw [hnm]; replace HB := HB.trans hb; clear hb)
      go_ret
      exact ⟨ret_int HC1.out.symm, box_bel HB⟩
    | true =>
      rw [hnm, if_neg (by decide)] at HC1
      have HNM := Lib.hid hnm; clear hnm
      go_enter Tryz.func156, Tryz.ntmps156
      go_wp2_with (go_at_call 170; refine (named_any _ p _ (HPV.out _ (box_bel HB)) HL.out).mono ?_; rintro e w' ⟨rfl, hb⟩; rw [HNM.out]; replace HB := HB.trans hb; clear hb; have q1 := box_cell HB 1 rfl; have q2 := box_lt HB)
      clear hz hz' hz2 hz3 q1 q2
      go_loopg [4, 32] p.vars.length (fun m _x z wr => ∃ j : Nat, j ≤ p.vars.length ∧ m = p.vars.length - j ∧ z = .int .i64 j ∧ Hid ((p.vars.take j).all numbersF = true) ∧ Bel (w.alloc (.cells #[.string p.name, .slice A p.vars.length k, .slice A2 p.rules.length k2] 25)) wr)
      case atStart => exact ⟨0, by omega, rfl, rfl, rfl, HB⟩
      case round =>
        clear HB
        obtain ⟨i, hi, rfl, rfl, HJ, HB⟩ := hrel
        by_cases hlt : i < p.vars.length
        · have hd0 : decide (i < p.vars.length) = true := by simpa using hlt
          obtain ⟨b, o, rfl, hb, c0, c1, c2, c3, c4, c5⟩ := (HV.out _ (box_bel HB)).at_ i hlt
          have HB2 := HB.alloc (.cells #[.string p.vars[i].name, .int .i64 p.vars[i].kind, .int .i64 p.vars[i].lo, .int .i64 p.vars[i].hi, .int .i64 p.vars[i].perNode, .int .i64 p.vars[i].perID] 48)
          cases hnn : numbersF p.vars[i] with
          | false =>
            rw [all_false_at hlt hnn, if_pos rfl] at HC1
            go_wp2_with (go_at_call 171; refine (numbers_any p.vars[i] _).mono ?_; rintro e w' ⟨rfl, hbb⟩; rw [hnn]; replace HB2 := HB2.trans hbb; clear hbb)
            go_ret
            exact ⟨ret_int HC1.out.symm, box_bel HB2⟩
          | true =>
            have HN := Lib.hid (all_take_succ hlt HJ.out hnn)
            have HNN := Lib.hid hnn; clear hnn
            go_wp2_with (go_at_call 171; refine (numbers_any p.vars[i] _).mono ?_; rintro e w' ⟨rfl, hbb⟩; rw [HNN.out]; replace HB2 := HB2.trans hbb; clear hbb)
            go_roundg (p.vars.length - (i + 1))
            case rel => exact ⟨i + 1, by omega, rfl, by go_num, HN, HB2⟩
            case measure => omega
        · have hd0 : decide (i < p.vars.length) = false := by simpa using hlt
          rw [all_of_take (by omega) HJ.out, if_neg (by decide)] at HC1
          have HNA := Lib.hid (kinds_known (all_of_take (by omega) HJ.out))
          have q1 := box_cell HB 2 rfl
          have q2 := box_lt HB
          clear HJ
          go_wp2_with fail
          clear hd0 q1 q2 hi hlt
          go_loopg [6, 43] p.rules.length (fun m _x z wr => ∃ j : Nat, j ≤ p.rules.length ∧ m = p.rules.length - j ∧ z = .int .i64 j ∧ Hid ((p.rules.take j).all (formedF p.vars.length) = true) ∧ Bel (w.alloc (.cells #[.string p.name, .slice A p.vars.length k, .slice A2 p.rules.length k2] 25)) wr)
          case atStart => exact ⟨0, by omega, rfl, rfl, rfl, HB⟩
          case round =>
            clear HB
            obtain ⟨i, hi, rfl, rfl, HJ, HB⟩ := hrel
            have q1 := box_cell HB 1 rfl
            have q2 := box_lt HB
            by_cases hlt : i < p.rules.length
            · have hd0 : decide (i < p.rules.length) = true := by simpa using hlt
              have HLr := Lib.hid (HP5.out _ (List.getElem_mem hlt))
              obtain ⟨b, o, G, c, S, c2, rfl, hb, c0, c1, c2', hRV⟩ := (HR.out _ (box_bel HB)).at_V i hlt
              have HB2 := HB.alloc (.cells #[.string p.rules[i].name, .slice G p.rules[i].guard.length c, .slice S p.rules[i].sets.length c2] 69)
              have HRV := Lib.hid (hRV.keep ((Bel.refl wr).alloc (.cells #[.string p.rules[i].name, .slice G p.rules[i].guard.length c, .slice S p.rules[i].sets.length c2] 69))); clear hRV
              cases hff : formedF p.vars.length p.rules[i] with
              | false =>
                rw [all_false_at hlt hff, if_pos rfl] at HC1
                go_wp2_with (go_at_call 172; refine (formed_any _ p.rules[i] p.vars.length _ HRV.out (by omega) HLr.out).mono ?_; rintro e w' ⟨rfl, hbb⟩; rw [hff]; replace HB2 := HB2.trans hbb; clear hbb)
                go_ret
                exact ⟨ret_int HC1.out.symm, box_bel HB2⟩
              | true =>
                have HN := Lib.hid (all_take_succ hlt HJ.out hff)
                have HFF := Lib.hid hff; clear hff
                go_wp2_with (go_at_call 172; refine (formed_any _ p.rules[i] p.vars.length _ HRV.out (by omega) HLr.out).mono ?_; rintro e w' ⟨rfl, hbb⟩; rw [HFF.out]; replace HB2 := HB2.trans hbb; clear hbb)
                go_roundg (p.rules.length - (i + 1))
                case rel => exact ⟨i + 1, by omega, rfl, by go_num, HN, HB2⟩
                case measure => omega
            · have hd0 : decide (i < p.rules.length) = false := by simpa using hlt
              have HALL := Lib.hid (all_of_take (by omega) HJ.out)
              rw [HALL.out, if_neg (by decide)] at HC1
              have q0 := box_cell HB 0 rfl
              have q3 := box_cell HB 2 rfl
              clear HJ
              go_wp2_with (go_at_call 53; refine (kinds_any _ p _ (HPV.out _ (box_bel HB)) (by omega)).mono ?_; rintro e w' ⟨KA, kc, rfl, hK, _, _, hbb⟩; replace HB := HB.trans hbb; clear hbb q0 q1 q3 q2; have q3 := box_cell HB 2 rfl; have q2 := box_lt HB)
              have HK := Lib.hid (fun w2 (k : Bel w' w2) => IntsR.keep hK k); clear hK
              have HW := Bel.refl w'
              clear hd0 q3 q2 hi hlt
              go_loopg [9, 59] p.rules.length (fun m _x z wr => ∃ j : Nat, j ≤ p.rules.length ∧ m = p.rules.length - j ∧ z = .int .i64 j ∧ Hid ((p.rules.take j).all (typedF (kindsF p)) = true) ∧ Bel w' wr)
              case atStart => exact ⟨0, by omega, rfl, rfl, rfl, HW⟩
              case round =>
                clear HW
                obtain ⟨i, hi, rfl, rfl, HJ, HW⟩ := hrel
                by_cases hlt : i < p.rules.length
                · have hd0 : decide (i < p.rules.length) = true := by simpa using hlt
                  have HLr := Lib.hid (HP5.out _ (List.getElem_mem hlt))
                  have hfo := (formedF_iff _ _).1 (List.all_eq_true.1 HALL.out _ (List.getElem_mem hlt))
                  rw [← kindsF_length p] at hfo
                  have HFO := Lib.hid hfo; clear hfo
                  obtain ⟨b, o, G, c, S, c2, rfl, hb, c0, c1, c2', hRV⟩ := (HR.out _ ((box_bel HB).trans HW)).at_V i hlt
                  have HW2 := HW.alloc (.cells #[.string p.rules[i].name, .slice G p.rules[i].guard.length c, .slice S p.rules[i].sets.length c2] 69)
                  have HRV := Lib.hid (hRV.keep ((Bel.refl wr).alloc (.cells #[.string p.rules[i].name, .slice G p.rules[i].guard.length c, .slice S p.rules[i].sets.length c2] 69))); clear hRV
                  cases htv : typedF (kindsF p) p.rules[i] with
                  | false =>
                    rw [all_false_at hlt htv, if_pos rfl] at HC1
                    go_wp2_with (go_at_call 173; refine (typed_any _ p.rules[i] _ _ (kindsF p) _ HRV.out (HK.out _ HW2) (by rw [kindsF_length]; exact n2) HNA.out HFO.out HLr.out).mono ?_; rintro e w2 ⟨rfl, hbb⟩; rw [htv]; replace HW2 := HW2.trans hbb; clear hbb)
                    go_ret
                    exact ⟨ret_int HC1.out.symm, (box_bel HB).trans HW2⟩
                  | true =>
                    have HN := Lib.hid (all_take_succ hlt HJ.out htv)
                    have HTV := Lib.hid htv; clear htv
                    go_wp2_with (go_at_call 173; refine (typed_any _ p.rules[i] _ _ (kindsF p) _ HRV.out (HK.out _ HW2) (by rw [kindsF_length]; exact n2) HNA.out HFO.out HLr.out).mono ?_; rintro e w2 ⟨rfl, hbb⟩; rw [HTV.out]; replace HW2 := HW2.trans hbb; clear hbb)
                    go_roundg (p.rules.length - (i + 1))
                    case rel => exact ⟨i + 1, by omega, rfl, by go_num, HN, HW2⟩
                    case measure => omega
                · have hd0 : decide (i < p.rules.length) = false := by simpa using hlt
                  rw [all_of_take (by omega) HJ.out, if_neg (by decide)] at HC1
                  go_wp2_with fail
                  go_ret
                  exact ⟨ret_int HC1.out.symm, (box_bel HB).trans HW⟩
  · have HF : Hid (checkF p = 3) := by show checkF p = 3; unfold checkF; rw [if_pos hn]
    rcases (show p.vars.length = 0 ∨ 6 < p.vars.length ∨ (1 ≤ p.vars.length ∧ p.vars.length ≤ 6 ∧ 12 < p.rules.length) by omega) with h0 | h0 | ⟨h0, h1, h2⟩
    · have hz : ((p.vars.length : Int) == 0) = true := by simp [h0]
      have hz' : (p.vars.length == 0) = true := by simp [h0]
      clear hn
      have HH := Lib.hid h0; clear h0
      go_enter Tryz.func156, Tryz.ntmps156
      go_wp2_with fail
      go_ret
      exact ⟨ret_int HF.out.symm, box_bel HB⟩
    · have hz : ((p.vars.length : Int) == 0) = false := int_beq0 (by omega)
      have hz' : (p.vars.length == 0) = false := nat_beq0 (by omega)
      have hz2 : decide (6 < p.vars.length) = true := by simpa using h0
      clear hn
      go_enter Tryz.func156, Tryz.ntmps156
      go_wp2_with fail
      go_ret
      exact ⟨ret_int HF.out.symm, box_bel HB⟩
    · have hz : ((p.vars.length : Int) == 0) = false := int_beq0 h0
      have hz' : (p.vars.length == 0) = false := nat_beq0 h0
      have hz2 : decide (6 < p.vars.length) = false := by simp; omega
      have hz3 : decide (12 < p.rules.length) = true := by simpa using h2
      clear hn
      go_enter Tryz.func156, Tryz.ntmps156
      go_wp2_with fail
      go_ret
      exact ⟨ret_int HF.out.symm, box_bel HB⟩

theorem prgValid_any (v : Value) (p : Prg) (w : World) (h : PrgV w v p) (hL : lightP p = true) :
    Calls Tryz.prog 131 #[v] w fun e w' => e = .returned (.bool (decide (checkF p = 0))) ∧ Bel w w' := by
  have HPV := Lib.hid (fun w' (k : Bel w w') => h.keep k)
  obtain ⟨A, k, A2, k2, rfl, _, _, _, _, _, _⟩ := h
  have HB := (Bel.refl w).alloc (.cells #[.string p.name, .slice A p.vars.length k, .slice A2 p.rules.length k2] 25)
  go_enter Tryz.func131, Tryz.ntmps131
  go_wp2_with (go_at_call 156; refine (check_any _ p _ (HPV.out _ HB) hL).mono ?_; rintro e w' ⟨rfl, hb⟩; replace HB := HB.trans hb; clear hb)
  go_ret
  exact ⟨ret_bool (by rw [Bool.eq_iff_iff]; simp), HB⟩

end Go.Proofs.YtibfjhhadbkkgaaGreat

/- Contracts: Valid of graphs, the greatest identifier, the bounds of a variable. -/
namespace Go.Proofs.YtibfjhhadbkkgaaGreat
open Go.RowKit

theorem nat_lt1 {n : Nat} (h : 1 ≤ n) : decide (n < 1) = false := by simp; omega
theorem int_lt1 {n : Nat} (h : 1 ≤ n) : decide ((n : Int) < 1) = false := by simp; omega
theorem nat_lt1' {n : Nat} (h : n < 1) : decide (n < 1) = true := by simp; omega
theorem int_lt1' {n : Nat} (h : n < 1) : decide ((n : Int) < 1) = true := by simp; omega
set_option maxRecDepth 100000 in
set_option maxHeartbeats 2000000 in
theorem graphValid_any (v : Value) (g : Graph) (w : World) (h : GraphV w v g) (hlg : lightG g = true) :
    Calls Tryz.prog 132 #[v] w fun e w' => e = .returned (.bool (graphB g)) ∧ Bel w w' := by
  obtain ⟨A, k, A2, k2, rfl, hI, _, _, hP, _, _⟩ := h
  have HI := Lib.hid (fun w' (k : Bel w w') => IntsR.keep hI k); clear hI
  have HP := Lib.hid (fun w' (k : Bel w w') => PortsR.keep hP k); clear hP
  obtain ⟨hl1, hl2, hl3⟩ := lightG_parts hlg
  have HL3 := Lib.hid hl3; clear hl3 hlg
  have HG := Lib.hid (graphB_sym g)
  have HB := Bel.refl (w.alloc (.cells #[.slice A g.ids.length k, .slice A2 g.ports.length k2] 29))
  by_cases hn : 1 ≤ g.ports.length ∧ g.ports.length ≤ 24 ∧ g.ids.length = g.ports.length
  · have hd1 : decide (g.ids.length < 1) = false := nat_lt1 (by omega)
    have hd2 : decide (24 < g.ids.length) = false := by simp; omega
    have hd3 : (g.ports.length != g.ids.length) = false := by simp; omega
    have hd3' : ((g.ports.length : Int) != (g.ids.length : Int)) = false := by simp; omega
    have hd1' : decide ((g.ids.length : Int) < 1) = false := int_lt1 (by omega)
    rw [decide_eq_true hn] at HG
    have hn1 : 1 ≤ g.ids.length := by omega
    have hn2 : g.ids.length ≤ 24 := by omega
    clear hn
    cases hi : idsOK g.ids with
    | false =>
      go_enter Tryz.func132, Tryz.ntmps132
      go_wp2_with (go_at_call 157; refine (differentIDs_any _ _ g.ids _ (HI.out _ (box_bel HB)) (by omega)).mono ?_; rintro e w' ⟨rfl, hb⟩; rw [hi]; replace HB := HB.trans hb; clear hb)
      go_ret
      exact ⟨ret_bool (by rw [HG.out, hi]; rfl), box_bel HB⟩
    | true =>
      have HII := Lib.hid hi; clear hi
      go_enter Tryz.func132, Tryz.ntmps132
      go_wp2_with (first
        | (go_at_call 157; refine (differentIDs_any _ _ g.ids _ (HI.out _ (box_bel HB)) (by omega)).mono ?_; rintro e w' ⟨rfl, hb⟩; rw [HII.out]; replace HB := HB.trans hb; clear hb; have q1 := box_cell HB 1 rfl; have q2 := box_lt HB)
        | (go_at_call 158; refine (symmetric_any _ _ g.ports _ (HP.out _ (box_bel HB)) (by omega) HL3.out).mono ?_; rintro e w' ⟨rfl, hb⟩; replace HB := HB.trans hb; clear hb))
      go_ret
      exact ⟨ret_bool (by rw [HG.out, HII.out]; rfl), box_bel HB⟩
  · rw [decide_eq_false hn] at HG
    by_cases h1 : g.ids.length < 1
    · have hd1 : decide (g.ids.length < 1) = true := nat_lt1' h1
      have hd1' : decide ((g.ids.length : Int) < 1) = true := int_lt1' h1
      clear hn
      go_enter Tryz.func132, Tryz.ntmps132
      go_wp2_with fail
      go_ret
      exact ⟨ret_bool (by rw [HG.out]; rfl), box_bel HB⟩
    · have hd1 : decide (g.ids.length < 1) = false := nat_lt1 (by omega)
      have hd1' : decide ((g.ids.length : Int) < 1) = false := int_lt1 (by omega)
      by_cases h2 : 24 < g.ids.length
      · have hd2 : decide (24 < g.ids.length) = true := by simpa using h2
        clear hn
        go_enter Tryz.func132, Tryz.ntmps132
        go_wp2_with fail
        go_ret
        exact ⟨ret_bool (by rw [HG.out]; rfl), box_bel HB⟩
      · have hd2 : decide (24 < g.ids.length) = false := by simpa using h2
        have hd3 : (g.ports.length != g.ids.length) = true := by simp; omega
        have hd3' : ((g.ports.length : Int) != (g.ids.length : Int)) = true := by simp; omega
        clear hn
        go_enter Tryz.func132, Tryz.ntmps132
        go_wp2_with fail
        go_ret
        exact ⟨ret_bool (by rw [HG.out]; rfl), box_bel HB⟩

theorem gmax_take_succ {l : List Int} {k : Nat} (h : k < l.length) : gmax (l.take (k + 1)) = max (gmax (l.take k)) l[k] := by
  unfold gmax
  rw [List.take_succ_eq_append_getElem h, List.foldl_append]; rfl

set_option maxRecDepth 100000 in
theorem slicesMax_any (A : Option Addr) (c : Nat) (ids : List Int) (w : World) (h : IntsR w A ids.length ids) (hl : ids.length ≤ 1000) (hp : 1 ≤ ids.length) (h0 : ∀ i ∈ ids, 0 ≤ i) :
    Calls Tryz.prog 160 #[.slice A ids.length c] w fun e w' => e = .returned (.int .i64 (gmax ids)) ∧ w = w' := by
  have H := Lib.hid h; clear h
  have hz : decide (ids.length < 1) = false := nat_lt1 hp
  have hz' : decide ((ids.length : Int) < 1) = false := int_lt1 hp
  obtain ⟨b, o, rfl, hb, hc⟩ := H.out.at_ 0 (by omega)
  have hpos : 0 < ids.length := by omega
  simp only [Nat.add_zero] at hc
  have HS : Hid (gmax (ids.take 1) = ids[0]) := by
    show gmax (ids.take 1) = ids[0]
    rw [gmax_take_succ (k := 0) (by omega)]
    have := h0 ids[0] (List.getElem_mem _)
    simp [gmax]; omega
  clear h0
  go_enter Tryz.func160, Tryz.ntmps160
  go_wp2
  clear hz hz' hc
  go_loopg [3, 4] (ids.length - 1) (fun m s z wr => ∃ j : Nat, j ≤ ids.length ∧ m = ids.length - j ∧ z = .int .i64 j ∧ s = .int .i64 (gmax (ids.take j)) ∧ w = wr)
  case atStart => exact ⟨1, by omega, rfl, rfl, by rw [HS.out], rfl⟩
  case round =>
    obtain ⟨j, hj, rfl, rfl, rfl, rfl⟩ := hrel
    by_cases hlt : j < ids.length
    · have hd0 : decide (j < ids.length) = true := by simpa using hlt
      obtain ⟨b', o', e', _, hc⟩ := H.out.at_ j hlt
      obtain ⟨rfl, rfl⟩ : b = b' ∧ o = o' := by simpa using e'
      have HN := Lib.hid (gmax_take_succ hlt)
      generalize gmax (ids.take j) = G at *
      obtain ⟨m, hm, hm'⟩ := ite_max G ids[j]
      have HM := Lib.hid hm'
      clear hm' e'
      go_wp2
      go_roundg (ids.length - (j + 1))
      case rel => exact ⟨j + 1, by omega, rfl, by go_num, by rw [HN.out, ← HM.out], rfl⟩
      case measure => omega
    · have hd0 : decide (j < ids.length) = false := by simpa using hlt
      go_wp2
      go_ret
      exact ⟨ret_int (by rw [List.take_of_length_le (by omega)]), rfl⟩

set_option maxRecDepth 100000 in
theorem greatest_any (v : Value) (g : Graph) (w : World) (h : GraphV w v g) (hl : g.ids.length ≤ 1000) :
    Calls Tryz.prog 121 #[v] w fun e w' => e = .returned (.int .i64 (gmax g.ids)) ∧ Bel w w' := by
  obtain ⟨A, k, A2, k2, rfl, hI, _, _, hP, _, _⟩ := h
  have H := Lib.hid hI; clear hI hP
  go_enter Tryz.func121, Tryz.ntmps121
  go_wp2
  go_loopg [3, 4] g.ids.length (fun m s z wr => ∃ j : Nat, j ≤ g.ids.length ∧ m = g.ids.length - j ∧ z = .int .i64 j ∧ s = .int .i64 (gmax (g.ids.take j)) ∧ w.alloc (.cells #[.slice A g.ids.length k, .slice A2 g.ports.length k2] 29) = wr)
  case atStart => exact ⟨0, by omega, rfl, rfl, rfl, rfl⟩
  case round =>
    obtain ⟨j, hj, rfl, rfl, rfl, rfl⟩ := hrel
    by_cases hlt : j < g.ids.length
    · have hd0 : decide (j < g.ids.length) = true := by simpa using hlt
      obtain ⟨b, o, rfl, hb, hc⟩ := H.out.at_ j hlt
      have HN := Lib.hid (gmax_take_succ hlt)
      generalize gmax (g.ids.take j) = G at *
      obtain ⟨m, hm, hm'⟩ := ite_max G g.ids[j]
      have HM := Lib.hid hm'
      clear hm'
      go_wp2
      go_roundg (g.ids.length - (j + 1))
      case rel => exact ⟨j + 1, by omega, rfl, by go_num, by rw [HN.out, ← HM.out], rfl⟩
      case measure => omega
    · have hd0 : decide (j < g.ids.length) = false := by simpa using hlt
      go_wp2
      go_ret
      exact ⟨ret_int (by rw [List.take_of_length_le (by omega)]), (Bel.refl _).alloc _⟩

end Go.Proofs.YtibfjhhadbkkgaaGreat

