/- Merged of: WTk WTl WTm P11 (see NOTES.md). -/
import Derived.Test.YtaifafljakojnaaGreatZ10
import Derived.Test.YtaifafljakojnaaGreatZ03
import Derived.Test.YtaifafljakojnaaGreatZ01
set_option linter.unusedSimpArgs false
set_option linter.unnecessarySimpa false
set_option linter.unusedVariables false

/- Contract: the program's named. -/
namespace Go.Proofs.YtaifafljakojnaaGreat
open Go.RowKit Go.Maps

def strLit (s : ByteArray) : Lit := .string s.data.toList
theorem strLit_inj {a b : ByteArray} (h : strLit a = strLit b) : a = b := by
  unfold strLit at h
  injection h with h
  cases a; cases b
  simp only [ByteArray.mk.injEq]
  exact Array.toList_inj.1 h
theorem strLits_mem {s : ByteArray} {l : List ByteArray} : strLit s ∈ l.map strLit ↔ s ∈ l := by
  constructor
  · intro h
    obtain ⟨x, hx, he⟩ := List.mem_map.1 h
    rwa [strLit_inj he] at hx
  · exact fun h => List.mem_map_of_mem h
theorem strKeyed : Keyed Tryz.prog 9 := string_keyed Tryz.underlying9
theorem boolZero (w : World) : (zeroValue 4).run Tryz.prog w = .ok (.bool false) w := by kernel_rfl
theorem mem_take_of {α : Type} {l : List α} {k : Nat} {x : α} (h : x ∈ l.take k) : ∃ j, ∃ hj : j < l.length, j < k ∧ l[j] = x := by
  rw [List.mem_take_iff_getElem] at h
  obtain ⟨j, hj, rfl⟩ := h
  exact ⟨j, by omega, by omega, rfl⟩

set_option maxRecDepth 100000 in
set_option maxHeartbeats 4000000 in
theorem named_any (v : Value) (p : Prg) (w : World) (h : PrgV w v p) (hL : lightP p = true) :
    Calls Tryz.prog 153 #[v] w fun e w' => e = .returned (.bool (namedF p)) ∧ Bel w w' := by
  obtain ⟨A, k, A2, k2, rfl, hV, _, _, hR, _, _⟩ := h
  have HV := Lib.hid (fun w' (k : Bel w w') => VarsR.keep hV k); clear hV
  have HR := Lib.hid (fun w' (k : Bel w w') => RulesR.keep hR k); clear hR
  obtain ⟨p1, p2, p3, p4, p5⟩ := lightP_parts hL
  have HP4 := Lib.hid p4
  have HP5 := Lib.hid (fun r hr => (lightR_parts (p5 r hr)).1)
  clear p4 p5 hL
  have HB := Bel.refl (w.alloc (.cells #[.string p.name, .slice A p.vars.length k, .slice A2 p.rules.length k2] 26))
  have hmm := @run_makeMap Tryz.prog
  cases hnm : nameF p.name with
  | false =>
    have HF : Hid (namedF p = false) := by show namedF p = false; unfold namedF; rw [hnm]; rfl
    go_enter Tryz.func153, Tryz.ntmps153
    go_wp2_with (go_at_call 167; refine (name_any _ _ (by omega)).mono ?_; rintro e w' ⟨rfl, rfl⟩)
    go_ret
    exact ⟨ret_bool HF.out.symm, box_bel HB⟩
  | true =>
    have HNM := Lib.hid hnm
    have HS0 := Lib.hid (SetR.made Tryz.prog 9 4 (w.alloc (.cells #[.string p.name, .slice A p.vars.length k, .slice A2 p.rules.length k2] 26)))
    replace HB := HB.alloc (.map #[] 0)
    simp only [World.size_alloc] at HS0
    go_enter Tryz.func153, Tryz.ntmps153
    go_wp2_with (go_at_call 167; refine (name_any _ _ (by omega)).mono ?_; rintro e w' ⟨rfl, rfl⟩)
    clear hnm
    go_loopg [5, 17] p.vars.length (fun m _x z wr => ∃ j : Nat, j ≤ p.vars.length ∧ m = p.vars.length - j ∧ z = .int .i64 j ∧ Hid ((∀ q, q < j → (hq : q < p.vars.length) → nameF p.vars[q].name = true) ∧ ((p.vars.map Var.name).take j).Nodup) ∧ Hid (SetR Tryz.prog 9 4 wr (w.heap.size + 1) j (((p.vars.map Var.name).take j).map strLit)) ∧ Bel (w.alloc (.cells #[.string p.name, .slice A p.vars.length k, .slice A2 p.rules.length k2] 26)) wr)
    case atStart => exact ⟨0, by omega, rfl, rfl, ⟨fun q hq => absurd hq (by omega), by simp⟩, HS0, HB⟩
    case round =>
      clear HB HS0
      obtain ⟨i, hi, rfl, rfl, HJ, HS, HB⟩ := hrel
      by_cases hlt : i < p.vars.length
      · have hd0 : decide (i < p.vars.length) = true := by simpa using hlt
        have hnl := HP4.out _ (List.getElem_mem hlt)
        obtain ⟨b, o, rfl, hb, hc0, hc1, hc2, hc3, hc4, hc5⟩ := (HV.out _ (box_bel HB)).at_ i hlt
        have hkey := WideMaps.keyOf_string_mk (P := Tryz.prog) (k := 9) Tryz.underlying9 (s := p.vars[i].name) (by unfold maxLen; omega)
        have HB2 := HB.alloc (.cells #[.string p.vars[i].name, .int .i64 p.vars[i].kind, .int .i64 p.vars[i].lo, .int .i64 p.vars[i].hi, .int .i64 p.vars[i].perNode, .int .i64 p.vars[i].perID] 60)
        have HS2 := Lib.hid (HS.out.keep ((Bel.refl wr).alloc (.cells #[.string p.vars[i].name, .int .i64 p.vars[i].kind, .int .i64 p.vars[i].lo, .int .i64 p.vars[i].hi, .int .i64 p.vars[i].perNode, .int .i64 p.vars[i].perID] 60)))
        obtain ⟨x, hx, hxi⟩ := HS2.out.look strKeyed Tryz.underlying185 Tryz.underlying4 (boolZero _) hkey
        have HXI := Lib.hid hxi
        have hms := HS2.out.lt
        have HKEY := Lib.hid hkey
        clear hxi hkey
        cases hnn : nameF p.vars[i].name with
        | false =>
          have HF : Hid (namedF p = false) := namedF_false1 fun hf => by
            have := ((namesF_iff _).1 hf).1 p.vars[i].name (List.mem_map_of_mem (List.getElem_mem hlt))
            rw [hnn] at this; cases this
          go_wp2_with (go_at_call 167; refine (name_any _ _ (by omega)).mono ?_; rintro e w' ⟨rfl, rfl⟩)
          go_ret
          exact ⟨ret_bool HF.out.symm, box_bel HB2⟩
        | true =>
          cases x with
          | true =>
            have HF : Hid (namedF p = false) := namedF_false1 fun hf => by
              have hm := HXI.out.1 rfl
              rw [show (Lit.string p.vars[i].name.data.toList) = strLit p.vars[i].name from rfl, strLits_mem] at hm
              obtain ⟨j, hj1, hj2, hj3⟩ := mem_take_of hm
              exact notT_nodup hj2 (by simpa using hlt) (by rw [hj3]; simp) ((namesF_iff _).1 hf).2
            go_wp2_with (go_at_call 167; refine (name_any _ _ (by omega)).mono ?_; rintro e w' ⟨rfl, rfl⟩)
            go_ret
            exact ⟨ret_bool HF.out.symm, box_bel HB2⟩
          | false =>
            have HNN := Lib.hid hnn
            have HT : Hid (((p.vars.map Var.name).take (i + 1)).Nodup) := by
              show List.Nodup _
              refine nodupT_take_succ (by simpa using hlt) HJ.out.2 (fun q hq he => ?_)
              have : (false : Bool) = true := HXI.out.2 (by
                rw [show (Lit.string p.vars[i].name.data.toList) = strLit p.vars[i].name from rfl, strLits_mem, List.mem_take_iff_getElem]
                refine ⟨q, by simp; omega, ?_⟩
                simp at he ⊢
                exact he)
              cases this
            go_wp2_with (first
              | (go_at_call 167; refine (name_any _ _ (by omega)).mono ?_; rintro e w' ⟨rfl, rfl⟩)
              | (at_mapUpdate; refine wpList_putSet _ rfl (.tmp 31) (.tmp 33) (.const (.bool true)) 185 rfl 9 4 strKeyed Tryz.underlying185 Tryz.underlying4 (w.heap.size + 1) i _ rfl HS2.out (by unfold maxLen; omega) _ _ rfl rfl HKEY.out trivial ?_; intro w3 hset hgr; have HB3 := HB2.map (by simp <;> omega) hgr; have HS3 := Lib.hid hset; clear hset hgr))
            go_roundg (p.vars.length - (i + 1))
            case rel =>
              refine ⟨i + 1, by omega, rfl, by go_num, ⟨?_, HT.out⟩, ?_, HB3⟩
              · intro q hq hq'
                rcases Nat.lt_or_ge q i with h | h
                · exact HJ.out.1 q h hq'
                · obtain rfl : q = i := by omega
                  exact HNN.out
              · obtain ⟨D, d1, d2, d3⟩ := HS3.out
                refine ⟨D, d1, d2, fun kl => ?_⟩
                obtain ⟨y, hy, hyi⟩ := d3 kl
                refine ⟨y, hy, ?_⟩
                rw [hyi, List.take_succ_eq_append_getElem (by simpa using hlt)]
                simp [strLit, or_comm]
            case measure => omega
      · have hd0 : decide (i < p.vars.length) = false := by simpa using hlt
        have HE : Hid (namesF (p.vars.map Var.name) = true) := by
          show namesF (p.vars.map Var.name) = true
          rw [namesF_iff]
          obtain ⟨a1, a2⟩ := HJ.out
          rw [List.take_of_length_le (by simp; omega)] at a2
          refine ⟨fun s hs => ?_, a2⟩
          obtain ⟨x, hx, rfl⟩ := List.mem_map.1 hs
          obtain ⟨q, hq, rfl⟩ := List.getElem_of_mem hx
          exact a1 q (by omega) hq
        have HE1 := HE
        have q1 := box_cell HB 2 rfl
        have q2 := box_lt HB
        have HS0 := Lib.hid (SetR.made Tryz.prog 9 4 wr)
        clear HE HJ HS
        have hmb : w.heap.size + 1 ≤ wr.heap.size := by omega
        replace HB := HB.alloc (.map #[] 0)
        go_wp2_with fail
        clear hd0 q1 q2 hi hlt
        generalize hmbe : wr.heap.size = mb at *
        clear hmbe
        go_loopg [8, 39] p.rules.length (fun m _x z wr => ∃ j : Nat, j ≤ p.rules.length ∧ m = p.rules.length - j ∧ z = .int .i64 j ∧ Hid ((∀ q, q < j → (hq : q < p.rules.length) → nameF p.rules[q].name = true) ∧ ((p.rules.map Rule.name).take j).Nodup) ∧ Hid (SetR Tryz.prog 9 4 wr (mb) j (((p.rules.map Rule.name).take j).map strLit)) ∧ Bel (w.alloc (.cells #[.string p.name, .slice A p.vars.length k, .slice A2 p.rules.length k2] 26)) wr)
        case atStart => exact ⟨0, by omega, rfl, rfl, ⟨fun q hq => absurd hq (by omega), by simp⟩, HS0, HB⟩
        case round =>
          clear HB HS0
          obtain ⟨i, hi, rfl, rfl, HJ, HS, HB⟩ := hrel
          by_cases hlt : i < p.rules.length
          · have hd0 : decide (i < p.rules.length) = true := by simpa using hlt
            have hnl := HP5.out _ (List.getElem_mem hlt)
            obtain ⟨b, o, G, c, S, c2, rfl, hb, hc0, hc1, hc2, _⟩ := (HR.out _ (box_bel HB)).at_ i hlt
            have hkey := WideMaps.keyOf_string_mk (P := Tryz.prog) (k := 9) Tryz.underlying9 (s := p.rules[i].name) (by unfold maxLen; omega)
            have HB2 := HB.alloc (.cells #[.string p.rules[i].name, .slice G p.rules[i].guard.length c, .slice S p.rules[i].sets.length c2] 143)
            have HS2 := Lib.hid (HS.out.keep ((Bel.refl wr).alloc (.cells #[.string p.rules[i].name, .slice G p.rules[i].guard.length c, .slice S p.rules[i].sets.length c2] 143)))
            obtain ⟨x, hx, hxi⟩ := HS2.out.look strKeyed Tryz.underlying185 Tryz.underlying4 (boolZero _) hkey
            have HXI := Lib.hid hxi
            have hms := HS2.out.lt
            have HKEY := Lib.hid hkey
            clear hxi hkey
            cases hnn : nameF p.rules[i].name with
            | false =>
              have HF : Hid (namedF p = false) := namedF_false2 fun hf => by
                have := ((namesF_iff _).1 hf).1 p.rules[i].name (List.mem_map_of_mem (List.getElem_mem hlt))
                rw [hnn] at this; cases this
              go_wp2_with (go_at_call 167; refine (name_any _ _ (by omega)).mono ?_; rintro e w' ⟨rfl, rfl⟩)
              go_ret
              exact ⟨ret_bool HF.out.symm, box_bel HB2⟩
            | true =>
              cases x with
              | true =>
                have HF : Hid (namedF p = false) := namedF_false2 fun hf => by
                  have hm := HXI.out.1 rfl
                  rw [show (Lit.string p.rules[i].name.data.toList) = strLit p.rules[i].name from rfl, strLits_mem] at hm
                  obtain ⟨j, hj1, hj2, hj3⟩ := mem_take_of hm
                  exact notT_nodup hj2 (by simpa using hlt) (by rw [hj3]; simp) ((namesF_iff _).1 hf).2
                go_wp2_with (go_at_call 167; refine (name_any _ _ (by omega)).mono ?_; rintro e w' ⟨rfl, rfl⟩)
                go_ret
                exact ⟨ret_bool HF.out.symm, box_bel HB2⟩
              | false =>
                have HNN := Lib.hid hnn
                have HT : Hid (((p.rules.map Rule.name).take (i + 1)).Nodup) := by
                  show List.Nodup _
                  refine nodupT_take_succ (by simpa using hlt) HJ.out.2 (fun q hq he => ?_)
                  have : (false : Bool) = true := HXI.out.2 (by
                    rw [show (Lit.string p.rules[i].name.data.toList) = strLit p.rules[i].name from rfl, strLits_mem, List.mem_take_iff_getElem]
                    refine ⟨q, by simp; omega, ?_⟩
                    simp at he ⊢
                    exact he)
                  cases this
                go_wp2_with (first
                  | (go_at_call 167; refine (name_any _ _ (by omega)).mono ?_; rintro e w' ⟨rfl, rfl⟩)
                  | (at_mapUpdate; refine wpList_putSet _ rfl (.tmp 53) (.tmp 55) (.const (.bool true)) 185 rfl 9 4 strKeyed Tryz.underlying185 Tryz.underlying4 (mb) i _ rfl HS2.out (by unfold maxLen; omega) _ _ rfl rfl HKEY.out trivial ?_; intro w3 hset hgr; have HB3 := HB2.map (by simp <;> omega) hgr; have HS3 := Lib.hid hset; clear hset hgr))
                go_roundg (p.rules.length - (i + 1))
                case rel =>
                  refine ⟨i + 1, by omega, rfl, by go_num, ⟨?_, HT.out⟩, ?_, HB3⟩
                  · intro q hq hq'
                    rcases Nat.lt_or_ge q i with h | h
                    · exact HJ.out.1 q h hq'
                    · obtain rfl : q = i := by omega
                      exact HNN.out
                  · obtain ⟨D, d1, d2, d3⟩ := HS3.out
                    refine ⟨D, d1, d2, fun kl => ?_⟩
                    obtain ⟨y, hy, hyi⟩ := d3 kl
                    refine ⟨y, hy, ?_⟩
                    rw [hyi, List.take_succ_eq_append_getElem (by simpa using hlt)]
                    simp [strLit, or_comm]
                case measure => omega
          · have hd0 : decide (i < p.rules.length) = false := by simpa using hlt
            have HE : Hid (namesF (p.rules.map Rule.name) = true) := by
              show namesF (p.rules.map Rule.name) = true
              rw [namesF_iff]
              obtain ⟨a1, a2⟩ := HJ.out
              rw [List.take_of_length_le (by simp; omega)] at a2
              refine ⟨fun s hs => ?_, a2⟩
              obtain ⟨x, hx, rfl⟩ := List.mem_map.1 hs
              obtain ⟨q, hq, rfl⟩ := List.getElem_of_mem hx
              exact a1 q (by omega) hq
            go_wp2_with fail
            go_ret
            refine ⟨ret_bool ?_, box_bel HB⟩
            symm
            unfold namedF
            rw [HNM.out, HE1.out, HE.out]; rfl

end Go.Proofs.YtaifafljakojnaaGreat

/- Contract: the program's formed. -/
namespace Go.Proofs.YtaifafljakojnaaGreat
open Go.RowKit Go.Maps

theorem nat_beq0 {n : Nat} (h : 1 ≤ n) : (n == 0) = false := by simp; omega
theorem int_beq0 {n : Nat} (h : 1 ≤ n) : ((n : Int) == 0) = false := by simp; omega

def intLit (x : Int) : Lit := .int .i64 x
theorem intLits_mem {x : Int} {l : List Int} : intLit x ∈ l.map intLit ↔ x ∈ l := by
  constructor
  · intro h
    obtain ⟨y, hy, he⟩ := List.mem_map.1 h
    unfold intLit at he
    injection he with _ he
    subst he; exact hy
  · exact fun h => List.mem_map_of_mem h
theorem intKeyed : Keyed Tryz.prog 3 := int_keyed Tryz.underlying3

set_option maxRecDepth 100000 in
set_option maxHeartbeats 4000000 in
theorem formed_any (v : Value) (r : Rule) (vars : Nat) (w : World) (h : RuleV w v r) (hvars : vars ≤ 1000) (hL : lightR r = true) :
    Calls Tryz.prog 155 #[v, .int .i64 vars] w fun e w' => e = .returned (.bool (formedF vars r)) ∧ Bel w w' := by
  obtain ⟨G, c, S, c2, rfl, hG, _, _, hS, _, _⟩ := h
  have HG := Lib.hid (fun w' (k : Bel w w') => TermsR.keep hG k); clear hG
  have HS := Lib.hid (fun w' (k : Bel w w') => SetsR.keep hS k); clear hS
  obtain ⟨_, l2, l3, l4⟩ := lightR_parts hL
  have HL4 := Lib.hid l4; clear l4 hL
  have HB := Bel.refl (w.alloc (.cells #[.string r.name, .slice G r.guard.length c, .slice S r.sets.length c2] 143))
  have hmm := @run_makeMap Tryz.prog
  by_cases hn : 1 ≤ r.sets.length ∧ r.sets.length ≤ 6
  · have hz : ((r.sets.length : Int) == 0) = false := int_beq0 (by omega)
    have hz' : (r.sets.length == 0) = false := nat_beq0 (by omega)
    have hz2 : decide (6 < r.sets.length) = false := by simp; omega
    cases hvg : validF r.guard vars with
    | false =>
      have HF : Hid (formedF vars r = false) := formedF_false fun h => by rw [h.guard] at hvg; cases hvg
      go_enter Tryz.func155, Tryz.ntmps155
      go_wp2_with (go_at_call 42; refine (valid_any _ _ _ r.guard _ _ (HG.out _ (box_bel HB)) (by omega)).mono ?_; rintro e w' ⟨rfl, hb⟩; rw [hvg]; replace HB := HB.trans hb; clear hb)
      go_ret
      exact ⟨ret_bool HF.out.symm, box_bel HB⟩
    | true =>
      have HVG := Lib.hid hvg; clear hvg
      go_enter Tryz.func155, Tryz.ntmps155
      go_wp2_with (go_at_call 42; refine (valid_any _ _ _ r.guard _ _ (HG.out _ (box_bel HB)) (by omega)).mono ?_; rintro e w1 ⟨rfl, hb⟩; rw [HVG.out]; replace HB := HB.trans hb; clear hb; have q1 := box_cell HB 2 rfl; have q2 := box_lt HB)
      clear hz hz' hz2 q1
      have HS0 := Lib.hid (SetR.made Tryz.prog 3 4 w1)
      replace HB := HB.alloc (.map #[] 0)
      obtain ⟨mb, hmb⟩ : ∃ mb, w1.heap.size = mb := ⟨_, rfl⟩
      rw [hmb] at q2
      simp only [hmb] at HS0 ⊢
      clear hmb
      go_loopg [7, 29] r.sets.length (fun m _x z wr => ∃ j : Nat, j ≤ r.sets.length ∧ m = r.sets.length - j ∧ z = .int .i64 j ∧ Hid ((r.sets.take j).all (fun s => decide (0 ≤ s.var ∧ s.var ≤ (vars : Int) - 1) && validF s.value vars) = true ∧ ((r.sets.map SetT.var).take j).Nodup) ∧ Hid (SetR Tryz.prog 3 4 wr mb j (((r.sets.map SetT.var).take j).map intLit)) ∧ Bel (w.alloc (.cells #[.string r.name, .slice G r.guard.length c, .slice S r.sets.length c2] 143)) wr)
      case atStart => exact ⟨0, by omega, rfl, rfl, ⟨rfl, by simp⟩, HS0, HB⟩
      case round =>
        clear HB HS0
        obtain ⟨i, hi, rfl, rfl, HJ, HM, HB⟩ := hrel
        by_cases hlt : i < r.sets.length
        · have hd0 : decide (i < r.sets.length) = true := by simpa using hlt
          obtain ⟨b, o, R, c', rfl, hb, s1, s2, hTv, _, _⟩ := (HS.out _ (box_bel HB)).at_ i hlt
          have HTv := Lib.hid (fun w' (k : Bel wr w') => TermsR.keep hTv k); clear hTv
          have hlen := HL4.out _ (List.getElem_mem hlt)
          have HB2 := Bel.refl (wr.alloc (.cells #[.int .i64 r.sets[i].var, .slice R r.sets[i].value.length c'] 145))
          by_cases hr : 0 ≤ r.sets[i].var ∧ r.sets[i].var ≤ (vars : Int) - 1
          · have hin : inB r.sets[i].var 0 ((vars : Int) - 1) = true := inB_true hr.1 hr.2
            have hkey := keyOf_int_mk (P := Tryz.prog) (k := 3) (q := .i64) Tryz.underlying3 (a := r.sets[i].var) (WalkArith.wf_i64 (by omega))
            have HM2 := Lib.hid (HM.out.keep (box_bel HB2))
            obtain ⟨x, hx, hxi⟩ := HM2.out.look intKeyed Tryz.underlying186 Tryz.underlying4 (boolZero _) hkey
            have HXI := Lib.hid hxi
            have HKEY := Lib.hid hkey
            clear hxi hkey
            cases x with
            | true =>
              have HF : Hid (formedF vars r = false) := formedF_false fun hf => by
                have hm := HXI.out.1 rfl
                rw [show (Lit.int .i64 r.sets[i].var) = intLit r.sets[i].var from rfl, intLits_mem] at hm
                obtain ⟨j, hj1, hj2, hj3⟩ := mem_take_of hm
                exact notT_nodup hj2 (by simpa using hlt) (by rw [hj3]; simp) hf.diff
              go_wp2_with (go_at_call 168; refine (within_any _ _ _ _).mono ?_; rintro e w' ⟨rfl, rfl⟩)
              go_ret
              exact ⟨ret_bool HF.out.symm, (box_bel HB).trans (box_bel HB2)⟩
            | false =>
              cases hvs : validF r.sets[i].value vars with
              | false =>
                have HF : Hid (formedF vars r = false) := formedF_false fun h => by have := (h.sets _ (List.getElem_mem hlt)).2; rw [hvs] at this; cases this
                go_wp2_with (first
                  | (go_at_call 168; refine (within_any _ _ _ _).mono ?_; rintro e w' ⟨rfl, rfl⟩)
                  | (go_at_call 42; refine (valid_any _ _ _ r.sets[i].value _ _ (HTv.out _ (box_bel HB2)) (by omega)).mono ?_; rintro e w' ⟨rfl, hbb⟩; rw [hvs]; replace HB2 := HB2.trans hbb; clear hbb))
                go_ret
                exact ⟨ret_bool HF.out.symm, (box_bel HB).trans (box_bel HB2)⟩
              | true =>
                have HOK := Lib.hid (show (decide (0 ≤ r.sets[i].var ∧ r.sets[i].var ≤ (vars : Int) - 1) && validF r.sets[i].value vars) = true by rw [hvs, decide_eq_true hr]; rfl)
                have HVS := Lib.hid hvs
                have HT : Hid (((r.sets.map SetT.var).take (i + 1)).Nodup) := by
                  show List.Nodup _
                  refine nodupT_take_succ (by simpa using hlt) HJ.out.2 (fun q hq he => ?_)
                  have : (false : Bool) = true := HXI.out.2 (by
                    rw [show (Lit.int .i64 r.sets[i].var) = intLit r.sets[i].var from rfl, intLits_mem, List.mem_take_iff_getElem]
                    refine ⟨q, by simp; omega, ?_⟩
                    simp at he ⊢
                    exact he)
                  cases this
                clear hvs hr
                go_wp2_with (first
                  | (go_at_call 168; refine (within_any _ _ _ _).mono ?_; rintro e w' ⟨rfl, rfl⟩)
                  | (go_at_call 42; refine (valid_any _ _ _ r.sets[i].value _ _ (HTv.out _ (box_bel HB2)) (by omega)).mono ?_; rintro e w2 ⟨rfl, hbb⟩; rw [HVS.out]; replace HB2 := HB2.trans hbb; have HM3 := Lib.hid (HM2.out.keep hbb); clear hbb hx; have q1 := box_cell HB2 0 rfl; have q3 := box_lt HB2)
                  | (at_mapUpdate; refine wpList_putSet _ rfl (.tmp 52) (.tmp 54) (.const (.bool true)) 186 rfl 3 4 intKeyed Tryz.underlying186 Tryz.underlying4 mb i _ rfl HM3.out (by unfold maxLen; omega) _ _ rfl rfl HKEY.out trivial ?_; intro w3 hset hgr; have HB3 := (HB.trans (box_bel HB2)).map (by simp <;> omega) hgr; have HM4 := Lib.hid hset; clear hset hgr))
                go_roundg (r.sets.length - (i + 1))
                case rel =>
                  refine ⟨i + 1, by omega, rfl, by go_num, ⟨all_take_succ hlt HJ.out.1 HOK.out, HT.out⟩, ?_, HB3⟩
                  obtain ⟨D, d1, d2, d3⟩ := HM4.out
                  refine ⟨D, d1, d2, fun kl => ?_⟩
                  obtain ⟨y, hy, hyi⟩ := d3 kl
                  refine ⟨y, hy, ?_⟩
                  rw [hyi, List.take_succ_eq_append_getElem (by simpa using hlt)]
                  simp [intLit, or_comm]
                case measure => omega
          · have hin : inB r.sets[i].var 0 ((vars : Int) - 1) = false := by
              rw [inB_false_iff]; omega
            have HF : Hid (formedF vars r = false) := formedF_false fun h => hr (h.sets _ (List.getElem_mem hlt)).1
            clear hr
            go_wp2_with (go_at_call 168; refine (within_any _ _ _ _).mono ?_; rintro e w' ⟨rfl, rfl⟩)
            go_ret
            exact ⟨ret_bool HF.out.symm, (box_bel HB).trans (box_bel HB2)⟩
        · have hd0 : decide (i < r.sets.length) = false := by simpa using hlt
          go_wp2_with fail
          go_ret
          refine ⟨ret_bool ?_, box_bel HB⟩
          symm
          rw [formedF_iff]
          obtain ⟨a1, a2⟩ := HJ.out
          rw [List.take_of_length_le (by omega)] at a1
          rw [List.take_of_length_le (by simp; omega)] at a2
          refine ⟨hn.1, hn.2, HVG.out, fun s hs => ?_, a2⟩
          have := List.all_eq_true.1 a1 s hs
          rw [Bool.and_eq_true] at this
          exact ⟨of_decide_eq_true this.1, this.2⟩
  · have HF : Hid (formedF vars r = false) := formedF_false fun h => hn ⟨h.pos, h.le⟩
    rcases (show r.sets.length = 0 ∨ 6 < r.sets.length by omega) with h0 | h0
    · have hz : ((r.sets.length : Int) == 0) = true := by simp [h0]
      have hz' : (r.sets.length == 0) = true := by simp [h0]
      clear hn
      have HH := Lib.hid h0; clear h0
      go_enter Tryz.func155, Tryz.ntmps155
      go_wp2_with fail
      go_ret
      exact ⟨ret_bool HF.out.symm, box_bel HB⟩
    · have hz : ((r.sets.length : Int) == 0) = false := int_beq0 (by omega)
      have hz' : (r.sets.length == 0) = false := nat_beq0 (by omega)
      have hz2 : decide (6 < r.sets.length) = true := by simpa using h0
      clear hn
      go_enter Tryz.func155, Tryz.ntmps155
      go_wp2_with fail
      go_ret
      exact ⟨ret_bool HF.out.symm, box_bel HB⟩

end Go.Proofs.YtaifafljakojnaaGreat

/- Contracts: the program's Check and Valid of layer 7. -/
namespace Go.Proofs.YtaifafljakojnaaGreat
open Go.RowKit

set_option maxRecDepth 100000 in
set_option maxHeartbeats 4000000 in
theorem check_any (v : Value) (p : Prg) (w : World) (h : PrgV w v p) (hL : lightP p = true) :
    Calls Tryz.prog 136 #[v] w fun e w' => e = .returned (.int .i64 (checkF p)) ∧ Bel w w' := by
  have HPV := Lib.hid (fun w' (k : Bel w w') => h.keep k)
  obtain ⟨A, k, A2, k2, rfl, hV, _, _, hR, _, _⟩ := h
  have HV := Lib.hid (fun w' (k : Bel w w') => VarsR.keep hV k); clear hV
  have HR := Lib.hid (fun w' (k : Bel w w') => RulesR.keep hR k); clear hR
  obtain ⟨p1, p2, p3, p4, p5⟩ := lightP_parts hL
  have HP5 := Lib.hid p5
  have HL := Lib.hid hL
  clear p4 p5 hL
  have HB := Bel.refl (w.alloc (.cells #[.string p.name, .slice A p.vars.length k, .slice A2 p.rules.length k2] 26))
  by_cases hn : 1 ≤ p.vars.length ∧ p.vars.length ≤ 6 ∧ p.rules.length ≤ 12
  · obtain ⟨n1, n2, n3⟩ := hn
    have hz : ((p.vars.length : Int) == 0) = false := int_beq0 n1
    have hz' : (p.vars.length == 0) = false := nat_beq0 n1
    have hz2 : decide (6 < p.vars.length) = false := by simp; omega
    have hz3 : decide (12 < p.rules.length) = false := by simp; omega
    have HC1 : Hid (checkF p = if namedF p = false then 5 else if p.vars.all numbersF = false then 2 else if p.rules.all (formedF p.vars.length) = false then 7 else if p.rules.all (typedF (kindsF p)) = false then 6 else 0) := by
      show checkF p = _
      unfold checkF; rw [if_neg (by omega)]
    cases hnm : namedF p with
    | false =>
      rw [hnm, if_pos rfl] at HC1
      go_enter Tryz.func136, Tryz.ntmps136
      go_wp2_with (go_at_call 153; refine (named_any _ p _ (HPV.out _ (box_bel HB)) HL.out).mono ?_; rintro e w' ⟨rfl, hb⟩; rw [hnm]; replace HB := HB.trans hb; clear hb)
      go_ret
      exact ⟨ret_int HC1.out.symm, box_bel HB⟩
    | true =>
      rw [hnm, if_neg (by decide)] at HC1
      have HNM := Lib.hid hnm; clear hnm
      go_enter Tryz.func136, Tryz.ntmps136
      go_wp2_with (go_at_call 153; refine (named_any _ p _ (HPV.out _ (box_bel HB)) HL.out).mono ?_; rintro e w' ⟨rfl, hb⟩; rw [HNM.out]; replace HB := HB.trans hb; clear hb; have q1 := box_cell HB 1 rfl; have q2 := box_lt HB)
      clear hz hz' hz2 hz3 q1 q2
      go_loopg [4, 32] p.vars.length (fun m _x z wr => ∃ j : Nat, j ≤ p.vars.length ∧ m = p.vars.length - j ∧ z = .int .i64 j ∧ Hid ((p.vars.take j).all numbersF = true) ∧ Bel (w.alloc (.cells #[.string p.name, .slice A p.vars.length k, .slice A2 p.rules.length k2] 26)) wr)
      case atStart => exact ⟨0, by omega, rfl, rfl, rfl, HB⟩
      case round =>
        clear HB
        obtain ⟨i, hi, rfl, rfl, HJ, HB⟩ := hrel
        by_cases hlt : i < p.vars.length
        · have hd0 : decide (i < p.vars.length) = true := by simpa using hlt
          obtain ⟨b, o, rfl, hb, c0, c1, c2, c3, c4, c5⟩ := (HV.out _ (box_bel HB)).at_ i hlt
          have HB2 := HB.alloc (.cells #[.string p.vars[i].name, .int .i64 p.vars[i].kind, .int .i64 p.vars[i].lo, .int .i64 p.vars[i].hi, .int .i64 p.vars[i].perNode, .int .i64 p.vars[i].perID] 60)
          cases hnn : numbersF p.vars[i] with
          | false =>
            rw [all_false_at hlt hnn, if_pos rfl] at HC1
            go_wp2_with (go_at_call 154; refine (numbers_any p.vars[i] _).mono ?_; rintro e w' ⟨rfl, hbb⟩; rw [hnn]; replace HB2 := HB2.trans hbb; clear hbb)
            go_ret
            exact ⟨ret_int HC1.out.symm, box_bel HB2⟩
          | true =>
            have HN := Lib.hid (all_take_succ hlt HJ.out hnn)
            have HNN := Lib.hid hnn; clear hnn
            go_wp2_with (go_at_call 154; refine (numbers_any p.vars[i] _).mono ?_; rintro e w' ⟨rfl, hbb⟩; rw [HNN.out]; replace HB2 := HB2.trans hbb; clear hbb)
            go_roundg (p.vars.length - (i + 1))
            case rel => exact ⟨i + 1, by omega, rfl, by go_num, HN, HB2⟩
            case measure => omega
        · have hd0 : decide (i < p.vars.length) = false := by simpa using hlt
          rw [all_of_take (by omega) HJ.out, if_neg (by decide)] at HC1
          have HNA := Lib.hid (kinds_known (all_of_take (by omega) HJ.out))
          have q1 := box_cell HB 2 rfl
          have q2 := box_lt HB
          clear HJ
          go_wp2_with fail
          clear hd0 q1 q2 hi hlt
          go_loopg [6, 43] p.rules.length (fun m _x z wr => ∃ j : Nat, j ≤ p.rules.length ∧ m = p.rules.length - j ∧ z = .int .i64 j ∧ Hid ((p.rules.take j).all (formedF p.vars.length) = true) ∧ Bel (w.alloc (.cells #[.string p.name, .slice A p.vars.length k, .slice A2 p.rules.length k2] 26)) wr)
          case atStart => exact ⟨0, by omega, rfl, rfl, rfl, HB⟩
          case round =>
            clear HB
            obtain ⟨i, hi, rfl, rfl, HJ, HB⟩ := hrel
            have q1 := box_cell HB 1 rfl
            have q2 := box_lt HB
            by_cases hlt : i < p.rules.length
            · have hd0 : decide (i < p.rules.length) = true := by simpa using hlt
              have HLr := Lib.hid (HP5.out _ (List.getElem_mem hlt))
              obtain ⟨b, o, G, c, S, c2, rfl, hb, c0, c1, c2', hRV⟩ := (HR.out _ (box_bel HB)).at_V i hlt
              have HB2 := HB.alloc (.cells #[.string p.rules[i].name, .slice G p.rules[i].guard.length c, .slice S p.rules[i].sets.length c2] 143)
              have HRV := Lib.hid (hRV.keep ((Bel.refl wr).alloc (.cells #[.string p.rules[i].name, .slice G p.rules[i].guard.length c, .slice S p.rules[i].sets.length c2] 143))); clear hRV
              cases hff : formedF p.vars.length p.rules[i] with
              | false =>
                rw [all_false_at hlt hff, if_pos rfl] at HC1
                go_wp2_with (go_at_call 155; refine (formed_any _ p.rules[i] p.vars.length _ HRV.out (by omega) HLr.out).mono ?_; rintro e w' ⟨rfl, hbb⟩; rw [hff]; replace HB2 := HB2.trans hbb; clear hbb)
                go_ret
                exact ⟨ret_int HC1.out.symm, box_bel HB2⟩
              | true =>
                have HN := Lib.hid (all_take_succ hlt HJ.out hff)
                have HFF := Lib.hid hff; clear hff
                go_wp2_with (go_at_call 155; refine (formed_any _ p.rules[i] p.vars.length _ HRV.out (by omega) HLr.out).mono ?_; rintro e w' ⟨rfl, hbb⟩; rw [HFF.out]; replace HB2 := HB2.trans hbb; clear hbb)
                go_roundg (p.rules.length - (i + 1))
                case rel => exact ⟨i + 1, by omega, rfl, by go_num, HN, HB2⟩
                case measure => omega
            · have hd0 : decide (i < p.rules.length) = false := by simpa using hlt
              have HALL := Lib.hid (all_of_take (by omega) HJ.out)
              rw [HALL.out, if_neg (by decide)] at HC1
              have q0 := box_cell HB 0 rfl
              have q3 := box_cell HB 2 rfl
              clear HJ
              go_wp2_with (go_at_call 45; refine (kinds_any _ p _ (HPV.out _ (box_bel HB)) (by omega)).mono ?_; rintro e w' ⟨KA, kc, rfl, hK, _, _, hbb⟩; replace HB := HB.trans hbb; clear hbb q0 q1 q3 q2; have q3 := box_cell HB 2 rfl; have q2 := box_lt HB)
              have HK := Lib.hid (fun w2 (k : Bel w' w2) => IntsR.keep hK k); clear hK
              have HW := Bel.refl w'
              clear hd0 q3 q2 hi hlt
              go_loopg [9, 59] p.rules.length (fun m _x z wr => ∃ j : Nat, j ≤ p.rules.length ∧ m = p.rules.length - j ∧ z = .int .i64 j ∧ Hid ((p.rules.take j).all (typedF (kindsF p)) = true) ∧ Bel w' wr)
              case atStart => exact ⟨0, by omega, rfl, rfl, rfl, HW⟩
              case round =>
                clear HW
                obtain ⟨i, hi, rfl, rfl, HJ, HW⟩ := hrel
                by_cases hlt : i < p.rules.length
                · have hd0 : decide (i < p.rules.length) = true := by simpa using hlt
                  have HLr := Lib.hid (HP5.out _ (List.getElem_mem hlt))
                  have hfo := (formedF_iff _ _).1 (List.all_eq_true.1 HALL.out _ (List.getElem_mem hlt))
                  rw [← kindsF_length p] at hfo
                  have HFO := Lib.hid hfo; clear hfo
                  obtain ⟨b, o, G, c, S, c2, rfl, hb, c0, c1, c2', hRV⟩ := (HR.out _ ((box_bel HB).trans HW)).at_V i hlt
                  have HW2 := HW.alloc (.cells #[.string p.rules[i].name, .slice G p.rules[i].guard.length c, .slice S p.rules[i].sets.length c2] 143)
                  have HRV := Lib.hid (hRV.keep ((Bel.refl wr).alloc (.cells #[.string p.rules[i].name, .slice G p.rules[i].guard.length c, .slice S p.rules[i].sets.length c2] 143))); clear hRV
                  cases htv : typedF (kindsF p) p.rules[i] with
                  | false =>
                    rw [all_false_at hlt htv, if_pos rfl] at HC1
                    go_wp2_with (go_at_call 156; refine (typed_any _ p.rules[i] _ _ (kindsF p) _ HRV.out (HK.out _ HW2) (by rw [kindsF_length]; exact n2) HNA.out HFO.out HLr.out).mono ?_; rintro e w2 ⟨rfl, hbb⟩; rw [htv]; replace HW2 := HW2.trans hbb; clear hbb)
                    go_ret
                    exact ⟨ret_int HC1.out.symm, (box_bel HB).trans HW2⟩
                  | true =>
                    have HN := Lib.hid (all_take_succ hlt HJ.out htv)
                    have HTV := Lib.hid htv; clear htv
                    go_wp2_with (go_at_call 156; refine (typed_any _ p.rules[i] _ _ (kindsF p) _ HRV.out (HK.out _ HW2) (by rw [kindsF_length]; exact n2) HNA.out HFO.out HLr.out).mono ?_; rintro e w2 ⟨rfl, hbb⟩; rw [HTV.out]; replace HW2 := HW2.trans hbb; clear hbb)
                    go_roundg (p.rules.length - (i + 1))
                    case rel => exact ⟨i + 1, by omega, rfl, by go_num, HN, HW2⟩
                    case measure => omega
                · have hd0 : decide (i < p.rules.length) = false := by simpa using hlt
                  rw [all_of_take (by omega) HJ.out, if_neg (by decide)] at HC1
                  go_wp2_with fail
                  go_ret
                  exact ⟨ret_int HC1.out.symm, (box_bel HB).trans HW⟩
  · have HF : Hid (checkF p = 3) := by show checkF p = 3; unfold checkF; rw [if_pos hn]
    rcases (show p.vars.length = 0 ∨ 6 < p.vars.length ∨ (1 ≤ p.vars.length ∧ p.vars.length ≤ 6 ∧ 12 < p.rules.length) by omega) with h0 | h0 | ⟨h0, h1, h2⟩
    · have hz : ((p.vars.length : Int) == 0) = true := by simp [h0]
      have hz' : (p.vars.length == 0) = true := by simp [h0]
      clear hn
      have HH := Lib.hid h0; clear h0
      go_enter Tryz.func136, Tryz.ntmps136
      go_wp2_with fail
      go_ret
      exact ⟨ret_int HF.out.symm, box_bel HB⟩
    · have hz : ((p.vars.length : Int) == 0) = false := int_beq0 (by omega)
      have hz' : (p.vars.length == 0) = false := nat_beq0 (by omega)
      have hz2 : decide (6 < p.vars.length) = true := by simpa using h0
      clear hn
      go_enter Tryz.func136, Tryz.ntmps136
      go_wp2_with fail
      go_ret
      exact ⟨ret_int HF.out.symm, box_bel HB⟩
    · have hz : ((p.vars.length : Int) == 0) = false := int_beq0 h0
      have hz' : (p.vars.length == 0) = false := nat_beq0 h0
      have hz2 : decide (6 < p.vars.length) = false := by simp; omega
      have hz3 : decide (12 < p.rules.length) = true := by simpa using h2
      clear hn
      go_enter Tryz.func136, Tryz.ntmps136
      go_wp2_with fail
      go_ret
      exact ⟨ret_int HF.out.symm, box_bel HB⟩

theorem prgValid_any (v : Value) (p : Prg) (w : World) (h : PrgV w v p) (hL : lightP p = true) :
    Calls Tryz.prog 107 #[v] w fun e w' => e = .returned (.bool (decide (checkF p = 0))) ∧ Bel w w' := by
  have HPV := Lib.hid (fun w' (k : Bel w w') => h.keep k)
  obtain ⟨A, k, A2, k2, rfl, _, _, _, _, _, _⟩ := h
  have HB := (Bel.refl w).alloc (.cells #[.string p.name, .slice A p.vars.length k, .slice A2 p.rules.length k2] 26)
  go_enter Tryz.func107, Tryz.ntmps107
  go_wp2_with (go_at_call 136; refine (check_any _ p _ (HPV.out _ HB) hL).mono ?_; rintro e w' ⟨rfl, hb⟩; replace HB := HB.trans hb; clear hb)
  go_ret
  exact ⟨ret_bool (by rw [Bool.eq_iff_iff]; simp), HB⟩

end Go.Proofs.YtaifafljakojnaaGreat

/- The plain form of layer 11's operations: numbers of the rule language, unary and binary operations, aggregates. -/
namespace Go.Proofs.YtaifafljakojnaaGreat

def satF (a : Int) : Int := max (-1073741824) (min a 1073741824)
def numB (a : Int) : Bool := decide (-1073741824 ≤ a ∧ a ≤ 1073741824)
def Num (a : Int) : Prop := -1073741824 ≤ a ∧ a ≤ 1073741824
def truthI (b : Bool) : Int := if b then 1 else 0
theorem satF_num (a : Int) : Num (satF a) := by unfold Num satF; omega
theorem satF_id {a : Int} (h : Num a) : satF a = a := by unfold Num at h; unfold satF; omega
theorem numB_true {a : Int} (h : Num a) : numB a = true := by unfold numB; unfold Num at h; exact decide_eq_true h
theorem num_of_numB {a : Int} (h : numB a = true) : Num a := by unfold numB at h; unfold Num; exact of_decide_eq_true h
theorem truthI_01 (b : Bool) : truthI b = 0 ∨ truthI b = 1 := by cases b <;> simp [truthI]
theorem truthI_num (b : Bool) : Num (truthI b) := by unfold Num; have := truthI_01 b; omega
theorem satF_truthI (b : Bool) : satF (truthI b) = truthI b := satF_id (truthI_num b)

def unaryF (op a : Int) : Int := if op = 18 then -a else truthI (a == 0)
def unaryR (op a : Int) : Int × Int := if (op ≠ 18 ∧ op ≠ 19) ∨ numB a = false then (0, 2) else (unaryF op a, 0)

def quotF (a b : Int) : Int := if b = 0 then 0 else if a.tmod b ≠ 0 ∧ (decide (a < 0) != decide (b < 0)) = true then a.tdiv b - 1 else a.tdiv b

theorem tmod_sign (a b : Int) : (0 ≤ a → 0 ≤ a.tmod b) ∧ (a ≤ 0 → a.tmod b ≤ 0) ∧ (0 < b → -b < a.tmod b ∧ a.tmod b < b) ∧ (b < 0 → b < a.tmod b ∧ a.tmod b < -b) := by
  refine ⟨fun h => Int.tmod_nonneg b h, fun h => ?_, fun h => ⟨Int.lt_tmod_of_pos a h, Int.tmod_lt_of_pos a h⟩, fun h => ?_⟩
  · have := Int.tmod_nonneg b (show 0 ≤ -a by omega)
    rw [Int.neg_tmod] at this; omega
  · have h1 := Int.lt_tmod_of_pos a (show 0 < -b by omega)
    have h2 := Int.tmod_lt_of_pos a (show 0 < -b by omega)
    rw [Int.tmod_neg] at h1 h2
    omega

theorem quotF_div (a b : Int) (hb : b ≠ 0) : (0 < b → 0 ≤ a - b * quotF a b ∧ a - b * quotF a b < b) ∧ (b < 0 → a - b * quotF a b ≤ 0 ∧ b < a - b * quotF a b) := by
  have hm := Int.mul_tdiv_add_tmod a b
  obtain ⟨h1, h2, h3, h4⟩ := tmod_sign a b
  unfold quotF
  rw [if_neg hb]
  split
  · rename_i h
    obtain ⟨hr, hs⟩ := h
    rw [Int.mul_sub, Int.mul_one]
    generalize b * a.tdiv b = P at *
    generalize a.tmod b = r at *
    simp at hs
    constructor
    · intro hp
      have := h3 hp
      have ha : a < 0 := by by_cases ha : a < 0 <;> simp_all <;> omega
      have := h2 (by omega)
      omega
    · intro hp
      have := h4 hp
      have ha : 0 ≤ a := by by_cases ha : a < 0 <;> simp_all
      have := h1 ha
      omega
  · rename_i h
    generalize b * a.tdiv b = P at *
    generalize a.tmod b = r at *
    constructor
    · intro hp
      have := h3 hp
      by_cases hr : r = 0
      · omega
      · have ha : 0 ≤ a := by
          by_cases ha : 0 ≤ a
          · exact ha
          · exfalso; apply h; simp [hr]; omega
        have := h1 ha
        omega
    · intro hp
      have := h4 hp
      by_cases hr : r = 0
      · omega
      · have ha : a < 0 := by
          by_cases ha : a < 0
          · exact ha
          · exfalso; apply h; simp [hr]; omega
        have := h2 (by omega)
        omega

theorem tdiv_bound (a b : Int) (ha : Num a) : -1073741824 ≤ a.tdiv b ∧ a.tdiv b ≤ 1073741824 := by
  have h := Int.natAbs_tdiv_le_natAbs a b
  unfold Num at ha
  omega
theorem quotF_bound (a b : Int) (ha : Num a) : -1073741825 ≤ quotF a b ∧ quotF a b ≤ 1073741824 := by
  unfold quotF
  split
  · omega
  · have := tdiv_bound a b ha
    split <;> omega
theorem mul_bound (a b : Int) (ha : Num a) (hb : -1073741825 ≤ b ∧ b ≤ 1073741825) : -1152921505680588800 ≤ a * b ∧ a * b ≤ 1152921505680588800 := by
  have h : (a * b).natAbs ≤ 1073741824 * 1073741825 := by
    rw [Int.natAbs_mul]
    unfold Num at ha
    exact Nat.mul_le_mul (by omega) (by omega)
  omega

/-- The exact result of a binary operation. -/
def applyF (op a b : Int) : Int :=
  if op = 30 then a * b
  else if op = 31 then quotF a b
  else if op = 32 then (if b = 0 then 0 else a - b * quotF a b)
  else if op = 33 then a + b
  else if op = 34 then a - b
  else if op = 35 then truthI (a == b)
  else if op = 36 then truthI (a != b)
  else if op = 37 then truthI (decide (a < b))
  else if op = 38 then truthI (decide (a ≤ b))
  else if op = 39 then truthI (decide (b < a))
  else if op = 40 then truthI (decide (b ≤ a))
  else if op = 41 then truthI (a != 0 && b != 0)
  else truthI (a != 0 || b != 0)
def binaryF (op a b : Int) : Int := satF (applyF op a b)
def binaryR (op a b : Int) : Int × Int := if op < 30 ∨ 42 < op ∨ numB a = false ∨ numB b = false then (0, 2) else (binaryF op a b, 0)

/- Aggregates. -/
def countF (l : List Int) : Int := (l.filter (fun a => a != 0)).length
def firstGo : List Int → Int → Int
  | [], _ => -1
  | a :: l, i => if a ≠ 0 then i else firstGo l (i + 1)
def minF (l : List Int) : Int := l.foldl min 1073741824
def twoGo : List Int → Int → Int → Int × Int
  | [], g, s => (g, s)
  | a :: l, g, s => if g < a then twoGo l a g else twoGo l g (max s a)
def twoF (l : List Int) : Int × Int := twoGo l (-1073741824) (-1073741824)
def sumF (l : List Int) : Int := l.foldl (· + ·) 0
def cntGe (l : List Int) (k : Int) : Nat := (l.filter (fun x => decide (k ≤ x))).length
def mexGo (l : List Int) : Nat → Int → Int
  | 0, k => k
  | f + 1, k => if k ∈ l then mexGo l f (k + 1) else k
def mexF (l : List Int) : Int := mexGo l (cntGe l 0) 0

def foldF (op : Int) (l : List Int) : Int :=
  if op = 20 then truthI (countF l == l.length)
  else if op = 21 then truthI (decide (0 < countF l))
  else if op = 22 then countF l
  else if op = 23 then firstGo l 0
  else if op = 24 then minF l
  else if op = 25 then (twoF l).1
  else if op = 26 then satF (sumF l)
  else if op = 27 then mexF l
  else if op = 28 then (twoF l).2
  else l.headD 0
def foldR (op : Int) (l : List Int) : Int × Int :=
  if aggregate op = false then (0, 2) else if 24 ≤ l.length then (0, 3) else if l.all numB = false then (0, 2) else (foldF op l, 0)

theorem countF_cons (a : Int) (l : List Int) : countF (a :: l) = (if a = 0 then 0 else 1) + countF l := by
  unfold countF
  by_cases h : a = 0
  · simp [h]
  · simp [h]; omega
theorem countF_le (l : List Int) : 0 ≤ countF l ∧ countF l ≤ l.length := by
  unfold countF
  have := List.length_filter_le (fun a : Int => a != 0) l
  omega

theorem cntGe_lt {l : List Int} {k : Int} (h : k ∈ l) : cntGe l (k + 1) < cntGe l k := by
  unfold cntGe
  induction l with
  | nil => cases h
  | cons x l ih =>
    have hmono : ∀ l : List Int, (l.filter (fun x => decide (k + 1 ≤ x))).length ≤ (l.filter (fun x => decide (k ≤ x))).length := by
      intro l
      induction l with
      | nil => simp
      | cons y l ih =>
        simp only [List.filter_cons]
        by_cases h1 : k + 1 ≤ y <;> by_cases h2 : k ≤ y <;> simp [h1, h2] <;> omega
    rcases List.mem_cons.1 h with e | e
    · subst e
      have := hmono l
      simp only [List.filter_cons]
      rw [if_neg (by simp; omega), if_pos (by simp)]
      simp; omega
    · have := ih e
      simp only [List.filter_cons]
      by_cases h1 : k + 1 ≤ x <;> by_cases h2 : k ≤ x <;> simp [h1, h2] <;> omega
theorem cntGe_le (l : List Int) (k : Int) : cntGe l k ≤ l.length := List.length_filter_le _ _

theorem mexGo_eq (l : List Int) : ∀ (f : Nat) (k : Int), cntGe l k ≤ f → k ≤ mexGo l f k ∧ mexGo l f k ≤ k + f ∧ mexGo l f k ∉ l ∧ ∀ j, k ≤ j → j < mexGo l f k → j ∈ l := by
  intro f
  induction f with
  | zero =>
    intro k h
    have hk : k ∉ l := fun hm => by have := cntGe_lt hm; omega
    exact ⟨Int.le_refl _, by simp [mexGo], hk, fun j h1 h2 => by simp [mexGo] at h2; omega⟩
  | succ f ih =>
    intro k h
    simp only [mexGo]
    by_cases hk : k ∈ l
    · rw [if_pos hk]
      have hc := cntGe_lt hk
      obtain ⟨i1, i2, i3, i4⟩ := ih (k + 1) (by omega)
      refine ⟨by omega, by omega, i3, fun j h1 h2 => ?_⟩
      by_cases e : j = k
      · subst e; exact hk
      · exact i4 j (by omega) h2
    · rw [if_neg hk]
      exact ⟨Int.le_refl _, by omega, hk, fun j h1 h2 => by omega⟩

end Go.Proofs.YtaifafljakojnaaGreat

