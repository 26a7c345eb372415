/- Merged of: WEi (see NOTES.md). -/
import Derived.Test.YtaifafljakojnaaGreatYWEh
set_option linter.unusedSimpArgs false
set_option linter.unnecessarySimpa false
set_option linter.unusedVariables false

/- Contract: the program's walk: value. -/
namespace Go.Proofs.YtaifafljakojnaaGreat
open Go.RowKit

set_option maxRecDepth 100000 in
set_option maxHeartbeats 4000000 in
theorem value_any (p : Prg) (g : Graph) (c : Config) (v : Nat) (hs : SOK p g c v) (x : Ex) : ValueOk p g c v x := by
  induction x with
  | leaf t =>
    intro b port K A ce es k w hW hat harg hlen hbo hpo
    have hlt := At.lt hat
    obtain ⟨hh, har⟩ := At.leaf hat
    have HWK := Lib.hid (fun w' (k : Bel w w') => hW.keep k)
    obtain ⟨B, AC, kc, hK, _, _, hT⟩ := hW
    have y3 := hK.cell 3 (v := .slice A es.length ce) rfl
    have yl := hK.lt
    obtain ⟨b1, o1, rfl, hb1, c1, c2⟩ := hT.at_ k hlt
    have hhe : es[k] = t := by rw [List.getElem?_eq_getElem hlt] at hh; simpa using hh
    rw [hhe] at c1 c2
    have HARG := Lib.hid (show argF t p.vars.length = true by rw [← hhe]; exact harg _ (List.getElem_mem hlt))
    have hr := (arity_bounds t.op).1 har
    have HAR := Lib.hid har
    have HBO := Lib.hid (show nearOp t.op = true → b = true from hbo)
    have HPO := Lib.hid hpo
    have HS := Lib.hid hs
    have HB := (Bel.refl w).alloc (.cells #[.int .i64 t.op, .int .i64 t.arg] 129)
    have hdk : decide (k < es.length) = true := by simpa using hlt
    have hd17 : decide (t.op ≤ 17) = true := by simpa using hr.2
    clear hh hhe harg hT har hat hbo hpo hK hs hr
    go_enter Tryz.func106, Tryz.ntmps106
    go_wp2_with (go_at_call 132; refine (leafV_any K p g c v _ ce es port t b _ (HWK.out _ HB) HS.out HAR.out HARG.out HBO.out HPO.out).mono ?_; rintro e w' ⟨rfl, hbb⟩; replace HB := HB.trans hbb; clear hbb)
    go_ret2
    exact ⟨rfl, HB⟩
  | un t a ih =>
    intro b port K A ce es k w hW hat harg hlen hbo hpo
    have hlt := At.lt hat
    have hend := At.endF hat
    have hbd := At.bound hat
    obtain ⟨hh, har, ha⟩ := At.un hat
    have HWK := Lib.hid (fun w' (k : Bel w w') => hW.keep k)
    obtain ⟨B, AC, kc, hK, _, _, hT⟩ := hW
    have y3 := hK.cell 3 (v := .slice A es.length ce) rfl
    have yl := hK.lt
    obtain ⟨b1, o1, rfl, hb1, c1, c2⟩ := hT.at_ k hlt
    have hhe : es[k] = t := by rw [List.getElem?_eq_getElem hlt] at hh; simpa using hh
    rw [hhe] at c1 c2
    have HARG := Lib.hid harg
    have HS := Lib.hid hs
    have HPO := Lib.hid hpo
    have HBX := Bel.refl (w.alloc (.cells #[.int .i64 t.op, .int .i64 t.arg] 129))
    have hdk : decide (k < es.length) = true := by simpa using hlt
    have hr := (arity_bounds t.op).2.1 har
    have hd17 : decide (t.op ≤ 17) = false := by simp; omega
    have HIH := Lib.hid ih
    have HATA := Lib.hid ha
    have HNA := Lib.hid (fun (b' : Bool) (q : Int) (h1 : boundOK b' a) (h2 : portOK g v b' q) => eval_num hs ha.1 (fun t ht => harg t (terms_mem ha t ht)) h1 h2)
    have HLN : Hid (k + (Ex.un t a).len = k + 1 + a.len) := by show k + (Ex.un t a).len = _; simp [Ex.len, Ex.terms]; omega
    cases hag : aggregate t.op with
    | true =>
      have HBO : Hid (boundOK true a) := by
        have hb' : boundOK (b || aggregate t.op) a := hbo
        rw [hag, Bool.or_true] at hb'; exact hb'
      have HE : Hid (evalF g c v port (.un t a) = foldF t.op ((List.range (g.ports.getD v []).length).map fun (q : Nat) => evalF g c v (q : Int) a)) := by
        show evalF g c v port (.un t a) = _
        simp only [evalF, hag, if_true]
      obtain ⟨hop1, hop2⟩ : 20 ≤ t.op ∧ t.op ≤ 29 := by unfold aggregate at hag; exact of_decide_eq_true hag
      have hd19 : decide (t.op ≤ 19) = false := by simp; omega
      have hd29 : decide (t.op ≤ 29) = true := by simpa using hop2
      have HEND : Hid (endF es (k : Int) = ((k + 1 + a.len : Nat) : Int)) := by show endF es (k : Int) = _; rw [hend, HLN.out]
      clear hh hhe harg hT har hat hbo hpo hK hs hr ih ha hag hend
      go_enter Tryz.func106, Tryz.ntmps106
      go_wp2_with (go_at_call 134; refine (aggr_any p g c v a HIH.out HS.out t.op K _ ce es k _ (HWK.out _ (box_bel HBX)) HATA.out HEND.out HARG.out hlen HBO.out hop1 hop2).mono ?_; rintro e w' ⟨rfl, hbb⟩; replace HBX := HBX.trans hbb; clear hbb)
      go_ret2
      rw [HE.out, HLN.out]
      exact ⟨rfl, box_bel HBX⟩
    | false =>
      have HBO : Hid (boundOK b a) := by
        have hb' : boundOK (b || aggregate t.op) a := hbo
        rw [hag, Bool.or_false] at hb'; exact hb'
      have HE : Hid (evalF g c v port (.un t a) = unaryF t.op (evalF g c v port a)) := by
        show evalF g c v port (.un t a) = _
        simp only [evalF, hag]; rfl
      have hd19 : decide (t.op ≤ 19) = true := by unfold aggregate at hag; simp at hag ⊢; omega
      clear hh hhe harg hT har hat hbo hpo hK hs hr ih ha hag hend
      go_enter Tryz.func106, Tryz.ntmps106
      go_wp2_with (first
        | (go_at_call 106; refine (HIH.out b port K _ ce es (k + 1) _ (HWK.out _ (box_bel HBX)) HATA.out HARG.out hlen HBO.out HPO.out).mono ?_; rintro e w' ⟨rfl, hbb⟩; replace HBX := HBX.trans hbb; clear hbb; have q0 := box_cell HBX 0 (v := .int .i64 t.op) rfl; have q1 := box_lt HBX)
        | (go_at_call 133; refine (unary_any _ _ _ (HNA.out b port HBO.out HPO.out)).mono ?_; rintro e w' ⟨rfl, rfl⟩))
      go_ret2
      rw [HE.out, HLN.out]
      exact ⟨rfl, box_bel HBX⟩
  | bin t x y ihx ihy =>
    intro b port K A ce es k w hW hat harg hlen hbo hpo
    have hlt := At.lt hat
    have hend := At.endF hat
    have hbd := At.bound hat
    obtain ⟨hh, har, hx, hy⟩ := At.bin hat
    have HWK := Lib.hid (fun w' (k : Bel w w') => hW.keep k)
    obtain ⟨B, AC, kc, hK, _, _, hT⟩ := hW
    have y3 := hK.cell 3 (v := .slice A es.length ce) rfl
    have yl := hK.lt
    obtain ⟨b1, o1, rfl, hb1, c1, c2⟩ := hT.at_ k hlt
    have hhe : es[k] = t := by rw [List.getElem?_eq_getElem hlt] at hh; simpa using hh
    rw [hhe] at c1 c2
    have HARG := Lib.hid harg
    have HS := Lib.hid hs
    have HPO := Lib.hid hpo
    have HBX := Bel.refl (w.alloc (.cells #[.int .i64 t.op, .int .i64 t.arg] 129))
    have hdk : decide (k < es.length) = true := by simpa using hlt
    have hr := (arity_bounds t.op).2.2.1 har
    have hd17 : decide (t.op ≤ 17) = false := by simp; omega
    have hd19 : decide (t.op ≤ 19) = false := by simp; omega
    have hd29 : decide (t.op ≤ 29) = false := by simp; omega
    have hd42 : decide (t.op ≤ 42) = true := by simp; omega
    obtain ⟨hop1, hop2⟩ : 30 ≤ t.op ∧ t.op ≤ 42 := by omega
    have HX := Lib.hid ihx
    have HY := Lib.hid ihy
    have HAX := Lib.hid hx
    have HAY := Lib.hid hy
    have HBO := Lib.hid (show boundOK b x ∧ boundOK b y from hbo)
    have HNX := Lib.hid (eval_num hs hx.1 (fun t ht => harg t (terms_mem hx t ht)) HBO.out.1 hpo)
    have HNY := Lib.hid (eval_num hs hy.1 (fun t ht => harg t (terms_mem hy t ht)) HBO.out.2 hpo)
    have HLN : Hid (k + (Ex.bin t x y).len = k + 1 + x.len + y.len) := by show k + (Ex.bin t x y).len = _; simp [Ex.len, Ex.terms]; omega
    clear hh hhe harg hT har hat hbo hpo hK hs hr ihx ihy hx hy hend
    go_enter Tryz.func106, Tryz.ntmps106
    go_wp2_with (first
      | (go_at_call 106; refine (HX.out b port K _ ce es (k + 1) _ (HWK.out _ (box_bel HBX)) HAX.out HARG.out hlen HBO.out.1 HPO.out).mono ?_; rintro e w' ⟨rfl, hbb⟩; replace HBX := HBX.trans hbb; clear hbb; clear HX)
      | (go_at_call 106; refine (HY.out b port K _ ce es (k + 1 + x.len) _ (HWK.out _ (box_bel HBX)) HAY.out HARG.out hlen HBO.out.2 HPO.out).mono ?_; rintro e w' ⟨rfl, hbb⟩; replace HBX := HBX.trans hbb; clear hbb; have q0 := box_cell HBX 0 (v := .int .i64 t.op) rfl; have q1 := box_lt HBX)
      | (go_at_call 135; refine (binary_any _ _ _ _ hop1 hop2 HNX.out HNY.out).mono ?_; rintro e w' ⟨rfl, rfl⟩))
    go_ret2
    rw [HLN.out]
    exact ⟨rfl, box_bel HBX⟩
  | tri t x y z ihx ihy ihz =>
    intro b port K A ce es k w hW hat harg hlen hbo hpo
    have hlt := At.lt hat
    have hend := At.endF hat
    have hbd := At.bound hat
    obtain ⟨hh, har, hx, hy, hz⟩ := At.tri hat
    have HWK := Lib.hid (fun w' (k : Bel w w') => hW.keep k)
    obtain ⟨B, AC, kc, hK, _, _, hT⟩ := hW
    have y3 := hK.cell 3 (v := .slice A es.length ce) rfl
    have yl := hK.lt
    obtain ⟨b1, o1, rfl, hb1, c1, c2⟩ := hT.at_ k hlt
    have hhe : es[k] = t := by rw [List.getElem?_eq_getElem hlt] at hh; simpa using hh
    rw [hhe] at c1 c2
    have HARG := Lib.hid harg
    have HS := Lib.hid hs
    have HPO := Lib.hid hpo
    have HBX := Bel.refl (w.alloc (.cells #[.int .i64 t.op, .int .i64 t.arg] 129))
    have hdk : decide (k < es.length) = true := by simpa using hlt
    have hr := (arity_bounds t.op).2.2.2 har
    have hd17 : decide (t.op ≤ 17) = false := by simp; omega
    have hd19 : decide (t.op ≤ 19) = false := by simp; omega
    have hd29 : decide (t.op ≤ 29) = false := by simp; omega
    have hd42 : decide (t.op ≤ 42) = false := by simp; omega
    have HX := Lib.hid ihx
    have HY := Lib.hid ihy
    have HZ := Lib.hid ihz
    have HAX := Lib.hid hx
    have HAY := Lib.hid hy
    have HAZ := Lib.hid hz
    have HBO := Lib.hid (show boundOK b x ∧ boundOK b y ∧ boundOK b z from hbo)
    have HLN : Hid (k + (Ex.tri t x y z).len = k + 1 + x.len + y.len + z.len) := by show k + (Ex.tri t x y z).len = _; simp [Ex.len, Ex.terms]; omega
    have HEV : Hid (evalF g c v port (.tri t x y z) = if evalF g c v port x ≠ 0 then evalF g c v port y else evalF g c v port z) := by show evalF g c v port (.tri t x y z) = _; simp only [evalF]
    clear hh hhe harg hT har hat hbo hpo hK hs hr ihx ihy ihz hx hy hz hend
    by_cases h0 : evalF g c v port x = 0
    · rw [if_neg (by simpa using h0)] at HEV
      have hd0 : (evalF g c v port x != 0) = false := by simpa using h0
      clear h0
      go_enter Tryz.func106, Tryz.ntmps106
      go_wp2_with (first
        | (go_at_call 106; refine (HX.out b port K _ ce es (k + 1) _ (HWK.out _ (box_bel HBX)) HAX.out HARG.out hlen HBO.out.1 HPO.out).mono ?_; rintro e w' ⟨rfl, hbb⟩; replace HBX := HBX.trans hbb; clear hbb; clear HX)
        | (go_at_call 106; refine (HY.out b port K _ ce es (k + 1 + x.len) _ (HWK.out _ (box_bel HBX)) HAY.out HARG.out hlen HBO.out.2.1 HPO.out).mono ?_; rintro e w' ⟨rfl, hbb⟩; replace HBX := HBX.trans hbb; clear hbb; clear HY)
        | (go_at_call 106; refine (HZ.out b port K _ ce es (k + 1 + x.len + y.len) _ (HWK.out _ (box_bel HBX)) HAZ.out HARG.out hlen HBO.out.2.2 HPO.out).mono ?_; rintro e w' ⟨rfl, hbb⟩; replace HBX := HBX.trans hbb; clear hbb))
      go_ret2
      rw [HLN.out, HEV.out]
      exact ⟨rfl, box_bel HBX⟩
    · rw [if_pos h0] at HEV
      have hd0 : (evalF g c v port x != 0) = true := by simpa using h0
      clear h0
      go_enter Tryz.func106, Tryz.ntmps106
      go_wp2_with (first
        | (go_at_call 106; refine (HX.out b port K _ ce es (k + 1) _ (HWK.out _ (box_bel HBX)) HAX.out HARG.out hlen HBO.out.1 HPO.out).mono ?_; rintro e w' ⟨rfl, hbb⟩; replace HBX := HBX.trans hbb; clear hbb; clear HX)
        | (go_at_call 106; refine (HY.out b port K _ ce es (k + 1 + x.len) _ (HWK.out _ (box_bel HBX)) HAY.out HARG.out hlen HBO.out.2.1 HPO.out).mono ?_; rintro e w' ⟨rfl, hbb⟩; replace HBX := HBX.trans hbb; clear hbb; clear HY)
        | (go_at_call 106; refine (HZ.out b port K _ ce es (k + 1 + x.len + y.len) _ (HWK.out _ (box_bel HBX)) HAZ.out HARG.out hlen HBO.out.2.2 HPO.out).mono ?_; rintro e w' ⟨rfl, hbb⟩; replace HBX := HBX.trans hbb; clear hbb))
      go_ret2
      rw [HLN.out, HEV.out]
      exact ⟨rfl, box_bel HBX⟩

end Go.Proofs.YtaifafljakojnaaGreat

