/- Merged of: W12n W12o W13l W13m (see NOTES.md). -/
import Derived.Test.YtaifafljakojnaaGreatZ26
import Derived.Test.YtaifafljakojnaaGreatZ07
import Derived.Test.YtaifafljakojnaaGreatZ23
import Derived.Test.YtaifafljakojnaaGreatZ14
import Derived.Test.YtaifafljakojnaaGreatZ05
set_option linter.unusedSimpArgs false
set_option linter.unnecessarySimpa false
set_option linter.unusedVariables false

/- Contracts of gifts and fault of the reference. -/
namespace Go.Proofs.YtaifafljakojnaaGreat
open Go.RowKit

/-- The heights that an instruction gives, in a block of their own. -/
def RetGs (gs : List Term) (w : World) (e : Ending) (w' : World) : Prop :=
  ∃ g, e = .returned (.slice (some ⟨g, 0, none⟩) gs.length gs.length) ∧ w.heap.size ≤ g ∧ Blk w' g (gs.flatMap termCells).toArray 84 ∧ Bel w w'

theorem blk_at' {w : World} {b b' : Nat} {cs : Array Value} {t : TypeId} (e : b = b') (h : Blk w b cs t) : Blk w b' cs t := e ▸ h
set_option maxRecDepth 100000 in
set_option maxHeartbeats 2000000 in
theorem gifts_any (L : Option Addr) (n c : Nat) (l : List Term) (i : Nat) (y : Int) (w : World) (h : TermsR w L n l) (hn : n ≤ 1000000) (hi : i < n) (hy0 : -10 ≤ y) (hy1 : y ≤ 1000000) (ha : (insAt l i).op = 9 → (insAt l i).arg ≤ 1000000 ∧ 0 ≤ (insAt l i).arg) :
    Calls Tryz.prog 34 #[.slice L n c, .int .i64 i, .int .i64 y] w (RetGs (giftsF (insAt l i) i y) w) := by
  obtain rfl := h.1
  obtain ⟨b, o, rfl, hb, k1, k2⟩ := h.at_ i hi
  rw [insAt_get hi] at ha ⊢
  generalize l[i] = x at *
  obtain ⟨op, arg⟩ := x
  simp only at *
  have hfin : ∀ (gs : List Term), giftsF ⟨op, arg⟩ i y = gs → ∀ (cells : Array Value), (gs.flatMap termCells).toArray = cells → RetGs (giftsF ⟨op, arg⟩ i y) w (.returned (.slice (some ⟨w.heap.size + 1, 0, none⟩) gs.length gs.length)) ((w.alloc (.cells #[.int .i64 op, .int .i64 arg] 43)).alloc (.cells cells 84)) := by
    rintro gs rfl cells rfl
    exact ⟨w.heap.size + 1, rfl, by omega, blk_at' (by simp) (Blk.new _ _ _), ((Bel.refl w).alloc _).alloc _⟩
  have HF := Lib.hid hfin; clear hfin
  have HA := Lib.hid ha; clear ha h
  by_cases h9 : op = 9
  · obtain ⟨ha1, ha0⟩ := HA.out h9
    subst h9
    go_enter Tryz.func34, Tryz.ntmps34
    go_wp2
    go_ret
    exact HF.out [⟨(i : Int) + 1, y⟩, ⟨arg + 1, y + 1⟩] (by simp [giftsF]) _ rfl
  · have h9b : (op == 9) = false := by simpa using h9
    go_enter Tryz.func34, Tryz.ntmps34
    go_wp2
    all_goals
      go_ret
      (try simp only [beq_iff_eq, beq_eq_false_iff_ne, ne_eq] at *)
      first
        | exact HF.out [⟨(i : Int) + 1, y + 1⟩] (by simp [giftsF, *]) _ rfl
        | exact HF.out [⟨(i : Int) + 1, y - 1⟩] (by simp [giftsF, *]) _ rfl
        | exact HF.out [⟨(i : Int) + 1, y - 1⟩, ⟨arg, y - 1⟩] (by simp [giftsF, *]) _ rfl
        | exact HF.out [⟨arg, y⟩] (by simp [giftsF, *]) _ rfl
        | exact HF.out [⟨(i : Int) + 1, y⟩] (by simp [giftsF, *]) _ rfl

def RetFault (ok : Bool) (w : World) (e : Ending) (w' : World) : Prop := ∃ z : Int, e = .returned (.int .i64 z) ∧ decide (0 < z) = !ok ∧ Bel w w'

theorem fault_bad {w w' : World} {ok : Bool} {z : Int} (hz : 0 < z) (hok : ok = false) (hb : Bel w w') : RetFault ok w (.returned (.int .i64 z)) w' := ⟨z, rfl, by rw [hok]; simpa using hz, hb⟩

set_option maxRecDepth 100000 in
set_option maxHeartbeats 8000000 in
theorem fault_any (L : Option Addr) (n c : Nat) (l : List Term) (i : Nat) (vars : Int) (H : Option Addr) (hn' hc : Nat) (hs : List Int) (O : Option Addr) (m oc : Nat) (op : List Int) (w : World) (h : TermsR w L n l) (hH : IntsR w H hn' hs) (hO : IntsR w O m op) (hn : n ≤ 100000) (hi : i < n) (hlen : hs.length = n + 1) (hoi : OInv l hs op)
    (hh : ∀ x ∈ hs, -1 ≤ x ∧ x ≤ 64) :
    Calls Tryz.prog 33 #[.slice L n c, .int .i64 i, .int .i64 vars, .slice H hn' hc, .slice O m oc] w (RetFault (checksR l vars hs op i (insAt l i) (ig hs i)) w) := by
  obtain rfl := h.1
  obtain rfl := hH.1
  obtain rfl := hO.1
  have hil : i < hs.length := by omega
  obtain ⟨b, o, rfl, hb, k1, k2⟩ := h.at_ i hi
  obtain ⟨hb2, ho2, rfl, hbh, k3⟩ := IntsR.at_ hH i hil
  have hxi := insAt_get hi
  have hyi := ig_get hil
  have H1 := Lib.hid (fun w' (k : Bel w w') => h.keep k)
  have H2 := Lib.hid (fun w' (k : Bel w w') => hH.keep k)
  have H3 := Lib.hid (fun w' (k : Bel w w') => hO.keep k)
  have HOI := Lib.hid hoi
  have HH := Lib.hid hh
  have ho : ∀ e ∈ op, 0 ≤ e ∧ e < l.length := fun e he => ⟨(hoi.2 e he).1, (hoi.2 e he).2.1⟩
  have HO := Lib.hid ho
  have hol := hoi.1
  rw [hyi]
  generalize hs[i] = y at *
  generalize hx : insAt l i = x at *
  have hxe : l[i] = x := hxi.symm
  rw [hxe] at k1 k2
  have HX := Lib.hid hx
  have Hlen := Lib.hid hlen
  obtain ⟨xop, xarg⟩ := x
  simp only at k1 k2
  clear h hH hO hoi hh ho hxi hxe hx hyi hlen
  go_enter Tryz.func33, Tryz.ntmps33
  go_upto_region 1 with fail
  go_cut [11, 12] (fun pv yv wc => ∃ g : Nat, pv = .pointer (some ⟨g, 0, none⟩) ∧ yv = .int .i64 y ∧ Hid (Blk wc g #[.int .i64 xop, .int .i64 xarg] 43) ∧ Bel w wc)
  case first =>
    go_region
    all_goals
      go_wp2_with fail
      go_meet
      exact ⟨w.heap.size, rfl, rfl, (Blk.new _ _ _).drew, ((Bel.refl w).alloc _).drew⟩
  case rest =>
    clear k1 k2 k3 hb hbh
    obtain ⟨g, rfl, rfl, HK, HB⟩ := hcut
    have HB0 := Lib.hid HB
    replace HK := Lib.hid (fun w' (k : Bel wc w') => HK.out.keep k)
    have p0 := (HK.out _ (Bel.refl _)).cell 0 rfl
    have p1 := (HK.out _ (Bel.refl _)).cell 1 rfl
    have p2 := (HK.out _ (Bel.refl _)).lt
    have HW := Bel.refl wc
    by_cases a1 : y < 0
    · have a1b : decide (y < 0) = true := by simpa using a1
      have HC : Hid (checksR l vars hs op i ⟨xop, xarg⟩ y = false) := by show checksR l vars hs op i ⟨xop, xarg⟩ y = false; unfold checksR; rw [show decide (0 ≤ y) = false by simpa using a1]; rfl
      go_wp2_with fail
      go_ret
      exact fault_bad (by omega) HC.out (HB.trans HW)
    have a1b : decide (y < 0) = false := by simpa using a1
    have a1c : decide (0 ≤ y) = true := by simpa using a1
    cases cp : permF ⟨xop, xarg⟩ vars with
    | false =>
      have HC : Hid (checksR l vars hs op i ⟨xop, xarg⟩ y = false) := by show checksR l vars hs op i ⟨xop, xarg⟩ y = false; unfold checksR; rw [cp]; simp
      clear a1c
      go_wp2_with (first
        | (go_at_call 73; refine (permitted_any ⟨xop, xarg⟩ _ _).mono ?_; rintro e w' ⟨rfl, hb'⟩; rw [cp]; replace HW := HW.trans hb'; clear hb'; have p0 := (HK.out _ HW).cell 0 rfl; have p1 := (HK.out _ HW).cell 1 rfl; have p2 := (HK.out _ HW).lt))
      go_ret
      exact fault_bad (by omega) HC.out (HB.trans HW)
    | true =>
    by_cases a3 : (nearI ⟨xop, xarg⟩ && op.isEmpty) = true
    · have HC : Hid (checksR l vars hs op i ⟨xop, xarg⟩ y = false) := by show checksR l vars hs op i ⟨xop, xarg⟩ y = false; unfold checksR; rw [a3]; simp
      rw [Bool.and_eq_true] at a3
      obtain ⟨cn, a4⟩ := a3
      have a5 : ((op.length : Int) == 0) = true := by simpa using a4
      clear a4 a1c
      go_wp2_with (first
        | (go_at_call 73; refine (permitted_any ⟨xop, xarg⟩ _ _).mono ?_; rintro e w' ⟨rfl, hb'⟩; rw [cp]; replace HW := HW.trans hb'; clear hb'; have p0 := (HK.out _ HW).cell 0 rfl; have p1 := (HK.out _ HW).cell 1 rfl; have p2 := (HK.out _ HW).lt)
        | (go_at_call 74; refine (refNear_any ⟨xop, xarg⟩ _).mono ?_; rintro e w' ⟨rfl, hb'⟩; rw [cn]; replace HW := HW.trans hb'; clear hb'; have p0 := (HK.out _ HW).cell 0 rfl; have p1 := (HK.out _ HW).cell 1 rfl; have p2 := (HK.out _ HW).lt))
      go_ret
      exact fault_bad (by omega) HC.out (HB.trans HW)
    rw [Bool.not_eq_true] at a3
    have A3 := Lib.hid a3; clear a3
    have a6 : nearI ⟨xop, xarg⟩ = true → ((op.length : Int) == 0) = false := by
      intro hh
      have := A3.out
      rw [hh, Bool.true_and] at this
      cases op with
      | nil => simp at this
      | cons => rw [beq_eq_false_iff_ne]; simp; omega
    have hneq : nearI ⟨xop, xarg⟩ = true ∧ ((op.length : Int) == 0) = false ∨ nearI ⟨xop, xarg⟩ = false := by
      cases hq : nearI ⟨xop, xarg⟩ with
      | true => exact .inl ⟨rfl, a6 hq⟩
      | false => exact .inr rfl
    clear a6
    by_cases a7 : y < wantsF xop
    · have a7b : decide (y < wantsF xop) = true := by simpa using a7
      have HC : Hid (checksR l vars hs op i ⟨xop, xarg⟩ y = false) := by show checksR l vars hs op i ⟨xop, xarg⟩ y = false; unfold checksR; rw [show decide (wantsF xop ≤ y) = false by simpa using a7]; simp
      clear a1c
      rcases hneq with ⟨cn, a8⟩ | cn
      all_goals
        go_wp2_with (first
          | (go_at_call 73; refine (permitted_any ⟨xop, xarg⟩ _ _).mono ?_; rintro e w' ⟨rfl, hb'⟩; rw [cp]; replace HW := HW.trans hb'; clear hb'; have p0 := (HK.out _ HW).cell 0 rfl; have p1 := (HK.out _ HW).cell 1 rfl; have p2 := (HK.out _ HW).lt)
          | (go_at_call 74; refine (refNear_any ⟨xop, xarg⟩ _).mono ?_; rintro e w' ⟨rfl, hb'⟩; rw [cn]; replace HW := HW.trans hb'; clear hb'; have p0 := (HK.out _ HW).cell 0 rfl; have p1 := (HK.out _ HW).cell 1 rfl; have p2 := (HK.out _ HW).lt)
          | (go_at_call 75; refine (wants_any xop _).mono ?_; rintro e w' ⟨rfl, rfl⟩))
        go_ret
        exact fault_bad (by omega) HC.out (HB.trans HW)
    have a7b : decide (y < wantsF xop) = false := by simpa using a7
    have a7c : Hid (decide (wantsF xop ≤ y) = true) := by show decide (wantsF xop ≤ y) = true; simpa using a7
    clear a7
    by_cases h9 : xop = 9
    · subst h9
      have cn : nearI ⟨9, xarg⟩ = false := by simp [nearI]
      cases cl : loopRF l i op with
      | false =>
        have HC : Hid (checksR l vars hs op i ⟨9, xarg⟩ y = false) := by show checksR l vars hs op i ⟨9, xarg⟩ y = false; unfold checksR; rw [cl]; simp
        clear hneq a1c
        go_wp2_with (first
          | (go_at_call 73; refine (permitted_any ⟨9, xarg⟩ _ _).mono ?_; rintro e w' ⟨rfl, hb'⟩; rw [cp]; replace HW := HW.trans hb'; clear hb'; have p0 := (HK.out _ HW).cell 0 rfl; have p1 := (HK.out _ HW).cell 1 rfl; have p2 := (HK.out _ HW).lt)
          | (go_at_call 74; refine (refNear_any ⟨9, xarg⟩ _).mono ?_; rintro e w' ⟨rfl, hb'⟩; rw [cn]; replace HW := HW.trans hb'; clear hb'; have p0 := (HK.out _ HW).cell 0 rfl; have p1 := (HK.out _ HW).cell 1 rfl; have p2 := (HK.out _ HW).lt)
          | (go_at_call 75; refine (wants_any 9 _).mono ?_; rintro e w' ⟨rfl, rfl⟩)
          | (go_at_call 76; refine (refLoop_any _ _ _ l i _ _ _ op _ (H1.out _ (HB.trans HW)) (H3.out _ (HB.trans HW)) (by omega) hi HO.out (by omega)).mono ?_; rintro e w' ⟨rfl, rfl⟩; rw [cl]))
        go_ret
        exact fault_bad (by omega) HC.out (HB.trans HW)
      | true =>
        have HC : Hid (checksR l vars hs op i ⟨9, xarg⟩ y = true) := by show checksR l vars hs op i ⟨9, xarg⟩ y = true; unfold checksR; simp only []; rw [a1c, cp, A3.out, a7c.out, cl]; rfl
        clear hneq a1c
        go_wp2_with (first
          | (go_at_call 73; refine (permitted_any ⟨9, xarg⟩ _ _).mono ?_; rintro e w' ⟨rfl, hb'⟩; rw [cp]; replace HW := HW.trans hb'; clear hb'; have p0 := (HK.out _ HW).cell 0 rfl; have p1 := (HK.out _ HW).cell 1 rfl; have p2 := (HK.out _ HW).lt)
          | (go_at_call 74; refine (refNear_any ⟨9, xarg⟩ _).mono ?_; rintro e w' ⟨rfl, hb'⟩; rw [cn]; replace HW := HW.trans hb'; clear hb'; have p0 := (HK.out _ HW).cell 0 rfl; have p1 := (HK.out _ HW).cell 1 rfl; have p2 := (HK.out _ HW).lt)
          | (go_at_call 75; refine (wants_any 9 _).mono ?_; rintro e w' ⟨rfl, rfl⟩)
          | (go_at_call 76; refine (refLoop_any _ _ _ l i _ _ _ op _ (H1.out _ (HB.trans HW)) (H3.out _ (HB.trans HW)) (by omega) hi HO.out (by omega)).mono ?_; rintro e w' ⟨rfl, rfl⟩; rw [cl]))
        go_ret
        exact ⟨0, rfl, by rw [HC.out]; rfl, HB.trans HW⟩
    have h9b : (xop == 9) = false := by simpa using h9
    by_cases h10 : xop = 10
    · subst h10
      have cn : nearI ⟨10, xarg⟩ = false := by simp [nearI]
      have HCe : Hid (checksR l vars hs op i ⟨10, xarg⟩ y = nextRF l i hs op y) := by show checksR l vars hs op i ⟨10, xarg⟩ y = _; unfold checksR; simp only []; rw [a1c, cp, A3.out, a7c.out]; simp
      clear hneq a1c
      rcases Nat.eq_zero_or_pos op.length with h0 | h0
      · have h0b : ((op.length : Int) == 0) = true := by rw [beq_iff_eq]; omega
        have HC : Hid (checksR l vars hs op i ⟨10, xarg⟩ y = false) := by
          show checksR l vars hs op i ⟨10, xarg⟩ y = false
          rw [HCe.out]
          have : op = [] := List.eq_nil_of_length_eq_zero h0
          rw [this]; rfl
        go_wp2_with (first
          | (go_at_call 73; refine (permitted_any ⟨10, xarg⟩ _ _).mono ?_; rintro e w' ⟨rfl, hb'⟩; rw [cp]; replace HW := HW.trans hb'; clear hb'; have p0 := (HK.out _ HW).cell 0 rfl; have p1 := (HK.out _ HW).cell 1 rfl; have p2 := (HK.out _ HW).lt)
          | (go_at_call 74; refine (refNear_any ⟨10, xarg⟩ _).mono ?_; rintro e w' ⟨rfl, hb'⟩; rw [cn]; replace HW := HW.trans hb'; clear hb'; have p0 := (HK.out _ HW).cell 0 rfl; have p1 := (HK.out _ HW).cell 1 rfl; have p2 := (HK.out _ HW).lt)
          | (go_at_call 75; refine (wants_any 10 _).mono ?_; rintro e w' ⟨rfl, rfl⟩))
        go_ret
        exact fault_bad (by omega) HC.out (HB.trans HW)
      · obtain ⟨m', z, pb, po, hm', rfl, hpb, hpc, hz, hzl, hemp⟩ := last_facts (H3.out _ (HB.trans HW)) HO.out h0
        clear hpb hpc
        have hzh : z < hs.length := by rw [Hlen.out]; omega
        have HN : Hid (nextRF l i hs op y = (decide (l[z].arg = (i : Int)) && decide (y = hs[z] + 1))) := by
          show nextRF l i hs op y = _
          unfold nextRF
          rw [hemp, hz, insAt_get hzl, ig_get hzh]; rfl
        have HHz := HH.out hs[z] (List.getElem_mem _)
        obtain ⟨hz0, hz1⟩ := HHz
        have hd0 : ((m' : Int) + 1 == 0) = false := by rw [beq_eq_false_iff_ne]; omega
        have Hm := Lib.hid hm'; have Hz := Lib.hid hz; have Hemp := Lib.hid hemp
        have hm6 : m' ≤ 100000 := by have h1 := HOI.out.1; have h2 := Hm.out; omega
        have HL0 : Hid (∀ w', Bel w w' → w'.cell? ⟨pb, po + m', none⟩ = some (.int .i64 (z : Int)) ∧ pb < w'.heap.size ∧ w'.cell? ⟨b, o + z * 2 + 1, none⟩ = some (.int .i64 l[z].arg) ∧ b < w'.heap.size ∧ w'.cell? ⟨hb2, ho2 + z, none⟩ = some (.int .i64 hs[z]) ∧ hb2 < w'.heap.size) := by
          intro w' k
          obtain ⟨m2, z2, pb2, po2, e1, e2, e3, e4, e5, e6, e7⟩ := last_facts (H3.out w' k) HO.out h0
          obtain rfl : m' = m2 := by omega
          obtain ⟨rfl, rfl⟩ : pb = pb2 ∧ po = po2 := by simpa using e2
          obtain rfl : z = z2 := by have := Hz.out; omega
          obtain ⟨b', o', g1, g2, g3, g4⟩ := (H1.out w' k).at_ z hzl
          obtain ⟨rfl, rfl⟩ : b = b' ∧ o = o' := by simpa using g1
          obtain ⟨b', o', g1, g5, g6⟩ := IntsR.at_ (H2.out w' k) z hzh
          obtain ⟨rfl, rfl⟩ : hb2 = b' ∧ ho2 = o' := by simpa using g1
          exact ⟨e4, e3, g4, g2, g6, g5⟩
        rw [hm']
        clear hm' hz hemp h0
        by_cases q1 : l[z].arg = (i : Int)
        · have q1b : (l[z].arg != (i : Int)) = false := by simpa using q1
          by_cases q2 : y = hs[z] + 1
          · have q2b : (y != hs[z] + 1) = false := by simpa using q2
            have HC : Hid (checksR l vars hs op i ⟨10, xarg⟩ y = true) := by show checksR l vars hs op i ⟨10, xarg⟩ y = true; rw [HCe.out, HN.out, show decide (l[z].arg = (i : Int)) = true by simpa using q1, show decide (y = hs[z] + 1) = true by simpa using q2]; rfl
            clear q1 q2
            go_wp2_with (first
              | (go_at_call 73; refine (permitted_any ⟨10, xarg⟩ _ _).mono ?_; rintro e w' ⟨rfl, hb'⟩; rw [cp]; replace HW := HW.trans hb'; clear hb'; have p0 := (HK.out _ HW).cell 0 rfl; have p1 := (HK.out _ HW).cell 1 rfl; have p2 := (HK.out _ HW).lt)
              | (go_at_call 74; refine (refNear_any ⟨10, xarg⟩ _).mono ?_; rintro e w' ⟨rfl, hb'⟩; rw [cn]; replace HW := HW.trans hb'; clear hb'; have p0 := (HK.out _ HW).cell 0 rfl; have p1 := (HK.out _ HW).cell 1 rfl; have p2 := (HK.out _ HW).lt; obtain ⟨z1, z2, z3, z4, z5, z6⟩ := HL0.out _ (HB.trans HW))
              | (go_at_call 75; refine (wants_any 10 _).mono ?_; rintro e w' ⟨rfl, rfl⟩))
            go_ret
            exact ⟨0, rfl, by rw [HC.out]; rfl, HB.trans HW⟩
          · have q2b : (y != hs[z] + 1) = true := by simpa using q2
            have HC : Hid (checksR l vars hs op i ⟨10, xarg⟩ y = false) := by show checksR l vars hs op i ⟨10, xarg⟩ y = false; rw [HCe.out, HN.out, show decide (y = hs[z] + 1) = false by simpa using q2]; simp
            clear q1
            go_wp2_with (first
              | (go_at_call 73; refine (permitted_any ⟨10, xarg⟩ _ _).mono ?_; rintro e w' ⟨rfl, hb'⟩; rw [cp]; replace HW := HW.trans hb'; clear hb'; have p0 := (HK.out _ HW).cell 0 rfl; have p1 := (HK.out _ HW).cell 1 rfl; have p2 := (HK.out _ HW).lt)
              | (go_at_call 74; refine (refNear_any ⟨10, xarg⟩ _).mono ?_; rintro e w' ⟨rfl, hb'⟩; rw [cn]; replace HW := HW.trans hb'; clear hb'; have p0 := (HK.out _ HW).cell 0 rfl; have p1 := (HK.out _ HW).cell 1 rfl; have p2 := (HK.out _ HW).lt; obtain ⟨z1, z2, z3, z4, z5, z6⟩ := HL0.out _ (HB.trans HW))
              | (go_at_call 75; refine (wants_any 10 _).mono ?_; rintro e w' ⟨rfl, rfl⟩))
            go_ret
            exact fault_bad (by omega) HC.out (HB.trans HW)
        · have q1b : (l[z].arg != (i : Int)) = true := by simpa using q1
          have HC : Hid (checksR l vars hs op i ⟨10, xarg⟩ y = false) := by show checksR l vars hs op i ⟨10, xarg⟩ y = false; rw [HCe.out, HN.out, show decide (l[z].arg = (i : Int)) = false by simpa using q1]; rfl
          go_wp2_with (first
            | (go_at_call 73; refine (permitted_any ⟨10, xarg⟩ _ _).mono ?_; rintro e w' ⟨rfl, hb'⟩; rw [cp]; replace HW := HW.trans hb'; clear hb'; have p0 := (HK.out _ HW).cell 0 rfl; have p1 := (HK.out _ HW).cell 1 rfl; have p2 := (HK.out _ HW).lt)
            | (go_at_call 74; refine (refNear_any ⟨10, xarg⟩ _).mono ?_; rintro e w' ⟨rfl, hb'⟩; rw [cn]; replace HW := HW.trans hb'; clear hb'; have p0 := (HK.out _ HW).cell 0 rfl; have p1 := (HK.out _ HW).cell 1 rfl; have p2 := (HK.out _ HW).lt; obtain ⟨z1, z2, z3, z4, z5, z6⟩ := HL0.out _ (HB.trans HW))
            | (go_at_call 75; refine (wants_any 10 _).mono ?_; rintro e w' ⟨rfl, rfl⟩))
          go_ret
          exact fault_bad (by omega) HC.out (HB.trans HW)
    have h10b : (xop == 10) = false := by simpa using h10
    by_cases h78 : xop = 7 ∨ xop = 8
    · have cn : nearI ⟨xop, xarg⟩ = false := by rcases h78 with rfl | rfl <;> simp [nearI]
      cases cj : jumpRF l i op with
      | false =>
        have HC : Hid (checksR l vars hs op i ⟨xop, xarg⟩ y = false) := by show checksR l vars hs op i ⟨xop, xarg⟩ y = false; unfold checksR; rw [cj, show decide (xop ≠ 7 ∧ xop ≠ 8) = false by simp; omega]; simp
        clear hneq a1c
        rcases h78 with rfl | rfl
        · skip
          go_wp2_with (first
            | (go_at_call 73; refine (permitted_any ⟨7, xarg⟩ _ _).mono ?_; rintro e w' ⟨rfl, hb'⟩; rw [cp]; replace HW := HW.trans hb'; clear hb'; have p0 := (HK.out _ HW).cell 0 rfl; have p1 := (HK.out _ HW).cell 1 rfl; have p2 := (HK.out _ HW).lt)
            | (go_at_call 74; refine (refNear_any ⟨7, xarg⟩ _).mono ?_; rintro e w' ⟨rfl, hb'⟩; rw [cn]; replace HW := HW.trans hb'; clear hb'; have p0 := (HK.out _ HW).cell 0 rfl; have p1 := (HK.out _ HW).cell 1 rfl; have p2 := (HK.out _ HW).lt)
            | (go_at_call 75; refine (wants_any 7 _).mono ?_; rintro e w' ⟨rfl, rfl⟩)
            | (go_at_call 76; refine (refLoop_any _ _ _ l i _ _ _ op _ (H1.out _ (HB.trans HW)) (H3.out _ (HB.trans HW)) (by omega) hi HO.out (by omega)).mono ?_; rintro e w' ⟨rfl, rfl⟩; rw [cl])
            | (go_at_call 77; refine (refJump_any _ _ _ l i _ _ _ op _ (H1.out _ (HB.trans HW)) (H3.out _ (HB.trans HW)) (by omega) hi HO.out (by omega)).mono ?_; rintro e w' ⟨rfl, rfl⟩; rw [cj]))
          go_ret
          exact fault_bad (by omega) HC.out (HB.trans HW)
        · skip
          go_wp2_with (first
            | (go_at_call 73; refine (permitted_any ⟨8, xarg⟩ _ _).mono ?_; rintro e w' ⟨rfl, hb'⟩; rw [cp]; replace HW := HW.trans hb'; clear hb'; have p0 := (HK.out _ HW).cell 0 rfl; have p1 := (HK.out _ HW).cell 1 rfl; have p2 := (HK.out _ HW).lt)
            | (go_at_call 74; refine (refNear_any ⟨8, xarg⟩ _).mono ?_; rintro e w' ⟨rfl, hb'⟩; rw [cn]; replace HW := HW.trans hb'; clear hb'; have p0 := (HK.out _ HW).cell 0 rfl; have p1 := (HK.out _ HW).cell 1 rfl; have p2 := (HK.out _ HW).lt)
            | (go_at_call 75; refine (wants_any 8 _).mono ?_; rintro e w' ⟨rfl, rfl⟩)
            | (go_at_call 76; refine (refLoop_any _ _ _ l i _ _ _ op _ (H1.out _ (HB.trans HW)) (H3.out _ (HB.trans HW)) (by omega) hi HO.out (by omega)).mono ?_; rintro e w' ⟨rfl, rfl⟩; rw [cl])
            | (go_at_call 77; refine (refJump_any _ _ _ l i _ _ _ op _ (H1.out _ (HB.trans HW)) (H3.out _ (HB.trans HW)) (by omega) hi HO.out (by omega)).mono ?_; rintro e w' ⟨rfl, rfl⟩; rw [cj]))
          go_ret
          exact fault_bad (by omega) HC.out (HB.trans HW)
      | true =>
        have HC : Hid (checksR l vars hs op i ⟨xop, xarg⟩ y = true) := by show checksR l vars hs op i ⟨xop, xarg⟩ y = true; unfold checksR; simp only []; rw [a1c, cp, A3.out, a7c.out, cj]; simp [h9, h10]
        clear hneq a1c
        rcases h78 with rfl | rfl
        · skip
          go_wp2_with (first
            | (go_at_call 73; refine (permitted_any ⟨7, xarg⟩ _ _).mono ?_; rintro e w' ⟨rfl, hb'⟩; rw [cp]; replace HW := HW.trans hb'; clear hb'; have p0 := (HK.out _ HW).cell 0 rfl; have p1 := (HK.out _ HW).cell 1 rfl; have p2 := (HK.out _ HW).lt)
            | (go_at_call 74; refine (refNear_any ⟨7, xarg⟩ _).mono ?_; rintro e w' ⟨rfl, hb'⟩; rw [cn]; replace HW := HW.trans hb'; clear hb'; have p0 := (HK.out _ HW).cell 0 rfl; have p1 := (HK.out _ HW).cell 1 rfl; have p2 := (HK.out _ HW).lt)
            | (go_at_call 75; refine (wants_any 7 _).mono ?_; rintro e w' ⟨rfl, rfl⟩)
            | (go_at_call 76; refine (refLoop_any _ _ _ l i _ _ _ op _ (H1.out _ (HB.trans HW)) (H3.out _ (HB.trans HW)) (by omega) hi HO.out (by omega)).mono ?_; rintro e w' ⟨rfl, rfl⟩; rw [cl])
            | (go_at_call 77; refine (refJump_any _ _ _ l i _ _ _ op _ (H1.out _ (HB.trans HW)) (H3.out _ (HB.trans HW)) (by omega) hi HO.out (by omega)).mono ?_; rintro e w' ⟨rfl, rfl⟩; rw [cj]))
          go_ret
          exact ⟨0, rfl, by rw [HC.out]; rfl, HB.trans HW⟩
        · skip
          go_wp2_with (first
            | (go_at_call 73; refine (permitted_any ⟨8, xarg⟩ _ _).mono ?_; rintro e w' ⟨rfl, hb'⟩; rw [cp]; replace HW := HW.trans hb'; clear hb'; have p0 := (HK.out _ HW).cell 0 rfl; have p1 := (HK.out _ HW).cell 1 rfl; have p2 := (HK.out _ HW).lt)
            | (go_at_call 74; refine (refNear_any ⟨8, xarg⟩ _).mono ?_; rintro e w' ⟨rfl, hb'⟩; rw [cn]; replace HW := HW.trans hb'; clear hb'; have p0 := (HK.out _ HW).cell 0 rfl; have p1 := (HK.out _ HW).cell 1 rfl; have p2 := (HK.out _ HW).lt)
            | (go_at_call 75; refine (wants_any 8 _).mono ?_; rintro e w' ⟨rfl, rfl⟩)
            | (go_at_call 76; refine (refLoop_any _ _ _ l i _ _ _ op _ (H1.out _ (HB.trans HW)) (H3.out _ (HB.trans HW)) (by omega) hi HO.out (by omega)).mono ?_; rintro e w' ⟨rfl, rfl⟩; rw [cl])
            | (go_at_call 77; refine (refJump_any _ _ _ l i _ _ _ op _ (H1.out _ (HB.trans HW)) (H3.out _ (HB.trans HW)) (by omega) hi HO.out (by omega)).mono ?_; rintro e w' ⟨rfl, rfl⟩; rw [cj]))
          go_ret
          exact ⟨0, rfl, by rw [HC.out]; rfl, HB.trans HW⟩
    · have h7b : (xop == 7) = false := by simp; omega
      have h8b : (xop == 8) = false := by simp; omega
      have HC : Hid (checksR l vars hs op i ⟨xop, xarg⟩ y = true) := by show checksR l vars hs op i ⟨xop, xarg⟩ y = true; unfold checksR; simp only []; rw [a1c, cp, A3.out, a7c.out, show decide (xop ≠ 7 ∧ xop ≠ 8) = true by simp; omega]; simp [h9, h10]
      clear a1c
      rcases hneq with ⟨cn, a8⟩ | cn
      all_goals
        go_wp2_with (first
          | (go_at_call 73; refine (permitted_any ⟨xop, xarg⟩ _ _).mono ?_; rintro e w' ⟨rfl, hb'⟩; rw [cp]; replace HW := HW.trans hb'; clear hb'; have p0 := (HK.out _ HW).cell 0 rfl; have p1 := (HK.out _ HW).cell 1 rfl; have p2 := (HK.out _ HW).lt)
          | (go_at_call 74; refine (refNear_any ⟨xop, xarg⟩ _).mono ?_; rintro e w' ⟨rfl, hb'⟩; rw [cn]; replace HW := HW.trans hb'; clear hb'; have p0 := (HK.out _ HW).cell 0 rfl; have p1 := (HK.out _ HW).cell 1 rfl; have p2 := (HK.out _ HW).lt)
          | (go_at_call 75; refine (wants_any xop _).mono ?_; rintro e w' ⟨rfl, rfl⟩))
        go_ret
        exact ⟨0, rfl, by rw [HC.out]; rfl, HB.trans HW⟩

end Go.Proofs.YtaifafljakojnaaGreat

/- The contract of the reference's Verify: its error. -/
namespace Go.Proofs.YtaifafljakojnaaGreat
open Go.RowKit

def RetRV (err : Int) (w : World) (e : Ending) (w' : World) : Prop := ∃ a b : Int, e = .returned (.tuple #[.int .i64 a, .int .i64 b, .int .i64 err]) ∧ Bel w w'

/-- Two rows of numbers of the call's own: heights and open loops. -/
structure RVSt (w : World) (wr : World) (g hc : Nat) (hs : List Int) (O : Option Addr) (oc : Nat) (op : List Int) : Prop where
  hts : wr.ownsRow w.heap.size 3 1 (.slice (some ⟨g, 0, none⟩) hs.length hc) hs.length (hs.map (Value.int .i64))
  opn : wr.ownsRow w.heap.size 3 1 (.slice O op.length oc) op.length (op.map (Value.int .i64))
  apart : (Value.slice O op.length oc).ownBlock ≠ some g
  bel : Bel w wr

section
variable {w wr : World} {g hc : Nat} {hs : List Int} {O : Option Addr} {oc : Nat} {op : List Int}
theorem RVSt.keep {w' : World} (h : RVSt w wr g hc hs O oc op) (k : Bel wr w') : RVSt w w' g hc hs O oc op := ⟨k.owns h.hts, k.owns h.opn, h.apart, h.bel.trans k⟩
theorem RVSt.set (h : RVSt w wr g hc hs O oc op) (p : Nat) (x : Int) : RVSt w (wr.setCell ⟨g, p, none⟩ (.int .i64 x)) g hc (hs.set p x) O oc op := by
  refine ⟨?_, ownsRow_setCell_other h.opn (a := ⟨g, p, none⟩) h.apart _, h.apart, h.bel.setCell (h.hts.lt g rfl).1 _⟩
  rw [List.length_set, List.map_set]; exact (h.hts.stored p (.int .i64 x)).1
theorem RVSt.push {w2 : World} {O' : Option Addr} {oc' : Nat} {x : Int} (h : RVSt w wr g hc hs O oc op)
    (ho : w2.ownsRow w.heap.size 3 1 (.slice O' (op.length + 1) oc') (op.length + 1) (op.map (Value.int .i64) ++ [.int .i64 x])) (hg : wr.grownBy w2 (Value.slice O op.length oc).ownBlock)
    (hat : (Value.slice O' (op.length + 1) oc').ownBlock = (Value.slice O op.length oc).ownBlock ∨ (Value.slice O' (op.length + 1) oc').ownBlock = some wr.heap.size) : RVSt w w2 g hc hs O' oc' (op ++ [x]) := by
  have hgl := (h.hts.lt g rfl).2
  have e : (op ++ [x]).length = op.length + 1 := by simp
  refine ⟨h.hts.kept hg (.inr (fun e => h.apart e.symm)), ?_, ?_, h.bel.push h.opn hg⟩
  · rw [e, List.map_append]; exact ho
  · rw [e]
    rcases hat with e1 | e1
    · rw [e1]
      intro e2
      apply h.apart
      rw [← e2]
    · rw [e1]; intro e2; injection e2 with e2; omega
theorem RVSt.pop (h : RVSt w wr g hc hs O oc op) : RVSt w wr g hc hs O oc op.dropLast := by
  have e : op.dropLast.length = op.length - 1 := by simp
  refine ⟨h.hts, ?_, ?_, h.bel⟩
  · have h1 := own_take h.opn (op.length - 1) (by omega)
    rw [e]
    rw [Nat.mul_one, ← List.map_take, ← List.dropLast_eq_take] at h1
    exact h1
  · rw [e]
    intro e2
    apply h.apart
    cases O with
    | none => exact e2
    | some a => exact e2
theorem RVSt.at_ (h : RVSt w wr g hc hs O oc op) (p : Nat) (hp : p < hs.length) : g < wr.heap.size ∧ wr.cell? ⟨g, p, none⟩ = some (.int .i64 hs[p]) ∧ wr.frozen? ⟨g, p, none⟩ = false := by
  obtain ⟨g', h1, _, h3, h4, h5⟩ := own_at h.hts (j := p) (u := .int .i64 hs[p]) (by simp [hp])
  obtain rfl : g = g' := by simpa using h1
  exact ⟨h3, h4, h5⟩
end

theorem own_one (w : World) (x : Int) : (w.alloc (.cells #[.int .i64 x] 3)).ownsRow w.heap.size 3 1 (.slice (some ⟨w.heap.size, 0, none⟩) 1 1) 1 [.int .i64 x] :=
  ⟨rfl, .inr ⟨w.heap.size, 1, #[.int .i64 x], rfl, Nat.le_refl _, heap_new w _, Nat.le_refl _, by unfold maxLen; omega, rfl, rfl⟩⟩

theorem gifts_in {l : List Term} {v : Int} {tr : List Tr} {i : Nat} {h : Int} (hi : i < l.length) (hin : (innerF tr l.length).2.1 ≤ l.length) (hc : checksF l v tr i (insAt l i) h = true) : ∀ g ∈ giftsF (insAt l i) i h, 0 ≤ g.op ∧ g.op < ((l.length + 1 : Nat) : Int) := by
  obtain ⟨c1, c2, c3, c4, c5, c6, c7⟩ := checks_parts hc
  intro g hg
  unfold giftsF at hg
  have hj : (insAt l i).op = 7 ∨ (insAt l i).op = 8 → (i : Int) < (insAt l i).arg ∧ (insAt l i).arg ≤ l.length := by
    intro e
    unfold jumpF at c7
    rw [show decide ((insAt l i).op ≠ 7 ∧ (insAt l i).op ≠ 8) = false by simp; omega] at c7
    simp only [Bool.false_or, Bool.and_eq_true, decide_eq_true_eq] at c7
    omega
  split at hg
  · simp at hg; subst hg; simp; omega
  · split at hg
    · simp at hg; subst hg; simp; omega
    · split at hg
      · rename_i e; have := hj (.inl e); simp at hg; rcases hg with rfl | rfl <;> simp <;> omega
      · split at hg
        · rename_i e; have := hj (.inr e); simp at hg; subst hg; simp; omega
        · split at hg
          · rename_i e; have := each_parts c5 e; simp at hg; rcases hg with rfl | rfl <;> simp <;> omega
          · simp at hg; subst hg; simp; omega

theorem gifts_len (x : Term) (i h : Int) : (giftsF x i h).length ≤ 10 := by
  unfold giftsF
  split
  · simp
  · split
    · simp
    · split
      · simp
      · split
        · simp
        · split <;> simp

set_option maxRecDepth 100000 in
set_option maxHeartbeats 2000000 in
theorem refVerify_any (L : Option Addr) (n c : Nat) (l : List Term) (vars : Int) (w : World) (hT : TermsR w L n l) (hn : n ≤ 100000) (h0 : 0 ≤ vars) :
    Calls Tryz.prog 13 #[.slice L n c, .int .i64 vars] w (RetRV (verifyF l vars).2.2 w) := by
  obtain rfl := hT.1
  have HT := Lib.hid (fun w' (k : Bel w w') => hT.keep k); clear hT
  by_cases hz : l.length = 0
  · have HF : Hid (verifyF l vars = (0, 0, 3)) := by show verifyF l vars = _; unfold verifyF; rw [if_pos (.inl hz)]
    obtain rfl : l = [] := List.eq_nil_of_length_eq_zero hz
    clear hz
    go_enter Tryz.func13, Tryz.ntmps13
    go_wp2
    go_ret3
    exact ⟨0, 0, by rw [HF.out]; rfl, Bel.refl _⟩
  have hzb : decide ((l.length : Int) < 1) = false := by simp; omega
  by_cases hbig : 1024 < l.length
  · have hbb : decide (1024 < (l.length : Int)) = true := by simp; omega
    have HF : Hid (verifyF l vars = (0, 0, 3)) := by show verifyF l vars = _; unfold verifyF; rw [if_pos (.inr hbig)]
    go_enter Tryz.func13, Tryz.ntmps13
    go_wp2
    go_ret3
    exact ⟨0, 0, by rw [HF.out]; rfl, Bel.refl _⟩
  have hbb : decide (1024 < (l.length : Int)) = false := by simp; omega
  have HF : Hid (verifyF l vars = verGo l vars l.length 0 (0 :: List.replicate l.length (-1)) [] 0) := by
    show verifyF l vars = _
    unfold verifyF; rw [if_neg (by omega), Int.max_eq_left h0]
  obtain ⟨i0, hi0, hz0, hz1, hz2⟩ := info_parts int_info
  have hl4 : l.length ≤ 1024 := by omega
  clear hbig
  have HO1 := Lib.hid (own_one w 0)
  go_enter Tryz.func13, Tryz.ntmps13
  go_wp2_with fail
  go_loopg [7, 8] l.length (fun gg hv iv wr => ∃ (k : Nat) (H : Option Addr) (hc : Nat), k + gg = l.length ∧ iv = .int .i64 k ∧ hv = .slice H (k + 1) hc ∧ Hid (wr.ownsRow w.heap.size 3 1 (.slice H (k + 1) hc) (k + 1) ((0 :: List.replicate k (-1)).map (Value.int .i64))) ∧ Bel w wr)
  case atStart => exact ⟨0, _, 1, by omega, rfl, rfl, HO1, (Bel.refl w).alloc _⟩
  case round =>
    clear HO1
    obtain ⟨k, H, hc, hk, rfl, rfl, HO, hb⟩ := hrel
    have hbs := hb.size
    by_cases hlt : k < l.length
    · go_wp2_with (at_builtin; refine wpList_push _ rfl (.tmp 30) (.tmp 31) 27 rfl w.heap.size 3 i0 (.int .i64 0) 1 8 Tryz.underlying27 hi0 hz0 hz1 hz2 rfl (by decide) H (k + 1) hc ((0 :: List.replicate k (-1)).map (Value.int .i64)) (by simp [Act.eval]) (HO.out.alloc _) wr.heap.size #[.int .i64 (-1)] 3 (0, 0) (by simp [Act.eval]) (heap_new _ _) rfl (one_int _ _) (by unfold maxLen; omega) (by omega) (by simp; omega) ?_; intro H' hc' w2 hown2 hgr2 hat2; have hb2 := (hb.alloc _).push (HO.out.alloc _) hgr2; replace hown2 := Lib.hid hown2; clear hgr2 hat2)
      go_roundg (gk - 1)
      case rel => exact ⟨k + 1, H', hc', by omega, by go_num, rfl, by
        have := hown2.out
        show World.ownsRow _ _ _ _ _ _ _
        rw [List.replicate_succ', List.map_cons, List.map_append] at *
        simpa using this, hb2⟩
      case measure => omega
    · obtain rfl : k = l.length := by omega
      obtain ⟨g, hcc, hv, hg0, hgl⟩ := HO.out.form (by omega)
      injection hv with hA _ hc2
      subst hA; subst hc2
      obtain ⟨wq, hwq⟩ : ∃ wq : World, wq = wr := ⟨_, rfl⟩
      subst hwq
      have hlen0 : (0 :: List.replicate l.length (-1 : Int)).length = l.length + 1 := by simp
      have HS0 : Hid (RVSt w wq g hc (0 :: List.replicate l.length (-1)) none 0 []) :=
        ⟨by rw [hlen0]; exact HO.out, World.ownsRow_nil _ _ _ _, by simp [Value.ownBlock], hb⟩
      clear hlt hk hbs hlen0 hg0 hgl
      go_wp2_with fail
      go_loopg [9, 10, 11] l.length (fun gg ov mv iv wr => ∃ (k : Nat) (O : Option Addr) (oc : Nat) (op hs : List Int) (m : Int), k + gg = l.length ∧ iv = .int .i64 k ∧ ov = .slice O op.length oc ∧ mv = .int .i64 m ∧ Hid (VInv l hs (trOf l hs op)) ∧ Hid (OInv l hs op) ∧ Hid (verGo l vars gg k hs (trOf l hs op) m = verifyF l vars) ∧ Hid (RVSt w wr g hc hs O oc op))
      case atStart => exact ⟨0, none, 0, [], _, 0, by omega, rfl, rfl, rfl, start_inv l, ⟨by simp, fun e he => by simp at he⟩, HF.out.symm, HS0⟩
      case round =>
        clear HS0 HO hb
        obtain ⟨k, O, oc, op, hs, m, hk, rfl, rfl, rfl, HI, HOI, HG, HS⟩ := hrel
        by_cases hlt : k < l.length
        · obtain ⟨q, rfl⟩ : ∃ q, gk = q + 1 := ⟨gk - 1, by omega⟩
          have hil : k < hs.length := by rw [HI.out.1]; omega
          have hyy := HI.out.2.1 hs[k] (List.getElem_mem _)
          obtain ⟨hy0, hy1⟩ := hyy
          have hig := ig_get hil
          have hceq := checks_eq (v := vars) hl4 hlt HOI.out (ig hs k)
          have hin := inner_inv HI.out
          rw [hig] at hceq
          generalize hgy : hs[k] = y at *
          have Hgy := Lib.hid hgy; have Hig := Lib.hid hig; have Hceq := Lib.hid hceq; have Hin := Lib.hid hin
          clear hgy hig hceq hin
          cases hck : checksF l vars (trOf l hs op) k (insAt l k) y with
          | false =>
            have HR : Hid (verifyF l vars = (0, (k : Int), 7)) := by
              show verifyF l vars = _
              rw [← HG.out]; simp only [verGo, stepP]
              rw [Hig.out, if_pos hck]
            go_wp2_with fail
            have hIR := own_ints HS.out.hts
            rw [HI.out.1] at hIR
            have hv1 := HI.out.1
            have hv2 := HI.out.2.1
            ((with_reducible refine (fault_any _ _ _ l k vars _ _ _ hs _ _ _ op _ (HT.out _ HS.out.bel) hIR (own_ints HS.out.opn) hn hlt hv1 HOI.out hv2).mono ?_); clear hIR hv1 hv2)
            rintro e w1 ⟨z, rfl, hz, hb1⟩
            rw [Hig.out, ← Hceq.out, hck] at hz
            replace hz : decide (0 < z) = true := hz
            go_wp2_with fail
            go_ret3
            exact ⟨0, k, by rw [HR.out]; rfl, HS.out.bel.trans hb1⟩
          | true =>
            go_wp2_with fail
            have hIR := own_ints HS.out.hts
            rw [HI.out.1] at hIR
            have hv1 := HI.out.1
            have hv2 := HI.out.2.1
            ((with_reducible refine (fault_any _ _ _ l k vars _ _ _ hs _ _ _ op _ (HT.out _ HS.out.bel) hIR (own_ints HS.out.opn) hn hlt hv1 HOI.out hv2).mono ?_); clear hIR hv1 hv2)
            rintro e w1 ⟨z, rfl, hz, hb1⟩
            rw [Hig.out, ← Hceq.out, hck] at hz
            replace hz : decide (0 < z) = false := hz
            replace HS := Lib.hid (HS.out.keep hb1)
            clear hb1
            obtain ⟨v1, v2, v3⟩ := HS.out.at_ k hil
            rw [show hs[k] = y from Hgy.out] at v2
            go_wp2_with fail
            have HGI := Lib.hid (gifts_in hlt Hin.out.1 hck)
            have HGL := Lib.hid (gifts_low (i := (k : Int)) (checks_parts hck).1 (checks_parts hck).2.2.2.1)
            have HEA : (insAt l k).op = 9 → (insAt l k).arg ≤ 1000000 ∧ 0 ≤ (insAt l k).arg := fun e => by
              have h5 := each_parts (checks_parts hck).2.2.2.2.1 e
              omega
            ((with_reducible refine (gifts_any _ _ _ l k y _ (HT.out _ HS.out.bel) (by omega) hlt (by omega) (by omega) HEA).mono ?_); clear HEA)
            rintro e w2 ⟨g2, rfl, hg2, hblk, hb2⟩
            replace HS := Lib.hid (HS.out.keep hb2)
            replace hblk := Lib.hid hblk
            have Hck := Lib.hid hck
            clear hb2 hg2 v1 v2 v3 hz hck
            have HGE : Hid (∀ hs' m', giveF hs (giftsF (insAt l k) k y) = some hs' → mostF m (giftsF (insAt l k) k y) = some m' → stepP l vars k hs (trOf l hs op) m = (some (hs', trNext (insAt l k) k y (trOf l hs op), m'), 0)) := by
              intro hs' m' e1 e2
              unfold stepP
              rw [Hig.out, if_neg (by rw [Hck.out]; simp)]
              simp only [giveR, e1, e2]
            have HGN : Hid (giveF hs (giftsF (insAt l k) k y) = none → verifyF l vars = (0, (k : Int), 7)) := by
              intro e1
              rw [← HG.out]; simp only [verGo, stepP]
              rw [Hig.out, if_neg (by rw [Hck.out]; simp)]
              simp only [giveR, e1]
            have HGM : Hid (∀ hs', giveF hs (giftsF (insAt l k) k y) = some hs' → mostF m (giftsF (insAt l k) k y) = none → verifyF l vars = (0, (k : Int), 3)) := by
              intro hs' e1 e2
              rw [← HG.out]; simp only [verGo, stepP]
              rw [Hig.out, if_neg (by rw [Hck.out]; simp)]
              simp only [giveR, e1, e2]
            have hgs := gifts_len (insAt l k) k y
            obtain ⟨gs, hgseq⟩ : ∃ gs, giftsF (insAt l k) k y = gs := ⟨_, rfl⟩
            rw [hgseq] at HGI HGL hblk HGE HGN HGM hgs ⊢
            have Hgs := Lib.hid hgseq; clear hgseq
            have Hhl := Lib.hid HI.out.1
            go_wp2_with fail
            go_loopg [13] gs.length (fun gg jv wi => ∃ (j : Nat) (hj : List Int), j + gg = gs.length ∧ jv = .int .i64 j ∧ Hid (giveF hj (gs.drop j) = giveF hs gs) ∧ Hid (hj.length = hs.length) ∧ Hid (RVSt w wi g hc hj O oc op) ∧ Hid (Blk wi g2 (gs.flatMap termCells).toArray 84))
            case atStart => exact ⟨0, hs, by omega, rfl, rfl, rfl, HS, hblk⟩
            case round =>
              clear HS hblk
              obtain ⟨j, hj, hjg, rfl, HK, HL, HS, hblk⟩ := hrel
              by_cases hjl : j < gs.length
              · obtain ⟨hp0, hp1⟩ := HGI.out gs[j] (List.getElem_mem _)
                obtain ⟨p, hp⟩ := Int.eq_ofNat_of_zero_le hp0
                have hpl : p < hj.length := by rw [HL.out, Hhl.out]; omega
                have hpl2 : p < l.length + 1 := by omega
                obtain ⟨b', o', e1, hbl, k1, k2⟩ := TermsR.at_ (terms_of_block hblk.out) j hjl
                obtain ⟨rfl, rfl⟩ : g2 = b' ∧ 0 = o' := by simpa using e1
                rw [Nat.zero_add] at k1 k2
                rw [hp] at k1
                obtain ⟨v1, v2, v3⟩ := HS.out.at_ p hpl
                have HP := Lib.hid hp
                have hne2 : g2 ≠ g := by
                  intro e
                  exact hblk.out.apart HS.out.hts (by decide) (by rw [e]; rfl)
                have HKs : Hid (giveF hj (gs.drop j) = if 0 ≤ hj[p] ∧ hj[p] ≠ gs[j].arg then none else giveF (hj.set p gs[j].arg) (gs.drop (j + 1))) := by
                  show giveF hj (gs.drop j) = _
                  rw [List.drop_eq_getElem_cons hjl]
                  simp only [giveF]
                  rw [hp, ig_get hpl, Int.toNat_natCast]
                have HSS := fun x => Lib.hid (HS.out.set p x)
                have HBS := fun x => Lib.hid (hblk.out.other (a := ⟨g, p, none⟩) hne2 (.int .i64 x))
                have HSS' := Lib.hid HSS; have HBS' := Lib.hid HBS
                clear e1 hp hp0 hp1 HSS HBS
                generalize hj[p] = x at *
                generalize gs[j].arg = yy at *
                have hfin : ∀ (u : Nat), ¬ (0 ≤ x ∧ x ≠ yy) → ∃ (j' : Nat) (hj' : List Int), j' + (gk - 1) = gs.length ∧ Value.int .i64 ((j : Int) + 1) = .int .i64 j' ∧ Hid (giveF hj' (gs.drop j') = giveF hs gs) ∧ Hid (hj'.length = hs.length) ∧ Hid (RVSt w ((wr.drewN u).setCell ⟨g, p, none⟩ (.int .i64 yy)) g hc hj' O oc op) ∧ Hid (Blk ((wr.drewN u).setCell ⟨g, p, none⟩ (.int .i64 yy)) g2 (gs.flatMap termCells).toArray 84) := by
                  intro u hcond
                  refine ⟨j + 1, hj.set p yy, by omega, by go_num, ?_, ?_, ?_, ?_⟩
                  · show giveF (hj.set p yy) (gs.drop (j + 1)) = giveF hs gs
                    rw [← HK.out, HKs.out, if_neg hcond]
                  · show (hj.set p yy).length = hs.length; rw [List.length_set]; exact HL.out
                  · exact (HS.out.keep ((Bel.refl wr).drewN u)).set p yy
                  · exact (hblk.out.drewN u).other (a := ⟨g, p, none⟩) hne2 _
                have HFin := Lib.hid hfin; clear hfin
                by_cases hx0 : 0 ≤ x
                · have hx0b : decide (0 ≤ x) = true := by simpa using hx0
                  by_cases hxy : x = yy
                  · have HCd := Lib.hid (show ¬ (0 ≤ x ∧ x ≠ yy) from fun h => h.2 hxy)
                    have hxb : (x != yy) = false := by simpa using hxy
                    clear hxy
                    go_wp2_with fail
                    go_quiet (fail)
                    go_wp2_with fail
                    go_region
                    all_goals
                      go_wp2_with fail
                      go_roundg (gk - 1)
                      case rel => exact HFin.out _ HCd.out
                      case measure => omega
                  · have hxb : (x != yy) = true := by simpa using hxy
                    have HE := HGN.out (by rw [← HK.out, HKs.out, if_pos ⟨hx0, hxy⟩])
                    replace HE := Lib.hid HE
                    go_wp2_with fail
                    go_quiet (fail)
                    go_wp2_with fail
                    go_ret3
                    exact ⟨0, k, by rw [HE.out]; rfl, HS.out.bel.drewN _⟩
                · have hx0b : decide (0 ≤ x) = false := by simpa using hx0
                  have HCd := Lib.hid (show ¬ (0 ≤ x ∧ x ≠ yy) from fun h => hx0 h.1)
                  go_wp2_with fail
                  go_quiet (fail)
                  go_wp2_with fail
                  go_region
                  all_goals
                    go_wp2_with fail
                    go_roundg (gk - 1)
                    case rel => exact HFin.out _ HCd.out
                    case measure => omega
              · have HF1 : Hid (giveF hs gs = some hj) := by
                  show giveF hs gs = some hj
                  rw [← HK.out, List.drop_eq_nil_of_le (by omega)]; rfl
                obtain ⟨wq2, hwq2⟩ : ∃ wq2 : World, wq2 = wr := ⟨_, rfl⟩
                subst hwq2
                clear HK
                go_wp2_with fail
                clear hjl hjg
                go_loopg [10, 14] gs.length (fun gg mv jv wi => ∃ (j : Nat) (mk : Int), j + gg = gs.length ∧ jv = .int .i64 j ∧ mv = .int .i64 mk ∧ Hid (mostF mk (gs.drop j) = mostF m gs) ∧ wq2 = wi)
                case atStart => exact ⟨0, m, by omega, rfl, rfl, rfl, rfl⟩
                case round =>
                  obtain ⟨j2, mk, hjg, rfl, rfl, HK, rfl⟩ := hrel
                  by_cases hjl : j2 < gs.length
                  · obtain ⟨b', o', e1, hbl, k1, k2⟩ := TermsR.at_ (terms_of_block hblk.out) j2 hjl
                    obtain ⟨rfl, rfl⟩ : g2 = b' ∧ 0 = o' := by simpa using e1
                    rw [Nat.zero_add] at k1 k2
                    have HKs : Hid (mostF mk (gs.drop j2) = if 64 < gs[j2].arg then none else mostF (max mk gs[j2].arg) (gs.drop (j2 + 1))) := by
                      show mostF mk (gs.drop j2) = _
                      rw [List.drop_eq_getElem_cons hjl]; rfl
                    clear e1
                    generalize gs[j2].arg = yy at *
                    by_cases h64 : 64 < yy
                    · have h64b : decide (64 < yy) = true := by simpa using h64
                      have HE := Lib.hid (HGM.out _ HF1.out (by rw [← HK.out, HKs.out, if_pos h64]))
                      go_wp2_with fail
                      go_ret3
                      exact ⟨0, k, by rw [HE.out]; rfl, HS.out.bel⟩
                    · have h64b : decide (64 < yy) = false := by simpa using h64
                      have HKn : Hid (mostF (max mk yy) (gs.drop (j2 + 1)) = mostF m gs) := by
                        show mostF (max mk yy) (gs.drop (j2 + 1)) = mostF m gs
                        rw [← HK.out, HKs.out, if_neg h64]
                      go_wp2_with fail
                      all_goals
                        go_roundg (gk - 1)
                        case rel => first
                          | exact ⟨j2 + 1, yy, by omega, by go_num, rfl, by have := HKn.out; rw [Int.max_eq_right (by omega)] at this; exact this, rfl⟩
                          | exact ⟨j2 + 1, mk, by omega, by go_num, rfl, by have := HKn.out; rw [Int.max_eq_left (by omega)] at this; exact this, rfl⟩
                        case measure => omega
                  · have HF2 : Hid (mostF m gs = some mk) := by
                      show mostF m gs = some mk
                      rw [← HK.out, List.drop_eq_nil_of_le (by omega)]; rfl
                    have HST := HGE.out _ _ HF1.out HF2.out
                    have HST0 := Lib.hid HST
                    obtain ⟨ht1, ht2⟩ := step_open HI.out.1 hlt HOI.out HST
                    have HI2 := stepP_inv hlt HI.out HST
                    rw [ht1] at HI2
                    have HG2 : verGo l vars q (k + 1) hj (trOf l hj (opNext (insAt l k) k op)) mk = verifyF l vars := by
                      rw [← HG.out, ← ht1]; simp only [verGo, HST]
                    replace HI2 := Lib.hid HI2; replace HG2 := Lib.hid HG2; replace ht2 := Lib.hid ht2
                    clear HST ht1 HK
                    obtain ⟨b', o', rfl, hbl, k1, k2⟩ := (HT.out _ HS.out.bel).at_ k hlt
                    have hxl := insAt_get hlt
                    rw [← hxl] at k1
                    generalize hxx : insAt l k = x at *
                    have Hxx := Lib.hid hxx; have Hxl := Lib.hid hxl
                    clear hxx hxl k2
                    have hbs := HS.out.bel.size
                    have hopl := HOI.out.1
                    by_cases h9 : x.op = 9
                    · have h9b : (x.op == 9) = true := by simpa using h9
                      have h10b : (x.op == 10) = false := by simp [h9]
                      have HON : Hid (opNext x k op = op ++ [(k : Int)]) := by show opNext x k op = _; simp [opNext, h9]
                      clear h9
                      go_wp2_with (at_builtin; refine wpList_push _ rfl (.tmp 124) (.tmp 126) 27 rfl w.heap.size 3 i0 (.int .i64 0) 1 8 Tryz.underlying27 hi0 hz0 hz1 hz2 rfl (by decide) O op.length oc (op.map (Value.int .i64)) (by simp [Act.eval]) (HS.out.opn.alloc _) wq2.heap.size #[.int .i64 k] 3 (0, 0) (by simp [Act.eval]) (heap_new _ _) rfl (one_int _ _) (by unfold maxLen; omega) (by omega) (by simp; omega) ?_; intro O' oc' w5 hown5 hgr5 hat5; have hS5 := Lib.hid ((HS.out.keep ((Bel.refl wq2).alloc _)).push hown5 hgr5 (by simpa using hat5)); obtain ⟨b5, o5, e5, hbl5, k5, _⟩ := (HT.out _ hS5.out.bel).at_ k hlt; obtain ⟨rfl, rfl⟩ : b' = b5 ∧ o' = o5 := (by simpa using e5); rw [← Hxl.out] at k5; clear hown5 hgr5 hat5 e5)
                      go_roundg q
                      case rel => exact ⟨k + 1, O', oc', op ++ [(k : Int)], hj, mk, by omega, by go_num, by simp, rfl, by have := HI2.out; rw [HON.out] at this; exact this, by have := ht2.out; rw [HON.out] at this; exact this, by have := HG2.out; rw [HON.out] at this; exact this, hS5⟩
                      case measure => omega
                    · have h9b : (x.op == 9) = false := by simpa using h9
                      by_cases h10 : x.op = 10
                      · have h10b : (x.op == 10) = true := by simpa using h10
                        have HON : Hid (opNext x k op = op.dropLast) := by show opNext x k op = _; simp [opNext, h10]
                        have hnx := (checks_parts Hck.out).2.2.2.2.2.1
                        have hpos : 1 ≤ op.length := by
                          unfold nextF at hnx
                          rw [show decide (x.op ≠ 10) = false by simp [h10]] at hnx
                          simp only [Bool.false_or, Bool.and_eq_true, decide_eq_true_eq] at hnx
                          cases op with
                          | nil => simp [trOf, innerF] at hnx; omega
                          | cons => simp
                        obtain ⟨m', hm'⟩ : ∃ m', op.length = m' + 1 := ⟨op.length - 1, by omega⟩
                        have hcap := (own_cap HS.out.opn).1
                        have hu := run_upto (P := Tryz.prog) Tryz.underlying27 hi0 O (m' + 1) oc m' (by omega)
                        have HP := Lib.hid HS.out.pop
                        have Hm := Lib.hid hm'
                        have hdl : Hid (op.dropLast.length = m') := by show op.dropLast.length = m'; rw [List.length_dropLast]; omega
                        rw [hm'] at hopl ⊢
                        clear h9 h10 hnx hpos hcap hm'
                        go_wp2_with fail
                        go_roundg q
                        case rel => exact ⟨k + 1, O, oc, op.dropLast, hj, mk, by omega, by go_num, by rw [hdl.out], rfl, by have := HI2.out; rw [HON.out] at this; exact this, by have := ht2.out; rw [HON.out] at this; exact this, by have := HG2.out; rw [HON.out] at this; exact this, HP⟩
                        case measure => omega
                      · have h10b : (x.op == 10) = false := by simpa using h10
                        have HON : Hid (opNext x k op = op) := by show opNext x k op = _; simp [opNext, h9, h10]
                        clear h9 h10
                        go_wp2_with fail
                        go_roundg q
                        case rel => exact ⟨k + 1, O, oc, op, hj, mk, by omega, by go_num, rfl, rfl, by have := HI2.out; rw [HON.out] at this; exact this, by have := ht2.out; rw [HON.out] at this; exact this, by have := HG2.out; rw [HON.out] at this; exact this, HS⟩
                        case measure => omega
        · obtain rfl : gk = 0 := by omega
          obtain rfl : k = l.length := by omega
          have hil : l.length < hs.length := by rw [HI.out.1]; omega
          have hhl := Lib.hid HI.out.1
          obtain ⟨v1, v2, v3⟩ := HS.out.at_ l.length hil
          have hig := ig_get hil
          have HR : Hid (verifyF l vars = if hs[l.length] ≠ 1 then (0, (l.length : Int), 7) else (m, 0, 0)) := by
            show verifyF l vars = _
            rw [← HG.out]; simp only [verGo]; rw [hig]
          generalize hs[l.length] = y at *
          have HV2 := Lib.hid HS.out.bel
          clear hig
          by_cases h1 : y = 1
          · have h1b : (y != 1) = false := by simpa using h1
            go_wp2_with fail
            go_ret3
            exact ⟨m, 0, by rw [HR.out, if_neg (by simpa using h1)]; rfl, HV2.out⟩
          · have h1b : (y != 1) = true := by simpa using h1
            go_wp2_with fail
            go_ret3
            exact ⟨0, l.length, by rw [HR.out, if_pos h1]; rfl, HV2.out⟩

end Go.Proofs.YtaifafljakojnaaGreat

/- Contracts: Run of the reference's machine. -/
namespace Go.Proofs.YtaifafljakojnaaGreat
open Go.RowKit

def RetRS (k : Rc) (n : Nat) (s : MS) (e : Ending) (w' : World) : Prop := ∃ v, e = .returned v ∧ RM k w' s.place n s.stack s.loops
theorem RetRM.s {k : Rc} {p n : Nat} {st : List Int} {lps : List (Nat × List Int)} {s : MS} {e : Ending} {w' : World} (h : RetRM k p n st lps e w') (hs : s = ⟨p, st, lps⟩) : RetRS k n s e w' := by
  subst hs; exact h
/-- What the reference's machine does at an instruction. -/
theorem rExec_any (k : Rc) (pr : Prg) (g : Graph) (c : Config) (l : List Term) (L A3 A4 A5 : Option Addr) (c0 k3 k4 k5 v : Nat) (hK : RcR k g c l L A3 A4 A5 k3 k4 k5) (hs : SOK pr g c v) (s : MS) (w : World) (n : Nat) (hl : l.length ≤ 1000000) (hp : s.place < l.length) (ok : StepOK (envF g c v) l pr.vars.length s (insAt l s.place)) (hnum : ∀ x ∈ s.stack, Num x)
    (h : RM k w s.place n s.stack s.loops) (hn : s.stack.length ≤ 1000000) (hln : s.loops.length ≤ 1000000) (hnn : n ≤ 1000000) (hE : ∀ f ∈ s.loops, f.1 < l.length) :
    Calls Tryz.prog 32 (execArgs k g c l L A3 A4 A5 c0 k3 k4 k5 v) w (RetRS k (n + 1) (stepM (envF g c v) l s)) := by
  have hd24 := env_deg hs
  obtain ⟨p, st, lps⟩ := s
  dsimp only at *
  obtain ⟨o1, o2⟩ := ok.op
  have hcase : (insAt l p).op = 1 ∨ (insAt l p).op = 2 ∨ (insAt l p).op = 3 ∨ (insAt l p).op = 4 ∨ (insAt l p).op = 5 ∨ (insAt l p).op = 6 ∨ (insAt l p).op = 7 ∨ (insAt l p).op = 8 ∨ (insAt l p).op = 9 ∨ (insAt l p).op = 10 := by omega
  have hport : needsF (insAt l p) = true → ∃ q : Nat, portM ⟨p, st, lps⟩ = (q : Int) ∧ q < (g.ports.getD v []).length := fun hn => by
    obtain ⟨a1, a2⟩ := ok.port hn
    obtain ⟨q, hq⟩ := Int.eq_ofNat_of_zero_le a1
    refine ⟨q, hq, ?_⟩
    have : portM ⟨p, st, lps⟩ < ((g.ports.getD v []).length : Int) := a2
    omega
  have hx := insAt_get hp
  have hpp : p ≤ 1000000 := by omega
  have hxx : ∀ op, (insAt l p).op = op → l[p] = ⟨op, (insAt l p).arg⟩ := fun op e => by rw [← e, hx]
  rcases hcase with e | e | e | e | e | e | e | e | e | e
  · refine (rExec1_any k pr g c l L A3 A4 A5 c0 k3 k4 k5 v hK hs w p n st lps _ hp (hxx 1 e) hn hln hnn hpp h).mono fun e' w' hr => hr.s ?_
    unfold stepM; dsimp only; rw [if_pos e]
  · refine (rExec2_any k pr g c l L A3 A4 A5 c0 k3 k4 k5 v hK hs w p n st lps _ hp (hxx 2 e) hn hln hnn hpp h (ok.var (.inl e))).mono fun e' w' hr => hr.s ?_
    unfold stepM; dsimp only; rw [if_neg (by omega), if_pos e]; rfl
  · obtain ⟨q, q1, q2⟩ := hport (by unfold needsF; simp [e])
    refine (rExec3_any k pr g c l L A3 A4 A5 c0 k3 k4 k5 v hK hs w p n st lps _ hp (hxx 3 e) hn hln hnn hpp h q (ok.var (.inr e)) q1 q2).mono fun e' w' hr => hr.s ?_
    unfold stepM; dsimp only; rw [if_neg (by omega), if_neg (by omega), if_pos e, q1]; rfl
  · refine (rExec4_any k pr g c l L A3 A4 A5 c0 k3 k4 k5 v hK hs w p n st lps _ hp (hxx 4 e) hn hln hnn hpp h _ (ok.fact e) rfl (fun hb => ?_)).mono fun e' w' hr => hr.s ?_
    · obtain ⟨q, q1, q2⟩ := hport (by
        unfold needsF
        unfold nearOp at hb
        simp at hb ⊢
        omega)
      exact ⟨q, q1, q2⟩
    · unfold stepM; dsimp only; rw [if_neg (by omega), if_neg (by omega), if_neg (by omega), if_pos e]; rfl
  · have h1 := ok.one (.inl e)
    cases st with
    | nil => simp at h1
    | cons b st =>
      refine (rExec5_any k pr g c l L A3 A4 A5 c0 k3 k4 k5 v hK hs w p n st lps _ hp (hxx 5 e) (by simp at hn; omega) hln hnn hpp b h (ok.un e) (hnum b (List.mem_cons_self ..))).mono fun e' w' hr => hr.s ?_
      unfold stepM; dsimp only; rw [if_neg (by omega), if_neg (by omega), if_neg (by omega), if_neg (by omega), if_pos e]; rfl
  · have h1 := ok.two e
    match st, h1 with
    | b :: d :: st, _ =>
      refine (rExec6_any k pr g c l L A3 A4 A5 c0 k3 k4 k5 v hK hs w p n st lps _ hp (hxx 6 e) (by simp at hn; omega) hln hnn hpp b d h (ok.bin e) (hnum b (by simp)) (hnum d (by simp)) (by simp at hn; omega)).mono fun e' w' hr => hr.s ?_
      unfold stepM; dsimp only; rw [if_neg (by omega), if_neg (by omega), if_neg (by omega), if_neg (by omega), if_neg (by omega), if_pos e]; rfl
  · have h1 := ok.one (.inr (.inl e))
    have hj := ok.jmp (.inl e)
    cases st with
    | nil => simp at h1
    | cons b st =>
      by_cases hb : b = 0
      · refine (rExec7Y_any k pr g c l L A3 A4 A5 c0 k3 k4 k5 v hK hs w p n st lps _ hp (hxx 7 e) (by simp at hn; omega) hln hnn hpp b _ h hj.symm hb).mono fun e' w' hr => hr.s ?_
        unfold stepM; dsimp only; rw [if_neg (by omega), if_neg (by omega), if_neg (by omega), if_neg (by omega), if_neg (by omega), if_neg (by omega), if_pos e, if_pos (show top1 ⟨p, b :: st, lps⟩ = 0 from hb)]; rfl
      · refine (rExec7N_any k pr g c l L A3 A4 A5 c0 k3 k4 k5 v hK hs w p n st lps _ hp (hxx 7 e) (by simp at hn; omega) hln hnn hpp b _ h hj.symm hb).mono fun e' w' hr => hr.s ?_
        unfold stepM; dsimp only; rw [if_neg (by omega), if_neg (by omega), if_neg (by omega), if_neg (by omega), if_neg (by omega), if_neg (by omega), if_pos e, if_neg (show ¬ top1 ⟨p, b :: st, lps⟩ = 0 from hb)]; rfl
  · have hj := ok.jmp (.inr e)
    refine (rExec8_any k pr g c l L A3 A4 A5 c0 k3 k4 k5 v hK hs w p n st lps _ hp (hxx 8 e) hn hln hnn hpp _ h hj.symm).mono fun e' w' hr => hr.s ?_
    unfold stepM; dsimp only; rw [if_neg (by omega), if_neg (by omega), if_neg (by omega), if_neg (by omega), if_neg (by omega), if_neg (by omega), if_neg (by omega), if_pos e]
  · obtain ⟨a, a1, a2, a3, a4⟩ := ok.each e
    by_cases h0 : (g.ports.getD v []).length = 0
    · rw [insAt_get a2] at a3 a4
      refine (rExec9N_any k pr g c l L A3 A4 A5 c0 k3 k4 k5 v hK hs w p n st lps _ hp (hxx 9 e) hn hln hnn hpp a h h0 a1 a2 hl a3 a4).mono fun e' w' hr => hr.s ?_
      unfold stepM; dsimp only; rw [if_neg (by omega), if_neg (by omega), if_neg (by omega), if_neg (by omega), if_neg (by omega), if_neg (by omega), if_neg (by omega), if_neg (by omega), if_pos e, if_pos (show (envF g c v).deg = 0 from h0), a1, Int.toNat_natCast, insAt_get a2]
    · refine (rExec9Y_any k pr g c l L A3 A4 A5 c0 k3 k4 k5 v hK hs w p n st lps _ hp (hxx 9 e) hn hln hnn hpp h (by omega)).mono fun e' w' hr => hr.s ?_
      unfold stepM; dsimp only; rw [if_neg (by omega), if_neg (by omega), if_neg (by omega), if_neg (by omega), if_neg (by omega), if_neg (by omega), if_neg (by omega), if_neg (by omega), if_pos e, if_neg (show ¬ (envF g c v).deg = 0 from h0)]
  · have h1 := ok.one (.inr (.inr e))
    obtain ⟨n1, n2, f, r, rfl, n3, n4⟩ := ok.next e
    obtain ⟨e0, vals⟩ := f
    dsimp only at n3 n4
    cases st with
    | nil => simp at h1
    | cons b st =>
      have hnv : ∀ y ∈ vals ++ [b], Num y := fun y hy => by
        rcases List.mem_append.1 hy with hy | hy
        · exact n4 y hy
        · simp at hy; rw [hy]; exact hnum b (List.mem_cons_self ..)
      have he0 := hE (e0, vals) (List.mem_cons_self ..)
      refine (rExec10_any k pr g c l L A3 A4 A5 c0 k3 k4 k5 v hK hs w p n st _ _ hp (hxx 10 e) (by simp at hn; omega) hln hnn hpp b e0 vals r h (by simp at hln; omega) n3 hnv ⟨n1, n2⟩ (by dsimp only at he0; omega) hd24).mono fun e' w' hr => ?_
      unfold RetRN at hr
      split at hr
      · rename_i hlt
        refine hr.s ?_
        unfold stepM; dsimp only; rw [if_neg (by omega), if_neg (by omega), if_neg (by omega), if_neg (by omega), if_neg (by omega), if_neg (by omega), if_neg (by omega), if_neg (by omega), if_neg (by omega)]
        unfold nextM; dsimp only; rw [if_pos (show vals.length + 1 < (envF g c v).deg from hlt)]; rfl
      · rename_i hlt
        refine hr.s ?_
        unfold stepM; dsimp only; rw [if_neg (by omega), if_neg (by omega), if_neg (by omega), if_neg (by omega), if_neg (by omega), if_neg (by omega), if_neg (by omega), if_neg (by omega), if_neg (by omega)]
        unfold nextM; dsimp only; rw [if_neg (show ¬ vals.length + 1 < (envF g c v).deg from hlt)]; rfl

set_option maxRecDepth 100000 in
set_option maxHeartbeats 4000000 in
theorem refRun_any (L : Option Addr) (n c0 : Nat) (l : List Term) (v1 : Value) (p : Prg) (v2 : Value) (g : Graph) (v3 : Value) (c : Config) (v : Int) (w : World) (hT : TermsR w L n l) (hn : n ≤ 100000) (h : PrgV w v1 p) (h2 : GraphV w v2 g) (h3 : ConfV w v3 c) (hL : lightP p = true) (hG : lightG g = true) (hC : lightC c = true) :
    Calls Tryz.prog 11 #[.slice L n c0, v1, v2, v3, .int .i64 v] w (RetRun (runF p g c v l) w) := by
  obtain rfl := hT.1
  have HPV := Lib.hid (fun w' (k : Bel w w') => h.keep k)
  have HGV := Lib.hid (fun w' (k : Bel w w') => h2.keep k)
  have HCV := Lib.hid (fun w' (k : Bel w w') => h3.keep k)
  obtain ⟨A1, k1, A2, k2, rfl, _, _, _, _, _, _⟩ := h
  obtain ⟨A3, k3, A4, k4, rfl, _, _, _, _, _, _⟩ := h2
  obtain ⟨A5, k5, rfl, _, _, _⟩ := h3
  have HW := Bel.refl ((w.alloc (.cells #[.string p.name, .slice A1 p.vars.length k1, .slice A2 p.rules.length k2] 26)).alloc (.cells #[.slice A3 g.ids.length k3, .slice A4 g.ports.length k4] 30))
  have HL := Lib.hid hL
  have HGL := Lib.hid hG
  have HCL := Lib.hid hC
  clear hL hG hC
  have HTV := Lib.hid (fun w' (k : Bel w w') => hT.keep k)
  clear hT
  have HF : Hid (runF p g c v l = if memF p g c ≠ 0 then (0, 0, memF p g c) else if ¬ (0 ≤ v ∧ v ≤ (c.length : Int) - 1) then (0, 0, 2) else if (verifyF l p.vars.length).2.2 ≠ 0 then (0, 0, 7)
  else ((execF g c v.toNat l).1.stack.headD 0, ((execF g c v.toNat l).2 : Int), 0)) := rfl
  by_cases hm : memF p g c = 0
  · rw [if_neg (by simpa using hm)] at HF
    have HK0 := Lib.hid hm
    have hvl := (lightP_parts HL.out).2.1
    have hcl := (lightC_parts HCL.out).1
    have hw1 : IntKind.i64.wrap ((c.length : Int) - 1) = (c.length : Int) - 1 := IntWalk.i64_in _ (by omega)
    by_cases hv : 0 ≤ v ∧ v ≤ (c.length : Int) - 1
    · rw [if_neg (by simpa using hv)] at HF
      have hd1 : inB v 0 ((c.length : Int) - 1) = true := inB_true hv.1 hv.2
      obtain ⟨q, rfl⟩ := Int.eq_ofNat_of_zero_le hv.1
      rw [Int.toNat_natCast] at HF
      have hq : q < c.length := by omega
      have HSK := Lib.hid (mem_sok (p := p) (g := g) (c := c) HK0.out hq)
      have HD1 := Lib.hid hd1
      clear hv hd1
      by_cases hvf : (verifyF l p.vars.length).2.2 = 0
      · rw [if_neg (by simpa using hvf)] at HF
        have HVF := Lib.hid hvf
        obtain ⟨h0, hl1024, H, T, hver, _⟩ := verify_ver hvf
        have HVR := Lib.hid (ver_max hver)
        have hvf1 : ((verifyF l p.vars.length).2.2 != 0) = false := by simpa using hvf
        have HFU := Lib.hid (fuel_le HSK.out hl1024)
        obtain ⟨A', k', eC, hC, _, _⟩ := HCV.out w (Bel.refl w)
        obtain ⟨rfl, rfl⟩ : A5 = A' ∧ k5 = k' := by simpa using eC
        have HC4 := Lib.hid (fun w' (k : Bel w w') => RowsR.keep hC k)
        clear hver hvf hm eC hC
        go_enter Tryz.func11, Tryz.ntmps11
        go_wp2_with (first
          | (go_at_call 30; refine (refMemCheck_any _ p _ g _ c _ (HPV.out _ (box2_bel HW)) (HGV.out _ (box2_bel HW)) (HCV.out _ (box2_bel HW)) HL.out HGL.out HCL.out).mono ?_; rintro e w' ⟨rfl, hb⟩; rw [HK0.out]; replace HW := HW.trans hb; clear hb; (try clear p0 p1 p2 g0 g1 gsz); obtain ⟨p0, p1, p2, g0, g1, gsz⟩ := pgbox HW)
          | (go_at_call 31; refine (in01_any _ _ _ _).mono ?_; rintro e w' ⟨rfl, rfl⟩; rw [HD1.out])
          | (go_at_call 13; refine (refVerify_any L l.length c0 l _ _ (HTV.out _ (box2_bel HW)) hn (by omega)).mono ?_; rintro e w1 ⟨a9, b9, rfl, hb⟩; rw [HVF.out]; replace HW := HW.trans hb; clear hb; (try clear p0 p1 p2 g0 g1 gsz); obtain ⟨p0, p1, p2, g0, g1, gsz⟩ := pgbox HW))
        obtain ⟨k, hkB, hPM, hMc, hbx⟩ : ∃ k : Rc, k.B = w1.heap.size ∧ RM k (w1.alloc (.cells #[.int .i64 0, .int .i64 0, .slice none 0 0, .slice none 0 0] 78)) 0 0 [] [] ∧ RcR k g c l L A3 A4 A5 k3 k4 k5 ∧ Bel ((w.alloc (.cells #[.string p.name, .slice A1 p.vars.length k1, .slice A2 p.rules.length k2] 26)).alloc (.cells #[.slice A3 g.ids.length k3, .slice A4 g.ports.length k4] 30)) k.w0 := by
          refine ⟨⟨w1, w1.alloc (.cells #[.int .i64 0, .int .i64 0, .slice none 0 0, .slice none 0 0] 78), w1.heap.size⟩, rfl, ?_, ?_, HW⟩
          · exact ⟨none, 0, none, 0, [], ⟨Blk.new w1 _ _, Rw.nil _ _, Nat.le_refl _, by show w1.heap.size < (w1.alloc _).heap.size; simp, (Bel.refl w1).alloc _, World.grownBy.refl _ _⟩, fun f hf => (by cases hf), rfl⟩
          · exact ⟨HTV.out _ (box2_bel HW), HGV.out _ (box2_bel HW), HC4.out _ (box2_bel HW)⟩
        have HKP := Lib.hid hPM
        have HKM := Lib.hid hMc
        have HKX := Lib.hid hbx
        clear hPM hMc hbx HW p0 p1 p2 g0 g1 gsz
        simp only [← hkB]
        clear hkB
        go_loopg [] (potM (envF g c q) l T startM) (fun m wr => ∃ (s : MS) (i : Nat), m = potM (envF g c q) l T s ∧ Hid (RunI p g c q l H T s i) ∧ Hid (RM k wr s.place i s.stack s.loops))
        case atStart => exact ⟨startM, 0, rfl, RunI.start HVR.out, HKP⟩
        case round =>
          clear HKP
          obtain ⟨s, i, rfl, HR, HP⟩ := hrel
          obtain ⟨y0, y1, _, _, yl, yb⟩ := HP.out.cells
          have hbx := HKX.out.trans yb
          obtain ⟨g0, g1, gsz⟩ := (show wr.cell? ⟨w.heap.size + 1, 0, none⟩ = some (.slice A3 g.ids.length k3) ∧ wr.cell? ⟨w.heap.size + 1, 1, none⟩ = some (.slice A4 g.ports.length k4) ∧ w.heap.size + 1 < wr.heap.size from ⟨(pgbox hbx).2.2.2.1, (pgbox hbx).2.2.2.2.1, (pgbox hbx).2.2.2.2.2⟩)
          by_cases hlt : s.place < l.length
          · have hdl : decide (s.place < l.length) = true := by simpa using hlt
            obtain ⟨hN, hpt, hOK⟩ := HR.out.next HSK.out HVR.out hlt
            have hpo := HR.out.pot
            have hsl := HR.out.slen
            have hll := HR.out.llen
            have hfu := HFU.out
            have HEX := Lib.hid (rExec_any k p g c l L A3 A4 A5 c0 k3 k4 k5 q HKM.out HSK.out s wr i (by omega) hlt hOK HR.out.inv.nums HP.out (by omega) (by omega) (by omega) HR.out.places)
            have HNX := Lib.hid hN
            clear hN hOK hlt hpo hsl hll hfu
            go_wp2_with fail
            refine HEX.out.mono ?_
            rintro e w' ⟨u, rfl, hm⟩
            have HPN := Lib.hid hm
            clear hm
            go_wp2_with fail
            go_roundg (potM (envF g c q) l T (stepM (envF g c q) l s))
            case rel => exact ⟨stepM (envF g c q) l s, i + 1, rfl, HNX, HPN⟩
            case measure => omega
          · have hdl : decide (s.place < l.length) = false := by simpa using hlt
            obtain ⟨x, hx, hx2⟩ := HR.out.done HVR.out hlt
            have HXF := Lib.hid hx2
            have hP2 : RM k wr l.length i [x] [] := by
              have := HP.out
              rw [hx] at this
              exact this
            obtain ⟨A, c1, Lr, lc, fr, hX, _, _⟩ := hP2
            obtain ⟨gs, rfl, _, hgl, zc, _⟩ := own_at (j := 0) (u := .int .i64 x) (own_lenI hX.rows.stack) rfl
            have z2 := hX.blk.cell 2 (v := .slice (some ⟨gs, 0, none⟩) 1 c1) rfl
            clear hx hx2 hlt hX
            go_wp2_with fail
            go_quiet (fail)
            go_wp2_with fail
            go_ret3
            refine ⟨?_, (box2_bel hbx).drewN _⟩
            rw [HF.out, HXF.out]
            rfl
      · rw [if_pos (by simpa using hvf)] at HF
        have hvf1 : ((verifyF l p.vars.length).2.2 != 0) = true := by simpa using hvf
        clear hvf hm
        go_enter Tryz.func11, Tryz.ntmps11
        go_wp2_with (first
          | (go_at_call 30; refine (refMemCheck_any _ p _ g _ c _ (HPV.out _ (box2_bel HW)) (HGV.out _ (box2_bel HW)) (HCV.out _ (box2_bel HW)) HL.out HGL.out HCL.out).mono ?_; rintro e w' ⟨rfl, hb⟩; rw [HK0.out]; replace HW := HW.trans hb; clear hb; (try clear p0 p1 p2 g0 g1 gsz); obtain ⟨p0, p1, p2, g0, g1, gsz⟩ := pgbox HW)
          | (go_at_call 31; refine (in01_any _ _ _ _).mono ?_; rintro e w' ⟨rfl, rfl⟩; rw [HD1.out])
          | (go_at_call 13; refine (refVerify_any L l.length c0 l _ _ (HTV.out _ (box2_bel HW)) hn (by omega)).mono ?_; rintro e w1 ⟨a9, b9, rfl, hb⟩; replace HW := HW.trans hb; clear hb; (try clear p0 p1 p2 g0 g1 gsz); obtain ⟨p0, p1, p2, g0, g1, gsz⟩ := pgbox HW))
        go_ret3
        exact ⟨by rw [HF.out]; rfl, box2_bel HW⟩
    · rw [if_pos (by simpa using hv)] at HF
      have HD1 := Lib.hid (show inB v 0 ((c.length : Int) - 1) = false from inB_false (by omega))
      clear hv hm
      go_enter Tryz.func11, Tryz.ntmps11
      go_wp2_with (first
        | (go_at_call 30; refine (refMemCheck_any _ p _ g _ c _ (HPV.out _ (box2_bel HW)) (HGV.out _ (box2_bel HW)) (HCV.out _ (box2_bel HW)) HL.out HGL.out HCL.out).mono ?_; rintro e w' ⟨rfl, hb⟩; rw [HK0.out]; replace HW := HW.trans hb; clear hb; (try clear p0 p1 p2 g0 g1 gsz); obtain ⟨p0, p1, p2, g0, g1, gsz⟩ := pgbox HW)
        | (go_at_call 31; refine (in01_any _ _ _ _).mono ?_; rintro e w' ⟨rfl, rfl⟩; rw [HD1.out]))
      go_ret3
      exact ⟨by rw [HF.out]; rfl, box2_bel HW⟩
  · rw [if_pos hm] at HF
    have hm1 : (memF p g c != 0) = true := by simpa using hm
    clear hm
    go_enter Tryz.func11, Tryz.ntmps11
    go_wp2_with (go_at_call 30; refine (refMemCheck_any _ p _ g _ c _ (HPV.out _ (box2_bel HW)) (HGV.out _ (box2_bel HW)) (HCV.out _ (box2_bel HW)) HL.out HGL.out HCL.out).mono ?_; rintro e w' ⟨rfl, hb⟩; replace HW := HW.trans hb; clear hb; (try clear p0 p1 p2 g0 g1 gsz); obtain ⟨p0, p1, p2, g0, g1, gsz⟩ := pgbox HW)
    go_ret3
    exact ⟨by rw [HF.out]; rfl, box2_bel HW⟩

end Go.Proofs.YtaifafljakojnaaGreat

/- Contracts: quick and awake of the laws of layer 13. -/
namespace Go.Proofs.YtaifafljakojnaaGreat
open Go.RowKit

def quick13F (l : List Term) (p : Prg) (g : Graph) (c : Config) : Bool := quickF p g && lightC c && decide (l.length ≤ 400) && decide (l.length * degreesF g * degreesF g ≤ 20000)
theorem quick_parts13 {p : Prg} {g : Graph} (h : quickF p g = true) : lightP p = true ∧ lightG g = true := by
  unfold quickF at h; simp at h; exact h.1
theorem quick13_parts {l : List Term} {p : Prg} {g : Graph} {c : Config} (h : quick13F l p g c = true) : lightP p = true ∧ lightG g = true ∧ lightC c = true ∧ l.length ≤ 400 := by
  unfold quick13F at h
  simp at h
  exact ⟨(quick_parts13 h.1.1.1).1, (quick_parts13 h.1.1.1).2, h.1.1.2, h.1.2⟩
set_option maxRecDepth 100000 in
set_option maxHeartbeats 2000000 in
theorem quick13_any (L : Option Addr) (n c0 : Nat) (l : List Term) (v1 : Value) (p : Prg) (v2 : Value) (g : Graph) (v3 : Value) (c : Config) (w : World) (hl : l.length = n) (hn : n ≤ maxLen) (h : PrgV w v1 p) (h2 : GraphV w v2 g) (h3 : ConfV w v3 c) : Calls Tryz.prog 8 #[.slice L n c0, v1, v2, v3] w fun e w' => e = .returned (.bool (quick13F l p g c)) ∧ Bel w w' := by
  subst hl
  unfold maxLen at hn
  have HPV := Lib.hid (fun w' (k : Bel w w') => h.keep k)
  have HGV := Lib.hid (fun w' (k : Bel w w') => h2.keep k)
  have HCV := Lib.hid (fun w' (k : Bel w w') => h3.keep k)
  obtain ⟨A1, k1, A2, k2, rfl, _, _, _, _, _, _⟩ := h
  obtain ⟨A3, k3, A4, k4, rfl, _, _, _, _, _, _⟩ := h2
  obtain ⟨A5, k5, rfl, _, _, _⟩ := h3
  have HW := Bel.refl ((w.alloc (.cells #[.string p.name, .slice A1 p.vars.length k1, .slice A2 p.rules.length k2] 26)).alloc (.cells #[.slice A3 g.ids.length k3, .slice A4 g.ports.length k4] 30))
  have HF : Hid (quick13F l p g c = (quickF p g && lightC c && decide (l.length ≤ 400) && decide (l.length * degreesF g * degreesF g ≤ 20000))) := rfl
  cases hq : quickF p g with
  | false =>
    rw [hq] at HF
    go_enter Tryz.func8, Tryz.ntmps8
    go_wp2_with (first
      | (go_at_call 19; refine (degrees_any _ g _ (HGV.out _ (box2_bel HW))).mono ?_; rintro e w' ⟨rfl, hb⟩; replace HW := HW.trans hb; clear hb; (try clear p0 p1 p2 g0 g1 gsz); obtain ⟨p0, p1, p2, g0, g1, gsz⟩ := pgbox HW)
      | (go_at_call 24; refine (quick_any _ p _ g _ (HPV.out _ (box2_bel HW)) (HGV.out _ (box2_bel HW))).mono ?_; rintro e w' ⟨rfl, hb⟩; rw [hq]; replace HW := HW.trans hb; clear hb; (try clear p0 p1 p2 g0 g1 gsz); obtain ⟨p0, p1, p2, g0, g1, gsz⟩ := pgbox HW))
    go_ret
    exact ⟨ret_bool (by rw [HF.out]; rfl), box2_bel HW⟩
  | true =>
    rw [hq] at HF
    cases hc : lightC c with
    | false =>
      rw [hc] at HF
      go_enter Tryz.func8, Tryz.ntmps8
      go_wp2_with (first
        | (go_at_call 19; refine (degrees_any _ g _ (HGV.out _ (box2_bel HW))).mono ?_; rintro e w' ⟨rfl, hb⟩; replace HW := HW.trans hb; clear hb; (try clear p0 p1 p2 g0 g1 gsz); obtain ⟨p0, p1, p2, g0, g1, gsz⟩ := pgbox HW)
        | (go_at_call 24; refine (quick_any _ p _ g _ (HPV.out _ (box2_bel HW)) (HGV.out _ (box2_bel HW))).mono ?_; rintro e w' ⟨rfl, hb⟩; rw [hq]; replace HW := HW.trans hb; clear hb; (try clear p0 p1 p2 g0 g1 gsz); obtain ⟨p0, p1, p2, g0, g1, gsz⟩ := pgbox HW)
        | (go_at_call 25; refine (lightConfig_any _ c _ (HCV.out _ (box2_bel HW))).mono ?_; rintro e w' ⟨rfl, rfl⟩; rw [hc]))
      go_ret
      exact ⟨ret_bool (by rw [HF.out]; rfl), box2_bel HW⟩
    | true =>
      rw [hc] at HF
      by_cases h4 : l.length ≤ 400
      · have hd4 : decide (l.length ≤ 400) = true := by simpa using h4
        have hd4i : decide ((l.length : Int) ≤ 400) = true := by simp; omega
        rw [hd4] at HF
        have hD := (degreesF_le (quick_parts13 hq).2).2
        have w1 := wrap_mul h4 hD (by decide)
        have w2 := wrap_mul (Nat.mul_le_mul h4 hD) hD (by decide)
        have W2 := Lib.hid w2
        rw [← Int.natCast_mul] at W2
        have HB3 : Hid (-9223372036854775808 ≤ ((l.length * degreesF g * degreesF g : Nat) : Int) ∧ ((l.length * degreesF g * degreesF g : Nat) : Int) ≤ 9223372036854775807) := by
          have h6 : l.length * degreesF g * degreesF g ≤ 400 * 30 * 30 := Nat.mul_le_mul (Nat.mul_le_mul h4 hD) hD
          exact ⟨by omega, by omega⟩
        clear hD w2 h4 hd4
        go_enter Tryz.func8, Tryz.ntmps8
        go_wp2_with (first
          | (go_at_call 19; refine (degrees_any _ g _ (HGV.out _ (box2_bel HW))).mono ?_; rintro e w' ⟨rfl, hb⟩; replace HW := HW.trans hb; clear hb; (try clear p0 p1 p2 g0 g1 gsz); obtain ⟨p0, p1, p2, g0, g1, gsz⟩ := pgbox HW)
          | (go_at_call 24; refine (quick_any _ p _ g _ (HPV.out _ (box2_bel HW)) (HGV.out _ (box2_bel HW))).mono ?_; rintro e w' ⟨rfl, hb⟩; rw [hq]; replace HW := HW.trans hb; clear hb; (try clear p0 p1 p2 g0 g1 gsz); obtain ⟨p0, p1, p2, g0, g1, gsz⟩ := pgbox HW)
          | (go_at_call 25; refine (lightConfig_any _ c _ (HCV.out _ (box2_bel HW))).mono ?_; rintro e w' ⟨rfl, rfl⟩; rw [hc]))
        all_goals
          go_ret
          refine ⟨ret_bool ?_, box2_bel HW⟩
          rw [HF.out, Bool.eq_iff_iff]
          simp only [decide_eq_true_eq, ← Int.natCast_mul, Bool.true_and, Bool.and_true]
          have h5 : wrap64 ((l.length * degreesF g * degreesF g : Nat) : Int) = ((l.length * degreesF g * degreesF g : Nat) : Int) := by
            exact IntWalk.wrap64_in _ HB3.out
          rw [h5]
          omega
      · have hd4 : decide (l.length ≤ 400) = false := by simpa using h4
        have hd4i : decide ((l.length : Int) ≤ 400) = false := by simp; omega
        rw [hd4] at HF
        clear h4
        go_enter Tryz.func8, Tryz.ntmps8
        go_wp2_with (first
          | (go_at_call 19; refine (degrees_any _ g _ (HGV.out _ (box2_bel HW))).mono ?_; rintro e w' ⟨rfl, hb⟩; replace HW := HW.trans hb; clear hb; (try clear p0 p1 p2 g0 g1 gsz); obtain ⟨p0, p1, p2, g0, g1, gsz⟩ := pgbox HW)
          | (go_at_call 24; refine (quick_any _ p _ g _ (HPV.out _ (box2_bel HW)) (HGV.out _ (box2_bel HW))).mono ?_; rintro e w' ⟨rfl, hb⟩; rw [hq]; replace HW := HW.trans hb; clear hb; (try clear p0 p1 p2 g0 g1 gsz); obtain ⟨p0, p1, p2, g0, g1, gsz⟩ := pgbox HW)
          | (go_at_call 25; refine (lightConfig_any _ c _ (HCV.out _ (box2_bel HW))).mono ?_; rintro e w' ⟨rfl, rfl⟩; rw [hc]))
        go_ret
        exact ⟨ret_bool (by rw [HF.out]; rfl), box2_bel HW⟩

def exP13 : Prg := ⟨⟨#[97]⟩, [⟨⟨#[98]⟩, 2, 0, 0, 0, 0⟩], []⟩
def exG13 : Graph := ⟨[0, 1], [[⟨1, 1⟩], [⟨0, 1⟩]]⟩
def exC13 : Config := [[0], [1]]
def exL13 : List Term := [⟨9, 2⟩, ⟨1, 7⟩, ⟨10, 26⟩]
theorem ex13_run : runF exP13 exG13 exC13 0 exL13 = (7, 3, 0) := by decide +kernel
theorem ex13_light : lightP exP13 = true ∧ lightG exG13 = true ∧ lightC exC13 = true := by decide +kernel
theorem slice1 {α : Type} {size : Nat} {E : World → Nat → Nat → α → Prop} {w : World} {b : Nat} {x : α} (hb : b < w.heap.size) (h : E w b 0 x) : SliceR size E w (some ⟨b, 0, none⟩) 1 [x] :=
  ⟨rfl, fun i y hy => by
    match i, hy with
    | 0, hy =>
      obtain rfl : x = y := by simpa using hy
      exact ⟨b, 0, rfl, hb, by rw [Nat.zero_mul]; exact h⟩
    | i + 1, hy => simp at hy⟩
theorem slice2 {α : Type} {size : Nat} {E : World → Nat → Nat → α → Prop} {w : World} {b : Nat} {x y : α} (hb : b < w.heap.size) (h : E w b 0 x) (h2 : E w b size y) : SliceR size E w (some ⟨b, 0, none⟩) 2 [x, y] :=
  ⟨rfl, fun i z hz => by
    match i, hz with
    | 0, hz =>
      obtain rfl : x = z := by simpa using hz
      exact ⟨b, 0, rfl, hb, by rw [Nat.zero_mul]; exact h⟩
    | 1, hz =>
      obtain rfl : y = z := by simpa using hz
      exact ⟨b, 0, rfl, hb, by rw [Nat.one_mul, Nat.zero_add]; exact h2⟩
    | i + 2, hz => simp at hz⟩
theorem slice3 {α : Type} {size : Nat} {E : World → Nat → Nat → α → Prop} {w : World} {b : Nat} {x y z : α} (hb : b < w.heap.size) (h : E w b 0 x) (h2 : E w b size y) (h3 : E w b (2 * size) z) : SliceR size E w (some ⟨b, 0, none⟩) 3 [x, y, z] :=
  ⟨rfl, fun i u hu => by
    match i, hu with
    | 0, hu =>
      obtain rfl : x = u := by simpa using hu
      exact ⟨b, 0, rfl, hb, by rw [Nat.zero_mul]; exact h⟩
    | 1, hu =>
      obtain rfl : y = u := by simpa using hu
      exact ⟨b, 0, rfl, hb, by rw [Nat.one_mul, Nat.zero_add]; exact h2⟩
    | 2, hu =>
      obtain rfl : z = u := by simpa using hu
      exact ⟨b, 0, rfl, hb, by rw [Nat.zero_add]; exact h3⟩
    | i + 3, hu => simp at hu⟩
set_option maxRecDepth 100000 in
set_option maxHeartbeats 4000000 in
theorem awake13_any (w : World) : Calls Tryz.prog 9 #[] w fun e w' => e = .returned (.bool true) ∧ Bel w w' := by
  go_enter Tryz.func9, Tryz.ntmps9
  go_wp2_with fail
  refine (machRun_any _ 3 3 exL13 _ exP13 _ exG13 _ exC13 0 _ ?_ (by decide) (by decide) ?_ ?_ ?_ ex13_light.1 ex13_light.2.1 ex13_light.2.2).mono ?_
  · refine slice3 (by simp) ⟨?_, ?_⟩ ⟨?_, ?_⟩ ⟨?_, ?_⟩
    all_goals go_simp
  · refine ⟨_, 1, none, 0, rfl, slice1 (by simp <;> omega) ⟨?_, ?_, ?_, ?_, ?_, ?_⟩, by decide, by decide, SliceR.nil, by decide, by decide⟩
    all_goals go_simp
  · refine ⟨_, 2, _, 2, rfl, slice2 (by simp) ?_ ?_, by decide, by decide, slice2 (by simp) ⟨_, 1, ?_, slice1 (b := w.heap.size + 1 + 1 + 1) (by simp) ⟨?_, ?_⟩, by decide, by decide⟩ ⟨_, 1, ?_, slice1 (b := w.heap.size + 1 + 1 + 1 + 1) (by simp) ⟨?_, ?_⟩, by decide, by decide⟩, by decide, by decide⟩
    all_goals ((try unfold IntAt); go_simp)
  · refine ⟨_, 2, rfl, slice2 (by simp) ⟨_, 1, ?_, slice1 (b := w.heap.size + 1 + 1 + 1 + 1 + 1 + 1 + 1 + 1) (by simp) ?_, by decide, by decide⟩ ⟨_, 1, ?_, slice1 (b := w.heap.size + 1 + 1 + 1 + 1 + 1 + 1 + 1 + 1 + 1) (by simp) ?_, by decide, by decide⟩, by decide, by decide⟩
    all_goals ((try unfold IntAt); go_simp)
  rintro e w' ⟨rfl, hb⟩
  rw [ex13_run]
  go_wp2
  go_ret
  exact ⟨by simp, Bel.trans (by repeat' (first | exact Bel.refl w | refine Bel.alloc ?_ _)) hb⟩

end Go.Proofs.YtaifafljakojnaaGreat

