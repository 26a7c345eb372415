/- Contracts of gifts and fault of the reference. -/
import Derived.Test.YtnhhedecaejgcaaW12m
namespace Go.Proofs.Ytnhhedecaejgcaa
open Go.RowKit

/-- The heights that an instruction gives, in a block of their own. -/
def RetGs (gs : List Term) (w : World) (e : Ending) (w' : World) : Prop :=
  ∃ g, e = .returned (.slice (some ⟨g, 0, none⟩) gs.length gs.length) ∧ w.heap.size ≤ g ∧ Blk w' g (gs.flatMap termCells).toArray 63 ∧ Bel w w'

theorem blk_at' {w : World} {b b' : Nat} {cs : Array Value} {t : TypeId} (e : b = b') (h : Blk w b cs t) : Blk w b' cs t := e ▸ h
set_option maxRecDepth 100000 in
set_option maxHeartbeats 2000000 in
theorem gifts_any (L : Option Addr) (n c : Nat) (l : List Term) (i : Nat) (y : Int) (w : World) (h : TermsR w L n l) (hn : n ≤ 1000000) (hi : i < n) (hy0 : -10 ≤ y) (hy1 : y ≤ 1000000) (ha : (insAt l i).op = 9 → (insAt l i).arg ≤ 1000000 ∧ 0 ≤ (insAt l i).arg) :
    Calls Try.prog 32 #[.slice L n c, .int .i64 i, .int .i64 y] w (RetGs (giftsF (insAt l i) i y) w) := by
  obtain rfl := h.1
  obtain ⟨b, o, rfl, hb, k1, k2⟩ := h.at_ i hi
  rw [insAt_get hi] at ha ⊢
  generalize l[i] = x at *
  obtain ⟨op, arg⟩ := x
  simp only at *
  have hfin : ∀ (gs : List Term), giftsF ⟨op, arg⟩ i y = gs → ∀ (cells : Array Value), (gs.flatMap termCells).toArray = cells → RetGs (giftsF ⟨op, arg⟩ i y) w (.returned (.slice (some ⟨w.heap.size + 1, 0, none⟩) gs.length gs.length)) ((w.alloc (.cells #[.int .i64 op, .int .i64 arg] 40)).alloc (.cells cells 63)) := by
    rintro gs rfl cells rfl
    exact ⟨w.heap.size + 1, rfl, by omega, blk_at' (by simp) (Blk.new _ _ _), ((Bel.refl w).alloc _).alloc _⟩
  have HF := Lib.hid hfin; clear hfin
  have HA := Lib.hid ha; clear ha h
  by_cases h9 : op = 9
  · obtain ⟨ha1, ha0⟩ := HA.out h9
    subst h9
    go_enter Try.func32, Try.ntmps32
    go_wp2
    go_ret
    exact HF.out [⟨(i : Int) + 1, y⟩, ⟨arg + 1, y + 1⟩] (by simp [giftsF]) _ rfl
  · have h9b : (op == 9) = false := by simpa using h9
    go_enter Try.func32, Try.ntmps32
    go_wp2
    all_goals
      go_ret
      (try simp only [beq_iff_eq, beq_eq_false_iff_ne, ne_eq] at *)
      first
        | exact HF.out [⟨(i : Int) + 1, y + 1⟩] (by simp [giftsF, *]) _ rfl
        | exact HF.out [⟨(i : Int) + 1, y - 1⟩] (by simp [giftsF, *]) _ rfl
        | exact HF.out [⟨(i : Int) + 1, y - 1⟩, ⟨arg, y - 1⟩] (by simp [giftsF, *]) _ rfl
        | exact HF.out [⟨arg, y⟩] (by simp [giftsF, *]) _ rfl
        | exact HF.out [⟨(i : Int) + 1, y⟩] (by simp [giftsF, *]) _ rfl

def RetFault (ok : Bool) (w : World) (e : Ending) (w' : World) : Prop := ∃ z : Int, e = .returned (.int .i64 z) ∧ decide (0 < z) = !ok ∧ Bel w w'

theorem fault_bad {w w' : World} {ok : Bool} {z : Int} (hz : 0 < z) (hok : ok = false) (hb : Bel w w') : RetFault ok w (.returned (.int .i64 z)) w' := ⟨z, rfl, by rw [hok]; simpa using hz, hb⟩

set_option maxRecDepth 100000 in
set_option maxHeartbeats 8000000 in
theorem fault_any (L : Option Addr) (n c : Nat) (l : List Term) (i : Nat) (vars : Int) (H : Option Addr) (hn' hc : Nat) (hs : List Int) (O : Option Addr) (m oc : Nat) (op : List Int) (w : World) (h : TermsR w L n l) (hH : IntsR w H hn' hs) (hO : IntsR w O m op) (hn : n ≤ 100000) (hi : i < n) (hlen : hs.length = n + 1) (hoi : OInv l hs op)
    (hh : ∀ x ∈ hs, -1 ≤ x ∧ x ≤ 64) :
    Calls Try.prog 31 #[.slice L n c, .int .i64 i, .int .i64 vars, .slice H hn' hc, .slice O m oc] w (RetFault (checksR l vars hs op i (insAt l i) (ig hs i)) w) := by
  obtain rfl := h.1
  obtain rfl := hH.1
  obtain rfl := hO.1
  have hil : i < hs.length := by omega
  obtain ⟨b, o, rfl, hb, k1, k2⟩ := h.at_ i hi
  obtain ⟨hb2, ho2, rfl, hbh, k3⟩ := IntsR.at_ hH i hil
  have hxi := insAt_get hi
  have hyi := ig_get hil
  have H1 := Lib.hid (fun w' (k : Bel w w') => h.keep k)
  have H2 := Lib.hid (fun w' (k : Bel w w') => hH.keep k)
  have H3 := Lib.hid (fun w' (k : Bel w w') => hO.keep k)
  have HOI := Lib.hid hoi
  have HH := Lib.hid hh
  have ho : ∀ e ∈ op, 0 ≤ e ∧ e < l.length := fun e he => ⟨(hoi.2 e he).1, (hoi.2 e he).2.1⟩
  have HO := Lib.hid ho
  have hol := hoi.1
  rw [hyi]
  generalize hs[i] = y at *
  generalize hx : insAt l i = x at *
  have hxe : l[i] = x := hxi.symm
  rw [hxe] at k1 k2
  have HX := Lib.hid hx
  have Hlen := Lib.hid hlen
  obtain ⟨xop, xarg⟩ := x
  simp only at k1 k2
  clear h hH hO hoi hh ho hxi hxe hx hyi hlen
  go_enter Try.func31, Try.ntmps31
  go_upto_region 1 with fail
  go_cut [11, 12] (fun pv yv wc => ∃ g : Nat, pv = .pointer (some ⟨g, 0, none⟩) ∧ yv = .int .i64 y ∧ Hid (Blk wc g #[.int .i64 xop, .int .i64 xarg] 40) ∧ Bel w wc)
  case first =>
    go_region
    all_goals
      go_wp2_with fail
      go_meet
      exact ⟨w.heap.size, rfl, rfl, (Blk.new _ _ _).drew, ((Bel.refl w).alloc _).drew⟩
  case rest =>
    clear k1 k2 k3 hb hbh
    obtain ⟨g, rfl, rfl, HK, HB⟩ := hcut
    have HB0 := Lib.hid HB
    replace HK := Lib.hid (fun w' (k : Bel wc w') => HK.out.keep k)
    have p0 := (HK.out _ (Bel.refl _)).cell 0 rfl
    have p1 := (HK.out _ (Bel.refl _)).cell 1 rfl
    have p2 := (HK.out _ (Bel.refl _)).lt
    have HW := Bel.refl wc
    by_cases a1 : y < 0
    · have a1b : decide (y < 0) = true := by simpa using a1
      have HC : Hid (checksR l vars hs op i ⟨xop, xarg⟩ y = false) := by show checksR l vars hs op i ⟨xop, xarg⟩ y = false; unfold checksR; rw [show decide (0 ≤ y) = false by simpa using a1]; rfl
      go_wp2_with fail
      go_ret
      exact fault_bad (by omega) HC.out (HB.trans HW)
    have a1b : decide (y < 0) = false := by simpa using a1
    have a1c : decide (0 ≤ y) = true := by simpa using a1
    cases cp : permF ⟨xop, xarg⟩ vars with
    | false =>
      have HC : Hid (checksR l vars hs op i ⟨xop, xarg⟩ y = false) := by show checksR l vars hs op i ⟨xop, xarg⟩ y = false; unfold checksR; rw [cp]; simp
      clear a1c
      go_wp2_with (first
        | (go_at_call 50; refine (permitted_any ⟨xop, xarg⟩ _ _).mono ?_; rintro e w' ⟨rfl, hb'⟩; rw [cp]; replace HW := HW.trans hb'; clear hb'; have p0 := (HK.out _ HW).cell 0 rfl; have p1 := (HK.out _ HW).cell 1 rfl; have p2 := (HK.out _ HW).lt))
      go_ret
      exact fault_bad (by omega) HC.out (HB.trans HW)
    | true =>
    by_cases a3 : (nearI ⟨xop, xarg⟩ && op.isEmpty) = true
    · have HC : Hid (checksR l vars hs op i ⟨xop, xarg⟩ y = false) := by show checksR l vars hs op i ⟨xop, xarg⟩ y = false; unfold checksR; rw [a3]; simp
      rw [Bool.and_eq_true] at a3
      obtain ⟨cn, a4⟩ := a3
      have a5 : ((op.length : Int) == 0) = true := by simpa using a4
      clear a4 a1c
      go_wp2_with (first
        | (go_at_call 50; refine (permitted_any ⟨xop, xarg⟩ _ _).mono ?_; rintro e w' ⟨rfl, hb'⟩; rw [cp]; replace HW := HW.trans hb'; clear hb'; have p0 := (HK.out _ HW).cell 0 rfl; have p1 := (HK.out _ HW).cell 1 rfl; have p2 := (HK.out _ HW).lt)
        | (go_at_call 51; refine (refNear_any ⟨xop, xarg⟩ _).mono ?_; rintro e w' ⟨rfl, hb'⟩; rw [cn]; replace HW := HW.trans hb'; clear hb'; have p0 := (HK.out _ HW).cell 0 rfl; have p1 := (HK.out _ HW).cell 1 rfl; have p2 := (HK.out _ HW).lt))
      go_ret
      exact fault_bad (by omega) HC.out (HB.trans HW)
    rw [Bool.not_eq_true] at a3
    have A3 := Lib.hid a3; clear a3
    have a6 : nearI ⟨xop, xarg⟩ = true → ((op.length : Int) == 0) = false := by
      intro hh
      have := A3.out
      rw [hh, Bool.true_and] at this
      cases op with
      | nil => simp at this
      | cons => rw [beq_eq_false_iff_ne]; simp; omega
    have hneq : nearI ⟨xop, xarg⟩ = true ∧ ((op.length : Int) == 0) = false ∨ nearI ⟨xop, xarg⟩ = false := by
      cases hq : nearI ⟨xop, xarg⟩ with
      | true => exact .inl ⟨rfl, a6 hq⟩
      | false => exact .inr rfl
    clear a6
    by_cases a7 : y < wantsF xop
    · have a7b : decide (y < wantsF xop) = true := by simpa using a7
      have HC : Hid (checksR l vars hs op i ⟨xop, xarg⟩ y = false) := by show checksR l vars hs op i ⟨xop, xarg⟩ y = false; unfold checksR; rw [show decide (wantsF xop ≤ y) = false by simpa using a7]; simp
      clear a1c
      rcases hneq with ⟨cn, a8⟩ | cn
      all_goals
        go_wp2_with (first
          | (go_at_call 50; refine (permitted_any ⟨xop, xarg⟩ _ _).mono ?_; rintro e w' ⟨rfl, hb'⟩; rw [cp]; replace HW := HW.trans hb'; clear hb'; have p0 := (HK.out _ HW).cell 0 rfl; have p1 := (HK.out _ HW).cell 1 rfl; have p2 := (HK.out _ HW).lt)
          | (go_at_call 51; refine (refNear_any ⟨xop, xarg⟩ _).mono ?_; rintro e w' ⟨rfl, hb'⟩; rw [cn]; replace HW := HW.trans hb'; clear hb'; have p0 := (HK.out _ HW).cell 0 rfl; have p1 := (HK.out _ HW).cell 1 rfl; have p2 := (HK.out _ HW).lt)
          | (go_at_call 52; refine (wants_any xop _).mono ?_; rintro e w' ⟨rfl, rfl⟩))
        go_ret
        exact fault_bad (by omega) HC.out (HB.trans HW)
    have a7b : decide (y < wantsF xop) = false := by simpa using a7
    have a7c : Hid (decide (wantsF xop ≤ y) = true) := by show decide (wantsF xop ≤ y) = true; simpa using a7
    clear a7
    by_cases h9 : xop = 9
    · subst h9
      have cn : nearI ⟨9, xarg⟩ = false := by simp [nearI]
      cases cl : loopRF l i op with
      | false =>
        have HC : Hid (checksR l vars hs op i ⟨9, xarg⟩ y = false) := by show checksR l vars hs op i ⟨9, xarg⟩ y = false; unfold checksR; rw [cl]; simp
        clear hneq a1c
        go_wp2_with (first
          | (go_at_call 50; refine (permitted_any ⟨9, xarg⟩ _ _).mono ?_; rintro e w' ⟨rfl, hb'⟩; rw [cp]; replace HW := HW.trans hb'; clear hb'; have p0 := (HK.out _ HW).cell 0 rfl; have p1 := (HK.out _ HW).cell 1 rfl; have p2 := (HK.out _ HW).lt)
          | (go_at_call 51; refine (refNear_any ⟨9, xarg⟩ _).mono ?_; rintro e w' ⟨rfl, hb'⟩; rw [cn]; replace HW := HW.trans hb'; clear hb'; have p0 := (HK.out _ HW).cell 0 rfl; have p1 := (HK.out _ HW).cell 1 rfl; have p2 := (HK.out _ HW).lt)
          | (go_at_call 52; refine (wants_any 9 _).mono ?_; rintro e w' ⟨rfl, rfl⟩)
          | (go_at_call 53; refine (refLoop_any _ _ _ l i _ _ _ op _ (H1.out _ (HB.trans HW)) (H3.out _ (HB.trans HW)) (by omega) hi HO.out (by omega)).mono ?_; rintro e w' ⟨rfl, rfl⟩; rw [cl]))
        go_ret
        exact fault_bad (by omega) HC.out (HB.trans HW)
      | true =>
        have HC : Hid (checksR l vars hs op i ⟨9, xarg⟩ y = true) := by show checksR l vars hs op i ⟨9, xarg⟩ y = true; unfold checksR; simp only []; rw [a1c, cp, A3.out, a7c.out, cl]; rfl
        clear hneq a1c
        go_wp2_with (first
          | (go_at_call 50; refine (permitted_any ⟨9, xarg⟩ _ _).mono ?_; rintro e w' ⟨rfl, hb'⟩; rw [cp]; replace HW := HW.trans hb'; clear hb'; have p0 := (HK.out _ HW).cell 0 rfl; have p1 := (HK.out _ HW).cell 1 rfl; have p2 := (HK.out _ HW).lt)
          | (go_at_call 51; refine (refNear_any ⟨9, xarg⟩ _).mono ?_; rintro e w' ⟨rfl, hb'⟩; rw [cn]; replace HW := HW.trans hb'; clear hb'; have p0 := (HK.out _ HW).cell 0 rfl; have p1 := (HK.out _ HW).cell 1 rfl; have p2 := (HK.out _ HW).lt)
          | (go_at_call 52; refine (wants_any 9 _).mono ?_; rintro e w' ⟨rfl, rfl⟩)
          | (go_at_call 53; refine (refLoop_any _ _ _ l i _ _ _ op _ (H1.out _ (HB.trans HW)) (H3.out _ (HB.trans HW)) (by omega) hi HO.out (by omega)).mono ?_; rintro e w' ⟨rfl, rfl⟩; rw [cl]))
        go_ret
        exact ⟨0, rfl, by rw [HC.out]; rfl, HB.trans HW⟩
    have h9b : (xop == 9) = false := by simpa using h9
    by_cases h10 : xop = 10
    · subst h10
      have cn : nearI ⟨10, xarg⟩ = false := by simp [nearI]
      have HCe : Hid (checksR l vars hs op i ⟨10, xarg⟩ y = nextRF l i hs op y) := by show checksR l vars hs op i ⟨10, xarg⟩ y = _; unfold checksR; simp only []; rw [a1c, cp, A3.out, a7c.out]; simp
      clear hneq a1c
      rcases Nat.eq_zero_or_pos op.length with h0 | h0
      · have h0b : ((op.length : Int) == 0) = true := by rw [beq_iff_eq]; omega
        have HC : Hid (checksR l vars hs op i ⟨10, xarg⟩ y = false) := by
          show checksR l vars hs op i ⟨10, xarg⟩ y = false
          rw [HCe.out]
          have : op = [] := List.eq_nil_of_length_eq_zero h0
          rw [this]; rfl
        go_wp2_with (first
          | (go_at_call 50; refine (permitted_any ⟨10, xarg⟩ _ _).mono ?_; rintro e w' ⟨rfl, hb'⟩; rw [cp]; replace HW := HW.trans hb'; clear hb'; have p0 := (HK.out _ HW).cell 0 rfl; have p1 := (HK.out _ HW).cell 1 rfl; have p2 := (HK.out _ HW).lt)
          | (go_at_call 51; refine (refNear_any ⟨10, xarg⟩ _).mono ?_; rintro e w' ⟨rfl, hb'⟩; rw [cn]; replace HW := HW.trans hb'; clear hb'; have p0 := (HK.out _ HW).cell 0 rfl; have p1 := (HK.out _ HW).cell 1 rfl; have p2 := (HK.out _ HW).lt)
          | (go_at_call 52; refine (wants_any 10 _).mono ?_; rintro e w' ⟨rfl, rfl⟩))
        go_ret
        exact fault_bad (by omega) HC.out (HB.trans HW)
      · obtain ⟨m', z, pb, po, hm', rfl, hpb, hpc, hz, hzl, hemp⟩ := last_facts (H3.out _ (HB.trans HW)) HO.out h0
        clear hpb hpc
        have hzh : z < hs.length := by rw [Hlen.out]; omega
        have HN : Hid (nextRF l i hs op y = (decide (l[z].arg = (i : Int)) && decide (y = hs[z] + 1))) := by
          show nextRF l i hs op y = _
          unfold nextRF
          rw [hemp, hz, insAt_get hzl, ig_get hzh]; rfl
        have HHz := HH.out hs[z] (List.getElem_mem _)
        obtain ⟨hz0, hz1⟩ := HHz
        have hd0 : ((m' : Int) + 1 == 0) = false := by rw [beq_eq_false_iff_ne]; omega
        have Hm := Lib.hid hm'; have Hz := Lib.hid hz; have Hemp := Lib.hid hemp
        have hm6 : m' ≤ 100000 := by have h1 := HOI.out.1; have h2 := Hm.out; omega
        have HL0 : Hid (∀ w', Bel w w' → w'.cell? ⟨pb, po + m', none⟩ = some (.int .i64 (z : Int)) ∧ pb < w'.heap.size ∧ w'.cell? ⟨b, o + z * 2 + 1, none⟩ = some (.int .i64 l[z].arg) ∧ b < w'.heap.size ∧ w'.cell? ⟨hb2, ho2 + z, none⟩ = some (.int .i64 hs[z]) ∧ hb2 < w'.heap.size) := by
          intro w' k
          obtain ⟨m2, z2, pb2, po2, e1, e2, e3, e4, e5, e6, e7⟩ := last_facts (H3.out w' k) HO.out h0
          obtain rfl : m' = m2 := by omega
          obtain ⟨rfl, rfl⟩ : pb = pb2 ∧ po = po2 := by simpa using e2
          obtain rfl : z = z2 := by have := Hz.out; omega
          obtain ⟨b', o', g1, g2, g3, g4⟩ := (H1.out w' k).at_ z hzl
          obtain ⟨rfl, rfl⟩ : b = b' ∧ o = o' := by simpa using g1
          obtain ⟨b', o', g1, g5, g6⟩ := IntsR.at_ (H2.out w' k) z hzh
          obtain ⟨rfl, rfl⟩ : hb2 = b' ∧ ho2 = o' := by simpa using g1
          exact ⟨e4, e3, g4, g2, g6, g5⟩
        rw [hm']
        clear hm' hz hemp h0
        by_cases q1 : l[z].arg = (i : Int)
        · have q1b : (l[z].arg != (i : Int)) = false := by simpa using q1
          by_cases q2 : y = hs[z] + 1
          · have q2b : (y != hs[z] + 1) = false := by simpa using q2
            have HC : Hid (checksR l vars hs op i ⟨10, xarg⟩ y = true) := by show checksR l vars hs op i ⟨10, xarg⟩ y = true; rw [HCe.out, HN.out, show decide (l[z].arg = (i : Int)) = true by simpa using q1, show decide (y = hs[z] + 1) = true by simpa using q2]; rfl
            clear q1 q2
            go_wp2_with (first
              | (go_at_call 50; refine (permitted_any ⟨10, xarg⟩ _ _).mono ?_; rintro e w' ⟨rfl, hb'⟩; rw [cp]; replace HW := HW.trans hb'; clear hb'; have p0 := (HK.out _ HW).cell 0 rfl; have p1 := (HK.out _ HW).cell 1 rfl; have p2 := (HK.out _ HW).lt)
              | (go_at_call 51; refine (refNear_any ⟨10, xarg⟩ _).mono ?_; rintro e w' ⟨rfl, hb'⟩; rw [cn]; replace HW := HW.trans hb'; clear hb'; have p0 := (HK.out _ HW).cell 0 rfl; have p1 := (HK.out _ HW).cell 1 rfl; have p2 := (HK.out _ HW).lt; obtain ⟨z1, z2, z3, z4, z5, z6⟩ := HL0.out _ (HB.trans HW))
              | (go_at_call 52; refine (wants_any 10 _).mono ?_; rintro e w' ⟨rfl, rfl⟩))
            go_ret
            exact ⟨0, rfl, by rw [HC.out]; rfl, HB.trans HW⟩
          · have q2b : (y != hs[z] + 1) = true := by simpa using q2
            have HC : Hid (checksR l vars hs op i ⟨10, xarg⟩ y = false) := by show checksR l vars hs op i ⟨10, xarg⟩ y = false; rw [HCe.out, HN.out, show decide (y = hs[z] + 1) = false by simpa using q2]; simp
            clear q1
            go_wp2_with (first
              | (go_at_call 50; refine (permitted_any ⟨10, xarg⟩ _ _).mono ?_; rintro e w' ⟨rfl, hb'⟩; rw [cp]; replace HW := HW.trans hb'; clear hb'; have p0 := (HK.out _ HW).cell 0 rfl; have p1 := (HK.out _ HW).cell 1 rfl; have p2 := (HK.out _ HW).lt)
              | (go_at_call 51; refine (refNear_any ⟨10, xarg⟩ _).mono ?_; rintro e w' ⟨rfl, hb'⟩; rw [cn]; replace HW := HW.trans hb'; clear hb'; have p0 := (HK.out _ HW).cell 0 rfl; have p1 := (HK.out _ HW).cell 1 rfl; have p2 := (HK.out _ HW).lt; obtain ⟨z1, z2, z3, z4, z5, z6⟩ := HL0.out _ (HB.trans HW))
              | (go_at_call 52; refine (wants_any 10 _).mono ?_; rintro e w' ⟨rfl, rfl⟩))
            go_ret
            exact fault_bad (by omega) HC.out (HB.trans HW)
        · have q1b : (l[z].arg != (i : Int)) = true := by simpa using q1
          have HC : Hid (checksR l vars hs op i ⟨10, xarg⟩ y = false) := by show checksR l vars hs op i ⟨10, xarg⟩ y = false; rw [HCe.out, HN.out, show decide (l[z].arg = (i : Int)) = false by simpa using q1]; rfl
          go_wp2_with (first
            | (go_at_call 50; refine (permitted_any ⟨10, xarg⟩ _ _).mono ?_; rintro e w' ⟨rfl, hb'⟩; rw [cp]; replace HW := HW.trans hb'; clear hb'; have p0 := (HK.out _ HW).cell 0 rfl; have p1 := (HK.out _ HW).cell 1 rfl; have p2 := (HK.out _ HW).lt)
            | (go_at_call 51; refine (refNear_any ⟨10, xarg⟩ _).mono ?_; rintro e w' ⟨rfl, hb'⟩; rw [cn]; replace HW := HW.trans hb'; clear hb'; have p0 := (HK.out _ HW).cell 0 rfl; have p1 := (HK.out _ HW).cell 1 rfl; have p2 := (HK.out _ HW).lt; obtain ⟨z1, z2, z3, z4, z5, z6⟩ := HL0.out _ (HB.trans HW))
            | (go_at_call 52; refine (wants_any 10 _).mono ?_; rintro e w' ⟨rfl, rfl⟩))
          go_ret
          exact fault_bad (by omega) HC.out (HB.trans HW)
    have h10b : (xop == 10) = false := by simpa using h10
    by_cases h78 : xop = 7 ∨ xop = 8
    · have cn : nearI ⟨xop, xarg⟩ = false := by rcases h78 with rfl | rfl <;> simp [nearI]
      cases cj : jumpRF l i op with
      | false =>
        have HC : Hid (checksR l vars hs op i ⟨xop, xarg⟩ y = false) := by show checksR l vars hs op i ⟨xop, xarg⟩ y = false; unfold checksR; rw [cj, show decide (xop ≠ 7 ∧ xop ≠ 8) = false by simp; omega]; simp
        clear hneq a1c
        rcases h78 with rfl | rfl
        · skip
          go_wp2_with (first
            | (go_at_call 50; refine (permitted_any ⟨7, xarg⟩ _ _).mono ?_; rintro e w' ⟨rfl, hb'⟩; rw [cp]; replace HW := HW.trans hb'; clear hb'; have p0 := (HK.out _ HW).cell 0 rfl; have p1 := (HK.out _ HW).cell 1 rfl; have p2 := (HK.out _ HW).lt)
            | (go_at_call 51; refine (refNear_any ⟨7, xarg⟩ _).mono ?_; rintro e w' ⟨rfl, hb'⟩; rw [cn]; replace HW := HW.trans hb'; clear hb'; have p0 := (HK.out _ HW).cell 0 rfl; have p1 := (HK.out _ HW).cell 1 rfl; have p2 := (HK.out _ HW).lt)
            | (go_at_call 52; refine (wants_any 7 _).mono ?_; rintro e w' ⟨rfl, rfl⟩)
            | (go_at_call 53; refine (refLoop_any _ _ _ l i _ _ _ op _ (H1.out _ (HB.trans HW)) (H3.out _ (HB.trans HW)) (by omega) hi HO.out (by omega)).mono ?_; rintro e w' ⟨rfl, rfl⟩; rw [cl])
            | (go_at_call 54; refine (refJump_any _ _ _ l i _ _ _ op _ (H1.out _ (HB.trans HW)) (H3.out _ (HB.trans HW)) (by omega) hi HO.out (by omega)).mono ?_; rintro e w' ⟨rfl, rfl⟩; rw [cj]))
          go_ret
          exact fault_bad (by omega) HC.out (HB.trans HW)
        · skip
          go_wp2_with (first
            | (go_at_call 50; refine (permitted_any ⟨8, xarg⟩ _ _).mono ?_; rintro e w' ⟨rfl, hb'⟩; rw [cp]; replace HW := HW.trans hb'; clear hb'; have p0 := (HK.out _ HW).cell 0 rfl; have p1 := (HK.out _ HW).cell 1 rfl; have p2 := (HK.out _ HW).lt)
            | (go_at_call 51; refine (refNear_any ⟨8, xarg⟩ _).mono ?_; rintro e w' ⟨rfl, hb'⟩; rw [cn]; replace HW := HW.trans hb'; clear hb'; have p0 := (HK.out _ HW).cell 0 rfl; have p1 := (HK.out _ HW).cell 1 rfl; have p2 := (HK.out _ HW).lt)
            | (go_at_call 52; refine (wants_any 8 _).mono ?_; rintro e w' ⟨rfl, rfl⟩)
            | (go_at_call 53; refine (refLoop_any _ _ _ l i _ _ _ op _ (H1.out _ (HB.trans HW)) (H3.out _ (HB.trans HW)) (by omega) hi HO.out (by omega)).mono ?_; rintro e w' ⟨rfl, rfl⟩; rw [cl])
            | (go_at_call 54; refine (refJump_any _ _ _ l i _ _ _ op _ (H1.out _ (HB.trans HW)) (H3.out _ (HB.trans HW)) (by omega) hi HO.out (by omega)).mono ?_; rintro e w' ⟨rfl, rfl⟩; rw [cj]))
          go_ret
          exact fault_bad (by omega) HC.out (HB.trans HW)
      | true =>
        have HC : Hid (checksR l vars hs op i ⟨xop, xarg⟩ y = true) := by show checksR l vars hs op i ⟨xop, xarg⟩ y = true; unfold checksR; simp only []; rw [a1c, cp, A3.out, a7c.out, cj]; simp [h9, h10]
        clear hneq a1c
        rcases h78 with rfl | rfl
        · skip
          go_wp2_with (first
            | (go_at_call 50; refine (permitted_any ⟨7, xarg⟩ _ _).mono ?_; rintro e w' ⟨rfl, hb'⟩; rw [cp]; replace HW := HW.trans hb'; clear hb'; have p0 := (HK.out _ HW).cell 0 rfl; have p1 := (HK.out _ HW).cell 1 rfl; have p2 := (HK.out _ HW).lt)
            | (go_at_call 51; refine (refNear_any ⟨7, xarg⟩ _).mono ?_; rintro e w' ⟨rfl, hb'⟩; rw [cn]; replace HW := HW.trans hb'; clear hb'; have p0 := (HK.out _ HW).cell 0 rfl; have p1 := (HK.out _ HW).cell 1 rfl; have p2 := (HK.out _ HW).lt)
            | (go_at_call 52; refine (wants_any 7 _).mono ?_; rintro e w' ⟨rfl, rfl⟩)
            | (go_at_call 53; refine (refLoop_any _ _ _ l i _ _ _ op _ (H1.out _ (HB.trans HW)) (H3.out _ (HB.trans HW)) (by omega) hi HO.out (by omega)).mono ?_; rintro e w' ⟨rfl, rfl⟩; rw [cl])
            | (go_at_call 54; refine (refJump_any _ _ _ l i _ _ _ op _ (H1.out _ (HB.trans HW)) (H3.out _ (HB.trans HW)) (by omega) hi HO.out (by omega)).mono ?_; rintro e w' ⟨rfl, rfl⟩; rw [cj]))
          go_ret
          exact ⟨0, rfl, by rw [HC.out]; rfl, HB.trans HW⟩
        · skip
          go_wp2_with (first
            | (go_at_call 50; refine (permitted_any ⟨8, xarg⟩ _ _).mono ?_; rintro e w' ⟨rfl, hb'⟩; rw [cp]; replace HW := HW.trans hb'; clear hb'; have p0 := (HK.out _ HW).cell 0 rfl; have p1 := (HK.out _ HW).cell 1 rfl; have p2 := (HK.out _ HW).lt)
            | (go_at_call 51; refine (refNear_any ⟨8, xarg⟩ _).mono ?_; rintro e w' ⟨rfl, hb'⟩; rw [cn]; replace HW := HW.trans hb'; clear hb'; have p0 := (HK.out _ HW).cell 0 rfl; have p1 := (HK.out _ HW).cell 1 rfl; have p2 := (HK.out _ HW).lt)
            | (go_at_call 52; refine (wants_any 8 _).mono ?_; rintro e w' ⟨rfl, rfl⟩)
            | (go_at_call 53; refine (refLoop_any _ _ _ l i _ _ _ op _ (H1.out _ (HB.trans HW)) (H3.out _ (HB.trans HW)) (by omega) hi HO.out (by omega)).mono ?_; rintro e w' ⟨rfl, rfl⟩; rw [cl])
            | (go_at_call 54; refine (refJump_any _ _ _ l i _ _ _ op _ (H1.out _ (HB.trans HW)) (H3.out _ (HB.trans HW)) (by omega) hi HO.out (by omega)).mono ?_; rintro e w' ⟨rfl, rfl⟩; rw [cj]))
          go_ret
          exact ⟨0, rfl, by rw [HC.out]; rfl, HB.trans HW⟩
    · have h7b : (xop == 7) = false := by simp; omega
      have h8b : (xop == 8) = false := by simp; omega
      have HC : Hid (checksR l vars hs op i ⟨xop, xarg⟩ y = true) := by show checksR l vars hs op i ⟨xop, xarg⟩ y = true; unfold checksR; simp only []; rw [a1c, cp, A3.out, a7c.out, show decide (xop ≠ 7 ∧ xop ≠ 8) = true by simp; omega]; simp [h9, h10]
      clear a1c
      rcases hneq with ⟨cn, a8⟩ | cn
      all_goals
        go_wp2_with (first
          | (go_at_call 50; refine (permitted_any ⟨xop, xarg⟩ _ _).mono ?_; rintro e w' ⟨rfl, hb'⟩; rw [cp]; replace HW := HW.trans hb'; clear hb'; have p0 := (HK.out _ HW).cell 0 rfl; have p1 := (HK.out _ HW).cell 1 rfl; have p2 := (HK.out _ HW).lt)
          | (go_at_call 51; refine (refNear_any ⟨xop, xarg⟩ _).mono ?_; rintro e w' ⟨rfl, hb'⟩; rw [cn]; replace HW := HW.trans hb'; clear hb'; have p0 := (HK.out _ HW).cell 0 rfl; have p1 := (HK.out _ HW).cell 1 rfl; have p2 := (HK.out _ HW).lt)
          | (go_at_call 52; refine (wants_any xop _).mono ?_; rintro e w' ⟨rfl, rfl⟩))
        go_ret
        exact ⟨0, rfl, by rw [HC.out]; rfl, HB.trans HW⟩

end Go.Proofs.Ytnhhedecaejgcaa
