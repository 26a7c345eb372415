/- Merged of: W05f W05g WT WTb (see NOTES.md). -/
import Derived.Test.YtgemlgpjbclonaaGreatDoorZ10
import Derived.OneCell
import Derived.Test.YtgemlgpjbclonaaGreatDoorZ05
import Derived.Test.YtgemlgpjbclonaaGreatDoorZ08
set_option linter.unusedSimpArgs false
set_option linter.unnecessarySimpa false
set_option linter.unusedVariables false

/- The contract of the reference's levels. -/
namespace Go.Proofs.YtgemlgpjbclonaaGreatDoor
open Go.RowKit

theorem bool_info : (Tryz.prog.info? 4).map (fun i => (i.zero, i.size, i.bytes)) = some (some (.bool false), 1, 1) := by kernel_rfl

/-- The two stacks of the reference in memory. -/
def Two (B : Nat) (w : World) (L O : Value) (s : List (Int × Bool)) : Prop :=
 w.ownsRow B 3 1 L s.length (((s.map (·.1)).reverse).map (Value.int .i64)) ∧ w.ownsRow B 4 1 O s.length (((s.map (·.2)).reverse).map Value.bool)

theorem own_other {w : World} {B e e' size size' n n' : Nat} {v v' : Value} {xs xs' : List Value} (h : w.ownsRow B e size v n xs) (h' : w.ownsRow B e' size' v' n' xs') (hne : e ≠ e') : v'.ownBlock = none ∨ v'.ownBlock ≠ v.ownBlock := by
 rcases h.2 with ⟨rfl, _⟩ | ⟨g, cap, cur, rfl, _, hg, _⟩
 ·rcases h'.2 with ⟨rfl, _⟩ | ⟨g', cap', cur', rfl, _, hg', _⟩
  ·exact .inl rfl
  ·right; simp [Value.ownBlock]
 ·rcases h'.2 with ⟨rfl, _⟩ | ⟨g', cap', cur', rfl, _, hg', _⟩
  ·exact .inl rfl
  ·right
   simp only [Value.ownBlock]
   intro he
   injection he with he
   subst he
   rw [hg] at hg'
   injection hg' with hg'
   injection hg' with _ ht
   exact hne ht

theorem Two.second {B : Nat} {wr w2 : World} {L O : Value} {s : List (Int × Bool)} (hT : Two B wr L O s) (x : Obj) (hg : (wr.alloc x).drew.grownBy w2 L.ownBlock) :
  w2.ownsRow B 4 1 O s.length (((s.map (·.2)).reverse).map Value.bool) :=
 ((hT.2.alloc x).drew).kept hg (own_other (hT.1.alloc x).drew (hT.2.alloc x).drew (by decide))

theorem Two.first {B : Nat} {w2 w3 : World} {L O : Value} {n n' : Nat} {xs ys : List Value} (h1 : w2.ownsRow B 3 1 L n xs) (h2 : w2.ownsRow B 4 1 O n' ys) (x : Obj) (hg : (w2.alloc x).grownBy w3 O.ownBlock) :
  w3.ownsRow B 3 1 L n xs :=
 (h1.alloc x).kept hg (own_other (h2.alloc x) (h1.alloc x) (by decide))

theorem Two.pop {B : Nat} {w : World} {L O : Option Addr} {lc oc : Nat} {x : Int × Bool} {r : List (Int × Bool)} (h : Two B w (.slice L (x :: r).length lc) (.slice O (x :: r).length oc) (x :: r)) :
  Two B w (.slice L r.length lc) (.slice O r.length oc) r := by
 refine ⟨?_, ?_⟩
 ·have := own_take h.1 r.length (by simp)
  simpa using this
 ·have := own_take h.2 r.length (by simp)
  simpa using this
theorem Two.drewN {B : Nat} {w : World} {L O : Value} {s : List (Int × Bool)} (h : Two B w L O s) (k : Nat) : Two B (w.drewN k) L O s := h

theorem Two.dec {B : Nat} {w : World} {g : Nat} {O : Value} {lc : Nat} {c : Int} {b : Bool} {r : List (Int × Bool)} (h : Two B w (.slice (some ⟨g, 0, none⟩) ((c, b) :: r).length lc) O ((c, b) :: r)) :
  Two B (w.setCell ⟨g, r.length, none⟩ (.int .i64 (c - 1))) (.slice (some ⟨g, 0, none⟩) ((c - 1, b) :: r).length lc) O ((c - 1, b) :: r) := by
 refine ⟨?_, ?_⟩
 ·have h1 := h.1.stored r.length (.int .i64 (c - 1))
  exact (by simpa using h1.1)
 ·have hne := own_other h.1 h.2 (by decide)
  have h2 := ownsRow_setCell_other h.2 (a := ⟨g, r.length, none⟩) (by
   rcases hne with hne | hne
   ·rw [hne]; simp
   ·simpa [Value.ownBlock] using hne) (.int .i64 (c - 1))
  simpa using h2

set_option maxRecDepth 100000 in
set_option maxHeartbeats 1000000 in
theorem refLevels_any (A : Option Addr) (n c : Nat) (es : List Term) (w : World) (h : TermsR w A n es) (hl : n ≤ 1000000) (har : ∀ t ∈ es, 0 ≤ arity t.op) :
  Calls Tryz.prog 180 #[.slice A n c] w fun e w' => e = .returned (.tuple #[.int .i64 (refGo es [] 0 0).1, .int .i64 (refGo es [] 0 0).2]) ∧ Bel w w' := by
 obtain rfl := h.1
 have H := Lib.hid h; clear h
 have HA := Lib.hid har; clear har
 obtain ⟨i0, hi0, hi1, hi2, hi3⟩ := info_parts int_info
 obtain ⟨j0, hj0, hj1, hj2, hj3⟩ := info_parts bool_info
 go_enter Tryz.func180, Tryz.ntmps180
 go_wp2
 go_loopg [4, 5, 6, 7, 8] es.length (fun g dv nv lv ov iv wr => ∃ (k : Nat) (d m : Int) (L O : Option Addr) (lc oc : Nat) (s : List (Int × Bool)), k + g = es.length ∧ s.length ≤ k ∧ 0 ≤ d ∧ d ≤ k ∧ 0 ≤ m ∧ m ≤ k ∧ dv = .int .i64 d ∧ nv = .int .i64 m ∧ lv = .slice L s.length lc ∧ ov = .slice O s.length oc ∧ iv = .int .i64 k ∧ Hid (Wait s) ∧ Hid (refGo (es.drop k) s d m = refGo es [] 0 0) ∧ Hid (Two w.heap.size wr (.slice L s.length lc) (.slice O s.length oc) s) ∧ Bel w wr)
 case atStart => exact ⟨0, 0, 0, none, none, 0, 0, [], by omega, by simp, by omega, by omega, by omega, by omega, rfl, rfl, rfl, rfl, rfl, fun _ h => by simp at h, rfl, ⟨World.ownsRow_nil _ _ _ _, World.ownsRow_nil _ _ _ _⟩, Bel.refl _⟩
 case round =>
  obtain ⟨k, d, m, L, O, lc, oc, s, hk, hsk, hd0, hd1, hm0, hm1, rfl, rfl, rfl, rfl, rfl, HW, HR, HT, hbel⟩ := hrel
  generalize gk = g0 at *
  by_cases hlt : k < es.length
  ·obtain ⟨b, o, rfl, hb, hcc⟩ := H.out.atB k hlt
   have HC := Lib.hid hcc; clear hcc
   have hs6 : s.length ≤ 1000000 := by omega
   have hbs := hbel.size
   have hbr : b < wr.heap.size := by omega
   go_upto_region 7 with fail
   go_cut [6, 7] (fun lv ov wc => ∃ (s1 : List (Int × Bool)) (L O : Option Addr) (lc oc : Nat), Hid (s1 = (arity es[k].op, aggregate es[k].op) :: s) ∧ lv = .slice L s1.length lc ∧ ov = .slice O s1.length oc ∧ Hid (Two w.heap.size wc (.slice L s1.length lc) (.slice O s1.length oc) s1) ∧ Bel w wc)
   case first =>
    have hc1 := (HC.out wr hbel).1
    go_region_law (first
     | (refine step_push _ rfl (.tmp 17) (.tmp 24) 26 rfl w.heap.size 3 i0 (.int .i64 0) 1 8 Tryz.underlying26 hi0 hi1 hi2 hi3 rfl (by decide) L s.length lc (((s.map (·.1)).reverse).map (Value.int .i64)) (by simp [Act.eval]) (HT.out.1.alloc _).drew wr.heap.size #[.int .i64 (arity es[k].op)] 3 (0, 0) (by simp [Act.eval]) (heap_new_drew _ _) rfl (one_int _ _) (by unfold maxLen; omega) (by omega) (by simp; omega) ?_; intro L' lc' w2 hown2 hgr2 hat2; have hb2 : Bel w w2 := (hbel.alloc _).drew.push (HT.out.1.alloc _).drew hgr2; have hbs2 := hb2.size; have HO2 := Lib.hid (HT.out.second _ hgr2); have hc1' := (HC.out w2 hb2).1)
     | (refine step_push _ rfl (.tmp 26) (.tmp 33) 209 rfl w.heap.size 4 j0 (.bool false) 1 1 Tryz.underlying209 hj0 hj1 hj2 hj3 rfl (by decide) O s.length oc (((s.map (·.2)).reverse).map Value.bool) (by simp [Act.eval]) (HO2.out.alloc _) w2.heap.size #[.bool (aggregate es[k].op)] 4 (0, 0) (by simp [Act.eval]) (heap_new _ _) rfl (one_bool _) (by unfold maxLen; omega) (by omega) (by simp; omega) ?_; intro O' oc' w3 hown3 hgr3 hat3; have HL3 := Lib.hid (Two.first hown2 HO2.out _ hgr3); have hb3 : Bel w w3 := (hb2.alloc _).push (HO2.out.alloc _) hgr3)
     | (go_simp; go_at_call 100; refine (refArity_any _ _).mono ?_; rintro e w' ⟨rfl, rfl⟩)
     | (go_simp; go_at_call 102; refine (refAggregate_any _ _).mono ?_; rintro e w' ⟨rfl, rfl⟩))
    all_goals
     go_wp2_with fail
     go_meet
     exact ⟨(arity es[k].op, aggregate es[k].op) :: s, L', O', lc', oc', rfl, rfl, rfl, ⟨by simpa using HL3.out, by simpa using hown3⟩, hb3⟩
   case rest =>
    obtain ⟨s1, L1, O1, lc1, oc1, HS1, rfl, rfl, HT1, hb1⟩ := hcut
    have hs1 : s1.length = s.length + 1 := by rw [HS1.out]; rfl
    have hs2 : s1.length ≤ 1000001 := by omega
    have HR1 : Hid (refGo (es.drop (k + 1)) (normS s1) (max d (s1.length : Int)) (max m (insideS s1)) = refGo es [] 0 0) := by
     show refGo (es.drop (k + 1)) (normS s1) (max d (s1.length : Int)) (max m (insideS s1)) = refGo es [] 0 0
     rw [← HR.out, List.drop_eq_getElem_cons hlt, HS1.out]; rfl
    have HN1 : Hid (Wait (normS s1) ∧ (normS s1).length ≤ s.length + 1) := by
     show Wait (normS s1) ∧ (normS s1).length ≤ s.length + 1
     have h0 := HA.out es[k] (List.getElem_mem _)
     have h3 := (arity_le es[k].op).2
     rw [HS1.out]; exact normS_wait HW.out h0 h3
    have HSh : Hid (Shape s1) := by
     show Shape s1
     have h0 := HA.out es[k] (List.getElem_mem _)
     have h3 := (arity_le es[k].op).2
     rw [HS1.out]; exact ⟨h0, h3, HW.out⟩
    have hin := insideS_le s1
    obtain ⟨hin0, hin1⟩ := hin
    generalize hI : insideS s1 = I at *
    have HI := Lib.hid hI; clear hI
    have Hs1 := Lib.hid hs1; clear hs1
    go_wp2_with fail
    go_loopg [9, 10] s1.length (fun g zv qv wi => ∃ (q : Nat) (z : Int), q + g = s1.length ∧ 0 ≤ z ∧ z ≤ q ∧ Hid (z + cntB (((s1.map (·.2)).reverse).drop q) = I) ∧ zv = .int .i64 z ∧ qv = .int .i64 q ∧ wc = wi)
    case atStart => exact ⟨0, 0, by omega, by omega, by omega, by show _ = _; rw [List.drop_zero, cntB_reverse, HI.out]; omega, rfl, rfl, rfl⟩
    case round =>
     obtain ⟨q, z, hq, hz0, hz1, HZ, rfl, rfl, rfl⟩ := hrel
     by_cases hql : q < s1.length
     ·have hql2 : q < ((s1.map (·.2)).reverse).length := by simpa using hql
      obtain ⟨b2, o2, rfl, hb2, hc2⟩ := (own_bools HT1.out.2).at_ q hql2
      have hx : ((s1.map (·.2)).reverse).drop q = ((s1.map (·.2)).reverse)[q] :: ((s1.map (·.2)).reverse).drop (q + 1) := List.drop_eq_getElem_cons hql2
      generalize ((s1.map (·.2)).reverse)[q] = x at *
      have HX := Lib.hid hx; clear hx
      cases x
      ·go_wp2
       go_roundg (gk - 1)
       case rel => exact ⟨q + 1, z, by omega, by omega, by omega, by show _ = _; rw [← HZ.out, HX.out, cntB_cons]; simp, rfl, by go_num, rfl⟩
       case measure => omega
      ·go_wp2
       go_roundg (gk - 1)
       case rel => exact ⟨q + 1, z + 1, by omega, by omega, by omega, by show _ = _; rw [← HZ.out, HX.out, cntB_cons]; simp; omega, rfl, by go_num, rfl⟩
       case measure => omega
     ·obtain rfl : z = I := by
       have := HZ.out
       rw [List.drop_eq_nil_of_le (by simp; omega)] at this
       simpa [cntB] using this
      clear hz0 hz1
      go_upto_region 14 with fail
      go_cut [4, 5] (fun dv nv wd => dv = .int .i64 (max d (s1.length : Int)) ∧ nv = .int .i64 (max m z) ∧ wc = wd)
      case first =>
       go_wp2_with fail
       all_goals
        go_meet
        refine ⟨?_, ?_, rfl⟩ <;> first | (rw [Int.max_eq_left (by omega)]; done) | (rw [Int.max_eq_right (by omega)]; done)
      case rest =>
       rename_i wd
       obtain ⟨rfl, rfl, rfl⟩ := hcut
       obtain ⟨D, hD⟩ : ∃ D, max d (s1.length : Int) = D := ⟨_, rfl⟩
       obtain ⟨M, hM⟩ : ∃ M, max m z = M := ⟨_, rfl⟩
       have hD0 : 0 ≤ D ∧ D ≤ k + 1 := by have := Hs1.out; omega
       have hM0 : 0 ≤ M ∧ M ≤ k + 1 := by have := Hs1.out; omega
       obtain ⟨hD1, hD2⟩ := hD0
       obtain ⟨hM1, hM2⟩ := hM0
       have HR2 := HR1.out
       rw [hD, hM] at HR2
       have HR3 := Lib.hid HR2; clear HR2 HR1
       rw [hD, hM]
       clear hD hM
       have hNL : (normS s1).length ≤ k + 1 := by have := HN1.out.2; omega
       have HNW := Lib.hid HN1.out.1; clear HN1
       generalize hnorm : normS s1 = s2 at *
       have HNorm := Lib.hid hnorm; clear hnorm
       go_wp2_with fail
       go_loopg [6, 7] s1.length (fun g lv ov wi => ∃ (L O : Option Addr) (lc oc : Nat) (s : List (Int × Bool)), g = s.length ∧ s.length ≤ 1000001 ∧ Hid (normS s = s2) ∧ Hid (Shape s) ∧ lv = .slice L s.length lc ∧ ov = .slice O s.length oc ∧ Hid (Two w.heap.size wi (.slice L s.length lc) (.slice O s.length oc) s) ∧ Bel w wi)
       case atStart => exact ⟨L1, O1, lc1, oc1, s1, rfl, hs2, HNorm, HSh, rfl, rfl, HT1, hb1⟩
       case round =>
        clear HT1 hb1 HS1 HSh HNorm HI Hs1 HZ HT
        obtain ⟨L2, O2, lc2, oc2, s3, rfl, hs3, HN3, HS3, rfl, rfl, HT3, hb3⟩ := hrel
        rcases s3 with _ | ⟨⟨c3, b3⟩, r⟩
        ·obtain rfl : s2 = [] := HN3.out.symm
         go_wp2_with fail
         go_roundg (g0 - 1)
         case rel => exact ⟨k + 1, D, M, L2, O2, lc2, oc2, [], by omega, by simp, hD1, by omega, hM1, by omega, rfl, rfl, rfl, rfl, by go_num, HNW, HR3, HT3, hb3⟩
         case measure => omega
        ·obtain ⟨hc0, hc3, hWr⟩ := HS3.out
         have HWr := Lib.hid hWr; clear hWr
         have hr6 : r.length ≤ 1000000 := by simp at hs3; omega
         obtain ⟨gL, rfl, hgL0, hgL1, hcellL, hfrL⟩ := own_at HT3.out.1 (j := r.length) (u := .int .i64 c3) (by simp)
         obtain ⟨hcapL, hcapL2⟩ := own_cap HT3.out.1
         obtain ⟨hcapO, hcapO2⟩ := own_cap HT3.out.2
         by_cases hz : c3 = 0
         ·subst hz
          have hcl : r.length ≤ lc2 := by simp at hcapL; omega
          have hco : r.length ≤ oc2 := by simp at hcapO; omega
          have hu1 := run_upto (P := Tryz.prog) Tryz.underlying26 hi0 (some ⟨gL, 0, none⟩) ((0, b3) :: r).length lc2 r.length hcl
          have hu2 := run_upto (P := Tryz.prog) Tryz.underlying209 hj0 O2 ((0, b3) :: r).length oc2 r.length hco
          have hw1 : IntKind.i64.wrap ((r.length : Int) + 1 - 1) = r.length := by rw [IntWalk.i64_in _ (by omega)]; omega
          have hw2 : IntKind.i64.wrap (r.length : Int) = r.length := IntWalk.i64_in _ (by omega)
          clear hcapL hcapO hcapL2 hcapO2
          have HTP := Lib.hid HT3.out.pop
          have HTN := fun nq => Lib.hid (HTP.out.drewN nq)
          have HTN2 := Lib.hid HTN; clear HTN
          go_wp2_with fail
          go_quiet (fail)
          clear hu1 hu2 hw1 hw2
          rcases r with _ | ⟨⟨c4, b4⟩, r4⟩
          ·go_wp2_with fail
           go_roundg 0
           case rel => exact ⟨some ⟨gL, 0, none⟩, O2, lc2, oc2, [], rfl, by simp, by show normS [] = s2; rw [← HN3.out, normS_zero_nil]; rfl, trivial, rfl, rfl, HTN2.out nq, hb3.drewN nq⟩
           case measure => simp
          ·obtain ⟨hc40, hc43⟩ := HWr.out (c4, b4) (by simp)
           obtain ⟨gL', e1, _, _, hcell4, hfr4⟩ := own_at HTP.out.1 (j := r4.length) (u := .int .i64 c4) (by simp)
           obtain rfl : gL = gL' := by simpa using e1
           clear e1
           have hr4 : r4.length ≤ 1000000 := by simp at hr6; omega
           go_wp2_with fail
           go_roundg (r4.length + 1)
           case rel => exact ⟨some ⟨gL, 0, none⟩, O2, lc2, oc2, (c4 - 1, b4) :: r4, rfl, by simp; omega, by show normS ((c4 - 1, b4) :: r4) = s2; rw [← HN3.out, normS_zero], ⟨by omega, by omega, HWr.out.tail⟩, rfl, rfl, ((HTN2.out nq).out).dec, (hb3.drewN nq).setCell (by simpa using hgL0) _⟩
           case measure => simp
         ·have hzb : (c3 == 0) = false := by simpa using hz
          obtain rfl : s2 = (c3, b3) :: r := by rw [← HN3.out, normS_pos _ _ _ hz]
          go_wp2_with fail
          go_roundg (g0 - 1)
          case rel => exact ⟨k + 1, D, M, some ⟨gL, 0, none⟩, O2, lc2, oc2, (c3, b3) :: r, by omega, hNL, hD1, by omega, hM1, by omega, rfl, rfl, rfl, rfl, by go_num, HNW, HR3, HT3, hb3⟩
          case measure => omega
  ·go_wp2
   go_ret2
   refine ⟨?_, hbel⟩
   have hr := HR.out
   rw [List.drop_eq_nil_of_le (by omega)] at hr
   rw [← hr]; rfl
end Go.Proofs.YtgemlgpjbclonaaGreatDoor

/- Contracts of Depth, Nest and Valid of the reference. -/
namespace Go.Proofs.YtgemlgpjbclonaaGreatDoor
open Go.RowKit

set_option maxHeartbeats 400000 in
theorem refDepth_any (A : Option Addr) (n c : Nat) (es : List Term) (w : World) (h : TermsR w A n es) (hl : n ≤ 1000000) :
  Calls Tryz.prog 160 #[.slice A n c] w fun e w' => e = .returned (.int .i64 (depthF es)) ∧ Bel w w' := by
 have H := Lib.hid h
 obtain rfl := h.1
 clear h
 by_cases he : endF es 0 = es.length
 ·have HG := Lib.hid (refGo_eq es he)
  have HA := Lib.hid (arity_of_end es he)
  have h1 : oneF es = true := by rw [one_iff]; simpa using he
  clear he
  go_enter Tryz.func160, Tryz.ntmps160
  go_wp2_with (first
   | (go_at_call 159; refine (one_any _ _ _ es _ H.out hl).mono ?_; rintro e w1 ⟨rfl, rfl⟩)
   | (go_at_call 180; refine (refLevels_any _ _ _ es _ H.out hl HA.out).mono ?_; rintro e w1 ⟨rfl, hb⟩))
  go_ret
  exact ⟨ret_int (by rw [HG.out]), hb⟩
 ·have HG : Hid (depthF es = 0) := by
   show depthF es = 0
   unfold depthF levelsF; rw [if_neg he]
  have h1 : oneF es = false := by rw [one_iff]; simpa using he
  clear he
  go_enter Tryz.func160, Tryz.ntmps160
  go_wp2_with (go_at_call 159; refine (one_any _ _ _ es _ H.out hl).mono ?_; rintro e w1 ⟨rfl, rfl⟩)
  go_ret
  exact ⟨ret_int HG.out.symm, Bel.refl _⟩

set_option maxHeartbeats 400000 in
theorem refNest_any (A : Option Addr) (n c : Nat) (es : List Term) (w : World) (h : TermsR w A n es) (hl : n ≤ 1000000) :
  Calls Tryz.prog 161 #[.slice A n c] w fun e w' => e = .returned (.int .i64 (nestF es)) ∧ Bel w w' := by
 have H := Lib.hid h
 obtain rfl := h.1
 clear h
 by_cases he : endF es 0 = es.length
 ·have HG := Lib.hid (refGo_eq es he)
  have HA := Lib.hid (arity_of_end es he)
  have h1 : oneF es = true := by rw [one_iff]; simpa using he
  clear he
  go_enter Tryz.func161, Tryz.ntmps161
  go_wp2_with (first
   | (go_at_call 159; refine (one_any _ _ _ es _ H.out hl).mono ?_; rintro e w1 ⟨rfl, rfl⟩)
   | (go_at_call 180; refine (refLevels_any _ _ _ es _ H.out hl HA.out).mono ?_; rintro e w1 ⟨rfl, hb⟩))
  go_ret
  exact ⟨ret_int (by rw [HG.out]), hb⟩
 ·have HG : Hid (nestF es = 0) := by
   show nestF es = 0
   unfold nestF levelsF; rw [if_neg he]
  have h1 : oneF es = false := by rw [one_iff]; simpa using he
  clear he
  go_enter Tryz.func161, Tryz.ntmps161
  go_wp2_with (go_at_call 159; refine (one_any _ _ _ es _ H.out hl).mono ?_; rintro e w1 ⟨rfl, rfl⟩)
  go_ret
  exact ⟨ret_int HG.out.symm, Bel.refl _⟩

set_option maxHeartbeats 1000000 in
theorem refValid_any (A : Option Addr) (n c : Nat) (es : List Term) (vars : Int) (w : World) (h : TermsR w A n es) (hl : n ≤ 1000000) :
  Calls Tryz.prog 141 #[.slice A n c, .int .i64 vars] w fun e w' => e = .returned (.bool (validF es vars)) ∧ Bel w w' := by
 obtain rfl := h.1
 have H := Lib.hid h; clear h
 by_cases h200 : 200 < es.length
 ·have HF : Hid (validF es vars = false) := by
   show validF es vars = false
   unfold validF
   rw [show decide (es.length ≤ 200) = false by simp; omega]; rfl
  have hd : decide (200 < es.length) = true := by simpa using h200
  go_enter Tryz.func141, Tryz.ntmps141
  go_wp2
  go_ret
  exact ⟨ret_bool HF.out.symm, Bel.refl _⟩
 ·have hd : decide (200 < es.length) = false := by simpa using h200
  cases ho : oneF es with
  | false =>
   have HF : Hid (validF es vars = false) := by
    show validF es vars = false
    unfold validF
    rw [one_iff] at ho
    rw [ho]; simp
   go_enter Tryz.func141, Tryz.ntmps141
   go_wp2_with (go_at_call 159; refine (one_any _ _ _ es _ H.out hl).mono ?_; rintro e w' ⟨rfl, rfl⟩)
   go_ret
   exact ⟨ret_bool HF.out.symm, Bel.refl _⟩
  | true =>
   have HF : Hid (validF es vars = (es.all (argF · vars) && decide (depthF es ≤ 24) && decide (nestF es ≤ 2))) := by
    show validF es vars = _
    unfold validF
    rw [one_iff] at ho
    rw [show decide (es.length ≤ 200) = true by simp; omega, ho]
    rfl
   by_cases h24 : depthF es ≤ 24
   ·have hd3 : decide (24 < depthF es) = false := by simpa using h24
    by_cases h2 : nestF es ≤ 2
    ·have hd4 : decide (2 < nestF es) = false := by simpa using h2
     have HF2 : Hid (validF es vars = es.all (argF · vars)) := by
      show validF es vars = _
      rw [HF.out, show decide (depthF es ≤ 24) = true by simpa using h24, show decide (nestF es ≤ 2) = true by simpa using h2]; simp
     clear HF
     go_enter Tryz.func141, Tryz.ntmps141
     go_wp2_with (first
      | (go_at_call 159; refine (one_any _ _ _ es _ H.out hl).mono ?_; rintro e w' ⟨rfl, rfl⟩)
      | (go_at_call 160; refine (refDepth_any _ _ _ es _ H.out hl).mono ?_; rintro e w2 ⟨rfl, hb2⟩)
      | (go_at_call 161; refine (refNest_any _ _ _ es _ (H.out.keep hb2) hl).mono ?_; rintro e w3 ⟨rfl, hb3⟩))
     have hb4 := hb2.trans hb3
     clear hd3 hd4 h24 h2 ho
     go_loopg [5] es.length (fun g iv wr => ∃ k : Nat, k + g = es.length ∧ iv = .int .i64 k ∧ Hid (validF es vars = (es.drop k).all (argF · vars)) ∧ Bel w wr)
     case atStart => exact ⟨0, by omega, rfl, HF2, hb4⟩
     case round =>
      obtain ⟨k, hk, rfl, HK, hbel⟩ := hrel
      by_cases hlt : k < es.length
      ·obtain ⟨b, o, rfl, hb, hc1, hc2⟩ := (H.out.keep hbel).at_ k hlt
       have hstep : Hid ((es.drop k).all (argF · vars) = (argF es[k] vars && (es.drop (k + 1)).all (argF · vars))) := by
        show (es.drop k).all (argF · vars) = _
        rw [List.drop_eq_getElem_cons hlt]; rfl
       cases harg : argF es[k] vars with
       | true =>
        go_wp2_with (go_at_call 162; refine (refArgument_any es[k] _ _).mono ?_; rintro e w2 ⟨rfl, hb2⟩; rw [harg])
        go_roundg (gk - 1)
        case rel => exact ⟨k + 1, by omega, by go_num, by show _ = _; rw [HK.out, hstep.out, harg]; rfl, hbel.trans hb2⟩
        case measure => omega
       | false =>
        go_wp2_with (go_at_call 162; refine (refArgument_any es[k] _ _).mono ?_; rintro e w2 ⟨rfl, hb2⟩; rw [harg])
        go_ret
        refine ⟨ret_bool ?_, hbel.trans hb2⟩
        rw [HK.out, hstep.out, harg]; rfl
      ·go_wp2_with fail
       go_ret
       refine ⟨ret_bool ?_, hbel⟩
       rw [HK.out, List.drop_eq_nil_of_le (by omega)]; rfl
    ·have hd4 : decide (2 < nestF es) = true := by simpa using h2
     have HF2 : Hid (validF es vars = false) := by
      show validF es vars = _
      rw [HF.out, show decide (nestF es ≤ 2) = false by simpa using h2]; simp
     go_enter Tryz.func141, Tryz.ntmps141
     go_wp2_with (first
      | (go_at_call 159; refine (one_any _ _ _ es _ H.out hl).mono ?_; rintro e w' ⟨rfl, rfl⟩)
      | (go_at_call 160; refine (refDepth_any _ _ _ es _ H.out hl).mono ?_; rintro e w2 ⟨rfl, hb2⟩)
      | (go_at_call 161; refine (refNest_any _ _ _ es _ (H.out.keep hb2) hl).mono ?_; rintro e w3 ⟨rfl, hb3⟩))
     go_ret
     exact ⟨ret_bool HF2.out.symm, hb2.trans hb3⟩
   ·have hd3 : decide (24 < depthF es) = true := by simpa using h24
    have HF2 : Hid (validF es vars = false) := by
     show validF es vars = _
     rw [HF.out, show decide (depthF es ≤ 24) = false by simpa using h24]; simp
    go_enter Tryz.func141, Tryz.ntmps141
    go_wp2_with (first
     | (go_at_call 159; refine (one_any _ _ _ es _ H.out hl).mono ?_; rintro e w' ⟨rfl, rfl⟩)
     | (go_at_call 160; refine (refDepth_any _ _ _ es _ H.out hl).mono ?_; rintro e w2 ⟨rfl, hb2⟩))
    go_ret
    exact ⟨ret_bool HF2.out.symm, hb2⟩
end Go.Proofs.YtgemlgpjbclonaaGreatDoor

/- Contracts of the small functions on types. -/
namespace Go.Proofs.YtgemlgpjbclonaaGreatDoor
open Go.RowKit

theorem possible_any (k : Int) (w : World) : Calls Tryz.prog 145 #[.int .i64 k] w fun e w' => e = .returned (.bool (knownK k)) ∧ w = w' := by
 go_enter Tryz.func145, Tryz.ntmps145
 go_wp2
 all_goals (go_ret; refine ⟨ret_bool ?_, rfl⟩; unfold knownK; (rw [Bool.eq_iff_iff]) <;> simp [*])
theorem refKnown_any (k : Int) (w : World) : Calls Tryz.prog 140 #[.int .i64 k] w fun e w' => e = .returned (.bool (knownK k)) ∧ w = w' := by
 go_enter Tryz.func140, Tryz.ntmps140
 go_wp2
 all_goals (go_ret; refine ⟨ret_bool ?_, rfl⟩; unfold knownK; (rw [Bool.eq_iff_iff]) <;> simp [*])
theorem ifTrue_any (b : Bool) (k : Int) (w : World) : Calls Tryz.prog 190 #[.bool b, .int .i64 k] w fun e w' => e = .returned (.int .i64 (ifK b k)) ∧ w = w' := by
 cases b
 all_goals (go_enter Tryz.func190, Tryz.ntmps190; go_wp2; go_ret; exact ⟨rfl, rfl⟩)
theorem near_any (op : Int) (w : World) : Calls Tryz.prog 186 #[.int .i64 op] w fun e w' => e = .returned (.bool (nearOp op)) ∧ w = w' := by
 go_enter Tryz.func186, Tryz.ntmps186
 go_wp2
 all_goals (go_ret; refine ⟨ret_bool ?_, rfl⟩; unfold nearOp; rw [Bool.eq_iff_iff]; simp) <;> omega

theorem arg_var {op arg n : Int} (h : argF ⟨op, arg⟩ n = true) (ho : op = 5 ∨ op = 12) : 0 ≤ arg ∧ arg < n := by
 unfold argF at h
 rcases ho with rfl | rfl <;> simpa using h

set_option maxRecDepth 100000 in
theorem tleaf_any (ev : Value) (A : Option Addr) (c : Nat) (kinds : List Int) (t : Term) (w : World) (h : IntsR w A kinds.length kinds) (ha : argF t kinds.length = true) :
  Calls Tryz.prog 187 #[.agg #[ev, .slice A kinds.length c], .agg #[.int .i64 t.op, .int .i64 t.arg]] w fun e w' => e = .returned (.int .i64 (leafK kinds t)) ∧ Bel w w' := by
 obtain ⟨op, arg⟩ := t
 by_cases ho : op = 5 ∨ op = 12
 ·obtain ⟨h0, h1⟩ := arg_var ha ho
  obtain ⟨a, rfl⟩ := Int.eq_ofNat_of_zero_le h0
  have hlt : a < kinds.length := by omega
  obtain ⟨b, o, rfl, hb, hc⟩ := h.at_ a hlt
  have HF : Hid (leafK kinds ⟨op, (a : Int)⟩ = kinds[a]) := by
   show leafK kinds ⟨op, (a : Int)⟩ = kinds[a]
   unfold leafK
   rcases ho with rfl | rfl <;> simp [hlt]
  clear h ha h0 h1
  rcases ho with rfl | rfl
  all_goals
   go_enter Tryz.func187, Tryz.ntmps187
   go_wp2
   go_ret
   exact ⟨ret_int HF.out.symm, ((Bel.refl _).alloc _).alloc _⟩
 ·have h5 : (op == 5) = false := by simp; omega
  have h12 : (op == 12) = false := by simp; omega
  clear h ha
  go_enter Tryz.func187, Tryz.ntmps187
  go_wp2
  all_goals (try simp only [beq_iff_eq, beq_eq_false_iff_ne] at *)
  all_goals (go_ret; refine ⟨ret_int ?_, ((Bel.refl _).alloc _).alloc _⟩; unfold leafK; dsimp only; repeat' split) <;> omega

set_option maxRecDepth 100000 in
theorem refTleaf_any (A : Option Addr) (c : Nat) (kinds : List Int) (t : Term) (bound : Bool) (w : World) (h : IntsR w A kinds.length kinds) (ha : argF t kinds.length = true) (har : arity t.op = 0) :
  Calls Tryz.prog 163 #[.agg #[.int .i64 t.op, .int .i64 t.arg], .slice A kinds.length c, .bool bound] w fun e w' => e = .returned (.int .i64 (kindF kinds bound (.leaf t))) ∧ Bel w w' := by
 obtain ⟨op, arg⟩ := t
 have hr : 1 ≤ op ∧ op ≤ 17 := by
  unfold arity at har
  simp only [] at har
  repeat' split at har
  all_goals omega
 by_cases ho : op = 5 ∨ op = 12 ∧ bound = true
 ·obtain ⟨h0, h1⟩ := arg_var ha (by omega)
  obtain ⟨a, rfl⟩ := Int.eq_ofNat_of_zero_le h0
  have hlt : a < kinds.length := by omega
  obtain ⟨b, o, rfl, hb, hc⟩ := h.at_ a hlt
  have HF : Hid (kindF kinds bound (.leaf ⟨op, (a : Int)⟩) = kinds[a]) := by
   show kindF kinds bound (.leaf ⟨op, (a : Int)⟩) = kinds[a]
   unfold kindF leafK
   rcases ho with rfl | ⟨rfl, rfl⟩ <;> simp [hlt, nearOp]
  clear h ha h0 h1 har hr
  rcases ho with rfl | ⟨rfl, rfl⟩
  ·cases bound
   all_goals
    go_enter Tryz.func163, Tryz.ntmps163
    go_wp2
    go_ret
    exact ⟨ret_int HF.out.symm, (Bel.refl _).alloc _⟩
  ·go_enter Tryz.func163, Tryz.ntmps163
   go_wp2
   go_ret
   exact ⟨ret_int HF.out.symm, (Bel.refl _).alloc _⟩
 ·have h5 : (op == 5) = false := by simp; exact fun h => ho (.inl h)
  obtain ⟨hr1, hr2⟩ := hr
  clear h ha har
  cases bound with
  | true =>
   have h12 : (op == 12) = false := by simp; exact fun h => ho (.inr ⟨h, rfl⟩)
   clear ho
   go_enter Tryz.func163, Tryz.ntmps163
   go_wp2
   all_goals (try simp only [beq_iff_eq, beq_eq_false_iff_ne] at *)
   all_goals (go_ret; refine ⟨ret_int ?_, (Bel.refl _).alloc _⟩; unfold kindF leafK nearOp; simp only [Bool.not_true, Bool.and_false, Bool.false_eq_true, if_false]; repeat' split) <;> omega
  | false =>
   by_cases hnear : 11 ≤ op
   ·have hd : decide (12 ≤ op) = true ∨ op = 11 := by simp; omega
    have HF : Hid (kindF kinds false (.leaf ⟨op, arg⟩) = 0) := by
     show kindF kinds false (.leaf ⟨op, arg⟩) = 0
     unfold kindF nearOp
     simp [hnear, hr2]
    go_enter Tryz.func163, Tryz.ntmps163
    go_wp2
    all_goals (try simp only [beq_iff_eq, beq_eq_false_iff_ne] at *)
    all_goals first
     | (go_ret; exact ⟨ret_int HF.out.symm, (Bel.refl _).alloc _⟩)
     | (exfalso; omega)
   ·have h11 : (op == 11) = false := by simp; omega
    have h12 : decide (12 ≤ op) = false := by simp; omega
    have h12' : (op == 12) = false := by simp; omega
    have h15' : (op == 15) = false := by simp; omega
    have h17' : (op == 17) = false := by simp; omega
    clear ho
    go_enter Tryz.func163, Tryz.ntmps163
    go_wp2
    all_goals (try simp only [beq_iff_eq, beq_eq_false_iff_ne] at *)
    all_goals (go_ret; refine ⟨ret_int ?_, (Bel.refl _).alloc _⟩; unfold kindF leafK nearOp; simp only [show decide (11 ≤ op ∧ op ≤ 17) = false by simp; omega, Bool.false_and, Bool.false_eq_true, if_false]; repeat' split) <;> omega

theorem refSingle_any (op a : Int) (w : World) : Calls Tryz.prog 164 #[.int .i64 op, .int .i64 a] w fun e w' => e = .returned (.int .i64 (singleK op a)) ∧ w = w' := by
 go_enter Tryz.func164, Tryz.ntmps164
 go_wp2
 all_goals (try simp only [beq_iff_eq, beq_eq_false_iff_ne, bne_iff_ne, bne_eq_false_iff_eq] at *)
 all_goals (go_ret; refine ⟨ret_int ?_, rfl⟩; unfold singleK ifK; (try simp only [beq_iff_eq]); repeat' split) <;> omega
theorem refDouble_any (op a b : Int) (w : World) (h1 : 30 ≤ op) (h2 : op ≤ 42) : Calls Tryz.prog 165 #[.int .i64 op, .int .i64 a, .int .i64 b] w fun e w' => e = .returned (.int .i64 (doubleK op a b)) ∧ w = w' := by
 go_enter Tryz.func165, Tryz.ntmps165
 go_wp2
 all_goals (try simp only [beq_iff_eq, beq_eq_false_iff_ne, bne_iff_ne, bne_eq_false_iff_eq] at *)
 all_goals (go_ret; refine ⟨ret_int ?_, rfl⟩; unfold doubleK ifK; (try simp only [Bool.and_eq_true, beq_iff_eq, bne_iff_ne]); repeat' split) <;> first | omega | simp_all

end Go.Proofs.YtgemlgpjbclonaaGreatDoor

/- Contracts: result and read of types. -/
namespace Go.Proofs.YtgemlgpjbclonaaGreatDoor
open Go.RowKit

def resultK (op a b c : Int) : Int := if op ≤ 29 then singleK op a else if op ≤ 42 then doubleK op a b else ifK (a == 2 && b == c) b
def Ex.kids : Ex → List Ex
 | .leaf _ => []
 | .un _ a => [a]
 | .bin _ a b => [a, b]
 | .tri _ a b c => [a, b, c]
def Ex.head : Ex → Term
 | .leaf t => t
 | .un t _ => t
 | .bin t _ _ => t
 | .tri t _ _ _ => t
theorem arity_bounds (op : Int) : (arity op = 0 → 1 ≤ op ∧ op ≤ 17) ∧ (arity op = 1 → 18 ≤ op ∧ op ≤ 29) ∧ (arity op = 2 → 30 ≤ op ∧ op ≤ 42) ∧ (arity op = 3 → op = 43) := by
 unfold arity
 repeat' split
 all_goals omega
theorem kids_kind {kinds : List Int} {bound : Bool} {x : Ex} (h : x.ok) (hk : x.kids ≠ []) :
  kindF kinds bound x = resultK x.head.op ((x.kids.map (kindF kinds (bound || aggregate x.head.op))).getD 0 0) ((x.kids.map (kindF kinds (bound || aggregate x.head.op))).getD 1 0) ((x.kids.map (kindF kinds (bound || aggregate x.head.op))).getD 2 0) := by
 cases x with
 | leaf t => exact absurd rfl hk
 | un t a =>
  obtain ⟨h1, _⟩ := h
  have := (arity_bounds t.op).2.1 h1
  simp [Ex.kids, Ex.head, kindF, resultK, this.2]
 | bin t a b =>
  obtain ⟨h1, _⟩ := h
  have := (arity_bounds t.op).2.2.1 h1
  have ha : aggregate t.op = false := agg_false (by omega)
  simp [Ex.kids, Ex.head, kindF, resultK, this.2, show ¬ t.op ≤ 29 by omega, ha]
 | tri t a b c =>
  obtain ⟨h1, _⟩ := h
  have := (arity_bounds t.op).2.2.2 h1
  have ha : aggregate t.op = false := agg_false (by omega)
  simp [Ex.kids, Ex.head, kindF, resultK, show ¬ t.op ≤ 29 by omega, show ¬ t.op ≤ 42 by omega, ha]
theorem kids_arity {x : Ex} (h : x.ok) : arity x.head.op = (x.kids.length : Int) := by
 cases x with
 | leaf t => exact h
 | un t a => exact h.1
 | bin t a b => exact h.1
 | tri t a b c => exact h.1
def lens (l : List Ex) : Nat := (l.map Ex.len).sum
theorem kids_at {es : List Term} {k : Nat} {x : Ex} (h : x.At es k) : es[k]? = some x.head ∧ (∀ j, (hj : j < x.kids.length) → x.kids[j].At es (k + 1 + lens (x.kids.take j))) ∧ x.len = 1 + lens x.kids := by
 cases x with
 | leaf t => exact ⟨(At.leaf h).1, fun j hj => absurd hj (by simp [Ex.kids]), by simp [Ex.len, Ex.terms, lens, Ex.kids]⟩
 | un t a =>
  obtain ⟨h1, h2, h3⟩ := At.un h
  refine ⟨h1, fun j hj => ?_, by simp [Ex.len, Ex.terms, lens, Ex.kids]; omega⟩
  simp [Ex.kids] at hj
  subst hj
  simpa [Ex.kids, lens] using h3
 | bin t a b =>
  obtain ⟨h1, h2, h3, h4⟩ := At.bin h
  refine ⟨h1, fun j hj => ?_, by simp [Ex.len, Ex.terms, lens, Ex.kids]; omega⟩
  rcases (show j = 0 ∨ j = 1 by simp [Ex.kids] at hj; omega) with rfl | rfl
  ·simpa [Ex.kids, lens] using h3
  ·simpa [Ex.kids, lens] using h4
 | tri t a b c =>
  obtain ⟨h1, h2, h3, h4, h5⟩ := At.tri h
  refine ⟨h1, fun j hj => ?_, by simp [Ex.len, Ex.terms, lens, Ex.kids]; omega⟩
  rcases (show j = 0 ∨ j = 1 ∨ j = 2 by simp [Ex.kids] at hj; omega) with rfl | rfl | rfl
  ·simpa [Ex.kids, lens] using h3
  ·simpa [Ex.kids, lens] using h4
  ·have e : k + 1 + (a.len + b.len) = k + 1 + a.len + b.len := by omega
   simpa [Ex.kids, lens, e] using h5
theorem Ex.kids_induct {P : Ex → Prop} (h : ∀ x : Ex, (∀ y ∈ x.kids, P y) → P x) (x : Ex) : P x := by
 induction x with
 | leaf t => exact h _ (fun y hy => by simp [Ex.kids] at hy)
 | un t a ih => exact h _ (fun y hy => by simp [Ex.kids] at hy; subst hy; exact ih)
 | bin t a b iha ihb => exact h _ (fun y hy => by simp [Ex.kids] at hy; rcases hy with rfl | rfl <;> assumption)
 | tri t a b c iha ihb ihc => exact h _ (fun y hy => by simp [Ex.kids] at hy; rcases hy with rfl | rfl | rfl <;> assumption)
theorem kids_le (x : Ex) : x.kids.length ≤ 3 := by cases x <;> simp [Ex.kids]

set_option maxRecDepth 100000 in
set_option maxHeartbeats 2000000 in
theorem result_any (op a b c : Int) (w : World) (h1 : 18 ≤ op) (h2 : op ≤ 43) :
  Calls Tryz.prog 188 #[.int .i64 op, .agg #[.int .i64 a, .int .i64 b, .int .i64 c]] w fun e w' => e = .returned (.int .i64 (resultK op a b c)) ∧ Bel w w' := by
 have hi : ∀ j, j < 3 → True := fun _ _ => trivial
 clear hi
 go_enter Tryz.func188, Tryz.ntmps188
 go_wp2
 go_quiet (fail)
 go_wp2_with (go_at_call 190; refine (ifTrue_any _ _ _).mono ?_; rintro e w' ⟨rfl, rfl⟩)
 all_goals (try simp only [beq_iff_eq, beq_eq_false_iff_ne, bne_iff_ne, bne_eq_false_iff_eq] at *)
 all_goals (go_ret; refine ⟨ret_int ?_, ((Bel.refl _).alloc _).drewN _⟩; (by_cases h43 : op = 43); (all_goals first | (exfalso; omega) | (subst h43; simp_all [resultK, ifK]; done) | (simp_all [resultK, singleK, doubleK, ifK]; done) | (simp_all [resultK, singleK, doubleK, ifK]; omega)))

end Go.Proofs.YtgemlgpjbclonaaGreatDoor

