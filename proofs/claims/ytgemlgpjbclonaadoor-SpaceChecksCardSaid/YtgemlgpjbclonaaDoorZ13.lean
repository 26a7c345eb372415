/- Merged of: WTg WN WNb WTh (see NOTES.md). -/
import Derived.Test.YtgemlgpjbclonaaDoorZ12
import Derived.Deep.RegionHeld3
import Derived.Test.YtgemlgpjbclonaaDoorZ08
set_option linter.unusedSimpArgs false
set_option linter.unnecessarySimpa false
set_option linter.unusedVariables false

/- Contracts: the reference's Kinds; typed, of the program and of the reference. -/
namespace Go.Proofs.YtgemlgpjbclonaaDoor
open Go.RowKit

theorem Bel.pushB {w wr w' : World} {base : Nat} {e : TypeId} {size : Nat} {v : Value} {n : Nat} {xs : List Value} (h : Bel w wr) (ho : wr.ownsRow base e size v n xs) (hb : w.heap.size ≤ base) (hg : wr.grownBy w' v.ownBlock) : Bel w w' :=
  h.grown hg (fun k hk => Nat.le_trans hb (ho.lt k hk).1)


def formedF (vars : Nat) (r : Rule) : Bool :=
  decide (1 ≤ r.sets.length ∧ r.sets.length ≤ 6) && validF r.guard vars && r.sets.all (fun s => decide (0 ≤ s.var ∧ s.var ≤ (vars : Int) - 1) && validF s.value vars) && decide ((r.sets.map SetT.var).Nodup)
def typedF (kinds : List Int) (r : Rule) : Bool := (kindF kinds false (treeOf r.guard) == 2) && r.sets.all (fun s => kindF kinds false (treeOf s.value) == kinds.getD s.var.toNat 0)
structure FOK (vars : Nat) (r : Rule) : Prop where
  pos : 1 ≤ r.sets.length
  le : r.sets.length ≤ 6
  guard : validF r.guard vars = true
  sets : ∀ s ∈ r.sets, (0 ≤ s.var ∧ s.var ≤ (vars : Int) - 1) ∧ validF s.value vars = true
  diff : (r.sets.map SetT.var).Nodup
theorem formedF_iff (vars : Nat) (r : Rule) : formedF vars r = true ↔ FOK vars r := by
  unfold formedF
  simp only [Bool.and_eq_true, decide_eq_true_eq, List.all_eq_true]
  constructor
  · rintro ⟨⟨⟨⟨h1, h2⟩, h3⟩, h4⟩, h5⟩
    exact ⟨h1, h2, h3, h4, h5⟩
  · rintro ⟨h1, h2, h3, h4, h5⟩
    exact ⟨⟨⟨⟨h1, h2⟩, h3⟩, h4⟩, h5⟩
theorem of_kind {es : List Term} {kinds : List Int} (h6 : kinds.length ≤ 6) (hk : kinds.all knownK = true) (hv : validF es kinds.length = true) : (ofF es kinds false).1 = kindF kinds false (treeOf es) := by
  unfold ofF
  rw [if_neg (by omega), if_neg (by rw [hk]; decide), if_neg (by rw [hv]; decide)]
  split
  · rename_i h; rw [h]
  · rfl

set_option maxRecDepth 100000 in
set_option maxHeartbeats 2000000 in
theorem typed_any (v : Value) (r : Rule) (K : Option Addr) (ck : Nat) (kinds : List Int) (w : World) (h : RuleV w v r) (hK : IntsR w K kinds.length kinds) (h6 : kinds.length ≤ 6) (hk : kinds.all knownK = true) (hf : FOK kinds.length r) (hL : lightR r = true) :
    Calls Tryd.prog 60 #[v, .slice K kinds.length ck] w fun e w' => e = .returned (.bool (typedF kinds r)) ∧ Bel w w' := by
  obtain ⟨G, c, S, c2, rfl, hG, _, _, hS, _, _⟩ := h
  have HG := Lib.hid (fun w' (k : Bel w w') => TermsR.keep hG k); clear hG
  have HS := Lib.hid (fun w' (k : Bel w w') => SetsR.keep hS k); clear hS
  have HK := Lib.hid (fun w' (k : Bel w w') => IntsR.keep hK k); clear hK
  obtain ⟨_, l2, l3, l4⟩ := lightR_parts hL
  have HL4 := Lib.hid l4; clear l4
  have HOg := Lib.hid (of_kind h6 hk hf.guard)
  have HFS := Lib.hid hf.sets
  have HKK := Lib.hid hk
  have HB := Bel.refl (w.alloc (.cells #[.string r.name, .slice G r.guard.length c, .slice S r.sets.length c2] 58))
  clear hL hf hk
  by_cases hg : kindF kinds false (treeOf r.guard) = 2
  · have hgb : (kindF kinds false (treeOf r.guard) != 2) = false := by simp [hg]
    have HGG := Lib.hid hg; clear hg
    go_enter Tryd.func60, Tryd.ntmps60
    go_wp2_with (go_at_call 69; refine (of_any _ _ r.guard _ _ kinds _ _ (HG.out _ (box_bel HB)) (HK.out _ (box_bel HB)) (by omega)).mono ?_; rintro e w' ⟨rfl, hb⟩; rw [HOg.out]; replace HB := HB.trans hb; clear hb; have q1 := box_cell HB 2 rfl; have q2 := box_lt HB)
    clear q1 q2 hgb
    go_loopg [8, 9, 10, 23] r.sets.length (fun m _x _y _u z wr => ∃ j : Nat, j ≤ r.sets.length ∧ m = r.sets.length - j ∧ z = .int .i64 j ∧ Hid ((r.sets.take j).all (fun s => kindF kinds false (treeOf s.value) == kinds.getD s.var.toNat 0) = true) ∧ Bel (w.alloc (.cells #[.string r.name, .slice G r.guard.length c, .slice S r.sets.length c2] 58)) wr)
    case atStart => exact ⟨0, by omega, rfl, rfl, rfl, HB⟩
    case round =>
      clear HB
      obtain ⟨j, hj, rfl, rfl, HJ, HB⟩ := hrel
      by_cases hlt : j < r.sets.length
      · have hd0 : decide (j < r.sets.length) = true := by simpa using hlt
        obtain ⟨⟨f1, f2⟩, f3⟩ := HFS.out _ (List.getElem_mem hlt)
        have hlen := HL4.out _ (List.getElem_mem hlt)
        have HOs := Lib.hid (of_kind h6 HKK.out f3)
        obtain ⟨a, ha⟩ := Int.eq_ofNat_of_zero_le f1
        have hak : a < kinds.length := by omega
        have HAK : Hid (kinds.getD r.sets[j].var.toNat 0 = kinds[a]) := by show kinds.getD r.sets[j].var.toNat 0 = _; rw [ha, Int.toNat_natCast, getD_eq hak]
        obtain ⟨b, o, R, c', rfl, hb, s1, s2, hTv, _, _⟩ := (HS.out _ (box_bel HB)).at_ j hlt
        rw [ha] at s1
        have HTv := Lib.hid (fun w' (k : Bel wr w') => TermsR.keep hTv k); clear hTv
        have HAE := Lib.hid ha
        clear f1 f2 f3 ha
        have HB2 := Bel.refl (wr.alloc (.cells #[.int .i64 (a : Int), .slice R r.sets[j].value.length c'] 55))
        go_wp2_with fail
        refine (of_any _ _ r.sets[j].value _ _ kinds _ _ (HTv.out _ (box_bel HB2)) (HK.out _ ((box_bel HB).trans (box_bel HB2))) (by omega)).mono ?_
        rintro e w' ⟨rfl, hb⟩
        rw [HOs.out]
        replace HB2 := HB2.trans hb
        clear hb
        have q1 := box_cell HB2 0 rfl
        have q2 := box_lt HB2
        obtain ⟨bk, ok, rfl, hbk, ck1⟩ := (HK.out _ ((box_bel HB).trans (box_bel HB2))).at_ a hak
        by_cases he : kindF kinds false (treeOf r.sets[j].value) = kinds[a]
        · have heb : (kindF kinds false (treeOf r.sets[j].value) != kinds[a]) = false := by simpa using he
          have HN := Lib.hid (all_take_succ hlt HJ.out (by simp only [HAK.out, he, BEq.rfl]))
          clear he
          go_wp2_with fail
          go_roundg (r.sets.length - (j + 1))
          case rel => exact ⟨j + 1, by omega, rfl, by go_num, HN, HB.trans (box_bel HB2)⟩
          case measure => omega
        · have heb : (kindF kinds false (treeOf r.sets[j].value) != kinds[a]) = true := by simpa using he
          have HF : Hid (typedF kinds r = false) := by
            show typedF kinds r = false
            unfold typedF
            rw [all_false_at hlt (by rw [HAK.out]; simpa using he)]; simp
          clear he
          go_wp2_with fail
          go_ret
          exact ⟨ret_bool HF.out.symm, (box_bel HB).trans (box_bel HB2)⟩
      · have hd0 : decide (j < r.sets.length) = false := by simpa using hlt
        have HF : Hid (typedF kinds r = true) := by
          show typedF kinds r = true
          unfold typedF
          rw [all_of_take (by omega) HJ.out, HGG.out]; rfl
        go_wp2_with fail
        go_ret
        exact ⟨ret_bool HF.out.symm, box_bel HB⟩
  · have hgb : (kindF kinds false (treeOf r.guard) != 2) = true := by simp [hg]
    have HF : Hid (typedF kinds r = false) := by
      show typedF kinds r = false
      unfold typedF
      rw [show (kindF kinds false (treeOf r.guard) == 2) = false by simpa using hg]; rfl
    clear hg
    go_enter Tryd.func60, Tryd.ntmps60
    go_wp2_with (go_at_call 69; refine (of_any _ _ r.guard _ _ kinds _ _ (HG.out _ (box_bel HB)) (HK.out _ (box_bel HB)) (by omega)).mono ?_; rintro e w' ⟨rfl, hb⟩; rw [HOg.out]; replace HB := HB.trans hb; clear hb)
    go_ret
    exact ⟨ret_bool HF.out.symm, box_bel HB⟩


end Go.Proofs.YtgemlgpjbclonaaDoor

/- Contracts: names. -/
namespace Go.Proofs.YtgemlgpjbclonaaDoor
open Go.RowKit

def letterB (c : UInt8) : Bool := decide ((97 ≤ (c.toNat : Int) ∧ (c.toNat : Int) ≤ 122) ∨ (65 ≤ (c.toNat : Int) ∧ (c.toNat : Int) ≤ 90))
def digitB (c : UInt8) : Bool := decide (48 ≤ (c.toNat : Int) ∧ (c.toNat : Int) ≤ 57)
def inWordB (c : UInt8) : Bool := letterB c || digitB c || decide ((c.toNat : Int) = 95)

theorem letter_any (c : UInt8) (w : World) : Calls Tryd.prog 77 #[.int .u8 (c.toNat : Int)] w fun e w' => e = .returned (.bool (letterB c)) ∧ w = w' := by
  go_enter Tryd.func77, Tryd.ntmps77
  go_wp2
  all_goals (go_ret; refine ⟨ret_bool ?_, rfl⟩; unfold letterB; rw [Bool.eq_iff_iff]; simp) <;> omega
theorem digit_any (c : UInt8) (w : World) : Calls Tryd.prog 90 #[.int .u8 (c.toNat : Int)] w fun e w' => e = .returned (.bool (digitB c)) ∧ w = w' := by
  go_enter Tryd.func90, Tryd.ntmps90
  go_wp2
  all_goals (go_ret; refine ⟨ret_bool ?_, rfl⟩; unfold digitB; rw [Bool.eq_iff_iff]; simp) <;> omega
theorem inWord_any (c : UInt8) (w : World) : Calls Tryd.prog 78 #[.int .u8 (c.toNat : Int)] w fun e w' => e = .returned (.bool (inWordB c)) ∧ w = w' := by
  cases h1 : letterB c <;> cases h2 : digitB c
  all_goals
    have HF := Lib.hid (show inWordB c = (letterB c || digitB c || decide ((c.toNat : Int) = 95)) from rfl)
    rw [h1, h2] at HF
    go_enter Tryd.func78, Tryd.ntmps78
    go_wp2_with (first
      | (go_at_call 77; refine (letter_any _ _).mono ?_; rintro e w' ⟨rfl, rfl⟩)
      | (go_at_call 90; refine (digit_any _ _).mono ?_; rintro e w' ⟨rfl, rfl⟩))
    all_goals (go_ret; refine ⟨ret_bool ?_, rfl⟩; rw [HF.out]; simp; try (rw [Bool.eq_iff_iff]; simp))

def wordsL : List (List UInt8) := [[112, 114, 111, 103, 114, 97, 109], [118, 97, 114], [114, 117, 108, 101], [98, 111, 111, 108], [112, 111, 114, 116], [116, 114, 117, 101], [102, 97, 108, 115, 101], [110, 111, 110, 101], [110], [105, 100, 115], [105, 100], [100, 101, 103], [114, 111, 111, 116], [113], [119, 101, 105, 103, 104, 116], [98, 97, 99, 107], [97, 108, 108], [115, 111, 109, 101], [99, 111, 117, 110, 116], [102, 105, 114, 115, 116], [109, 105, 110], [109, 97, 120], [115, 117, 109], [109, 101, 120], [115, 101, 99, 111, 110, 100], [104, 101, 97, 100]]
def reservedB (s : ByteArray) : Bool := wordsL.any fun l => s.toList == l
set_option maxRecDepth 100000 in
set_option maxHeartbeats 2000000 in
theorem reserved_any (s : ByteArray) (w : World) : Calls Tryd.prog 79 #[.string s] w fun e w' => e = .returned (.bool (reservedB s)) ∧ w = w' := by
  have HR : Hid (reservedB s = ((s.toList == [112, 114, 111, 103, 114, 97, 109]) || ((s.toList == [118, 97, 114]) || ((s.toList == [114, 117, 108, 101]) || ((s.toList == [98, 111, 111, 108]) || ((s.toList == [112, 111, 114, 116]) || ((s.toList == [116, 114, 117, 101]) || ((s.toList == [102, 97, 108, 115, 101]) || ((s.toList == [110, 111, 110, 101]) || ((s.toList == [110]) || ((s.toList == [105, 100, 115]) || ((s.toList == [105, 100]) || ((s.toList == [100, 101, 103]) || ((s.toList == [114, 111, 111, 116]) || ((s.toList == [113]) || ((s.toList == [119, 101, 105, 103, 104, 116]) || ((s.toList == [98, 97, 99, 107]) || ((s.toList == [97, 108, 108]) || ((s.toList == [115, 111, 109, 101]) || ((s.toList == [99, 111, 117, 110, 116]) || ((s.toList == [102, 105, 114, 115, 116]) || ((s.toList == [109, 105, 110]) || ((s.toList == [109, 97, 120]) || ((s.toList == [115, 117, 109]) || ((s.toList == [109, 101, 120]) || ((s.toList == [115, 101, 99, 111, 110, 100]) || ((s.toList == [104, 101, 97, 100])))))))))))))))))))))))))))) := by
    show reservedB s = _
    simp only [reservedB, wordsL, List.any_cons, List.any_nil, Bool.or_false]
  obtain ⟨b0, h0⟩ : ∃ b, (s.toList == [112, 114, 111, 103, 114, 97, 109]) = b := ⟨_, rfl⟩
  obtain ⟨b1, h1⟩ : ∃ b, (s.toList == [118, 97, 114]) = b := ⟨_, rfl⟩
  obtain ⟨b2, h2⟩ : ∃ b, (s.toList == [114, 117, 108, 101]) = b := ⟨_, rfl⟩
  obtain ⟨b3, h3⟩ : ∃ b, (s.toList == [98, 111, 111, 108]) = b := ⟨_, rfl⟩
  obtain ⟨b4, h4⟩ : ∃ b, (s.toList == [112, 111, 114, 116]) = b := ⟨_, rfl⟩
  obtain ⟨b5, h5⟩ : ∃ b, (s.toList == [116, 114, 117, 101]) = b := ⟨_, rfl⟩
  obtain ⟨b6, h6⟩ : ∃ b, (s.toList == [102, 97, 108, 115, 101]) = b := ⟨_, rfl⟩
  obtain ⟨b7, h7⟩ : ∃ b, (s.toList == [110, 111, 110, 101]) = b := ⟨_, rfl⟩
  obtain ⟨b8, h8⟩ : ∃ b, (s.toList == [110]) = b := ⟨_, rfl⟩
  obtain ⟨b9, h9⟩ : ∃ b, (s.toList == [105, 100, 115]) = b := ⟨_, rfl⟩
  obtain ⟨b10, h10⟩ : ∃ b, (s.toList == [105, 100]) = b := ⟨_, rfl⟩
  obtain ⟨b11, h11⟩ : ∃ b, (s.toList == [100, 101, 103]) = b := ⟨_, rfl⟩
  obtain ⟨b12, h12⟩ : ∃ b, (s.toList == [114, 111, 111, 116]) = b := ⟨_, rfl⟩
  obtain ⟨b13, h13⟩ : ∃ b, (s.toList == [113]) = b := ⟨_, rfl⟩
  obtain ⟨b14, h14⟩ : ∃ b, (s.toList == [119, 101, 105, 103, 104, 116]) = b := ⟨_, rfl⟩
  obtain ⟨b15, h15⟩ : ∃ b, (s.toList == [98, 97, 99, 107]) = b := ⟨_, rfl⟩
  obtain ⟨b16, h16⟩ : ∃ b, (s.toList == [97, 108, 108]) = b := ⟨_, rfl⟩
  obtain ⟨b17, h17⟩ : ∃ b, (s.toList == [115, 111, 109, 101]) = b := ⟨_, rfl⟩
  obtain ⟨b18, h18⟩ : ∃ b, (s.toList == [99, 111, 117, 110, 116]) = b := ⟨_, rfl⟩
  obtain ⟨b19, h19⟩ : ∃ b, (s.toList == [102, 105, 114, 115, 116]) = b := ⟨_, rfl⟩
  obtain ⟨b20, h20⟩ : ∃ b, (s.toList == [109, 105, 110]) = b := ⟨_, rfl⟩
  obtain ⟨b21, h21⟩ : ∃ b, (s.toList == [109, 97, 120]) = b := ⟨_, rfl⟩
  obtain ⟨b22, h22⟩ : ∃ b, (s.toList == [115, 117, 109]) = b := ⟨_, rfl⟩
  obtain ⟨b23, h23⟩ : ∃ b, (s.toList == [109, 101, 120]) = b := ⟨_, rfl⟩
  obtain ⟨b24, h24⟩ : ∃ b, (s.toList == [115, 101, 99, 111, 110, 100]) = b := ⟨_, rfl⟩
  obtain ⟨b25, h25⟩ : ∃ b, (s.toList == [104, 101, 97, 100]) = b := ⟨_, rfl⟩
  rw [h0, h1, h2, h3, h4, h5, h6, h7, h8, h9, h10, h11, h12, h13, h14, h15, h16, h17, h18, h19, h20, h21, h22, h23, h24, h25] at HR
  go_enter Tryd.func79, Tryd.ntmps79
  cases b0 with
  | true =>
    go_wp2
    go_ret
    exact ⟨ret_bool (by rw [HR.out]; simp), rfl⟩
  | false =>
  cases b1 with
  | true =>
    go_wp2
    go_ret
    exact ⟨ret_bool (by rw [HR.out]; simp), rfl⟩
  | false =>
  cases b2 with
  | true =>
    go_wp2
    go_ret
    exact ⟨ret_bool (by rw [HR.out]; simp), rfl⟩
  | false =>
  cases b3 with
  | true =>
    go_wp2
    go_ret
    exact ⟨ret_bool (by rw [HR.out]; simp), rfl⟩
  | false =>
  cases b4 with
  | true =>
    go_wp2
    go_ret
    exact ⟨ret_bool (by rw [HR.out]; simp), rfl⟩
  | false =>
  cases b5 with
  | true =>
    go_wp2
    go_ret
    exact ⟨ret_bool (by rw [HR.out]; simp), rfl⟩
  | false =>
  cases b6 with
  | true =>
    go_wp2
    go_ret
    exact ⟨ret_bool (by rw [HR.out]; simp), rfl⟩
  | false =>
  cases b7 with
  | true =>
    go_wp2
    go_ret
    exact ⟨ret_bool (by rw [HR.out]; simp), rfl⟩
  | false =>
  cases b8 with
  | true =>
    go_wp2
    go_ret
    exact ⟨ret_bool (by rw [HR.out]; simp), rfl⟩
  | false =>
  cases b9 with
  | true =>
    go_wp2
    go_ret
    exact ⟨ret_bool (by rw [HR.out]; simp), rfl⟩
  | false =>
  cases b10 with
  | true =>
    go_wp2
    go_ret
    exact ⟨ret_bool (by rw [HR.out]; simp), rfl⟩
  | false =>
  cases b11 with
  | true =>
    go_wp2
    go_ret
    exact ⟨ret_bool (by rw [HR.out]; simp), rfl⟩
  | false =>
  cases b12 with
  | true =>
    go_wp2
    go_ret
    exact ⟨ret_bool (by rw [HR.out]; simp), rfl⟩
  | false =>
  cases b13 with
  | true =>
    go_wp2
    go_ret
    exact ⟨ret_bool (by rw [HR.out]; simp), rfl⟩
  | false =>
  cases b14 with
  | true =>
    go_wp2
    go_ret
    exact ⟨ret_bool (by rw [HR.out]; simp), rfl⟩
  | false =>
  cases b15 with
  | true =>
    go_wp2
    go_ret
    exact ⟨ret_bool (by rw [HR.out]; simp), rfl⟩
  | false =>
  cases b16 with
  | true =>
    go_wp2
    go_ret
    exact ⟨ret_bool (by rw [HR.out]; simp), rfl⟩
  | false =>
  cases b17 with
  | true =>
    go_wp2
    go_ret
    exact ⟨ret_bool (by rw [HR.out]; simp), rfl⟩
  | false =>
  cases b18 with
  | true =>
    go_wp2
    go_ret
    exact ⟨ret_bool (by rw [HR.out]; simp), rfl⟩
  | false =>
  cases b19 with
  | true =>
    go_wp2
    go_ret
    exact ⟨ret_bool (by rw [HR.out]; simp), rfl⟩
  | false =>
  cases b20 with
  | true =>
    go_wp2
    go_ret
    exact ⟨ret_bool (by rw [HR.out]; simp), rfl⟩
  | false =>
  cases b21 with
  | true =>
    go_wp2
    go_ret
    exact ⟨ret_bool (by rw [HR.out]; simp), rfl⟩
  | false =>
  cases b22 with
  | true =>
    go_wp2
    go_ret
    exact ⟨ret_bool (by rw [HR.out]; simp), rfl⟩
  | false =>
  cases b23 with
  | true =>
    go_wp2
    go_ret
    exact ⟨ret_bool (by rw [HR.out]; simp), rfl⟩
  | false =>
  cases b24 with
  | true =>
    go_wp2
    go_ret
    exact ⟨ret_bool (by rw [HR.out]; simp), rfl⟩
  | false =>
  cases b25 with
  | true =>
    go_wp2
    go_ret
    exact ⟨ret_bool (by rw [HR.out]; simp), rfl⟩
  | false =>
  go_wp2
  go_ret
  exact ⟨ret_bool (by rw [HR.out]; rfl), rfl⟩

end Go.Proofs.YtgemlgpjbclonaaDoor

/- Contracts: Name, of the program and of the reference. -/
namespace Go.Proofs.YtgemlgpjbclonaaDoor
open Go.RowKit

def nameF (s : ByteArray) : Bool := decide (1 ≤ s.size ∧ s.size ≤ 24) && letterB (s.data.toList.headD 0) && s.data.toList.all inWordB && !reservedB s

theorem head_at (s : ByteArray) (h : 0 < s.size) : s.data.toList.headD 0 = s[0] := by
  have h' : 0 < s.data.toList.length := by simpa using h
  show s.data.toList.headD 0 = s.data.toList[0]
  match hl : s.data.toList, h' with
  | x :: l, _ => rfl
theorem bytes_at (s : ByteArray) (k : Nat) (h : k < s.size) : s.data.toList[k]'(by simpa using h) = s[k] := rfl

set_option maxRecDepth 100000 in
set_option maxHeartbeats 1000000 in
theorem name_any (s : ByteArray) (w : World) (hs : s.size ≤ 1000000) : Calls Tryd.prog 65 #[.string s] w fun e w' => e = .returned (.bool (nameF s)) ∧ w = w' := by
  by_cases hn : 1 ≤ s.size ∧ s.size ≤ 24
  · obtain ⟨hn1, hn2⟩ := hn
    have h0 : 0 < s.size := by omega
    have HF : Hid (nameF s = (letterB s[0] && s.data.toList.all inWordB && !reservedB s)) := by
      show nameF s = _
      unfold nameF
      rw [head_at s h0, show decide (1 ≤ s.size ∧ s.size ≤ 24) = true by simp; omega]; simp
    cases hl : letterB s[0] with
    | false =>
      rw [hl] at HF
      go_enter Tryd.func65, Tryd.ntmps65
      go_wp2_with (go_at_call 77; refine (letter_any s[0] _).mono ?_; rintro e w' ⟨rfl, rfl⟩)
      go_ret
      exact ⟨ret_bool (by rw [HF.out]; rfl), rfl⟩
    | true =>
      rw [hl] at HF
      go_enter Tryd.func65, Tryd.ntmps65
      go_wp2_with (go_at_call 77; refine (letter_any s[0] _).mono ?_; rintro e w' ⟨rfl, rfl⟩)
      go_loopg [3, 20] s.size (fun m _x z wr => ∃ j : Nat, j ≤ s.size ∧ m = s.size - j ∧ Hid ((s.data.toList.take j).all inWordB = true) ∧ z = .int .i64 j ∧ w = wr)
      case atStart => exact ⟨0, by omega, rfl, rfl, rfl, rfl⟩
      case round =>
        obtain ⟨j, hj, rfl, HK, rfl, rfl⟩ := hrel
        by_cases hlt : j < s.size
        · have hd0 : decide (j < s.size) = true := by simpa using hlt
          cases hw : inWordB s[j] with
          | false =>
            have HG := Lib.hid (all_false_at (f := inWordB) (l := s.data.toList) (by simpa using hlt) (show inWordB (s.data.toList[j]'(by simpa using hlt)) = false from hw))
            go_wp2_with (go_at_call 78; refine (inWord_any s[j] _).mono ?_; rintro e w' ⟨rfl, rfl⟩)
            go_ret
            exact ⟨ret_bool (by rw [HF.out, HG.out]; rfl), rfl⟩
          | true =>
            have HG := Lib.hid (all_take_succ (f := inWordB) (l := s.data.toList) (by simpa using hlt) HK.out (show inWordB (s.data.toList[j]'(by simpa using hlt)) = true from hw))
            go_wp2_with (go_at_call 78; refine (inWord_any s[j] _).mono ?_; rintro e w' ⟨rfl, rfl⟩)
            go_roundg (s.size - (j + 1))
            case rel => exact ⟨j + 1, by omega, rfl, HG, by go_num, rfl⟩
            case measure => omega
        · have hd0 : decide (j < s.size) = false := by simpa using hlt
          have HG := Lib.hid (all_of_take (f := inWordB) (l := s.data.toList) (by simp; omega) HK.out)
          rw [HG.out] at HF
          go_wp2_with (go_at_call 79; refine (reserved_any s _).mono ?_; rintro e w' ⟨rfl, rfl⟩)
          all_goals (go_ret; exact ⟨ret_bool (by rw [HF.out]; simp), rfl⟩)
  · have HF : Hid (nameF s = false) := by
      show nameF s = false
      unfold nameF
      rw [show decide (1 ≤ s.size ∧ s.size ≤ 24) = false by simpa using hn]; rfl
    rcases (show s.size = 0 ∨ 24 < s.size by omega) with h | h
    · have h' : s.size < 1 := by omega
      clear hn h
      go_enter Tryd.func65, Tryd.ntmps65
      go_wp2
      go_ret
      exact ⟨ret_bool HF.out.symm, rfl⟩
    · have h' : 1 ≤ s.size := by omega
      clear hn
      go_enter Tryd.func65, Tryd.ntmps65
      go_wp2
      go_ret
      exact ⟨ret_bool HF.out.symm, rfl⟩


end Go.Proofs.YtgemlgpjbclonaaDoor

/- Contracts: the reference's formed and named. -/
namespace Go.Proofs.YtgemlgpjbclonaaDoor
open Go.RowKit

theorem formedF_false {vars : Nat} {r : Rule} (h : ¬ FOK vars r) : formedF vars r = false := by
  rw [Bool.eq_false_iff]; intro hb; exact h ((formedF_iff vars r).1 hb)

theorem nodupT_take_succ {α : Type} {l : List α} {k : Nat} (h : k < l.length) (hn : (l.take k).Nodup) (hne : ∀ j (hj : j < k), l[j] ≠ l[k]) : (l.take (k + 1)).Nodup := by
  rw [List.take_succ_eq_append_getElem h, List.nodup_append]
  refine ⟨hn, by simp, ?_⟩
  intro a ha b hb
  simp at hb
  subst hb
  rw [List.mem_take_iff_getElem] at ha
  obtain ⟨j, hj, rfl⟩ := ha
  exact hne j (by omega)
theorem notT_nodup {α : Type} {l : List α} {j k : Nat} (hj : j < k) (hk : k < l.length) (he : l[j] = l[k]) : ¬ l.Nodup := by
  intro hn
  have := (List.nodup_iff_pairwise_ne.1 hn)
  rw [List.pairwise_iff_getElem] at this
  exact this j k (by omega) hk hj he


def namesF (l : List ByteArray) : Bool := l.all nameF && decide l.Nodup
def namedF (p : Prg) : Bool := nameF p.name && namesF (p.vars.map Var.name) && namesF (p.rules.map Rule.name)

end Go.Proofs.YtgemlgpjbclonaaDoor

