/- Merged of: PSd PSe WSm WSn (see NOTES.md). -/
import Derived.Test.YtibfjhhadbkkgaaGreatZ20
import Derived.Test.YtibfjhhadbkkgaaGreatZ23
import Derived.Test.YtibfjhhadbkkgaaGreatZ06
import Derived.Test.YtibfjhhadbkkgaaGreatZ11
set_option linter.unusedSimpArgs false
set_option linter.unnecessarySimpa false
set_option linter.unusedVariables false

/- Plain laws: configurations that are mixed at a node and its neighbours. -/
namespace Go.Proofs.YtibfjhhadbkkgaaGreat

def accF (S v : Nat) (b : Bool) : Nat := if b then S ||| 2 ^ v else S
theorem accF_lt {S v : Nat} (hS : S < 4294967296) (hv : v < 32) (b : Bool) : accF S v b < 4294967296 := by
  unfold accF
  split
  · exact Nat.or_lt_two_pow (n := 32) hS (two_lt hv)
  · exact hS
theorem accF_again (S v : Nat) : accF S v true ||| 2 ^ v = accF S v true := by
  unfold accF
  rw [if_pos rfl, Nat.or_assoc, Nat.or_self]
def mixF (c d : Config) (M : Nat) : Config := (List.range d.length).map fun u => if M.testBit u then c.getD u [] else d.getD u []
theorem mixF_length (c d : Config) (M : Nat) : (mixF c d M).length = d.length := by simp [mixF]
theorem mixF_at (c d : Config) (M : Nat) {u : Nat} (hu : u < d.length) : (mixF c d M).getD u [] = if M.testBit u then c.getD u [] else d.getD u [] := by
  rw [getD_eq (by rw [mixF_length]; exact hu)]
  simp [mixF]
theorem mix_mem {p : Prg} {g : Graph} {c d : Config} (hc : memF p g c = 0) (hd : memF p g d = 0) (M : Nat) : memF p g (mixF c d M) = 0 := by
  refine mem_of_nodes hd (mixF_length _ _ _) fun v hv => ?_
  rw [mixF_length] at hv
  rw [mixF_at c d M hv]
  split
  · exact conf_node hc (by rw [conf_len hc, ← conf_len hd]; exact hv)
  · exact conf_node hd hv
theorem mix_light {c d : Config} (hc : lightC c = true) (hd : lightC d = true) (M : Nat) : lightC (mixF c d M) = true := by
  have h1 := (lightC_parts hd).1
  unfold lightC
  simp only [Bool.and_eq_true, decide_eq_true_eq, List.all_eq_true]
  refine ⟨by rw [mixF_length]; exact h1, fun r hr => ?_⟩
  unfold mixF at hr
  obtain ⟨v, _, rfl⟩ := List.mem_map.1 hr
  split
  · exact light_row hc v
  · exact light_row hd v
/-- A node at the end of a link sees the other end. -/
theorem nbr_bit {g : Graph} (hg : GOK g) {q : Nat} (hq : q < g.ports.length) {l : Link} (hl : l ∈ g.ports.getD q []) : (nbrF g (2 ^ q)).testBit l.to.toNat = true := by
  rw [getD_eq hq] at hl
  obtain ⟨a1, a2, _⟩ := linkOK_iff.1 ((linksOK_iff.1 (hg.links q hq)).1 l hl)
  obtain ⟨t, ht⟩ := Int.eq_ofNat_of_zero_le a1
  have htl : t < g.ports.length := by omega
  have hb := hg.back q hq l hl
  unfold backOK at hb
  rw [ht, Int.toNat_natCast, getD_eq htl, List.any_eq_true] at hb
  obtain ⟨k, hk, hkk⟩ := hb
  simp at hkk
  unfold nbrF
  rw [ht, Int.toNat_natCast, setF_bit, decide_eq_true htl, Bool.true_and, getD_eq htl, List.any_eq_true]
  refine ⟨k, hk, ?_⟩
  have hle := hg.le
  unfold hasB
  rw [hkk.1, decide_eq_true (show (0 : Int) ≤ q by omega), decide_eq_true (show (q : Int) < 32 by omega), Int.toNat_natCast, two_bit]
  simp
theorem mix_agree {p : Prg} {g : Graph} {c d : Config} (hc : memF p g c = 0) (hd : memF p g d = 0) {q : Nat} (hq : q < c.length) : Agree g c (mixF c d (nbrF g (2 ^ q) ||| 2 ^ q)) q := by
  have hg := (fits_zero (mem_zero hc).1).2.1
  have h1 := conf_len hc
  have h2 := conf_len hd
  refine ⟨?_, fun l hl => ?_⟩
  · rw [mixF_at _ _ _ (by omega), Nat.testBit_or, two_bit, decide_eq_true rfl, Bool.or_true, if_pos rfl]
  · have hb := nbr_bit hg (by omega) hl
    have hl2 := hl
    rw [getD_eq (by omega)] at hl2
    obtain ⟨a1, a2, _⟩ := linkOK_iff.1 ((linksOK_iff.1 (hg.links q (by omega))).1 l hl2)
    rw [mixF_at _ _ _ (by omega), Nat.testBit_or, hb, Bool.true_or, if_pos rfl]
theorem ruleF_node {p : Prg} {g : Graph} {c : Config} {q : Nat} (hm : memF p g c = 0) (hq : q < c.length) : ruleF p g c (q : Int) = firstF p.rules g c q := by
  unfold ruleF
  rw [if_neg (by simpa using hm), if_neg (by omega), Int.toNat_natCast]
theorem moveRF_node {p : Prg} {g : Graph} {c : Config} {q : Nat} (hm : memF p g c = 0) (hq : q < c.length) : moveRF p g c (q : Int) = if firstF p.rules g c q < 0 then ([], 11) else (moveF p g c q, 0) := by
  unfold moveRF
  rw [if_neg (by simpa using hm), if_neg (by omega), Int.toNat_natCast]
theorem move_agree {p : Prg} {g : Graph} {c d : Config} (hc : memF p g c = 0) (hd : memF p g d = 0) {q : Nat} (hq : q < c.length) (h : Agree g c d q) : ruleF p g d (q : Int) = ruleF p g c (q : Int) ∧ moveRF p g d (q : Int) = moveRF p g c (q : Int) := by
  have hf := (mem_zero hc).1
  have hck := (fits_zero hf).1
  have hg := (fits_zero hf).2.1
  have h1 := conf_len hc
  have h2 := conf_len hd
  have hqg : q < g.ports.length := by omega
  have hfl := firstF_local hck hg hqg h
  constructor
  · rw [ruleF_node hd (by omega), ruleF_node hc hq, hfl]
  · rw [moveRF_node hd (by omega), moveRF_node hc hq, hfl]
    split
    · rfl
    · rename_i hn
      rw [moveF_local hck hg hqg h (by rw [hfl]; omega)]
/-- As far as it has been mixed. -/
def partM (c d : Config) (M v : Nat) : Config := (List.range d.length).map fun u => if u < v ∧ M.testBit u = true then c.getD u [] else d.getD u []
theorem partM_length (c d : Config) (M v : Nat) : (partM c d M v).length = d.length := by simp [partM]
theorem partM_at (c d : Config) (M v i : Nat) : (partM c d M v)[i]? = if i < d.length then some (if i < v ∧ M.testBit i = true then c.getD i [] else d.getD i []) else none := by
  unfold partM
  rw [List.getElem?_map]
  by_cases h : i < d.length
  · rw [List.getElem?_range h, if_pos h]; rfl
  · rw [if_neg h, List.getElem?_eq_none (by simp; omega)]; rfl
theorem partM_zero (c d : Config) (M : Nat) : partM c d M 0 = d := by
  apply List.ext_getElem?
  intro i
  rw [partM_at]
  by_cases h : i < d.length
  · rw [if_pos h, if_neg (by omega), getD_eq h, List.getElem?_eq_getElem h]
  · rw [if_neg h, List.getElem?_eq_none (by omega)]
theorem partM_full {c d : Config} {M n : Nat} (hn : d.length = n) : partM c d M n = mixF c d M := by
  subst hn
  unfold partM mixF
  refine List.map_congr_left fun u hu => ?_
  rw [List.mem_range] at hu
  cases hb : M.testBit u with
  | true => rw [if_pos ⟨hu, rfl⟩, if_pos rfl]
  | false => rw [if_neg (fun h => by cases h.2), if_neg (by decide)]
theorem partM_yes {c d : Config} {M v : Nat} (hb : M.testBit v = true) : (partM c d M v).set v (c.getD v []) = partM c d M (v + 1) := by
  apply List.ext_getElem?
  intro i
  rw [List.getElem?_set, partM_at, partM_at, partM_length]
  by_cases he : v = i
  · subst he
    rw [if_pos rfl]
    by_cases h : v < d.length
    · rw [if_pos h, if_pos h, if_pos ⟨by omega, hb⟩]
    · rw [if_neg h, if_neg h]
  · rw [if_neg he]
    have e : (i < v ∧ M.testBit i = true) ↔ (i < v + 1 ∧ M.testBit i = true) := by
      constructor
      · rintro ⟨h, h'⟩; exact ⟨by omega, h'⟩
      · rintro ⟨h, h'⟩; exact ⟨by omega, h'⟩
    simp only [e]
theorem partM_no {c d : Config} {M v : Nat} (hb : M.testBit v = false) : partM c d M v = partM c d M (v + 1) := by
  apply List.ext_getElem?
  intro i
  rw [partM_at, partM_at]
  have e : (i < v ∧ M.testBit i = true) ↔ (i < v + 1 ∧ M.testBit i = true) := by
    constructor
    · rintro ⟨h, h'⟩; exact ⟨by omega, h'⟩
    · rintro ⟨h, h'⟩
      refine ⟨?_, h'⟩
      have : i ≠ v := by rintro rfl; rw [hb] at h'; cases h'
      omega
  simp only [e]

end Go.Proofs.YtibfjhhadbkkgaaGreat

/- Plain laws: steps of an independent set, one node after the other. -/
namespace Go.Proofs.YtibfjhhadbkkgaaGreat

def lowF (S i : Nat) : Nat := S % 2 ^ i
def hiF (S m : Nat) : Nat := (S >>> m) <<< m
theorem lowF_bit (S i v : Nat) : (lowF S i).testBit v = (decide (v < i) && S.testBit v) := by
  unfold lowF; rw [Nat.testBit_mod_two_pow]
theorem hiF_bit (S m v : Nat) : (hiF S m).testBit v = (decide (m ≤ v) && S.testBit v) := by
  unfold hiF
  rw [Nat.testBit_shiftLeft, Nat.testBit_shiftRight]
  by_cases h : m ≤ v
  · rw [decide_eq_true h, Nat.add_sub_cancel' h]
  · rw [decide_eq_false h]; rfl
theorem stepCF_congr {p : Prg} {g : Graph} {c : Config} {S T : Nat} (h : ∀ v, v < c.length → S.testBit v = T.testBit v) : stepCF p g c S = stepCF p g c T := by
  unfold stepCF
  refine List.map_congr_left fun v hv => ?_
  rw [List.mem_range] at hv
  rw [h v hv]
theorem stepCF_none {p : Prg} {g : Graph} {c : Config} {S : Nat} (h : ∀ v, v < c.length → S.testBit v = false) : stepCF p g c S = c := by
  refine List.ext_getElem (stepCF_length _ _ _ _) fun v h1 h2 => ?_
  rw [← getD_eq h1 (d := []), stepCF_at _ _ _ _ h2, h v h2, getD_eq h2]; rfl
theorem low_zero {p : Prg} {g : Graph} {c : Config} (S : Nat) : stepCF p g c (lowF S 0) = c := stepCF_none fun v _ => by rw [lowF_bit]; simp
theorem hi_zero {p : Prg} {g : Graph} {c : Config} (S : Nat) : stepCF p g c (hiF S c.length) = c := stepCF_none fun v hv => by rw [hiF_bit, decide_eq_false (by omega)]; rfl
theorem low_full {p : Prg} {g : Graph} {c : Config} (S : Nat) : stepCF p g c (lowF S c.length) = stepCF p g c S := stepCF_congr fun v hv => by rw [lowF_bit, decide_eq_true hv]; rfl
theorem hi_full {p : Prg} {g : Graph} {c : Config} (S : Nat) : stepCF p g c (hiF S 0) = stepCF p g c S := stepCF_congr fun v hv => by rw [hiF_bit]; simp
theorem low_no {p : Prg} {g : Graph} {c : Config} {S i : Nat} (h : S.testBit i = false) : stepCF p g c (lowF S i) = stepCF p g c (lowF S (i + 1)) := stepCF_congr fun v _ => by
  rw [lowF_bit, lowF_bit]
  by_cases hv : v = i
  · subst hv; rw [h, Bool.and_false, Bool.and_false]
  · rw [show decide (v < i + 1) = decide (v < i) by rw [decide_eq_decide]; omega]
theorem hi_no {p : Prg} {g : Graph} {c : Config} {S k : Nat} (h : S.testBit k = false) : stepCF p g c (hiF S (k + 1)) = stepCF p g c (hiF S k) := stepCF_congr fun v _ => by
  rw [hiF_bit, hiF_bit]
  by_cases hv : v = k
  · subst hv; rw [h, Bool.and_false, Bool.and_false]
  · rw [show decide (k + 1 ≤ v) = decide (k ≤ v) by rw [decide_eq_decide]; omega]
theorem low_or {S i : Nat} (h : S.testBit i = true) : lowF S i ||| 2 ^ i = lowF S (i + 1) := by
  refine Nat.eq_of_testBit_eq fun v => ?_
  rw [Nat.testBit_or, lowF_bit, lowF_bit, two_bit]
  by_cases hv : i = v
  · subst hv; simp [h]
  · rw [decide_eq_false hv, Bool.or_false, show decide (v < i + 1) = decide (v < i) by rw [decide_eq_decide]; omega]
theorem hi_or {S k : Nat} (h : S.testBit k = true) : hiF S (k + 1) ||| 2 ^ k = hiF S k := by
  refine Nat.eq_of_testBit_eq fun v => ?_
  rw [Nat.testBit_or, hiF_bit, hiF_bit, two_bit]
  by_cases hv : k = v
  · subst hv; simp [h]
  · rw [decide_eq_false hv, Bool.or_false, show decide (k + 1 ≤ v) = decide (k ≤ v) by rw [decide_eq_decide]; omega]
theorem within_two {E i : Nat} (h : E.testBit i = true) : within32 (2 ^ i) E = true := by
  rw [within32_iff]
  intro v _ hv
  rw [two_bit] at hv
  obtain rfl := of_decide_eq_true hv
  exact h
/-- What one more step of the ascending, and of the descending, order needs and gives. -/
theorem ser_up {p : Prg} {g : Graph} {c : Config} (hm : memF p g c = 0) {S : Nat} (hi : Indep g S) (hen : ∀ v, S.testBit v = true → 0 ≤ firstF p.rules g c v) {i : Nat} (hb : S.testBit i = true) :
    memF p g (stepCF p g c (lowF S i)) = 0 ∧ within32 (2 ^ i) (enabF p g (stepCF p g c (lowF S i))) = true ∧ stepCF p g (stepCF p g c (lowF S i)) (2 ^ i) = stepCF p g c (lowF S (i + 1)) := by
  have hsub : ∀ v, (lowF S i).testBit v = true → S.testBit v = true := fun v h => by rw [lowF_bit] at h; simp at h; exact h.2
  obtain ⟨h1, h2, h3⟩ := step_more hm hi hen hsub hb (by rw [lowF_bit]; simp)
  refine ⟨h1, within_two ?_, by rw [h3, low_or hb]⟩
  rw [enabF_bit, decide_eq_true h2, stepCF_length, Bool.and_true, conf_len hm]
  exact decide_eq_true (hi.node i hb)
theorem ser_down {p : Prg} {g : Graph} {c : Config} (hm : memF p g c = 0) {S : Nat} (hi : Indep g S) (hen : ∀ v, S.testBit v = true → 0 ≤ firstF p.rules g c v) {k : Nat} (hb : S.testBit k = true) :
    memF p g (stepCF p g c (hiF S (k + 1))) = 0 ∧ within32 (2 ^ k) (enabF p g (stepCF p g c (hiF S (k + 1)))) = true ∧ stepCF p g (stepCF p g c (hiF S (k + 1))) (2 ^ k) = stepCF p g c (hiF S k) := by
  have hsub : ∀ v, (hiF S (k + 1)).testBit v = true → S.testBit v = true := fun v h => by rw [hiF_bit] at h; simp at h; exact h.2
  obtain ⟨h1, h2, h3⟩ := step_more hm hi hen hsub hb (by rw [hiF_bit, decide_eq_false (by omega)]; rfl)
  refine ⟨h1, within_two ?_, by rw [h3, hi_or hb]⟩
  rw [enabF_bit, decide_eq_true h2, stepCF_length, Bool.and_true, conf_len hm]
  exact decide_eq_true (hi.node k hb)
/-- As the machine asks whether a set is independent. -/
theorem indepF_eq {g : Graph} (hg : graphB g = true) {S : Nat} (hS : S < 4294967296) : indepF g S = (within32 S (setF g.ports.length fun _ => true) && (nbrF g S &&& S == 0)) := by
  unfold indepF
  rw [hg, Bool.true_and]
  congr 1
  rw [Bool.eq_iff_iff, List.all_eq_true, beq_iff_eq]
  constructor
  · intro h
    refine Nat.eq_of_testBit_eq fun v => ?_
    rw [Nat.testBit_and, Nat.zero_testBit]
    cases hb : S.testBit v with
    | false => exact Bool.and_false _
    | true =>
      have := h v (List.mem_range.2 (bit_lt hS hb))
      rw [hb] at this
      simpa using this
  · intro h v _
    have := congrArg (fun x => x.testBit v) h
    simp only [Nat.testBit_and, Nat.zero_testBit] at this
    rw [this]; rfl

end Go.Proofs.YtibfjhhadbkkgaaGreat

/- Contract: the reference's Neighbours, for a valid graph; All; Independent. -/
namespace Go.Proofs.YtibfjhhadbkkgaaGreat
open Go.RowKit

set_option maxRecDepth 100000 in
set_option maxHeartbeats 4000000 in
theorem refNeigh_any (v2 : Value) (g : Graph) (S : Nat) (w : World) (h2 : GraphV w v2 g) (hg : GOK g) (hG : lightG g = true) (hS : S < 4294967296) :
    Calls Tryz.prog 19 #[v2, .int .u32 (S : Int)] w fun e w' => e = .returned (.int .u32 (nbrF g S : Nat)) ∧ Bel w w' := by
  have HGV := Lib.hid (fun w' (k : Bel w w') => h2.keep k)
  have hP : ∃ A k A2 k2, v2 = .agg #[.slice A g.ids.length k, .slice A2 g.ports.length k2] ∧ PortsR w A2 g.ports.length g.ports := by
    obtain ⟨A, k, A2, k2, e, _, _, _, hP, _⟩ := h2
    exact ⟨A, k, A2, k2, e, hP⟩
  obtain ⟨A3, k3, A4, k4, rfl, hP⟩ := hP
  have HP := Lib.hid (fun w' (k : Bel w w') => PortsR.keep hP k)
  have HGL := Lib.hid hG
  have hle := hg.le
  have HLT := Lib.hid (fun v (hv : v < g.ports.length) => linksOK_len hv (hg.links v hv))
  have HGT : Hid (graphB g = true) := (graphB_iff g).2 hg
  have HS := Lib.hid hS
  have HNF : Hid (nbrF g S = setF g.ports.length fun v => (g.ports.getD v []).any fun l => hasB S l.to) := rfl
  have HW := Bel.refl (w.alloc (.cells #[.slice A3 g.ids.length k3, .slice A4 g.ports.length k4] 29))
  clear h2 hP hG hg hS
  go_enter Tryz.func19, Tryz.ntmps19
  go_wp2_with (go_at_call 49; refine (refGraphValid_any _ g _ (HGV.out _ (box_bel HW)) HGL.out).mono ?_; rintro e w' ⟨rfl, hb⟩; rw [HGT.out]; replace HW := HW.trans hb; clear hb)
  go_loopg [5, 6, 7] g.ports.length (fun m s x _y wr => ∃ v : Nat, v ≤ g.ports.length ∧ m = g.ports.length - v ∧ s = .int .u32 (setF v fun v => (g.ports.getD v []).any fun l => hasB S l.to : Nat) ∧ x = .int .i64 v ∧ Bel (w.alloc (.cells #[.slice A3 g.ids.length k3, .slice A4 g.ports.length k4] 29)) wr)
  case atStart => exact ⟨0, by omega, rfl, rfl, rfl, HW⟩
  case round =>
    clear HW
    obtain ⟨wo, rfl⟩ : ∃ wo : World, wo = wr := ⟨_, rfl⟩
    obtain ⟨v, hv, rfl, rfl, rfl, HW⟩ := hrel
    have q1 := box_cell HW 1 (v := .slice A4 g.ports.length k4) rfl
    have q2 := box_lt HW
    by_cases hlt : v < g.ports.length
    · have hd0 : decide (v < g.ports.length) = true := by simpa using hlt
      obtain ⟨b, o, R, rc, rfl, hb, hrow, hL, _, _⟩ := (HP.out _ (box_bel HW)).at_ v hlt
      have HL := Lib.hid hL
      have hll := HLT.out v hlt
      obtain ⟨s0, hs0⟩ : ∃ s0, s0 = setF v fun v => (g.ports.getD v []).any fun l => hasB S l.to := ⟨_, rfl⟩
      have hs0l : s0 < 4294967296 := by rw [hs0]; exact setF_lt32 _ (by omega)
      rw [← hs0]
      have HS0 := Lib.hid hs0
      clear hL hs0
      go_wp2_with fail
      go_loopg [5, 7] g.ports[v].length (fun m s x ws => ∃ i : Nat, i ≤ g.ports[v].length ∧ m = g.ports[v].length - i ∧ s = .int .u32 (accF s0 v ((g.ports[v].take i).any fun l => hasB S l.to) : Nat) ∧ x = .int .i64 i ∧ wo = ws)
      case atStart => exact ⟨0, by omega, rfl, rfl, rfl, rfl⟩
      case round =>
        obtain ⟨i, hi, rfl, rfl, rfl, rfl⟩ := hrel
        have hal := accF_lt hs0l (show v < 32 by omega) ((g.ports[v].take i).any fun l => hasB S l.to)
        by_cases hlt2 : i < g.ports[v].length
        · have hd2 : decide (i < g.ports[v].length) = true := by simpa using hlt2
          obtain ⟨b1, o1, rfl, hb1, c0, c1⟩ := HL.out.at_ i hlt2
          have HTS : Hid (((g.ports[v].take (i + 1)).any fun l => hasB S l.to) = (((g.ports[v].take i).any fun l => hasB S l.to) || hasB S g.ports[v][i].to)) := by
            show _ = _
            rw [List.take_succ_eq_append_getElem hlt2, List.any_append]; simp
          cases hh : hasB S g.ports[v][i].to with
          | true =>
            rw [hh] at HTS
            go_wp2_with (go_at_call 21; refine (has_any S _ _ HS.out).mono ?_; rintro e w2 ⟨rfl, rfl⟩; rw [hh])
            go_roundg (g.ports[v].length - (i + 1))
            case rel =>
              refine ⟨i + 1, by omega, rfl, ?_, by go_num, rfl⟩
              rw [HTS.out, bits_set hal (by omega)]
              cases (g.ports[v].take i).any fun l => hasB S l.to with
              | true => rw [accF_again]; rfl
              | false => rfl
            case measure => omega
          | false =>
            rw [hh] at HTS
            go_wp2_with (go_at_call 21; refine (has_any S _ _ HS.out).mono ?_; rintro e w2 ⟨rfl, rfl⟩; rw [hh])
            go_roundg (g.ports[v].length - (i + 1))
            case rel => exact ⟨i + 1, by omega, rfl, by rw [HTS.out, Bool.or_false], by go_num, rfl⟩
            case measure => omega
        · have hd2 : decide (i < g.ports[v].length) = false := by simpa using hlt2
          obtain rfl : i = g.ports[v].length := by omega
          go_wp2_with fail
          go_roundg (g.ports.length - (v + 1))
          case rel =>
            refine ⟨v + 1, by omega, rfl, ?_, by go_num, HW⟩
            rw [List.take_of_length_le (Nat.le_refl _), setF_succ, getD_eq hlt, HS0.out]; rfl
          case measure => omega
    · have hd0 : decide (v < g.ports.length) = false := by simpa using hlt
      obtain rfl : v = g.ports.length := by omega
      go_wp2_with fail
      go_ret
      exact ⟨ret_int (by rw [HNF.out]), box_bel HW⟩

set_option maxHeartbeats 1000000 in
theorem refAll_any (n : Nat) (w : World) (hn : n ≤ 30) :
    Calls Tryz.prog 66 #[.int .i64 (n : Int)] w fun e w' => e = .returned (.int .u32 (setF n (fun _ => true) : Nat)) ∧ w = w' := by
  go_enter Tryz.func66, Tryz.ntmps66
  go_wp2_with fail
  go_loopg [3, 4] n (fun m s z wr => ∃ v : Nat, v ≤ n ∧ m = n - v ∧ s = .int .u32 (setF v (fun _ => true) : Nat) ∧ z = .int .i64 v ∧ w = wr)
  case atStart => exact ⟨0, by omega, rfl, rfl, rfl, rfl⟩
  case round =>
    obtain ⟨v, hv, rfl, rfl, rfl, rfl⟩ := hrel
    have hsl := setF_lt32 (fun _ => true) (show v ≤ 32 by omega)
    by_cases hlt : v < n
    · have hd0 : decide (v < n) = true := by simpa using hlt
      have hd1 : decide (v < 32) = true := by simp; omega
      go_wp2_with fail
      go_roundg (n - (v + 1))
      case rel => exact ⟨v + 1, by omega, rfl, by rw [setF_succ, if_pos rfl, bits_set hsl (by omega)], by go_num, rfl⟩
      case measure => omega
    · have hd0 : decide (v < n) = false := by simpa using hlt
      obtain rfl : v = n := by omega
      go_wp2_with fail
      go_ret
      exact ⟨rfl, rfl⟩

set_option maxRecDepth 100000 in
set_option maxHeartbeats 4000000 in
theorem refIndep_any (v2 : Value) (g : Graph) (S : Nat) (w : World) (h2 : GraphV w v2 g) (hg : GOK g) (hG : lightG g = true) (hS : S < 4294967296) :
    Calls Tryz.prog 32 #[v2, .int .u32 (S : Int)] w fun e w' => e = .returned (.bool (indepF g S)) ∧ Bel w w' := by
  have HGV := Lib.hid (fun w' (k : Bel w w') => h2.keep k)
  obtain ⟨A3, k3, A4, k4, rfl, _, _, _, _, _, _⟩ := h2
  have HGL := Lib.hid hG
  have HG := Lib.hid hg
  have hle := hg.le
  have HGT : Hid (graphB g = true) := (graphB_iff g).2 hg
  have HF := Lib.hid (indepF_eq HGT.out hS)
  have HS := Lib.hid hS
  have HZ := Lib.hid (diffF_zero (T := setF g.ports.length fun _ => true) hS)
  have hbn := bits_andNot S (setF g.ports.length fun _ => true)
  have hba := bits_and (S := nbrF g S) (T := S) (setF_lt32 _ (by omega)) hS
  have HW := Bel.refl (w.alloc (.cells #[.slice A3 g.ids.length k3, .slice A4 g.ports.length k4] 29))
  clear hG hg hS
  cases hw : within32 S (setF g.ports.length fun _ => true) with
  | false =>
    rw [hw] at HF HZ
    have hz : ((diffF S (setF g.ports.length fun _ => true) : Int) != 0) = true := by have := HZ.out; simp at this ⊢; omega
    have hz' : (diffF S (setF g.ports.length fun _ => true) != 0) = true := by have := HZ.out; simp at this ⊢; omega
    clear hw
    go_enter Tryz.func32, Tryz.ntmps32
    go_wp2_with (first
      | (go_at_call 49; refine (refGraphValid_any _ g _ (HGV.out _ (box_bel HW)) HGL.out).mono ?_; rintro e w' ⟨rfl, hb⟩; rw [HGT.out]; replace HW := HW.trans hb; clear hb; have q1 := box_cell HW 1 (v := .slice A4 g.ports.length k4) rfl; have q2 := box_lt HW)
      | (go_at_call 66; refine (refAll_any g.ports.length _ (by omega)).mono ?_; rintro e w' ⟨rfl, rfl⟩))
    go_ret
    exact ⟨ret_bool (by rw [HF.out]; rfl), box_bel HW⟩
  | true =>
    rw [hw] at HF HZ
    have hz : ((diffF S (setF g.ports.length fun _ => true) : Int) != 0) = false := by have := HZ.out; simp at this ⊢; omega
    have hz' : (diffF S (setF g.ports.length fun _ => true) != 0) = false := by have := HZ.out; simp at this ⊢; omega
    clear hw
    go_enter Tryz.func32, Tryz.ntmps32
    go_wp2_with (first
      | (go_at_call 49; refine (refGraphValid_any _ g _ (HGV.out _ (box_bel HW)) HGL.out).mono ?_; rintro e w' ⟨rfl, hb⟩; rw [HGT.out]; replace HW := HW.trans hb; clear hb; have q0 := box_cell HW 0 (v := .slice A3 g.ids.length k3) rfl; have q1 := box_cell HW 1 (v := .slice A4 g.ports.length k4) rfl; have q2 := box_lt HW)
      | (go_at_call 66; refine (refAll_any g.ports.length _ (by omega)).mono ?_; rintro e w' ⟨rfl, rfl⟩)
      | (go_at_call 19; refine (refNeigh_any _ g S _ (HGV.out _ (box_bel HW)) HG.out HGL.out HS.out).mono ?_; rintro e w' ⟨rfl, hb⟩; replace HW := HW.trans hb; clear hb q0 q1 q2))
    go_ret
    refine ⟨ret_bool ?_, box_bel HW⟩
    rw [HF.out, Bool.true_and, Bool.eq_iff_iff]
    simp
    try omega

end Go.Proofs.YtibfjhhadbkkgaaGreat

/- Copies of slices of structs: the cells of a slice, laid elsewhere, read as the same list. -/
namespace Go.Proofs.YtibfjhhadbkkgaaGreat
open Go.RowKit

/-- An element reads the same where its cells have been copied to. -/
def Copies {α : Type} (size : Nat) (E : World → Nat → Nat → α → Prop) : Prop := ∀ w w' b o b' o' x, Bel w w' → b < w.heap.size → (∀ j, j < size → w'.cell? ⟨b', o' + j, none⟩ = w.cell? ⟨b, o + j, none⟩) → E w b o x → E w' b' o' x
/-- All cells of an element are there, each a single value. -/
def Whole1 {α : Type} (size : Nat) (E : World → Nat → Nat → α → Prop) : Prop := ∀ w b o x, E w b o x → ∀ j, j < size → ∃ u, w.cell? ⟨b, o + j, none⟩ = some u ∧ u.oneCell' = true
theorem SliceR.laid {α : Type} {size : Nat} {E : World → Nat → Nat → α → Prop} (hC : Copies size E) (hF : Whole1 size E) (hsz : 0 < size) {w : World} {A : Option Addr} {n : Nat} {xs : List α} (h : SliceR size E w A n xs) :
    ∃ L : List Value, (∀ w', Bel w w' → CellsR w' size A n L) ∧ (∀ u ∈ L, u.oneCell' = true) ∧ ∀ w' A', Bel w w' → (∀ j u, L[j]? = some u → ∃ b o, A' = some ⟨b, o, none⟩ ∧ b < w'.heap.size ∧ w'.cell? ⟨b, o + j, none⟩ = some u) → SliceR size E w' A' n xs := by
  obtain ⟨hl, he⟩ := h
  subst hl
  rcases Nat.eq_zero_or_pos xs.length with h0 | h0
  · have hx : xs = [] := List.eq_nil_of_length_eq_zero h0
    subst hx
    exact ⟨[], fun w' _ => ⟨by simp, fun j u hu => by simp at hu⟩, fun u hu => by simp at hu, fun w' A' _ _ => SliceR.nil⟩
  · obtain ⟨b, o, rfl, hb, _⟩ := he 0 xs[0] (List.getElem?_eq_getElem h0)
    have hall : ∀ i (hi : i < xs.length), E w b (o + i * size) xs[i] := fun i hi => by
      obtain ⟨b', o', e, _, hE⟩ := he i _ (List.getElem?_eq_getElem hi)
      obtain ⟨rfl, rfl⟩ : b = b' ∧ o = o' := by simpa using e
      exact hE
    have hcell : ∀ j, j < xs.length * size → ∃ u, w.cell? ⟨b, o + j, none⟩ = some u ∧ u.oneCell' = true := fun j hj => by
      have hi : j / size < xs.length := Nat.div_lt_of_lt_mul (by rw [Nat.mul_comm]; exact hj)
      obtain ⟨u, h1, h2⟩ := hF _ _ _ _ (hall (j / size) hi) (j % size) (Nat.mod_lt _ hsz)
      have e : o + j / size * size + j % size = o + j := by rw [Nat.add_assoc]; congr 1; rw [Nat.mul_comm]; exact Nat.div_add_mod j size
      rw [e] at h1
      exact ⟨u, h1, h2⟩
    refine ⟨(List.range (xs.length * size)).map fun j => (w.cell? ⟨b, o + j, none⟩).getD (.bool false), fun w2 k2 => ⟨by simp, fun j u hu => ?_⟩, fun u hu => ?_, fun w' A' hB hA => ⟨rfl, fun i x hx => ?_⟩⟩
    · have hj : j < xs.length * size := by have := (List.getElem?_eq_some_iff.1 hu).1; simpa using this
      obtain ⟨u', h1, _⟩ := hcell j hj
      rw [List.getElem?_map, List.getElem?_range hj] at hu
      simp only [Option.map_some, Option.some.injEq] at hu
      rw [h1] at hu
      simp at hu
      subst hu
      exact ⟨b, o, rfl, (k2.cell hb).trans h1⟩
    · obtain ⟨j, hj, rfl⟩ := List.mem_map.1 hu
      rw [List.mem_range] at hj
      obtain ⟨u', h1, h2⟩ := hcell j hj
      rw [h1]; exact h2
    · have hi : i < xs.length := (List.getElem?_eq_some_iff.1 hx).1
      have hxe : xs[i] = x := (List.getElem?_eq_some_iff.1 hx).2
      have hij : ∀ j, j < size → i * size + j < xs.length * size := fun j hj => by
        have := Nat.mul_le_mul_right size (show i + 1 ≤ xs.length by omega)
        rw [Nat.add_mul] at this
        omega
      have hat : ∀ j, j < size → ∃ u b' o', w.cell? ⟨b, o + i * size + j, none⟩ = some u ∧ A' = some ⟨b', o', none⟩ ∧ b' < w'.heap.size ∧ w'.cell? ⟨b', o' + i * size + j, none⟩ = some u := fun j hj => by
        obtain ⟨u, h1, _⟩ := hcell (i * size + j) (hij j hj)
        obtain ⟨b', o', e, h2, h3⟩ := hA (i * size + j) u (by
          rw [List.getElem?_map, List.getElem?_range (hij j hj)]
          simp [h1])
        exact ⟨u, b', o', by rw [Nat.add_assoc]; exact h1, e, h2, by rw [Nat.add_assoc]; exact h3⟩
      obtain ⟨u0, b', o', _, e0, hb', _⟩ := hat 0 hsz
      subst e0
      refine ⟨b', o', rfl, hb', ?_⟩
      rw [← hxe]
      refine hC w w' b (o + i * size) b' (o' + i * size) _ hB hb (fun j hj => ?_) (hall i hi)
      obtain ⟨u, b2, o2, h1, e, _, h3⟩ := hat j hj
      obtain ⟨rfl, rfl⟩ : b' = b2 ∧ o' = o2 := by simpa using e
      rw [h1, h3]
theorem RowAt.copies {α : Type} {size : Nat} {E : World → Nat → Nat → α → Prop} (hE : Keeps E) {w w' : World} {b o b' o' : Nat} {x : List α} (k : Bel w w') (hc : w'.cell? ⟨b', o', none⟩ = w.cell? ⟨b, o, none⟩) (h : RowAt size E w b o x) : RowAt size E w' b' o' x := by
  obtain ⟨A, c, h1, h2, h3⟩ := h
  exact ⟨A, c, hc.trans h1, h2.keep hE k, h3⟩
theorem RuleAt.copies : Copies 3 RuleAt := by
  intro w w' b o b' o' x k hb hc ⟨h1, h2, h3⟩
  exact ⟨(hc 0 (by decide)).trans h1, RowAt.copies TermAt.keeps k (hc 1 (by decide)) h2, RowAt.copies SetAt.keeps k (hc 2 (by decide)) h3⟩
theorem RuleAt.whole : Whole1 3 RuleAt := by
  intro w b o x ⟨h1, ⟨A, c, h2, _⟩, ⟨A2, c2, h3, _⟩⟩ j hj
  match j, hj with
  | 0, _ => exact ⟨_, h1, rfl⟩
  | 1, _ => exact ⟨_, h2, rfl⟩
  | 2, _ => exact ⟨_, h3, rfl⟩
theorem VarAt.copies : Copies 6 VarAt := by
  intro w w' b o b' o' x k hb hc ⟨h1, h2, h3, h4, h5, h6⟩
  exact ⟨(hc 0 (by decide)).trans h1, (hc 1 (by decide)).trans h2, (hc 2 (by decide)).trans h3, (hc 3 (by decide)).trans h4, (hc 4 (by decide)).trans h5, (hc 5 (by decide)).trans h6⟩
theorem VarAt.whole : Whole1 6 VarAt := by
  intro w b o x ⟨h1, h2, h3, h4, h5, h6⟩ j hj
  match j, hj with
  | 0, _ => exact ⟨_, h1, rfl⟩
  | 1, _ => exact ⟨_, h2, rfl⟩
  | 2, _ => exact ⟨_, h3, rfl⟩
  | 3, _ => exact ⟨_, h4, rfl⟩
  | 4, _ => exact ⟨_, h5, rfl⟩
  | 5, _ => exact ⟨_, h6, rfl⟩

end Go.Proofs.YtibfjhhadbkkgaaGreat

