/- Merged of: AnyL PQ WVi WVj (see NOTES.md). -/
import Derived.Test.YtgemlgpjbclonaaGreatDoorZ23
import Derived.Test.YtgemlgpjbclonaaGreatDoorZ32
import Derived.Test.YtgemlgpjbclonaaGreatDoorZ25
import Derived.Test.YtgemlgpjbclonaaGreatDoorZ24
import Derived.Test.YtgemlgpjbclonaaGreatDoorZ30
import Derived.Test.YtgemlgpjbclonaaGreatDoorZ33
import Derived.Test.YtgemlgpjbclonaaGreatDoorZ34
set_option linter.unusedSimpArgs false
set_option linter.unnecessarySimpa false
set_option linter.unusedVariables false

/- As AnyE, with several last operations that may write what the others read; two that may come up. -/
namespace Go.Proofs.YtgemlgpjbclonaaGreatDoor
open Go.RowKit

section
variable {P : Program} {ops : Array Oper} {Q : Exit → Act → World → Prop} {md : Region.Mode} {S : World → Prop} {Ls : List Nat}
/-- In whatever order, and S holds behind each operation but the last ones. -/
def AnyL (P : Program) (md : Region.Mode) (ops : Array Oper) (Q : Exit → Act → World → Prop) (S : World → Prop) (Ls : List Nat) : Nat → Array Bool → Act → World → Prop
 | 0, listed, a, w => Region.ready md ops listed = [] ∧ Q .normal a w
 | fuel + 1, listed, a, w => (Region.ready md ops listed = [] → Q .normal a w) ∧
   ∀ i ∈ Region.ready md ops listed, wpOp P ops Q i (fun a' w' => (i ∉ Ls → S w') ∧ AnyL P md ops Q S Ls fuel (listed.setIfInBounds i true) a' w') a w
theorem AnyL.any : ∀ (fuel : Nat) (listed : Array Bool) (a : Act) (w : World), AnyL P md ops Q S Ls fuel listed a w → wpAny P md ops Q fuel listed a w
 | 0, _, _, _, h => h
 | fuel + 1, _, _, _, h => ⟨h.1, fun i hi => wpOp_mono (fun a' w' k => AnyL.any fuel _ a' w' k.2) (h.2 i hi)⟩
theorem AnyL.first {i : Nat} {oi : Oper} {v : Value} (cs : List Nat) (hi : ops[i]? = some oi) (hsel : ∀ (j : Nat) (o : Oper) cs b, ops[j]? = some o → o.op ≠ .select cs b)
  (hL : ∀ l ∈ Ls, l ∈ cs) (hw : waits md ops i cs = true)
  (hQ : ∀ c a w, Q (.panic c) (a.put oi.dst v) w → Q (.panic c) a w) (fuel : Nat) : ∀ (listed : Array Bool) (a : Act) (w : World),
   (∀ j oj, ops[j]? = some oj → j ≠ i → listed.getD j true = false → (∀ e ∈ oj.after, Region.binds md e = true → e.on ≠ i) → oi.apart ops oj = true) →
   i ∈ Region.ready md ops listed → unlisted listed cs = true → YieldsIf P ops S oi v a → S w →
   AnyL P md ops Q S Ls fuel (listed.setIfInBounds i true) (a.put oi.dst v) w → AnyL P md ops Q S Ls (fuel + 1) listed a w := by
 induction fuel with
 | zero =>
  intro listed a w _ hr _ hy hS H
  refine And.intro (fun h => ?_) (fun j hj => ?_)
  ·rw [h] at hr; exact absurd hr (by simp)
  by_cases hji : j = i
  ·subst hji; exact hy.wpOp hi hS ⟨fun _ => hS, H⟩
  ·have := ready_mono hj hji
   rw [H.1] at this; exact absurd this (by simp)
 | succ fuel ih =>
  intro listed a w hfree hr hun hy hS H
  refine And.intro (fun h => ?_) (fun j hj => ?_)
  ·rw [h] at hr; exact absurd hr (by simp)
  by_cases hji : j = i
  ·subst hji; exact hy.wpOp hi hS ⟨fun _ => hS, H⟩
  have hi0 := (mem_ready.1 hr).1
  have hjc := not_ready hj cs i hi0 hw hun
  have hjL : j ∉ Ls := fun e => hjc (hL j e)
  obtain ⟨hjun, oj, hoj, hall⟩ := mem_ready.1 hj
  have hnot : ∀ e ∈ oj.after, Region.binds md e = true → e.on ≠ i := fun e he hb heq => by
   have h1 := hall e he hb
   rw [heq] at h1
   rcases Nat.lt_or_ge i listed.size with h' | h'
   ·simp [h'] at hi0 h1; rw [hi0] at h1; cases h1
   ·simp [Array.getElem?_eq_none h'] at h1
  have h2 := wpOp_putIf hoj (hfree j oj hoj hji hjun hnot) (fun cs b => hsel i oi cs b hi) (fun cs b => hsel j oj cs b hoj) hQ hy (H.2 j (ready_mono hj hji))
  refine wpOp_mono (fun a' w' h3 => ?_) h2
  obtain ⟨hy', hS', hrest⟩ := h3
  have hs' := hS' hjL
  refine ⟨fun _ => hs', ih _ a' w' ?_ (ready_mono hr (Ne.symm hji)) ?_ hy' hs' (by rw [Array.setIfInBounds_comm _ _ hji]; exact hrest)⟩
  ·intro k ok hk hki hunk hno
   refine hfree k ok hk hki ?_ hno
   by_cases hjk : j = k
   ·subst hjk; exact hjun
   ·rw [getD_set_ne true hjk] at hunk; exact hunk
  ·unfold unlisted at hun ⊢
   rw [List.all_eq_true] at hun ⊢
   intro c hc
   rw [getD_set_ne true (show j ≠ c from fun e => hjc (by rw [e]; exact hc))]
   exact hun c hc
theorem AnyL.t {L : Nat} {oi : Oper} {v : Value} {fuel : Nat} {listed : Array Bool} {a : Act} {w : World} (i d : Nat) (hi : ops[i]? = some oi) (hd : oi.dst = some d)
  (hc : (Region.noSelect ops && Region.free md ops listed i && (Region.ready md ops listed).contains i && ((L :: Ls).all (chainF md ops L 60 i).contains && waits md ops i (chainF md ops L 60 i) && unlisted listed (chainF md ops L 60 i))) = true)
  (hQ : ∀ c a w, Q (.panic c) (a.put (some d) v) w → Q (.panic c) a w) (hS : S w) (hy : YieldsIf P ops S oi v a)
  (h : AnyL P md ops Q S (L :: Ls) fuel (listed.setIfInBounds i true) (a.put (some d) v) w) : AnyL P md ops Q S (L :: Ls) (fuel + 1) listed a w := by
 rw [Bool.and_eq_true, Bool.and_eq_true, Bool.and_eq_true, Bool.and_eq_true, Bool.and_eq_true] at hc
 exact AnyL.first (chainF md ops L 60 i) hi (Region.noSelect_spec hc.1.1.1) (fun l hl => by have := List.all_eq_true.1 hc.2.1.1 l hl; simpa using this) hc.2.1.2 (by rw [hd]; exact hQ) fuel listed a w (Region.free_spec hi hc.1.1.2) (by simpa using hc.1.2) hc.2.2 hy hS (by rw [hd]; exact h)
theorem AnyL.one {i : Nat} {o : Oper} {fuel : Nat} {listed : Array Bool} {a : Act} {w : World} (hr : Region.ready md ops listed = [i]) (ho : ops[i]? = some o)
  (h : ∀ K' : Act → World → Prop, Shut (∀ a w, (i ∉ Ls → S w) → AnyL P md ops Q S Ls fuel (listed.setIfInBounds i true) a w → K' a w) → if Region.wanted o (yielded ops a.tmps) = true then Oper.wp P o a w K' Q else K' (a.put o.dst undef) w) :
  AnyL P md ops Q S Ls (fuel + 1) listed a w := by
 refine And.intro (fun h => by rw [h] at hr; exact absurd hr (by simp)) (fun j hj => ?_)
 rw [hr] at hj
 obtain rfl : j = i := by simpa using hj
 exact wpOp_step ho (fun K' hK => h K' (fun a w hS hW => hK a w ⟨hS, hW⟩))
/-- Two may come up. -/
theorem AnyL.two {i j : Nat} {o o2 : Oper} {fuel : Nat} {listed : Array Bool} {a : Act} {w : World} (hr : Region.ready md ops listed = [i, j]) (ho : ops[i]? = some o) (ho2 : ops[j]? = some o2)
  (h : ∀ K' : Act → World → Prop, Shut (∀ a w, (i ∉ Ls → S w) → AnyL P md ops Q S Ls fuel (listed.setIfInBounds i true) a w → K' a w) → if Region.wanted o (yielded ops a.tmps) = true then Oper.wp P o a w K' Q else K' (a.put o.dst undef) w)
  (h2 : ∀ K' : Act → World → Prop, Shut (∀ a w, (j ∉ Ls → S w) → AnyL P md ops Q S Ls fuel (listed.setIfInBounds j true) a w → K' a w) → if Region.wanted o2 (yielded ops a.tmps) = true then Oper.wp P o2 a w K' Q else K' (a.put o2.dst undef) w) :
  AnyL P md ops Q S Ls (fuel + 1) listed a w := by
 refine And.intro (fun h => by rw [h] at hr; exact absurd hr (by simp)) (fun k hk => ?_)
 rw [hr] at hk
 have hk' : k = i ∨ k = j := by simpa using hk
 rcases hk' with rfl | rfl
 ·exact wpOp_step ho (fun K' hK => h K' (fun a w hS hW => hK a w ⟨hS, hW⟩))
 ·exact wpOp_step ho2 (fun K' hK => h2 K' (fun a w hS hW => hK a w ⟨hS, hW⟩))
theorem AnyL.done {listed : Array Bool} {a : Act} {w : World} (hr : Region.ready md ops listed = []) (h : Q .normal a w) : ∀ fuel, AnyL P md ops Q S Ls fuel listed a w
 | 0 => ⟨hr, h⟩
 | _ + 1 => ⟨fun _ => h, by rw [hr]; simp⟩
theorem AnyL.start (S : World → Prop) (Ls : List Nat) {id : Nat} {a : Act} {w : World} (hm : P.follows .mixedOrders = true)
  (h : AnyL P .any ops Q S Ls ops.size (Array.replicate ops.size false) a w.drew) : (Code.region id ops true).wp P Q a w :=
 wp_region_any hm (AnyL.any _ _ _ _ h)
end

end Go.Proofs.YtgemlgpjbclonaaGreatDoor

/- Plain laws of transition systems. -/
namespace Go.Proofs.YtgemlgpjbclonaaGreatDoor

/-! ### The choices in ascending order -/
theorem choices_sorted {g : Graph} {kind : Int} {E : Nat} (hE : E < 4294967296) : (choicesF g kind E).1.Pairwise (· < ·) := by
 unfold choicesF
 split
 ·exact List.Pairwise.nil
 split
 ·rw [List.pairwise_map]
  have h : (elemsF E).Pairwise (· < ·) := List.pairwise_lt_range.filter _
  exact h.imp fun h => Nat.pow_lt_pow_right (by decide) h
 split
 ·exact List.pairwise_singleton _ _
 split
 ·exact List.Pairwise.nil
 ·exact (sorted_partsFrom hE (E - lsb E + 1) _ (by omega) lsb_part).filter _
theorem sub_sorted : ∀ {l2 l1 : List Nat}, l1.Pairwise (· < ·) → l2.Pairwise (· < ·) → (∀ x ∈ l1, x ∈ l2) → l1.Sublist l2
 | [], l1, _, _, h => by
  cases l1 with
  | nil => exact List.Sublist.slnil
  | cons a l => exact absurd (h a List.mem_cons_self) (by simp)
 | b :: l2, l1, h1, h2, h => by
  cases l1 with
  | nil => exact List.nil_sublist _
  | cons a l1 =>
   obtain ⟨a1, a2⟩ := List.pairwise_cons.1 h1
   obtain ⟨b1, b2⟩ := List.pairwise_cons.1 h2
   by_cases hab : a = b
   ·subst hab
    refine List.Sublist.cons_cons _ (sub_sorted a2 b2 fun x hx => ?_)
    rcases List.mem_cons.1 (h x (List.mem_cons_of_mem _ hx)) with e | e
    ·have := a1 x hx; omega
    ·exact e
   ·have ha : a ∈ l2 := by
     rcases List.mem_cons.1 (h a List.mem_cons_self) with e | e
     ·exact absurd e hab
     ·exact e
    have hba := b1 a ha
    refine List.Sublist.cons _ (sub_sorted h1 b2 fun x hx => ?_)
    rcases List.mem_cons.1 (h x hx) with e | e
    ·rcases List.mem_cons.1 hx with e2 | e2
     ·exact absurd (e2.symm.trans e) hab
     ·have := a1 x e2; omega
    ·exact e

/-! ### One node alone -/
theorem indep_single {g : Graph} (hg : GOK g) {v : Nat} (hv : v < g.ports.length) : indepP g (2 ^ v) = true := by
 have hle := hg.le
 rw [indepP_iff (two_lt (by omega))]
 intro u hu
 rw [two_bit] at hu
 obtain rfl := of_decide_eq_true hu
 rw [and_zero_iff]
 intro x hx
 rw [two_bit]
 refine decide_eq_false fun e => ?_
 subst e
 obtain ⟨l, hl, e⟩ := (netV_bit hv).1 hx
 obtain ⟨a1, _, a3, _⟩ := linkOK_iff.1 ((linksOK_iff.1 (hg.links v hv)).1 l hl)
 omega
def withinF (a b : Int) : Bool := a == b || b == 3 || (a == 1 && b == 2)
theorem single_pow {S : Nat} (hS : S < 4294967296) (h0 : S ≠ 0) (h : (S &&& (S - 1) == 0) = true) : ∃ v, v < 32 ∧ S = 2 ^ v := by
 rw [single_iff hS h0, decide_eq_true_iff] at h
 obtain ⟨k, m, e, hk, _, _, e3⟩ := set_split hS h0
 rw [e3, List.length_cons] at h
 have hz : 2 ^ k * (2 * m) = 0 := by
  refine (elems_len_zero ?_).1 (by omega)
  have : 2 ^ k * (2 * m) ≤ 2 ^ k * (2 * m + 1) := Nat.mul_le_mul_left _ (by omega)
  omega
 exact ⟨k, hk, by rw [e, Nat.mul_add, hz]; simp⟩
theorem permits_within {g : Graph} (hg : GOK g) {a b : Int} {E T : Nat} (hT : T < 4294967296) (hE : E < 2 ^ g.ports.length) (hab : withinF a b = true) (h : permitsF g a E T = true) : permitsF g b E T = true := by
 unfold withinF at hab
 simp at hab
 obtain ⟨h0, hw⟩ := permits_part h
 rcases hab with (rfl | rfl) | ⟨rfl, rfl⟩
 ·exact h
 ·unfold permitsF
  rw [if_neg h0, hw]; simp
 ·unfold permitsF at h ⊢
  rw [if_neg h0, hw, if_neg (by decide), if_pos rfl] at h
  rw [if_neg h0, hw, if_neg (by decide), if_neg (by decide), if_pos rfl]
  obtain ⟨v, hv, rfl⟩ := single_pow hT h0 h
  have hb := within32_iff.1 hw v hv (by rw [two_bit]; simp)
  refine indep_single hg ?_
  rcases Nat.lt_or_ge v g.ports.length with h | h
  ·exact h
  ·have e : 2 ^ g.ports.length ≤ 2 ^ v := Nat.pow_le_pow_right (by decide) h
   rw [Nat.testBit_lt_two_pow (Nat.lt_of_lt_of_le hE e)] at hb; cases hb
theorem choices_sub {g : Graph} (hg : GOK g) {a b : Int} {E : Nat} (ha : kindB a = true) (hb : kindB b = true) (h5 : g.ports.length ≤ 5) (hE : E < 2 ^ g.ports.length) (hab : withinF a b = true) : (choicesF g a E).1.Sublist (choicesF g b E).1 := by
 have h32 : E < 32 := Nat.lt_of_lt_of_le hE (show 2 ^ g.ports.length ≤ 2 ^ 5 from Nat.pow_le_pow_right (by decide) h5)
 have hlt : E < 4294967296 := by omega
 refine sub_sorted (choices_sorted hlt) (choices_sorted hlt) fun T hT => ?_
 have h1 := (choices_part hlt hT).1
 exact (mem_choices hlt hb (choices_few h32).1 h1).2 (permits_within hg h1 hE hab ((mem_choices hlt ha (choices_few h32).1 h1).1 hT))
theorem choices_pos {g : Graph} (hg : GOK g) {kind : Int} (hk : kindB kind = true) {E : Nat} (hE : E < 2 ^ g.ports.length) (ho : (choicesF g kind E).2 = 0) : decide (E ≠ 0) = decide (0 < (choicesF g kind E).1.length) := by
 have hle := hg.le
 have hlt : E < 4294967296 := Nat.lt_of_lt_of_le hE (Nat.pow_le_pow_right (n := 2) (by decide) (show g.ports.length ≤ 32 by omega))
 by_cases h0 : E = 0
 ·subst h0
  unfold choicesF
  rw [if_pos rfl]; rfl
 ·rw [decide_eq_true h0]
  symm
  rw [decide_eq_true_iff]
  by_cases h4 : kind = 4
  ·unfold choicesF
   rw [if_neg h0, if_neg (by omega), if_pos h4]; simp
  ·obtain ⟨v, m, e, hv, e1, e2, e3⟩ := set_split hlt h0
   have hvE : v ∈ elemsF E := by rw [e3]; exact List.mem_cons_self
   have hT : permitsF g 1 E (2 ^ v) = true := by
    have := (mem_choices (g := g) (kind := 1) hlt (by decide) (by unfold choicesF; rw [if_neg h0, if_pos rfl]) (two_lt hv)).1 (by unfold choicesF; rw [if_neg h0, if_pos rfl]; exact List.mem_map.2 ⟨v, hvE, rfl⟩)
    exact this
   have hw : withinF 1 kind = true := by
    unfold kindB at hk
    unfold withinF
    simp at hk ⊢
    omega
   exact List.length_pos_of_mem ((mem_choices hlt hk ho (two_lt hv)).2 (permits_within hg (two_lt hv) hE hw hT))

/-! ### The transition system is well-formed -/
def esF (p : Prg) (g : Graph) (k : Nat) : List Nat := (List.range k).map fun u => enabF p g (confK p g u)
def lsF (p : Prg) (g : Graph) (kind : Int) (k : Nat) : List (List (Nat × Int)) := (List.range k).map fun u => arcsOf p g kind (confK p g u)
theorem esF_succ (p : Prg) (g : Graph) (k : Nat) : esF p g (k + 1) = esF p g k ++ [enabF p g (confK p g k)] := by unfold esF; rw [List.range_succ, List.map_append]; rfl
theorem lsF_succ (p : Prg) (g : Graph) (kind : Int) (k : Nat) : lsF p g kind (k + 1) = lsF p g kind k ++ [arcsOf p g kind (confK p g k)] := by unfold lsF; rw [List.range_succ, List.map_append]; rfl
theorem esF_length (p : Prg) (g : Graph) (k : Nat) : (esF p g k).length = k := by simp [esF]
theorem lsF_length (p : Prg) (g : Graph) (kind : Int) (k : Nat) : (lsF p g kind k).length = k := by simp [lsF]
theorem esF_at (p : Prg) (g : Graph) {k n : Nat} (h : k < n) : (esF p g n)[k]'(by rw [esF_length]; exact h) = enabF p g (confK p g k) := by simp [esF]
theorem lsF_at (p : Prg) (g : Graph) (kind : Int) {k n : Nat} (h : k < n) : (lsF p g kind n)[k]'(by rw [lsF_length]; exact h) = arcsOf p g kind (confK p g k) := by simp [lsF]
theorem space_eq (p : Prg) (g : Graph) (kind : Int) {n : Nat} (h : sizeF p g = (n : Int)) : spaceF p g kind = ⟨esF p g n, lsF p g kind n⟩ := by
 have hsz : (sizeF p g).toNat = n := by rw [h]; simp
 unfold spaceF esF lsF
 rw [hsz]
theorem enab_pow {p : Prg} {g : Graph} {c : Config} (hm : memF p g c = 0) : enabF p g c < 2 ^ g.ports.length := by
 have := setF_lt c.length fun v => decide (0 ≤ firstF p.rules g c v)
 rw [conf_len hm] at this
 unfold enabF
 rw [conf_len hm]
 exact this
theorem enab_32 {p : Prg} {g : Graph} {c : Config} (hm : memF p g c = 0) (h5 : g.ports.length ≤ 5) : enabF p g c < 32 :=
 Nat.lt_of_lt_of_le (enab_pow hm) (show 2 ^ g.ports.length ≤ 2 ^ 5 from Nat.pow_le_pow_right (by decide) h5)
theorem choice_step {p : Prg} {g : Graph} {c : Config} {kind : Int} (hm : memF p g c = 0) (hk : kindB kind = true) (h5 : g.ports.length ≤ 5) {T : Nat} (hT : T ∈ (choicesF g kind (enabF p g c)).1) :
  T < 4294967296 ∧ stepRF p g c T = (stepCF p g c T, 0) ∧ memF p g (stepCF p g c T) = 0 := by
 have h32 := enab_32 hm h5
 have hE : enabF p g c < 4294967296 := by omega
 obtain ⟨h1, h2⟩ := choices_part hE hT
 have h3 := permits_part ((mem_choices hE hk (choices_few h32).1 h1).1 hT)
 refine ⟨h1, stepRF_ok hm h3.1 h2, step_mem hm fun v hv hb => ?_⟩
 have h4 := within32_iff.1 h2 v (bit_lt h1 hb) hb
 rw [enabF_bit] at h4
 simp at h4
 exact h4.2
theorem arcsB_map {E : Nat} {n : Int} {f : Nat → Int} : ∀ {L : List Nat} {b : Nat}, L.Pairwise (· < ·) → (∀ T ∈ L, b < T ∧ within32 T E = true ∧ 0 ≤ f T ∧ f T < n) → arcsB E n b (L.map fun T => (T, f T)) = true
 | [], _, _, _ => rfl
 | a :: L, b, h1, h => by
  obtain ⟨a1, a2⟩ := List.pairwise_cons.1 h1
  obtain ⟨c1, c2, c3, c4⟩ := h a List.mem_cons_self
  rw [List.map_cons]
  unfold arcsB
  rw [arcsB_map a2 fun T hT => ⟨a1 T hT, (h T (List.mem_cons_of_mem _ hT)).2⟩]
  simp [c1, c2, c3, c4]
theorem space_valid {p : Prg} {g : Graph} {kind : Int} {n : Nat} (hf : fitsF p g = 0) (hn : sizeF p g = (n : Int)) (hk : kindB kind = true) (h5 : g.ports.length ≤ 5) : validS ⟨esF p g n, lsF p g kind n⟩ = true := by
 have hsp := size_pos hf
 have hg := (fits_zero hf).2.1
 unfold validS
 simp only [esF_length, lsF_length, Bool.and_eq_true, decide_eq_true_eq, List.all_eq_true, List.mem_range]
 refine ⟨⟨by omega, trivial⟩, fun k hkn => ?_⟩
 have hm : memF p g (confK p g k) = 0 := confK_mem hf (by omega)
 rw [getD_eq (show k < (esF p g n).length by rw [esF_length]; exact hkn), getD_eq (show k < (lsF p g kind n).length by rw [lsF_length]; exact hkn), esF_at p g hkn, lsF_at p g kind hkn]
 generalize confK p g k = c at hm
 have h32 := enab_32 hm h5
 have hlt : enabF p g c < 4294967296 := by omega
 have hle := enab_pow hm
 have hpos := choices_pos hg hk hle (choices_few h32).1
 unfold stateB8 arcsOf
 rw [List.length_map, ← hpos, decide_eq_true (show enabF p g c < 16777216 by omega)]
 simp only [beq_self_eq_true, Bool.true_and]
 refine arcsB_map (choices_sorted hlt) fun T hT => ?_
 obtain ⟨t1, _, t3⟩ := choice_step hm hk h5 hT
 have h3 := permits_part ((mem_choices hlt hk (choices_few h32).1 t1).1 hT)
 obtain ⟨r1, r2⟩ := numF_range t3
 exact ⟨Nat.pos_of_ne_zero h3.1, h3.2, r1, by rw [← hn]; exact r2⟩
theorem space_wf {p : Prg} {g : Graph} {kind : Int} {n : Nat} (hf : fitsF p g = 0) (hn : sizeF p g = (n : Int)) (hk : kindB kind = true) (h5 : g.ports.length ≤ 5) : wfS ⟨esF p g n, lsF p g kind n⟩ := by
 refine ⟨fun E hE => ?_, fun l hl x hx => ?_⟩
 ·obtain ⟨k, hk2, rfl⟩ := List.mem_map.1 hE
  have hm : memF p g (confK p g k) = 0 := confK_mem hf (by have := List.mem_range.1 hk2; omega)
  have := enab_32 hm h5
  omega
 ·obtain ⟨k, hk2, rfl⟩ := List.mem_map.1 hl
  have hm : memF p g (confK p g k) = 0 := confK_mem hf (by have := List.mem_range.1 hk2; omega)
  obtain ⟨T, hT, rfl⟩ := List.mem_map.1 hx
  exact (choice_step hm hk h5 hT).1
theorem arcs_31 {p : Prg} {g : Graph} {kind : Int} {c : Config} (hm : memF p g c = 0) (h5 : g.ports.length ≤ 5) : (arcsOf p g kind c).length ≤ 31 := arcs_len h5 (conf_len hm)
theorem space_light {p : Prg} {g : Graph} {kind : Int} {n : Nat} (hf : fitsF p g = 0) (hn : sizeF p g = (n : Int)) (h2 : n ≤ 200) (h5 : g.ports.length ≤ 5) : lightS ⟨esF p g n, lsF p g kind n⟩ = true := by
 unfold lightS
 simp only [esF_length, lsF_length, Bool.and_eq_true, decide_eq_true_eq, List.all_eq_true]
 refine ⟨⟨h2, h2⟩, fun l hl => ?_⟩
 obtain ⟨k, hk2, rfl⟩ := List.mem_map.1 hl
 have hm : memF p g (confK p g k) = 0 := confK_mem hf (by have := List.mem_range.1 hk2; omega)
 have := arcs_31 (kind := kind) hm h5
 omega

theorem build_few {p : Prg} {g : Graph} {kind : Int} (hfew : (totalF p g).2 = 0 → sizeF p g ≤ 200 ∧ g.ports.length ≤ 5) : (buildF p g kind).1.enabled.length ≤ 200 ∧ (buildF p g kind).1.arcs.length ≤ 200 ∧ ∀ l ∈ (buildF p g kind).1.arcs, l.length ≤ 70 := by
 have h0 : ((⟨[], []⟩ : Spc)).enabled.length ≤ 200 ∧ ((⟨[], []⟩ : Spc)).arcs.length ≤ 200 ∧ ∀ l ∈ ((⟨[], []⟩ : Spc)).arcs, l.length ≤ 70 := ⟨by simp, by simp, fun l hl => by cases hl⟩
 obtain ⟨x, hx⟩ : ∃ x, totalF p g = x := ⟨_, rfl⟩
 obtain ⟨n0, e0⟩ := x
 unfold buildF
 rw [hx] at hfew ⊢
 by_cases h1 : e0 = 0
 ·subst h1
  obtain ⟨h2, h5⟩ := hfew rfl
  obtain ⟨hf, _⟩ := total_ok hx.symm
  have hp := size_pos hf
  obtain ⟨n, hn⟩ := Int.eq_ofNat_of_zero_le (show 0 ≤ sizeF p g by omega)
  split
  ·exact h0
  split
  ·exact h0
  split
  ·exact h0
  ·rw [space_eq p g kind hn]
   exact lightS_parts (space_light hf hn (by omega) h5)
 ·split
  ·exact h0
  split
  ·exact h0
  ·exact h0

/-! ### Where the arcs of a set lead -/
def lastF (L : List (Nat × Int)) (S : Nat) : Int := L.foldl (fun t x => if x.1 = S then x.2 else t) (-1)
def firstT : List (Nat × Int) → Nat → Int
 | [], _ => -1
 | x :: L, S => if x.1 = S then x.2 else firstT L S
theorem last_map {f : Nat → Int} {S : Nat} : ∀ {L : List Nat} {t : Int}, (L.map fun T => (T, f T)).foldl (fun t x => if x.1 = S then x.2 else t) t = if S ∈ L then f S else t
 | [], t => by simp
 | a :: L, t => by
  rw [List.map_cons, List.foldl_cons, last_map]
  by_cases h : S ∈ L
  ·rw [if_pos h, if_pos (List.mem_cons_of_mem _ h)]
  ·rw [if_neg h]
   by_cases ha : a = S
   ·subst ha; simp
   ·rw [if_neg (show ¬ a = S from ha), if_neg (by simp; exact ⟨fun e => ha e.symm, h⟩)]
theorem first_map {f : Nat → Int} {S : Nat} : ∀ {L : List Nat}, firstT (L.map fun T => (T, f T)) S = if S ∈ L then f S else -1
 | [] => by simp [firstT]
 | a :: L => by
  rw [List.map_cons]
  unfold firstT
  by_cases ha : a = S
  ·subst ha; simp
  ·rw [if_neg (show ¬ a = S from ha), first_map]
   by_cases h : S ∈ L
   ·rw [if_pos h, if_pos (List.mem_cons_of_mem _ h)]
   ·rw [if_neg h, if_neg (by simp; exact ⟨fun e => ha e.symm, h⟩)]
/-- An arc of an independent set is two arcs. -/
theorem split_steps {p : Prg} {g : Graph} {c : Config} (hm : memF p g c = 0) (h5 : g.ports.length ≤ 5) {X P : Nat} (hX : X ∈ (choicesF g 2 (enabF p g c)).1) (hP : P &&& X = P) (h0 : P ≠ 0) (h1 : P ≠ X) :
  P ∈ (choicesF g 2 (enabF p g c)).1 ∧ diffF X P ∈ (choicesF g 2 (enabF p g (stepCF p g c P))).1 ∧ stepCF p g (stepCF p g c P) (diffF X P) = stepCF p g c X := by
 have hf := (mem_zero hm).1
 have hc := (fits_zero hf).1
 have hg := (fits_zero hf).2.1
 have hle := hg.le
 have h32 := enab_32 hm h5
 have hlt : enabF p g c < 4294967296 := by omega
 obtain ⟨hX32, hXE⟩ := choices_part hlt hX
 have hXp := (mem_choices hlt (by decide) (choices_few h32).1 hX32).1 hX
 have hX0 := (permits_part hXp).1
 have hXi : indepP g X = true := by
  unfold permitsF at hXp
  rw [if_neg hX0, hXE, if_neg (by decide), if_neg (by decide), if_pos rfl] at hXp
  exact hXp
 have hXn := within_trans hXE (within_bound (by omega) (enab_pow hm))
 have hI : Indep g X := indepF_ok hX32 (by rw [indep_same hg hX32 hXn]; exact hXi)
 have hP32 : P < 4294967296 := Nat.lt_of_le_of_lt (partW_le hP) hX32
 have hPX := (part_within hP32 hX32).1 hP
 have hbit : ∀ v, P.testBit v = true → X.testBit v = true := fun v hv => within32_iff.1 hPX v (bit_lt hP32 hv) hv
 have hen : ∀ v, X.testBit v = true → 0 ≤ firstF p.rules g c v := fun v hv => by
  have := within32_iff.1 hXE v (bit_lt hX32 hv) hv
  rw [enabF_bit] at this
  simp at this
  exact this.2
 have hi2 : ∀ Q, Q < 4294967296 → (∀ v, Q.testBit v = true → X.testBit v = true) → indepP g Q = true := fun Q hQ hQX => by
  rw [indepP_iff hQ]
  intro v hv
  have h := (indepP_iff hX32).1 hXi v (hQX v hv)
  rw [and_zero_iff] at h ⊢
  intro u hu
  have := h u hu
  cases hb : Q.testBit u with
  | false => rfl
  | true => rw [hQX u hb] at this; cases this
 have hD32 := diffF_lt X P
 have hDb : ∀ v, (diffF X P).testBit v = (X.testBit v && !P.testBit v) := fun v => diffF_bit hX32 v
 have hDX : ∀ v, (diffF X P).testBit v = true → X.testBit v = true := fun v hv => by rw [hDb] at hv; simp at hv; exact hv.1
 have hcl := conf_len hm
 have hmd : memF p g (stepCF p g c P) = 0 := step_mem hm fun v _ hv => hen v (hbit v hv)
 have hd32 := enab_32 hmd h5
 refine ⟨(mem_choices hlt (by decide) (choices_few h32).1 hP32).2 ?_, (mem_choices (by omega) (by decide) (choices_few hd32).1 hD32).2 ?_, ?_⟩
 ·unfold permitsF
  rw [if_neg h0, within_trans hPX hXE, if_neg (by decide), if_neg (by decide), if_pos rfl]
  exact hi2 P hP32 hbit
 ·have hD0 : diffF X P ≠ 0 := fun h => by
   have h2 := diffF_zero (T := P) hX32
   rw [h] at h2
   exact h1 (nat_bits hP32 hX32 fun v hv => by
    cases hb : X.testBit v with
    | true => exact within32_iff.1 h2.symm v hv hb
    | false =>
     cases hq : P.testBit v with
     | false => rfl
     | true => rw [hbit v hq] at hb; cases hb)
  have hDE : within32 (diffF X P) (enabF p g (stepCF p g c P)) = true := by
   rw [within32_iff]
   intro v hv hb
   have hXv := hDX v hb
   have hPv : P.testBit v = false := by rw [hDb] at hb; simp at hb; exact hb.2
   have hin := hI.node v hXv
   have hag := step_agree (p := p) hm hI hbit hXv hPv
   rw [enabF_bit, stepCF_length, decide_eq_true (show v < c.length by omega), Bool.true_and, decide_eq_true_iff, ← firstF_local hc hg hin hag]
   exact hen v hXv
  unfold permitsF
  rw [if_neg hD0, hDE, if_neg (by decide), if_neg (by decide), if_pos rfl]
  exact hi2 _ hD32 hDX
 ·refine List.ext_getElem (by simp [stepCF_length]) fun v h1 h2 => ?_
  have hv : v < c.length := by simpa [stepCF_length] using h1
  rw [← getD_eq h1 (d := []), ← getD_eq h2 (d := []), stepCF_at _ _ _ _ (by rw [stepCF_length]; exact hv), stepCF_at _ _ _ _ hv, stepCF_at _ _ _ _ hv, hDb]
  cases hXv : X.testBit v with
  | false =>
   have hPv : P.testBit v = false := by
    cases hq : P.testBit v with
    | false => rfl
    | true => rw [hbit v hq] at hXv; cases hXv
   rw [hPv]; simp
  | true =>
   cases hPv : P.testBit v with
   | true => simp
   | false =>
    have hin := hI.node v hXv
    have hag := step_agree (p := p) hm hI hbit hXv hPv
    simp only [Bool.not_false, Bool.and_true, if_true]
    exact (moveF_local hc hg hin hag (hen v hXv)).symm

end Go.Proofs.YtgemlgpjbclonaaGreatDoor

/- Contract: the transition system, the reference's. -/
namespace Go.Proofs.YtgemlgpjbclonaaGreatDoor
open Go.RowKit
attribute [local go_sem] Oper.semAt_some

theorem arc_infoR : (Tryz.prog.info? 56).map (fun i => (i.zero, i.size, i.bytes)) = some (some (.agg #[.int .u32 0, .int .i64 0]), 2, 16) := by kernel_rfl
theorem arcrow_infoR : (Tryz.prog.info? 54).map (fun i => (i.zero, i.size, i.bytes)) = some (some (.slice none 0 0), 1, 24) := by kernel_rfl
set_option maxRecDepth 100000 in
set_option maxHeartbeats 8000000 in
theorem refBuild_any (v1 : Value) (p : Prg) (v2 : Value) (g : Graph) (kind : Int) (w : World) (h : PrgV w v1 p) (h2 : GraphV w v2 g) (hL : lightP p = true) (hG : lightG g = true) (hfew : (totalF p g).2 = 0 → sizeF p g ≤ 200 ∧ g.ports.length ≤ 5) :
  Calls Tryz.prog 12 #[v1, v2, .int .i64 kind] w (RetBuild (buildF p g kind) w) := by
 have HPV := Lib.hid (fun w' (k : Bel w w') => h.keep k)
 have HGV := Lib.hid (fun w' (k : Bel w w') => h2.keep k)
 obtain ⟨A1, k1, A2, k2, rfl, _, _, _, _, _, _⟩ := h
 obtain ⟨A3, k3, A4, k4, rfl, _, _, _, _, _, _⟩ := h2
 have HW := Bel.refl ((w.alloc (.cells #[.string p.name, .slice A1 p.vars.length k1, .slice A2 p.rules.length k2] 25)).alloc (.cells #[.slice A3 g.ids.length k3, .slice A4 g.ports.length k4] 29))
 have HL := Lib.hid hL
 have HGL := Lib.hid hG
 have HFEW := Lib.hid hfew
 clear hL hG hfew
 have HF : Hid (buildF p g kind = if (totalF p g).2 ≠ 0 ∧ (totalF p g).2 ≠ 3 then (⟨[], []⟩, (totalF p g).2) else if kindB kind = false then (⟨[], []⟩, 12) else if (totalF p g).2 ≠ 0 then (⟨[], []⟩, (totalF p g).2) else (spaceF p g kind, 0)) := rfl
 obtain ⟨NT, hNT⟩ : ∃ NT, NT = totalF p g := ⟨_, rfl⟩
 obtain ⟨n0, e0⟩ := NT
 rw [← hNT] at HF HFEW
 have HNT := Lib.hid hNT
 clear hNT
 have HX0 : Bel w (((w.alloc (.cells #[.string p.name, .slice A1 p.vars.length k1, .slice A2 p.rules.length k2] 25)).alloc (.cells #[.slice A3 g.ids.length k3, .slice A4 g.ports.length k4] 29)).alloc (.cells #[.slice none 0 0, .slice none 0 0] 35)) := (box2_bel HW).alloc _
 have HSB : Hid (Blk (((w.alloc (.cells #[.string p.name, .slice A1 p.vars.length k1, .slice A2 p.rules.length k2] 25)).alloc (.cells #[.slice A3 g.ids.length k3, .slice A4 g.ports.length k4] 29)).alloc (.cells #[.slice none 0 0, .slice none 0 0] 35)) (w.heap.size + 1 + 1) #[.slice none 0 0, .slice none 0 0] 35) := by
  have := Blk.new ((w.alloc (.cells #[.string p.name, .slice A1 p.vars.length k1, .slice A2 p.rules.length k2] 25)).alloc (.cells #[.slice A3 g.ids.length k3, .slice A4 g.ports.length k4] 29)) #[.slice none 0 0, .slice none 0 0] 35
  rw [World.size_alloc, World.size_alloc] at this
  exact this
 have hend : ∀ (k : Int) (wr : World), Bel w wr → RetBuild (⟨[], []⟩, k) w (.returned (.tuple #[.agg #[.slice none 0 0, .slice none 0 0], .int .i64 k])) wr := fun k wr hb => ⟨_, rfl, SpaceV.empty _, hb⟩
 have HEND := Lib.hid hend
 replace HW := HW.alloc (.cells #[.slice none 0 0, .slice none 0 0] 35)
 clear hend
 by_cases h1 : e0 ≠ 0 ∧ e0 ≠ 3
 ·rw [if_pos h1] at HF
  have d0 : (e0 != 0) = true := by simpa using h1.1
  have d1 : (e0 != 3) = true := by simpa using h1.2
  clear h1
  go_enter Tryz.func12, Tryz.ntmps12
  go_wp2_with (go_at_call 16; refine (refCount10_any _ p _ g _ (HPV.out _ (box2_bel HW)) (HGV.out _ (box2_bel HW)) HL.out HGL.out).mono ?_; rintro e wc ⟨rfl, hb⟩; rw [← HNT.out]; have HX := HX0.trans hb; have HB := Blk.keep HSB.out hb; have z0 := HB.cell 0 (v := .slice none 0 0) rfl; have z1 := HB.cell 1 (v := .slice none 0 0) rfl; have f0 := HB.frozen 0; have f1 := HB.frozen 1; have lb := HB.lt; have HBC := Lib.hid HB; clear HB; replace HW := HW.trans hb; clear hb; (try clear p0 p1 p2 g0 g1 gsz); obtain ⟨p0, p1, p2, g0, g1, gsz⟩ := pgbox HW)
  have zz := (Blk.set (Blk.set HBC.out 0 (.slice none 0 0)) 1 (.slice none 0 0))
  have y0 := Blk.cell zz 0 (v := .slice none 0 0) (by rfl)
  have y1 := Blk.cell zz 1 (v := .slice none 0 0) (by rfl)
  refine bodyPost_ret (v := .tuple #[.agg #[.slice none 0 0, .slice none 0 0], .int .i64 e0]) (by simp [results, Tryz.results12, go_sem, y0, y1]; try go_simp) rfl ?_
  rw [HF.out]
  exact HEND.out _ _ ((HX.setCell (by simp; omega) _).setCell (by simp; omega) _)
 ·rw [if_neg h1] at HF
  have hd0 : e0 = 0 ∨ e0 = 3 := by omega
  clear h1
  cases hk : kindB kind with
  | false =>
   have HKD := Lib.hid hk
   rw [hk, if_pos rfl] at HF
   clear hk
   rcases hd0 with rfl | rfl
   all_goals
    go_enter Tryz.func12, Tryz.ntmps12
    go_wp2_with (first
     | (go_at_call 16; refine (refCount10_any _ p _ g _ (HPV.out _ (box2_bel HW)) (HGV.out _ (box2_bel HW)) HL.out HGL.out).mono ?_; rintro e wc ⟨rfl, hb⟩; rw [← HNT.out]; have HX := HX0.trans hb; have HB := Blk.keep HSB.out hb; have z0 := HB.cell 0 (v := .slice none 0 0) rfl; have z1 := HB.cell 1 (v := .slice none 0 0) rfl; have f0 := HB.frozen 0; have f1 := HB.frozen 1; have lb := HB.lt; have HBC := Lib.hid HB; clear HB; replace HW := HW.trans hb; clear hb; (try clear p0 p1 p2 g0 g1 gsz); obtain ⟨p0, p1, p2, g0, g1, gsz⟩ := pgbox HW)
     | (go_at_call 17; refine (refDaemon_any kind _).mono ?_; rintro e w' ⟨rfl, rfl⟩; rw [HKD.out]))
    have zz := (Blk.set (Blk.set HBC.out 0 (.slice none 0 0)) 1 (.slice none 0 0))
    have y0 := Blk.cell zz 0 (v := .slice none 0 0) (by rfl)
    have y1 := Blk.cell zz 1 (v := .slice none 0 0) (by rfl)
    refine bodyPost_ret (v := .tuple #[.agg #[.slice none 0 0, .slice none 0 0], .int .i64 12]) (by simp [results, Tryz.results12, go_sem, y0, y1]; try go_simp) rfl ?_
    rw [HF.out]
    exact HEND.out _ _ ((HX.setCell (by simp; omega) _).setCell (by simp; omega) _)
  | true =>
   have HKD := Lib.hid hk
   rw [hk, if_neg (by decide)] at HF
   clear hk
   rcases hd0 with rfl | rfl
   ·rw [if_neg (by simp)] at HF
    obtain ⟨hs2, h5⟩ := HFEW.out rfl
    obtain ⟨hfz, hn0⟩ := total_ok HNT.out
    have HFZ := Lib.hid hfz
    have hsp := size_pos hfz
    have HSZ : Hid (sizeF p g ≤ 32768) := by show _ ≤ _; omega
    obtain ⟨n, hn⟩ := Int.eq_ofNat_of_zero_le (show 0 ≤ sizeF p g by omega)
    rw [hn] at hn0 hs2 hsp
    have HN := Lib.hid hn
    subst hn0
    have HGO := Lib.hid (fits_zero hfz).2.1
    have HCK : Hid (∀ k : Nat, k < n → memF p g (confK p g k) = 0) := fun k hk => confK_mem hfz (by rw [hn]; omega)
    clear hfz hn
    obtain ⟨i0, hi0, hz0, hz1, hz2⟩ := info_parts u32_info
    obtain ⟨j0, hj0, hy0, hy1, hy2⟩ := info_parts arcrow_infoR
    obtain ⟨l0, hl0, hx0, hx1, hx2⟩ := info_parts arc_infoR
    go_enter Tryz.func12, Tryz.ntmps12
    go_wp2_with (first
     | (go_at_call 16; refine (refCount10_any _ p _ g _ (HPV.out _ (box2_bel HW)) (HGV.out _ (box2_bel HW)) HL.out HGL.out).mono ?_; rintro e wc ⟨rfl, hb⟩; rw [← HNT.out]; have HX := HX0.trans hb; have HB := Blk.keep HSB.out hb; have z0 := HB.cell 0 (v := .slice none 0 0) rfl; have z1 := HB.cell 1 (v := .slice none 0 0) rfl; have f0 := HB.frozen 0; have f1 := HB.frozen 1; have lb := HB.lt; have HBC := Lib.hid HB; clear HB; replace HW := HW.trans hb; clear hb; (try clear p0 p1 p2 g0 g1 gsz); obtain ⟨p0, p1, p2, g0, g1, gsz⟩ := pgbox HW)
     | (go_at_call 17; refine (refDaemon_any kind _).mono ?_; rintro e w' ⟨rfl, rfl⟩; rw [HKD.out]))
    have HWC := Lib.hid HW
    have HBS := Lib.hid (Blk.new wc #[.slice none 0 0, .slice none 0 0] 35)
    have hwcl := HW.size
    simp at hwcl
    clear z0 z1 f0 f1 lb p0 p1 p2 g0 g1 gsz
    go_loopg [11, 12] n (fun m t z wr => ∃ (k tt : Nat) (RE : Option Addr) (cE : Nat) (RA : Option Addr) (cA : Nat) (hs : List Value), k ≤ n ∧ m = n - k ∧ t = .int .i64 (tt : Int) ∧ tt ≤ 31 * k ∧ z = .int .i64 (k : Int) ∧ Hid (Blk wr wc.heap.size #[.slice RE k cE, .slice RA k cA] 35) ∧ Hid (wr.ownsRow (wc.heap.size + 1) 45 1 (.slice RE k cE) k ((esF p g k).map maskV)) ∧ Hid (wr.ownsRow (wc.heap.size + 1) 54 1 (.slice RA k cA) k hs) ∧ Hid (ArcsC wr (wc.heap.size + 1) (lsF p g kind k) hs) ∧ Bel wc wr)
    case atStart => exact ⟨0, 0, none, 0, none, 0, [], by omega, rfl, rfl, by omega, rfl, HBS, World.ownsRow_nil _ _ _ _, World.ownsRow_nil _ _ _ _, ArcsC.nil _ _, (Bel.refl wc).alloc _⟩
    case round =>
     clear HW HBS
     obtain ⟨k, tt, RE, cE, RA, cA, hs, hk, rfl, rfl, htt, rfl, HBX, HOE, HOA, HAC, HB⟩ := hrel
     obtain ⟨wo, rfl⟩ : ∃ wo, wo = wr := ⟨_, rfl⟩
     have HW := HWC.out.trans HB
     by_cases hlt : k < n
     ·have hd0 : decide (k < n) = true := by simpa using hlt
      have hm := HCK.out k hlt
      have hkn : (k : Int) < sizeF p g := by rw [HN.out]; omega
      have hk2 : k ≤ 32768 := by omega
      have HES := Lib.hid (esF_succ p g k)
      have HLS := Lib.hid (lsF_succ p g kind k)
      have HKN := Lib.hid hkn
      obtain ⟨c, hc⟩ : ∃ c, confK p g k = c := ⟨_, rfl⟩
      have HCK2 := Lib.hid hc
      rw [hc] at hm HES HLS
      have HM := Lib.hid hm
      have HCLN := Lib.hid (conf_len hm)
      have HCLT := Lib.hid (conf_light hm HL.out)
      have hE32 := enabF_lt hm
      have hEP := enab_pow hm
      have HE5 : Hid (enabF p g c < 32) := Nat.lt_of_lt_of_le hEP (show 2 ^ g.ports.length ≤ 2 ^ 5 from Nat.pow_le_pow_right (by decide) h5)
      have HEN : Hid (enabledF p g c = enabF p g c) := by show _ = _; unfold enabledF; rw [if_neg (by simpa using hm)]
      have HCH : Hid (choicesR g kind (enabF p g c) = choicesF g kind (enabF p g c)) := choices_same HGO.out HKD.out hEP
      have HLA : Hid (arcsOf p g kind c = (choicesF g kind (enabF p g c)).1.map fun T => (T, numF p g (stepCF p g c T))) := rfl
      have hcf := choices_few (g := g) (kind := kind) HE5.out
      have HST : Hid (∀ T ∈ (choicesF g kind (enabF p g c)).1, T < 4294967296 ∧ stepRF p g c T = (stepCF p g c T, 0) ∧ memF p g (stepCF p g c T) = 0) := fun T hT => choice_step hm HKD.out h5 hT
      obtain ⟨E, hE⟩ : ∃ E, enabF p g c = E := ⟨_, rfl⟩
      rw [hE] at HEN HCH HLA hcf HST hE32 hEP HES
      have HEE := Lib.hid hE
      obtain ⟨ch, hch⟩ : ∃ ch, choicesF g kind E = ch := ⟨_, rfl⟩
      rw [hch] at HCH HLA hcf HST
      obtain ⟨Lc, e1⟩ := ch
      obtain ⟨hcf1, hcf2, _⟩ := hcf
      obtain rfl : e1 = 0 := hcf1
      have hL31 : Lc.length ≤ 31 := hcf2
      obtain ⟨La, hLa⟩ : ∃ La, arcsOf p g kind c = La := ⟨_, rfl⟩
      rw [hLa] at HLA HLS
      clear hcf2 hm hkn hc hE hch hLa
      have ht1 : decide ((262144 : Int) < (tt : Int) + (Lc.length : Int)) = false := decide_eq_false (by omega)
      obtain ⟨p0, p1, p2, g0, g1, gsz⟩ := pgbox HW
      go_wp2_with (first
       | (go_at_call 39; refine (refConf_any _ p _ g k _ (HPV.out _ (box2_bel HW)) (HGV.out _ (box2_bel HW)) HL.out HGL.out HFZ.out HKN.out hk2).mono ?_; rintro e w1 ⟨gb, cap, bs, rfl, hR, hb⟩; rw [HCK2.out] at hR; have hcv := hR.conf; rw [HCLN.out] at hcv; have HCV := Lib.hid (fun w' (kk : Bel w1 w') => hcv.keep kk); have HB1 := Lib.hid hb; clear hR hcv; replace HW := HW.trans hb; clear hb; (try clear p0 p1 p2 g0 g1 gsz); obtain ⟨p0, p1, p2, g0, g1, gsz⟩ := pgbox HW)
       | (go_at_call 22; refine (refEnabled_any _ p _ g _ c _ (HPV.out _ (box2_bel HW)) (HGV.out _ (box2_bel HW)) (HCV.out _ (Bel.refl _)) HL.out HGL.out HCLT.out).mono ?_; rintro e w2 ⟨rfl, hb⟩; rw [HEN.out]; have HB2 := Lib.hid hb; replace HW := HW.trans hb; clear hb; (try clear p0 p1 p2 g0 g1 gsz); obtain ⟨p0, p1, p2, g0, g1, gsz⟩ := pgbox HW)
       | (go_at_call 40; have hps := refChoices_any _ g kind E w2 (HGV.out _ (box2_bel HW)) HGO.out HGL.out HKD.out hEP; rw [HCH.out] at hps; refine hps.mono ?_; rintro e w3 ⟨AL, cL, rfl, hAL, _, _, hb⟩; have HAL := Lib.hid (fun w' (kk : Bel w3 w') => hAL.keep kk); have HB3 := Lib.hid hb; clear hAL hps; replace HW := HW.trans hb; clear hb; (try clear p0 p1 p2 g0 g1 gsz); obtain ⟨p0, p1, p2, g0, g1, gsz⟩ := pgbox HW))
      have HW3 := Lib.hid HW
      have HB03 := Lib.hid ((HB1.out.trans HB2.out).trans HB3.out)
      have HB13 := Lib.hid (HB2.out.trans HB3.out)
      have hsz3 := HW.size
      simp at hsz3
      have HLen : Hid (La.length = Lc.length) := by show _ = _; rw [HLA.out]; simp
      have HWX := Bel.refl w3
      clear p0 p1 p2 g0 g1 gsz HW
      go_loopg [17, 18] Lc.length (fun m x z wr => ∃ (i : Nat) (X : Option Addr) (cX : Nat), i ≤ Lc.length ∧ m = Lc.length - i ∧ x = .slice X i cX ∧ z = .int .i64 (i : Int) ∧ Hid (wr.ownsRow w3.heap.size 56 2 (.slice X i cX) i ((La.take i).flatMap arcCells)) ∧ Bel w3 wr)
      case atStart => exact ⟨0, none, 0, by omega, rfl, rfl, rfl, World.ownsRow_nil _ _ _ _, HWX⟩
      case round =>
       clear HWX
       obtain ⟨i, X, cX, hi, rfl, rfl, rfl, HX, HBI⟩ := hrel
       have HW := HW3.out.trans HBI
       by_cases hli : i < Lc.length
       ·have hd1 : decide (i < Lc.length) = true := by simpa using hli
        have hkI : (i : Int) < (Lc.length : Int) := by omega
        obtain ⟨bL, oL, rfl, hbL, c0⟩ := (HAL.out _ (Bel.refl w3)).at_ i hli
        obtain ⟨hT1, hT2, hT3⟩ := HST.out _ (List.getElem_mem hli)
        have HTA : Hid (La[i]'(by rw [HLen.out]; exact hli) = (Lc[i], numF p g (stepCF p g c Lc[i]))) := by
         show _ = _
         have h1 := HLA.out
         subst h1
         simp
        have hiA : i < La.length := by rw [HLen.out]; exact hli
        have HTK : Hid (La.take (i + 1) = La.take i ++ [La[i]]) := List.take_succ_eq_append_getElem hiA
        rw [HTA.out] at HTK
        obtain ⟨T, hT⟩ : ∃ T, Lc[i] = T := ⟨_, rfl⟩
        rw [hT] at hT1 hT2 hT3 HTK c0
        have HDM := Lib.hid hT3
        have HDL := Lib.hid (conf_light hT3 HL.out)
        obtain ⟨D, hD⟩ : ∃ D, stepCF p g c T = D := ⟨_, rfl⟩
        rw [hD] at hT2 HDM HDL HTK
        have HSR := Lib.hid hT2
        obtain ⟨nm, hnm⟩ : ∃ nm, numF p g D = nm := ⟨_, rfl⟩
        rw [hnm] at HTK
        have HNM := Lib.hid hnm
        clear hT hT2 hT3 hD hnm HTA
        have hcell := Lib.hid (fun w' (kk : Bel w3 w') => show (fun w' => w'.cell? ⟨w.heap.size, 0, none⟩ = some (.string p.name) ∧ w'.cell? ⟨w.heap.size, 1, none⟩ = some (.slice A1 p.vars.length k1) ∧ w'.cell? ⟨w.heap.size, 2, none⟩ = some (.slice A2 p.rules.length k2) ∧ w'.cell? ⟨w.heap.size + 1, 0, none⟩ = some (.slice A3 g.ids.length k3) ∧ w'.cell? ⟨w.heap.size + 1, 1, none⟩ = some (.slice A4 g.ports.length k4) ∧ w.heap.size + 1 < w'.heap.size) w' ∧ w'.cell? ⟨bL, oL + i, none⟩ = some (.int .u32 (T : Int)) ∧ bL < w'.heap.size from ⟨pgbox (HW3.out.trans kk), (kk.cell hbL).trans c0, Nat.lt_of_lt_of_le hbL kk.size⟩)
        clear c0
        go_upto_region 23 with fail
        replace HBI := HBI.drew
        replace HX := Lib.hid (show World.ownsRow _ _ _ _ _ _ _ from ((Bel.refl wr).drew).owns HX.out)
        go_region_held3 (fun w' => (fun w' => w'.cell? ⟨w.heap.size, 0, none⟩ = some (.string p.name) ∧ w'.cell? ⟨w.heap.size, 1, none⟩ = some (.slice A1 p.vars.length k1) ∧ w'.cell? ⟨w.heap.size, 2, none⟩ = some (.slice A2 p.rules.length k2) ∧ w'.cell? ⟨w.heap.size + 1, 0, none⟩ = some (.slice A3 g.ids.length k3) ∧ w'.cell? ⟨w.heap.size + 1, 1, none⟩ = some (.slice A4 g.ports.length k4) ∧ w.heap.size + 1 < w'.heap.size) w' ∧ w'.cell? ⟨bL, oL + i, none⟩ = some (.int .u32 (T : Int)) ∧ bL < w'.heap.size) (exact hcell.out _ HBI) ((go_simp; go_at_call 24; have hps := refStep_any _ p _ g _ c T _ (HPV.out _ (box2_bel (HW3.out.trans HBI))) (HGV.out _ (box2_bel (HW3.out.trans HBI))) (HCV.out _ (HB13.out.trans HBI)) HL.out HGL.out HCLT.out hT1; rw [HSR.out] at hps; refine hps.mono ?_; rintro e w4 ⟨AD, cD, rfl, hDV, hb⟩; have HDV := Lib.hid (fun w' (kk : Bel w4 w') => hDV.keep kk); have HX4 := Lib.hid (hb.owns HX.out); replace HBI := HBI.trans hb; clear hps hDV hb))
        go_upto_region 24 with fail
        replace HBI := HBI.drew
        replace HX4 := Lib.hid (show World.ownsRow _ _ _ _ _ _ _ from ((Bel.refl w4).drew).owns HX4.out)
        go_region_held3 (fun w' => (fun w' => w'.cell? ⟨w.heap.size, 0, none⟩ = some (.string p.name) ∧ w'.cell? ⟨w.heap.size, 1, none⟩ = some (.slice A1 p.vars.length k1) ∧ w'.cell? ⟨w.heap.size, 2, none⟩ = some (.slice A2 p.rules.length k2) ∧ w'.cell? ⟨w.heap.size + 1, 0, none⟩ = some (.slice A3 g.ids.length k3) ∧ w'.cell? ⟨w.heap.size + 1, 1, none⟩ = some (.slice A4 g.ports.length k4) ∧ w.heap.size + 1 < w'.heap.size) w' ∧ w'.cell? ⟨bL, oL + i, none⟩ = some (.int .u32 (T : Int)) ∧ bL < w'.heap.size) (first | exact hcell.out _ HBI | exact hcell.out _ (HBI.alloc _) | exact hcell.out _ hb6) (first
         | (go_simp; go_at_call 41; refine (refNum10_any _ p _ g _ D _ (HPV.out _ (box2_bel (HW3.out.trans HBI))) (HGV.out _ (box2_bel (HW3.out.trans HBI))) (HDV.out _ ((Bel.refl w4).drew)) HL.out HGL.out HDM.out HSZ.out).mono ?_; rintro e w5 ⟨rfl, hb⟩; rw [HNM.out]; have HX5 := Lib.hid (hb.owns HX4.out); replace HBI := HBI.trans hb; clear hb)
         | (refine step_push _ rfl (.tmp 92) (.tmp 102) 54 rfl w3.heap.size 56 l0 (.agg #[.int .u32 0, .int .i64 0]) 2 16 Tryz.underlying54 hl0 hx0 hx1 hx2 rfl (by decide) X i cX ((La.take i).flatMap arcCells) (by first | (simp [Act.eval]; done) | (simp [Act.eval, Act.put]; done)) (HX5.out.alloc _) w5.heap.size #[.int .u32 (T : Int), .int .i64 nm] 56 (0, 0) (by first | (simp [Act.eval]; done) | (simp [Act.eval, Act.put]; done)) (heap_new _ _) rfl (by simp [Value.oneCell']) (by unfold maxLen; omega) (by omega) (by have := HBI.size; simp; omega) ?_; intro X2 c2 w6 hown6 hgr6 _; have hb6 : Bel w3 w6 := (HBI.alloc _).push (HX5.out.alloc _) hgr6))
        go_wp2_with fail
        go_roundg (Lc.length - (i + 1))
        case rel =>
         refine ⟨i + 1, X2, c2, by omega, rfl, rfl, by go_num, ?_, hb6⟩
         show World.ownsRow _ _ _ _ _ _ _
         rw [HTK.out, List.flatMap_append]
         simpa [arcCells] using hown6
        case measure => omega
       ·have hd1 : decide (i < Lc.length) = false := by simpa using hli
        obtain rfl : i = Lc.length := by omega
        have hbo := HBX.out.lt
        have HB0r := HB03.out.trans HBI
        have HXr : Hid (wr.ownsRow (wc.heap.size + 1) 56 2 (.slice X La.length cX) La.length (La.flatMap arcCells)) := by
         have h1 := HX.out
         rw [List.take_of_length_le (by rw [HLen.out]; exact Nat.le_refl _)] at h1
         show World.ownsRow _ _ _ _ _ _ _
         rw [HLen.out]
         exact own_lower h1 (by have := HB03.out.size; omega)
        go_upto_region 25 with fail
        refine AnyL.start (fun w' : World => w'.cell? ⟨wc.heap.size, 0, none⟩ = some (.slice RE k cE) ∧ w'.cell? ⟨wc.heap.size, 1, none⟩ = some (.slice RA k cA) ∧ wc.heap.size < w'.heap.size) [13, 12, 11] (by kernel_rfl) ?_
        have HBW := Lib.hid ((HB.trans HB0r).drew)
        have HBXW := Lib.hid (HBX.out.keep HB0r.drew)
        have HOEW := Lib.hid (HB0r.drew.owns HOE.out)
        have HOAW := Lib.hid (HB0r.drew.owns HOA.out)
        have HACW := Lib.hid (HAC.out.keep HB0r.drew)
        have HXW := Lib.hid (((Bel.refl wr).drew).owns HXr.out)
        clear HBX HOE HOA HAC HXr HX HBI HB0r
        generalize wr.drew = W at *
        have HNB : Hid (¬ twoE (.slice RE k cE) (.slice RA k cA) wc.heap.size) := by
         rintro (h | h)
         ·have := own_ge HOEW.out _ h.symm; omega
         ·have := own_ge HOAW.out _ h.symm; omega
        have HS : Hid (∀ w', Bel W w' → (fun w' : World => w'.cell? ⟨wc.heap.size, 0, none⟩ = some (.slice RE k cE) ∧ w'.cell? ⟨wc.heap.size, 1, none⟩ = some (.slice RA k cA) ∧ wc.heap.size < w'.heap.size) w') := fun w' kk => ⟨(HBXW.out.keep kk).cell 0 rfl, (HBXW.out.keep kk).cell 1 rfl, (HBXW.out.keep kk).lt⟩
        have hwW := HBXW.out.lt
        have hHeld := HS.out W (Bel.refl W)
        (refine AnyL.t (v := ?_) 0 104 rfl rfl (by kernel_rfl) (fun _ _ _ h => h) hHeld (Or.inl ⟨by rfl, ?_⟩) ?_; rotate_left 1; focus (intro w' hSw; (try dsimp only at hSw); go_simp; (try with_reducible rfl); done); (try simp only [Act.put, List.setIfInBounds_toArray, List.set_cons_zero, List.set_cons_succ])); (refine AnyL.t (v := ?_) 1 105 rfl rfl (by kernel_rfl) (fun _ _ _ h => h) hHeld (Or.inl ⟨by rfl, ?_⟩) ?_; rotate_left 1; focus (intro w' hSw; (try dsimp only at hSw); go_simp; (try with_reducible rfl); done); (try simp only [Act.put, List.setIfInBounds_toArray, List.set_cons_zero, List.set_cons_succ])); (refine AnyL.t (v := ?_) 2 106 rfl rfl (by kernel_rfl) (fun _ _ _ h => h) hHeld (Or.inl ⟨by rfl, ?_⟩) ?_; rotate_left 1; focus (intro w' hSw; (try dsimp only at hSw); go_simp; (try with_reducible rfl); done); (try simp only [Act.put, List.setIfInBounds_toArray, List.set_cons_zero, List.set_cons_succ]))
        (refine AnyL.t (v := ?_) 5 109 rfl rfl (by kernel_rfl) (fun _ _ _ h => h) hHeld (Or.inl ⟨by rfl, ?_⟩) ?_; rotate_left 1; focus (intro w' hSw; (try dsimp only at hSw); go_simp; (try with_reducible rfl); done); (try simp only [Act.put, List.setIfInBounds_toArray, List.set_cons_zero, List.set_cons_succ])); (refine AnyL.t (v := ?_) 6 110 rfl rfl (by kernel_rfl) (fun _ _ _ h => h) hHeld (Or.inl ⟨by rfl, ?_⟩) ?_; rotate_left 1; focus (intro w' hSw; (try dsimp only at hSw); go_simp; (try with_reducible rfl); done); (try simp only [Act.put, List.setIfInBounds_toArray, List.set_cons_zero, List.set_cons_succ])); (refine AnyL.t (v := ?_) 7 111 rfl rfl (by kernel_rfl) (fun _ _ _ h => h) hHeld (Or.inl ⟨by rfl, ?_⟩) ?_; rotate_left 1; focus (intro w' hSw; (try dsimp only at hSw); go_simp; (try with_reducible rfl); done); (try simp only [Act.put, List.setIfInBounds_toArray, List.set_cons_zero, List.set_cons_succ]))
        clear hHeld
        refine AnyL.two (i := 3) (j := 8) (by kernel_rfl) rfl rfl (fun K hK => ?_) (fun K hK => ?_)
        ·go_simp
         refine hK.out _ _ (fun _ => HS.out _ ((Bel.refl W).alloc (.cells #[.int .u32 (E : Int)] 45))) ?_
         clear hK K
         (try simp only [Act.put, List.setIfInBounds_toArray, List.set_cons_zero, List.set_cons_succ])
         refine AnyL.two (i := 4) (j := 8) (by kernel_rfl) rfl rfl (fun K hK => ?_) (fun K hK => ?_)
         ·refine step_push _ rfl (.tmp 105) (.tmp 107) 32 rfl (wc.heap.size + 1) 45 i0 (.int .u32 0) 1 4 Tryz.underlying32 hi0 hz0 hz1 hz2 rfl (by decide) RE k cE ((esF p g k).map maskV) (by first | (simp [Act.eval]; done) | (simp [Act.eval, Act.put]; done)) (HOEW.out.alloc _) W.heap.size #[.int .u32 (E : Int)] 45 (0, 0) (by first | (simp [Act.eval]; done) | (simp [Act.eval, Act.put]; done)) (heap_new _ _) rfl (one_mask _) (by unfold maxLen; omega) (by omega) (by simp; omega) ?_
          intro R4 c4 w4 hown4 hgr4 _
          have hA4 : w4.ownsRow (wc.heap.size + 1) 54 1 (.slice RA k cA) k hs := own_grw (HOAW.out.alloc _) (Gr.grown hgr4) (own_other HOEW.out HOAW.out (by decide))
          have hag4 : Agr (twoE (.slice RE k cE) (.slice RA k cA)) W w4 := (Agr.alloc _ W (.cells #[.int .u32 (E : Int)] 45)).trans (Agr.grownV hgr4 (fun k h => .inl h))
          have hb4 : Blk w4 wc.heap.size #[.slice RE k cE, .slice RA k cA] 35 := hag4.blk HBXW.out (HNB.out)
          refine hK.out _ _ (fun _ => ⟨hb4.cell 0 rfl, hb4.cell 1 rfl, hb4.lt⟩) ?_
          clear hK K
          (try simp only [Act.put, List.setIfInBounds_toArray, List.set_cons_zero, List.set_cons_succ])
          have hHeld : (fun w' : World => w'.cell? ⟨wc.heap.size, 0, none⟩ = some (.slice RE k cE) ∧ w'.cell? ⟨wc.heap.size, 1, none⟩ = some (.slice RA k cA) ∧ wc.heap.size < w'.heap.size) w4 := ⟨hb4.cell 0 rfl, hb4.cell 1 rfl, hb4.lt⟩
          (refine AnyL.t (v := ?_) 10 114 rfl rfl (by kernel_rfl) (fun _ _ _ h => h) hHeld (Or.inl ⟨by rfl, ?_⟩) ?_; rotate_left 1; focus (intro w' hSw; (try dsimp only at hSw); go_simp; (try with_reducible rfl); done); (try simp only [Act.put, List.setIfInBounds_toArray, List.set_cons_zero, List.set_cons_succ]))
          clear hHeld
          refine AnyL.one (i := 8) (by kernel_rfl) rfl (fun K hK => ?_)
          go_simp
          refine hK.out _ _ (fun _ => ⟨(hb4.keep ((Bel.refl w4).alloc _)).cell 0 rfl, (hb4.keep ((Bel.refl w4).alloc _)).cell 1 rfl, (hb4.keep ((Bel.refl w4).alloc _)).lt⟩) ?_
          clear hK K
          (try simp only [Act.put, List.setIfInBounds_toArray, List.set_cons_zero, List.set_cons_succ])
          refine AnyL.one (i := 9) (by kernel_rfl) rfl (fun K hK => ?_)
          refine step_push _ rfl (.tmp 110) (.tmp 112) 33 rfl (wc.heap.size + 1) 54 j0 (.slice none 0 0) 1 24 Tryz.underlying33 hj0 hy0 hy1 hy2 rfl (by decide) RA k cA hs (by first | (simp [Act.eval]; done) | (simp [Act.eval, Act.put]; done)) (hA4.alloc _) w4.heap.size #[.slice X Lc.length cX] 54 (0, 0) (by first | (simp [Act.eval]; done) | (simp [Act.eval, Act.put]; done)) (heap_new _ _) rfl (one_slice _ _ _) (by unfold maxLen; omega) (by omega) (by have := hag4.size; simp; omega) ?_
          intro R7 c7 w7 hown7 hgr7 _
          have hE7 := own_grw (hown4.alloc (.cells #[.slice X Lc.length cX] 54)) (Gr.grown hgr7) (own_other (hA4.alloc (.cells #[.slice X Lc.length cX] 54)) (hown4.alloc (.cells #[.slice X Lc.length cX] 54)) (by decide))
          have hag7 := hag4.trans ((Agr.alloc _ w4 (.cells #[.slice X Lc.length cX] 54)).trans (Agr.grownV hgr7 (fun k h => .inr h)))
          have hb7 : Blk w7 wc.heap.size #[.slice RE k cE, .slice RA k cA] 35 := hag7.blk HBXW.out (HNB.out)
          refine hK.out _ _ (fun _ => ⟨hb7.cell 0 rfl, hb7.cell 1 rfl, hb7.lt⟩) ?_
          clear hK K
          (try simp only [Act.put, List.setIfInBounds_toArray, List.set_cons_zero, List.set_cons_succ])
          have y0 := hb7.cell 0 (v := .slice RE k cE) rfl
          have y1 := hb7.cell 1 (v := .slice RA k cA) rfl
          have f0 := hb7.frozen 0
          have f1 := hb7.frozen 1
          have yl := hb7.lt
          refine AnyL.one (i := 11) (by kernel_rfl) rfl (fun K hK => ?_)
          go_simp
          refine hK.out _ _ (fun h => absurd (by decide) h) ?_
          clear hK K
          (try simp only [Act.put, List.setIfInBounds_toArray, List.set_cons_zero, List.set_cons_succ])
          refine AnyL.one (i := 12) (by kernel_rfl) rfl (fun K hK => ?_)
          go_simp
          refine hK.out _ _ (fun h => absurd (by decide) h) ?_
          clear hK K
          (try simp only [Act.put, List.setIfInBounds_toArray, List.set_cons_zero, List.set_cons_succ])
          (refine AnyL.one (i := 13) (by kernel_rfl) rfl (fun K hK => ?_)); go_simp; refine hK.out _ _ (fun h => absurd (by decide) h) ?_; clear hK K; refine AnyL.done (by kernel_rfl) ?_ _; (try simp only [Act.put, List.setIfInBounds_toArray, List.set_cons_zero, List.set_cons_succ])
          obtain ⟨t1, t2, t3, t4, t5⟩ := out_done HBXW.out (Nat.le_refl _) (Nat.lt_succ_self _) HBW.out HOEW.out HOAW.out HACW.out HXW.out hag7 hE7 hown7
          rw [HLen.out] at t4
          have T1 := Lib.hid t1
          have T2 := Lib.hid t2
          have T3 := Lib.hid t3
          have T4 := Lib.hid t4
          clear y0 y1 f0 f1 yl hb7 t1 t2 t3 t4 hgr4 hgr7 hag4 hag7 hown4 hown7 hE7 hA4
          go_wp2_with fail
          go_roundg (n - (k + 1))
          case rel =>
           refine ⟨k + 1, tt + Lc.length, R4, c4, R7, c7, hs ++ [.slice X Lc.length cX], by omega, rfl, by go_num, by omega, by go_num, T1.out, ?_, ?_, ?_, t5⟩
           ·show World.ownsRow _ _ _ _ _ _ _
            rw [HES.out, List.map_append]
            exact T2.out
           ·exact T3.out
           ·show ArcsC _ _ _ _
            rw [HLS.out]
            exact T4.out
          case measure => omega
         ·go_simp
          refine hK.out _ _ (fun _ => HS.out _ (((Bel.refl W).alloc (.cells #[.int .u32 (E : Int)] 45)).alloc (.cells #[.slice X Lc.length cX] 54))) ?_
          clear hK K
          (try simp only [Act.put, List.setIfInBounds_toArray, List.set_cons_zero, List.set_cons_succ])
          refine AnyL.one (i := 4) (by kernel_rfl) rfl (fun K hK => ?_)
          refine step_push _ rfl (.tmp 105) (.tmp 107) 32 rfl (wc.heap.size + 1) 45 i0 (.int .u32 0) 1 4 Tryz.underlying32 hi0 hz0 hz1 hz2 rfl (by decide) RE k cE ((esF p g k).map maskV) (by first | (simp [Act.eval]; done) | (simp [Act.eval, Act.put]; done)) ((HOEW.out.alloc _).alloc _) W.heap.size #[.int .u32 (E : Int)] 45 (0, 0) (by first | (simp [Act.eval]; done) | (simp [Act.eval, Act.put]; done)) ((heap_two W (.cells #[.int .u32 (E : Int)] 45) (.cells #[.slice X Lc.length cX] 54)).1) rfl (one_mask _) (by unfold maxLen; omega) (by omega) (by simp; omega) ?_
          intro R4 c4 w4 hown4 hgr4 _
          have hA4 : w4.ownsRow (wc.heap.size + 1) 54 1 (.slice RA k cA) k hs := own_grw ((HOAW.out.alloc _).alloc _) (Gr.grown hgr4) (own_other HOEW.out HOAW.out (by decide))
          have hag4 : Agr (twoE (.slice RE k cE) (.slice RA k cA)) W w4 := ((Agr.alloc _ W (.cells #[.int .u32 (E : Int)] 45)).trans (Agr.alloc _ _ (.cells #[.slice X Lc.length cX] 54))).trans (Agr.grownV hgr4 (fun k h => .inl h))
          have hb4 : Blk w4 wc.heap.size #[.slice RE k cE, .slice RA k cA] 35 := hag4.blk HBXW.out (HNB.out)
          refine hK.out _ _ (fun _ => ⟨hb4.cell 0 rfl, hb4.cell 1 rfl, hb4.lt⟩) ?_
          clear hK K
          (try simp only [Act.put, List.setIfInBounds_toArray, List.set_cons_zero, List.set_cons_succ])
          have hHeld : (fun w' : World => w'.cell? ⟨wc.heap.size, 0, none⟩ = some (.slice RE k cE) ∧ w'.cell? ⟨wc.heap.size, 1, none⟩ = some (.slice RA k cA) ∧ wc.heap.size < w'.heap.size) w4 := ⟨hb4.cell 0 rfl, hb4.cell 1 rfl, hb4.lt⟩
          (refine AnyL.t (v := ?_) 10 114 rfl rfl (by kernel_rfl) (fun _ _ _ h => h) hHeld (Or.inl ⟨by rfl, ?_⟩) ?_; rotate_left 1; focus (intro w' hSw; (try dsimp only at hSw); go_simp; (try with_reducible rfl); done); (try simp only [Act.put, List.setIfInBounds_toArray, List.set_cons_zero, List.set_cons_succ]))
          clear hHeld
          refine AnyL.one (i := 9) (by kernel_rfl) rfl (fun K hK => ?_)
          refine step_push _ rfl (.tmp 110) (.tmp 112) 33 rfl (wc.heap.size + 1) 54 j0 (.slice none 0 0) 1 24 Tryz.underlying33 hj0 hy0 hy1 hy2 rfl (by decide) RA k cA hs (by first | (simp [Act.eval]; done) | (simp [Act.eval, Act.put]; done)) (hA4) (W.heap.size + 1) #[.slice X Lc.length cX] 54 (0, 0) (by first | (simp [Act.eval]; done) | (simp [Act.eval, Act.put]; done)) ((hgr4.block _ (by simp <;> omega) (fun h => by have := HOEW.out.lt _ h.symm; omega)).trans (heap_two W (.cells #[.int .u32 (E : Int)] 45) (.cells #[.slice X Lc.length cX] 54)).2) rfl (one_slice _ _ _) (by unfold maxLen; omega) (by omega) (by have := hag4.size; simp; omega) ?_
          intro R7 c7 w7 hown7 hgr7 _
          have hE7 := own_grw hown4 (Gr.grown hgr7) (own_other hA4 hown4 (by decide))
          have hag7 := hag4.trans (Agr.grownV hgr7 (fun k h => .inr h))
          have hb7 : Blk w7 wc.heap.size #[.slice RE k cE, .slice RA k cA] 35 := hag7.blk HBXW.out (HNB.out)
          refine hK.out _ _ (fun _ => ⟨hb7.cell 0 rfl, hb7.cell 1 rfl, hb7.lt⟩) ?_
          clear hK K
          (try simp only [Act.put, List.setIfInBounds_toArray, List.set_cons_zero, List.set_cons_succ])
          have y0 := hb7.cell 0 (v := .slice RE k cE) rfl
          have y1 := hb7.cell 1 (v := .slice RA k cA) rfl
          have f0 := hb7.frozen 0
          have f1 := hb7.frozen 1
          have yl := hb7.lt
          refine AnyL.one (i := 11) (by kernel_rfl) rfl (fun K hK => ?_)
          go_simp
          refine hK.out _ _ (fun h => absurd (by decide) h) ?_
          clear hK K
          (try simp only [Act.put, List.setIfInBounds_toArray, List.set_cons_zero, List.set_cons_succ])
          refine AnyL.one (i := 12) (by kernel_rfl) rfl (fun K hK => ?_)
          go_simp
          refine hK.out _ _ (fun h => absurd (by decide) h) ?_
          clear hK K
          (try simp only [Act.put, List.setIfInBounds_toArray, List.set_cons_zero, List.set_cons_succ])
          (refine AnyL.one (i := 13) (by kernel_rfl) rfl (fun K hK => ?_)); go_simp; refine hK.out _ _ (fun h => absurd (by decide) h) ?_; clear hK K; refine AnyL.done (by kernel_rfl) ?_ _; (try simp only [Act.put, List.setIfInBounds_toArray, List.set_cons_zero, List.set_cons_succ])
          obtain ⟨t1, t2, t3, t4, t5⟩ := out_done HBXW.out (Nat.le_refl _) (Nat.lt_succ_self _) HBW.out HOEW.out HOAW.out HACW.out HXW.out hag7 hE7 hown7
          rw [HLen.out] at t4
          have T1 := Lib.hid t1
          have T2 := Lib.hid t2
          have T3 := Lib.hid t3
          have T4 := Lib.hid t4
          clear y0 y1 f0 f1 yl hb7 t1 t2 t3 t4 hgr4 hgr7 hag4 hag7 hown4 hown7 hE7 hA4
          go_wp2_with fail
          go_roundg (n - (k + 1))
          case rel =>
           refine ⟨k + 1, tt + Lc.length, R4, c4, R7, c7, hs ++ [.slice X Lc.length cX], by omega, rfl, by go_num, by omega, by go_num, T1.out, ?_, ?_, ?_, t5⟩
           ·show World.ownsRow _ _ _ _ _ _ _
            rw [HES.out, List.map_append]
            exact T2.out
           ·exact T3.out
           ·show ArcsC _ _ _ _
            rw [HLS.out]
            exact T4.out
          case measure => omega
        ·go_simp
         refine hK.out _ _ (fun _ => HS.out _ ((Bel.refl W).alloc (.cells #[.slice X Lc.length cX] 54))) ?_
         clear hK K
         (try simp only [Act.put, List.setIfInBounds_toArray, List.set_cons_zero, List.set_cons_succ])
         refine AnyL.one (i := 3) (by kernel_rfl) rfl (fun K hK => ?_)
         go_simp
         refine hK.out _ _ (fun _ => HS.out _ (((Bel.refl W).alloc (.cells #[.slice X Lc.length cX] 54)).alloc (.cells #[.int .u32 (E : Int)] 45))) ?_
         clear hK K
         (try simp only [Act.put, List.setIfInBounds_toArray, List.set_cons_zero, List.set_cons_succ])
         refine AnyL.one (i := 4) (by kernel_rfl) rfl (fun K hK => ?_)
         refine step_push _ rfl (.tmp 105) (.tmp 107) 32 rfl (wc.heap.size + 1) 45 i0 (.int .u32 0) 1 4 Tryz.underlying32 hi0 hz0 hz1 hz2 rfl (by decide) RE k cE ((esF p g k).map maskV) (by first | (simp [Act.eval]; done) | (simp [Act.eval, Act.put]; done)) ((HOEW.out.alloc _).alloc _) (W.heap.size + 1) #[.int .u32 (E : Int)] 45 (0, 0) (by first | (simp [Act.eval]; done) | (simp [Act.eval, Act.put]; done)) ((heap_two W (.cells #[.slice X Lc.length cX] 54) (.cells #[.int .u32 (E : Int)] 45)).2) rfl (one_mask _) (by unfold maxLen; omega) (by omega) (by simp; omega) ?_
         intro R4 c4 w4 hown4 hgr4 _
         have hA4 : w4.ownsRow (wc.heap.size + 1) 54 1 (.slice RA k cA) k hs := own_grw ((HOAW.out.alloc _).alloc _) (Gr.grown hgr4) (own_other HOEW.out HOAW.out (by decide))
         have hag4 : Agr (twoE (.slice RE k cE) (.slice RA k cA)) W w4 := ((Agr.alloc _ W (.cells #[.slice X Lc.length cX] 54)).trans (Agr.alloc _ _ (.cells #[.int .u32 (E : Int)] 45))).trans (Agr.grownV hgr4 (fun k h => .inl h))
         have hb4 : Blk w4 wc.heap.size #[.slice RE k cE, .slice RA k cA] 35 := hag4.blk HBXW.out (HNB.out)
         refine hK.out _ _ (fun _ => ⟨hb4.cell 0 rfl, hb4.cell 1 rfl, hb4.lt⟩) ?_
         clear hK K
         (try simp only [Act.put, List.setIfInBounds_toArray, List.set_cons_zero, List.set_cons_succ])
         have hHeld : (fun w' : World => w'.cell? ⟨wc.heap.size, 0, none⟩ = some (.slice RE k cE) ∧ w'.cell? ⟨wc.heap.size, 1, none⟩ = some (.slice RA k cA) ∧ wc.heap.size < w'.heap.size) w4 := ⟨hb4.cell 0 rfl, hb4.cell 1 rfl, hb4.lt⟩
         (refine AnyL.t (v := ?_) 10 114 rfl rfl (by kernel_rfl) (fun _ _ _ h => h) hHeld (Or.inl ⟨by rfl, ?_⟩) ?_; rotate_left 1; focus (intro w' hSw; (try dsimp only at hSw); go_simp; (try with_reducible rfl); done); (try simp only [Act.put, List.setIfInBounds_toArray, List.set_cons_zero, List.set_cons_succ]))
         clear hHeld
         refine AnyL.one (i := 9) (by kernel_rfl) rfl (fun K hK => ?_)
         refine step_push _ rfl (.tmp 110) (.tmp 112) 33 rfl (wc.heap.size + 1) 54 j0 (.slice none 0 0) 1 24 Tryz.underlying33 hj0 hy0 hy1 hy2 rfl (by decide) RA k cA hs (by first | (simp [Act.eval]; done) | (simp [Act.eval, Act.put]; done)) (hA4) W.heap.size #[.slice X Lc.length cX] 54 (0, 0) (by first | (simp [Act.eval]; done) | (simp [Act.eval, Act.put]; done)) ((hgr4.block _ (by simp <;> omega) (fun h => by have := HOEW.out.lt _ h.symm; omega)).trans (heap_two W (.cells #[.slice X Lc.length cX] 54) (.cells #[.int .u32 (E : Int)] 45)).1) rfl (one_slice _ _ _) (by unfold maxLen; omega) (by omega) (by have := hag4.size; simp; omega) ?_
         intro R7 c7 w7 hown7 hgr7 _
         have hE7 := own_grw hown4 (Gr.grown hgr7) (own_other hA4 hown4 (by decide))
         have hag7 := hag4.trans (Agr.grownV hgr7 (fun k h => .inr h))
         have hb7 : Blk w7 wc.heap.size #[.slice RE k cE, .slice RA k cA] 35 := hag7.blk HBXW.out (HNB.out)
         refine hK.out _ _ (fun _ => ⟨hb7.cell 0 rfl, hb7.cell 1 rfl, hb7.lt⟩) ?_
         clear hK K
         (try simp only [Act.put, List.setIfInBounds_toArray, List.set_cons_zero, List.set_cons_succ])
         have y0 := hb7.cell 0 (v := .slice RE k cE) rfl
         have y1 := hb7.cell 1 (v := .slice RA k cA) rfl
         have f0 := hb7.frozen 0
         have f1 := hb7.frozen 1
         have yl := hb7.lt
         refine AnyL.one (i := 11) (by kernel_rfl) rfl (fun K hK => ?_)
         go_simp
         refine hK.out _ _ (fun h => absurd (by decide) h) ?_
         clear hK K
         (try simp only [Act.put, List.setIfInBounds_toArray, List.set_cons_zero, List.set_cons_succ])
         refine AnyL.one (i := 12) (by kernel_rfl) rfl (fun K hK => ?_)
         go_simp
         refine hK.out _ _ (fun h => absurd (by decide) h) ?_
         clear hK K
         (try simp only [Act.put, List.setIfInBounds_toArray, List.set_cons_zero, List.set_cons_succ])
         (refine AnyL.one (i := 13) (by kernel_rfl) rfl (fun K hK => ?_)); go_simp; refine hK.out _ _ (fun h => absurd (by decide) h) ?_; clear hK K; refine AnyL.done (by kernel_rfl) ?_ _; (try simp only [Act.put, List.setIfInBounds_toArray, List.set_cons_zero, List.set_cons_succ])
         obtain ⟨t1, t2, t3, t4, t5⟩ := out_done HBXW.out (Nat.le_refl _) (Nat.lt_succ_self _) HBW.out HOEW.out HOAW.out HACW.out HXW.out hag7 hE7 hown7
         rw [HLen.out] at t4
         have T1 := Lib.hid t1
         have T2 := Lib.hid t2
         have T3 := Lib.hid t3
         have T4 := Lib.hid t4
         clear y0 y1 f0 f1 yl hb7 t1 t2 t3 t4 hgr4 hgr7 hag4 hag7 hown4 hown7 hE7 hA4
         go_wp2_with fail
         go_roundg (n - (k + 1))
         case rel =>
          refine ⟨k + 1, tt + Lc.length, R4, c4, R7, c7, hs ++ [.slice X Lc.length cX], by omega, rfl, by go_num, by omega, by go_num, T1.out, ?_, ?_, ?_, t5⟩
          ·show World.ownsRow _ _ _ _ _ _ _
           rw [HES.out, List.map_append]
           exact T2.out
          ·exact T3.out
          ·show ArcsC _ _ _ _
           rw [HLS.out]
           exact T4.out
         case measure => omega
     ·have hd0 : decide (k < n) = false := by simpa using hlt
      obtain rfl : k = n := by omega
      have HB9 := Lib.hid (HBC.out.keep HB)
      have q0 := HB9.out.cell 0 (v := .slice none 0 0) rfl
      have q1 := HB9.out.cell 1 (v := .slice none 0 0) rfl
      have qf0 := HB9.out.frozen 0
      have qf1 := HB9.out.frozen 1
      have ql := HB9.out.lt
      have s0 := HBX.out.cell 0 (v := .slice RE k cE) rfl
      have s1 := HBX.out.cell 1 (v := .slice RA k cA) rfl
      have sl := HBX.out.lt
      have hRB := HBC.out.lt
      go_wp2_with fail
      have zz := (Blk.set (Blk.set HB9.out 0 (.slice RE k cE)) 1 (.slice RA k cA))
      have y0 := Blk.cell zz 0 (v := .slice RE k cE) (by rfl)
      have y1 := Blk.cell zz 1 (v := .slice RA k cA) (by rfl)
      refine bodyPost_ret (v := .tuple #[.agg #[.slice RE k cE, .slice RA k cA], .int .i64 0]) (by simp [results, Tryz.results12, go_sem, y0, y1]; try go_simp) rfl ?_
      rw [HF.out]
      have hsz : (sizeF p g).toNat = k := by rw [HN.out]; simp
      have he : spaceF p g kind = ⟨esF p g k, lsF p g kind k⟩ := by unfold spaceF esF lsF; rw [hsz]
      rw [he]
      refine ⟨_, rfl, ?_, ((HX.trans HB).setCell (by simp; omega) _).setCell (by simp; omega) _⟩
      have hlo : w.heap.size + 1 + 1 < wc.heap.size + 1 := by omega
      exact space_end (own_other_cell (own_other_cell HOE.out (by simpa using hlo) _) (by simpa using hlo) _) (own_other_cell (own_other_cell HOA.out (by simpa using hlo) _) (by simpa using hlo) _) ((HAC.out.box (by simpa using hlo) _).box (by simpa using hlo) _)
   ·rw [if_pos (by simp)] at HF
    go_enter Tryz.func12, Tryz.ntmps12
    go_wp2_with (first
     | (go_at_call 16; refine (refCount10_any _ p _ g _ (HPV.out _ (box2_bel HW)) (HGV.out _ (box2_bel HW)) HL.out HGL.out).mono ?_; rintro e wc ⟨rfl, hb⟩; rw [← HNT.out]; have HX := HX0.trans hb; have HB := Blk.keep HSB.out hb; have z0 := HB.cell 0 (v := .slice none 0 0) rfl; have z1 := HB.cell 1 (v := .slice none 0 0) rfl; have f0 := HB.frozen 0; have f1 := HB.frozen 1; have lb := HB.lt; have HBC := Lib.hid HB; clear HB; replace HW := HW.trans hb; clear hb; (try clear p0 p1 p2 g0 g1 gsz); obtain ⟨p0, p1, p2, g0, g1, gsz⟩ := pgbox HW)
     | (go_at_call 17; refine (refDaemon_any kind _).mono ?_; rintro e w' ⟨rfl, rfl⟩; rw [HKD.out]))
    have zz := (Blk.set (Blk.set HBC.out 0 (.slice none 0 0)) 1 (.slice none 0 0))
    have y0 := Blk.cell zz 0 (v := .slice none 0 0) (by rfl)
    have y1 := Blk.cell zz 1 (v := .slice none 0 0) (by rfl)
    refine bodyPost_ret (v := .tuple #[.agg #[.slice none 0 0, .slice none 0 0], .int .i64 3]) (by simp [results, Tryz.results12, go_sem, y0, y1]; try go_simp) rfl ?_
    rw [HF.out]
    exact HEND.out _ _ ((HX.setCell (by simp; omega) _).setCell (by simp; omega) _)

end Go.Proofs.YtgemlgpjbclonaaGreatDoor

/- Contracts: whether a program on a graph is small; equal lists of sets, equal transition systems. -/
namespace Go.Proofs.YtgemlgpjbclonaaGreatDoor
open Go.RowKit

/-- A program on a graph with few configurations, or none that are well-formed. -/
def smallP (p : Prg) (g : Graph) (m : Int) : Bool := quickF p g && ((decide ((totalF p g).2 ≠ 0) && decide ((totalF p g).2 ≠ 3)) || (decide ((totalF p g).2 = 0) && decide ((totalF p g).1 ≤ m)))
theorem smallP_parts {p : Prg} {g : Graph} {m : Int} (h : smallP p g m = true) : lightP p = true ∧ lightG g = true ∧ ((totalF p g).2 = 0 → sizeF p g ≤ m) ∧ (totalF p g).2 ≠ 3 := by
 unfold smallP at h
 rw [Bool.and_eq_true] at h
 obtain ⟨h1, h2⟩ := h
 refine ⟨(quick_parts h1).1, (quick_parts h1).2, fun h0 => ?_, fun h3 => ?_⟩
 ·rw [h0] at h2
  simp at h2
  obtain ⟨n, e⟩ : ∃ x, totalF p g = x := ⟨_, rfl⟩
  obtain ⟨n, e1⟩ := n
  rw [e] at h0 h2
  subst h0
  have := (total_ok e.symm).2
  simp at h2
  omega
 ·rw [h3] at h2
  simp at h2

set_option maxRecDepth 100000 in
set_option maxHeartbeats 2000000 in
theorem small_any (v1 : Value) (p : Prg) (v2 : Value) (g : Graph) (m : Int) (w : World) (h : PrgV w v1 p) (h2 : GraphV w v2 g) :
  Calls Tryz.prog 9 #[v1, v2, .int .i64 m] w fun e w' => e = .returned (.bool (smallP p g m)) ∧ Bel w w' := by
 have HPV := Lib.hid (fun w' (k : Bel w w') => h.keep k)
 have HGV := Lib.hid (fun w' (k : Bel w w') => h2.keep k)
 obtain ⟨A1, k1, A2, k2, rfl, _, _, _, _, _, _⟩ := h
 obtain ⟨A3, k3, A4, k4, rfl, _, _, _, _, _, _⟩ := h2
 have HW := Bel.refl ((w.alloc (.cells #[.string p.name, .slice A1 p.vars.length k1, .slice A2 p.rules.length k2] 25)).alloc (.cells #[.slice A3 g.ids.length k3, .slice A4 g.ports.length k4] 29))
 have HF : Hid (smallP p g m = (quickF p g && ((decide ((totalF p g).2 ≠ 0) && decide ((totalF p g).2 ≠ 3)) || (decide ((totalF p g).2 = 0) && decide ((totalF p g).1 ≤ m))))) := rfl
 cases hq : quickF p g with
 | false =>
  rw [hq] at HF
  go_enter Tryz.func9, Tryz.ntmps9
  go_wp2_with (go_at_call 30; refine (quick_any _ p _ g _ (HPV.out _ (box2_bel HW)) (HGV.out _ (box2_bel HW))).mono ?_; rintro e w' ⟨rfl, hb⟩; rw [hq]; replace HW := HW.trans hb; clear hb; (try clear p0 p1 p2 g0 g1 gsz); obtain ⟨p0, p1, p2, g0, g1, gsz⟩ := pgbox HW)
  go_ret
  exact ⟨ret_bool (by rw [HF.out]; rfl), box2_bel HW⟩
 | true =>
  rw [hq] at HF
  have HL := Lib.hid (quick_parts hq).1
  have HGL := Lib.hid (quick_parts hq).2
  obtain ⟨x, hx⟩ : ∃ x, totalF p g = x := ⟨_, rfl⟩
  obtain ⟨n0, e0⟩ := x
  rw [hx] at HF
  have HNT := Lib.hid hx
  clear hx
  by_cases h0 : e0 = 0
  ·subst h0
   have hd : (decide (n0 ≤ m)) = decide (n0 ≤ m) := rfl
   cases hc : decide (n0 ≤ m) with
   | true =>
    rw [hc] at HF
    go_enter Tryz.func9, Tryz.ntmps9
    go_wp2_with (first
     | (go_at_call 30; refine (quick_any _ p _ g _ (HPV.out _ (box2_bel HW)) (HGV.out _ (box2_bel HW))).mono ?_; rintro e w' ⟨rfl, hb⟩; rw [hq]; replace HW := HW.trans hb; clear hb; (try clear p0 p1 p2 g0 g1 gsz); obtain ⟨p0, p1, p2, g0, g1, gsz⟩ := pgbox HW)
     | (go_at_call 16; refine (refCount10_any _ p _ g _ (HPV.out _ (box2_bel HW)) (HGV.out _ (box2_bel HW)) HL.out HGL.out).mono ?_; rintro e w' ⟨rfl, hb⟩; rw [HNT.out]; replace HW := HW.trans hb; clear hb; (try clear p0 p1 p2 g0 g1 gsz); obtain ⟨p0, p1, p2, g0, g1, gsz⟩ := pgbox HW))
    go_ret
    exact ⟨ret_bool (by rw [HF.out]; rfl), box2_bel HW⟩
   | false =>
    rw [hc] at HF
    go_enter Tryz.func9, Tryz.ntmps9
    go_wp2_with (first
     | (go_at_call 30; refine (quick_any _ p _ g _ (HPV.out _ (box2_bel HW)) (HGV.out _ (box2_bel HW))).mono ?_; rintro e w' ⟨rfl, hb⟩; rw [hq]; replace HW := HW.trans hb; clear hb; (try clear p0 p1 p2 g0 g1 gsz); obtain ⟨p0, p1, p2, g0, g1, gsz⟩ := pgbox HW)
     | (go_at_call 16; refine (refCount10_any _ p _ g _ (HPV.out _ (box2_bel HW)) (HGV.out _ (box2_bel HW)) HL.out HGL.out).mono ?_; rintro e w' ⟨rfl, hb⟩; rw [HNT.out]; replace HW := HW.trans hb; clear hb; (try clear p0 p1 p2 g0 g1 gsz); obtain ⟨p0, p1, p2, g0, g1, gsz⟩ := pgbox HW))
    go_ret
    exact ⟨ret_bool (by rw [HF.out]; rfl), box2_bel HW⟩
  ·have d0 : (e0 == 0) = false := by simpa using h0
   have d0n : (e0 != 0) = true := by simpa using h0
   by_cases h3 : e0 = 3
   ·subst h3
    clear h0
    go_enter Tryz.func9, Tryz.ntmps9
    go_wp2_with (first
     | (go_at_call 30; refine (quick_any _ p _ g _ (HPV.out _ (box2_bel HW)) (HGV.out _ (box2_bel HW))).mono ?_; rintro e w' ⟨rfl, hb⟩; rw [hq]; replace HW := HW.trans hb; clear hb; (try clear p0 p1 p2 g0 g1 gsz); obtain ⟨p0, p1, p2, g0, g1, gsz⟩ := pgbox HW)
     | (go_at_call 16; refine (refCount10_any _ p _ g _ (HPV.out _ (box2_bel HW)) (HGV.out _ (box2_bel HW)) HL.out HGL.out).mono ?_; rintro e w' ⟨rfl, hb⟩; rw [HNT.out]; replace HW := HW.trans hb; clear hb; (try clear p0 p1 p2 g0 g1 gsz); obtain ⟨p0, p1, p2, g0, g1, gsz⟩ := pgbox HW))
    go_ret
    exact ⟨ret_bool (by rw [HF.out]; rfl), box2_bel HW⟩
   ·have d3 : (e0 == 3) = false := by simpa using h3
    have d3n : (e0 != 3) = true := by simpa using h3
    have HR : Hid (smallP p g m = true) := by
     show _ = _
     rw [HF.out]
     show (true && ((decide (e0 ≠ 0) && decide (e0 ≠ 3)) || (decide (e0 = 0) && decide (n0 ≤ m)))) = true
     rw [decide_eq_true h0, decide_eq_true h3]
     rfl
    clear h0 h3 HF
    go_enter Tryz.func9, Tryz.ntmps9
    go_wp2_with (first
     | (go_at_call 30; refine (quick_any _ p _ g _ (HPV.out _ (box2_bel HW)) (HGV.out _ (box2_bel HW))).mono ?_; rintro e w' ⟨rfl, hb⟩; rw [hq]; replace HW := HW.trans hb; clear hb; (try clear p0 p1 p2 g0 g1 gsz); obtain ⟨p0, p1, p2, g0, g1, gsz⟩ := pgbox HW)
     | (go_at_call 16; refine (refCount10_any _ p _ g _ (HPV.out _ (box2_bel HW)) (HGV.out _ (box2_bel HW)) HL.out HGL.out).mono ?_; rintro e w' ⟨rfl, hb⟩; rw [HNT.out]; replace HW := HW.trans hb; clear hb; (try clear p0 p1 p2 g0 g1 gsz); obtain ⟨p0, p1, p2, g0, g1, gsz⟩ := pgbox HW))
    go_ret
    exact ⟨ret_bool (by rw [HR.out]), box2_bel HW⟩

set_option maxRecDepth 100000 in
set_option maxHeartbeats 1000000 in
/-- Two slices that read as the same list of sets. -/
theorem refSameSets_any (A : Option Addr) (c : Nat) (l : List Nat) (A2 : Option Addr) (c2 : Nat) (w : World) (h1 : MasksR w A l.length l) (h2 : MasksR w A2 l.length l) (hl : l.length ≤ 1000000) :
  Calls Tryz.prog 27 #[.slice A l.length c, .slice A2 l.length c2] w fun e w' => e = .returned (.bool true) ∧ Bel w w' := by
 have H1 := Lib.hid (fun w' (k : Bel w w') => MasksR.keep h1 k); clear h1
 have H2 := Lib.hid (fun w' (k : Bel w w') => MasksR.keep h2 k); clear h2
 have hb : (l.length != l.length) = false := by simp
 go_enter Tryz.func27, Tryz.ntmps27
 go_wp2_with fail
 clear hb
 go_loopg [5] l.length (fun q x wr => ∃ j : Nat, j ≤ l.length ∧ q = l.length - j ∧ x = .int .i64 j ∧ Bel w wr)
 case atStart => exact ⟨0, by omega, rfl, rfl, Bel.refl w⟩
 case round =>
  obtain ⟨j, hj, rfl, rfl, HB⟩ := hrel
  by_cases hlt : j < l.length
  ·obtain ⟨b', o', rfl, hb', hl1⟩ := (H1.out _ HB).at_ j hlt
   obtain ⟨b2, o2, rfl, hb2, hl2⟩ := (H2.out _ HB).at_ j hlt
   have hd0 : decide (j < l.length) = true := by simpa using hlt
   generalize l[j] = S at *
   have hbb : (S != S) = false := by simp
   have hbi : ((S : Int) != (S : Int)) = false := by simp
   go_wp2_with fail
   go_quiet (fail)
   go_wp2_with fail
   go_roundg (l.length - (j + 1))
   case rel => exact ⟨j + 1, by omega, rfl, by go_num, HB.drewN _⟩
   case measure => omega
  ·have hd0 : decide (j < l.length) = false := by simpa using hlt
   go_wp2_with fail
   go_ret
   exact ⟨rfl, HB⟩

set_option maxRecDepth 100000 in
set_option maxHeartbeats 4000000 in
/-- Two values that read as the same transition system. -/
theorem refSameSpace_any (v1 v2 : Value) (s : Spc) (w : World) (h1 : SpaceV w v1 s) (h2 : SpaceV w v2 s) (hE : s.enabled.length ≤ 1000000) (hA : s.arcs.length ≤ 1000000) (hl : ∀ l ∈ s.arcs, l.length ≤ 1000000) :
  Calls Tryz.prog 13 #[v1, v2] w fun e w' => e = .returned (.bool true) ∧ Bel w w' := by
 obtain ⟨AE, cE, AA, cA, rfl, hE1, hA1, _, _, _, _⟩ := h1
 obtain ⟨BE, dE, BA, dA, rfl, hE2, hA2, _, _, _, _⟩ := h2
 have HE1 := Lib.hid (fun w' (k : Bel w w') => hE1.keep k)
 have HE2 := Lib.hid (fun w' (k : Bel w w') => hE2.keep k)
 have HA1 := Lib.hid (fun w' (k : Bel w w') => hA1.keep k)
 have HA2 := Lib.hid (fun w' (k : Bel w w') => hA2.keep k)
 have HLL := Lib.hid hl
 have HW := Bel.refl ((w.alloc (.cells #[.slice AE s.enabled.length cE, .slice AA s.arcs.length cA] 35)).alloc (.cells #[.slice BE s.enabled.length dE, .slice BA s.arcs.length dA] 35))
 have hcell := Lib.hid (fun w3 (kk : Bel ((w.alloc (.cells #[.slice AE s.enabled.length cE, .slice AA s.arcs.length cA] 35)).alloc (.cells #[.slice BE s.enabled.length dE, .slice BA s.arcs.length dA] 35)) w3) => show w3.cell? ⟨w.heap.size, 0, none⟩ = some (.slice AE s.enabled.length cE) ∧ w3.cell? ⟨w.heap.size, 1, none⟩ = some (.slice AA s.arcs.length cA) ∧ w3.cell? ⟨w.heap.size + 1, 0, none⟩ = some (.slice BE s.enabled.length dE) ∧ w3.cell? ⟨w.heap.size + 1, 1, none⟩ = some (.slice BA s.arcs.length dA) ∧ w.heap.size + 1 < w3.heap.size from ⟨(box2 kk).1 0 _ rfl, (box2 kk).1 1 _ rfl, (box2 kk).2.1 0 _ rfl, (box2 kk).2.1 1 _ rfl, (box2 kk).2.2⟩)
 clear hE1 hA1 hE2 hA2 hl
 have hb : (s.arcs.length != s.arcs.length) = false := by simp
 have hbI : ((s.arcs.length : Int) != (s.arcs.length : Int)) = false := by simp
 obtain ⟨q0, q1, q2, q3, ql⟩ := hcell.out _ HW
 go_enter Tryz.func13, Tryz.ntmps13
 go_wp2_with (go_at_call 27; refine (refSameSets_any _ _ s.enabled _ _ _ (HE1.out _ (box2_bel HW)) (HE2.out _ (box2_bel HW)) hE).mono ?_; rintro e w' ⟨rfl, hbb⟩; replace HW := HW.trans hbb; clear hbb q0 q1 q2 q3 ql; obtain ⟨q0, q1, q2, q3, ql⟩ := hcell.out _ HW)
 clear q0 q1 q2 q3 ql hb hbI
 go_loopg [5] s.arcs.length (fun m z wr => ∃ k : Nat, k ≤ s.arcs.length ∧ m = s.arcs.length - k ∧ z = .int .i64 (k : Int) ∧ Bel ((w.alloc (.cells #[.slice AE s.enabled.length cE, .slice AA s.arcs.length cA] 35)).alloc (.cells #[.slice BE s.enabled.length dE, .slice BA s.arcs.length dA] 35)) wr)
 case atStart => exact ⟨0, by omega, rfl, rfl, HW⟩
 case round =>
  clear HW
  obtain ⟨k, hk, rfl, rfl, HW⟩ := hrel
  obtain ⟨wo, rfl⟩ : ∃ wo, wo = wr := ⟨_, rfl⟩
  obtain ⟨q0, q1, q2, q3, ql⟩ := hcell.out _ HW
  by_cases hlt : k < s.arcs.length
  ·have hd0 : decide (k < s.arcs.length) = true := by simpa using hlt
   obtain ⟨bA, oA, R, rc, rfl, hbA, k1, hR, _, _⟩ := (HA1.out _ (Bel.refl w)).at_ k hlt
   obtain ⟨bB, oB, Q, qc, rfl, hbB, k2, hQ, _, _⟩ := (HA2.out _ (Bel.refl w)).at_ k hlt
   have HR := Lib.hid (fun w' (k : Bel w w') => hR.keep k)
   have HQ := Lib.hid (fun w' (k : Bel w w') => hQ.keep k)
   have hll := HLL.out _ (List.getElem_mem hlt)
   have K1 := Lib.hid k1
   have K2 := Lib.hid k2
   have hbA2 := Nat.lt_of_lt_of_le hbA (box2_bel HW).size
   have hbB2 := Nat.lt_of_lt_of_le hbB (box2_bel HW).size
   clear hR hQ k1 k2
   generalize s.arcs[k] = l at *
   have x1 := ((box2_bel HW).cell hbA).trans K1.out
   have x2 := ((box2_bel HW).cell hbB).trans K2.out
   have hb : (l.length != l.length) = false := by simp
   have hbI : ((l.length : Int) != (l.length : Int)) = false := by simp
   go_wp2_with fail
   go_quiet (fail)
   go_wp2_with fail
   have HW0 := HW.drewN
   go_loopg [6] l.length (fun m z wr => ∃ i : Nat, i ≤ l.length ∧ m = l.length - i ∧ z = .int .i64 (i : Int) ∧ Bel wo wr)
   case atStart => exact ⟨0, by omega, rfl, rfl, (Bel.refl wo).drewN _⟩
   case round =>
    obtain ⟨i, hi, rfl, rfl, HB2⟩ := hrel
    have HW2 := HW.trans HB2
    clear q0 q1 q2 q3 ql x1 x2 hbA2 hbB2 hb hbI
    obtain ⟨q0, q1, q2, q3, ql⟩ := hcell.out _ HW2
    have x1 := ((box2_bel HW2).cell hbA).trans K1.out
    have x2 := ((box2_bel HW2).cell hbB).trans K2.out
    have hbA2 := Nat.lt_of_lt_of_le hbA (box2_bel HW2).size
    have hbB2 := Nat.lt_of_lt_of_le hbB (box2_bel HW2).size
    by_cases hli : i < l.length
    ·have hd1 : decide (i < l.length) = true := by simpa using hli
     obtain ⟨b1, o1, rfl, hb1, c0, c1⟩ := (HR.out _ (box2_bel HW2)).at_ i hli
     obtain ⟨b2, o2, rfl, hb2, c2, c3⟩ := (HQ.out _ (box2_bel HW2)).at_ i hli
     obtain ⟨x, hx⟩ : ∃ x, l[i] = x := ⟨_, rfl⟩
     rw [hx] at c0 c1 c2 c3
     clear hx
     obtain ⟨S, T⟩ := x
     dsimp only at c0 c1 c2 c3
     have e1 : ((S : Int) == (S : Int)) = true := by simp
     have e2 : (T == T) = true := by simp
     go_wp2_with fail
     go_quiet (fail)
     go_wp2_with fail
     go_roundg (l.length - (i + 1))
     case rel => exact ⟨i + 1, by omega, rfl, by go_num, HB2.drewN _⟩
     case measure => omega
    ·have hd1 : decide (i < l.length) = false := by simpa using hli
     go_wp2_with fail
     go_roundg (s.arcs.length - (k + 1))
     case rel => exact ⟨k + 1, by omega, rfl, by go_num, HW2⟩
     case measure => omega
  ·have hd0 : decide (k < s.arcs.length) = false := by simpa using hlt
   go_wp2_with fail
   go_ret
   exact ⟨rfl, box2_bel HW⟩

end Go.Proofs.YtgemlgpjbclonaaGreatDoor

