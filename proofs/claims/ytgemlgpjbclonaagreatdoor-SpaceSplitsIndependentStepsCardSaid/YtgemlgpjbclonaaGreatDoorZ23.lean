/- Merged of: PSd PD AnyC RFb (see NOTES.md). -/
import Derived.Test.YtgemlgpjbclonaaGreatDoorZ19
import Derived.Test.YtgemlgpjbclonaaGreatDoorZ03
import Derived.Test.YtgemlgpjbclonaaGreatDoorZ20
import Derived.Deep.RegionHeld3
import Derived.Test.YtgemlgpjbclonaaGreatDoorZ01
import Derived.OrdersIn
set_option linter.unusedSimpArgs false
set_option linter.unnecessarySimpa false
set_option linter.unusedVariables false

/- Plain laws: configurations that are mixed at a node and its neighbours. -/
namespace Go.Proofs.YtgemlgpjbclonaaGreatDoor

def accF (S v : Nat) (b : Bool) : Nat := if b then S ||| 2 ^ v else S
theorem accF_lt {S v : Nat} (hS : S < 4294967296) (hv : v < 32) (b : Bool) : accF S v b < 4294967296 := by
 unfold accF
 split
 ·exact Nat.or_lt_two_pow (n := 32) hS (two_lt hv)
 ·exact hS
theorem accF_again (S v : Nat) : accF S v true ||| 2 ^ v = accF S v true := by
 unfold accF
 rw [if_pos rfl, Nat.or_assoc, Nat.or_self]
end Go.Proofs.YtgemlgpjbclonaaGreatDoor

/- Daemons, plain: the neighbours of a node, sets that are independent, what a daemon permits, all choices, wishes resolved. -/
namespace Go.Proofs.YtgemlgpjbclonaaGreatDoor

/-! ### Neighbours -/
def netL (ls : List Link) : Nat := ls.foldl (fun s l => s ||| 2 ^ l.to.toNat) 0
def netV (g : Graph) (v : Nat) : Nat := netL (g.ports.getD v [])
theorem netL_snoc (ls : List Link) (l : Link) : netL (ls ++ [l]) = netL ls ||| 2 ^ l.to.toNat := by unfold netL; rw [List.foldl_append]; rfl
theorem netL_bit_from (ls : List Link) (u : Nat) : ∀ s : Nat, (ls.foldl (fun s l => s ||| 2 ^ l.to.toNat) s).testBit u = (s.testBit u || ls.any fun l => l.to.toNat == u) := by
 induction ls with
 | nil => intro s; simp
 | cons l ls ih =>
  intro s
  rw [List.foldl_cons, ih, Nat.testBit_or, two_bit, List.any_cons, Bool.or_assoc]
  rfl
theorem netL_bit (ls : List Link) (u : Nat) : (netL ls).testBit u = ls.any fun l => l.to.toNat == u := by
 unfold netL; rw [netL_bit_from, Nat.zero_testBit, Bool.false_or]
theorem netL_lt {ls : List Link} (h : ∀ l ∈ ls, l.to.toNat < 32) : netL ls < 4294967296 := by
 apply Nat.lt_pow_two_of_testBit (n := 32)
 intro i hi
 rw [netL_bit, List.any_eq_false]
 intro l hl
 have := h l hl
 simp; omega
theorem link_to {g : Graph} (hg : GOK g) {v : Nat} (hv : v < g.ports.length) {l : Link} (hl : l ∈ g.ports[v]) : 0 ≤ l.to ∧ l.to < (g.ports.length : Int) := by
 obtain ⟨a1, a2, _⟩ := linkOK_iff.1 ((linksOK_iff.1 (hg.links v hv)).1 l hl)
 exact ⟨a1, a2⟩
theorem netV_lt {g : Graph} (hg : GOK g) (v : Nat) : netV g v < 4294967296 := by
 unfold netV
 by_cases hv : v < g.ports.length
 ·rw [getD_eq hv]
  refine netL_lt fun l hl => ?_
  have := link_to hg hv hl
  have := hg.le
  omega
 ·rw [List.getD_eq_getElem?_getD, List.getElem?_eq_none (by omega)]; decide
theorem netV_bit {g : Graph} {v u : Nat} (hv : v < g.ports.length) : (netV g v).testBit u = true ↔ ∃ l ∈ g.ports[v], l.to.toNat = u := by
 unfold netV; rw [getD_eq hv, netL_bit, List.any_eq_true]; simp
theorem and_zero_iff {A B : Nat} : A &&& B = 0 ↔ ∀ u, A.testBit u = true → B.testBit u = false := by
 constructor
 ·intro h u hA
  have := Nat.testBit_and A B u
  rw [h, Nat.zero_testBit, hA, Bool.true_and] at this
  exact this.symm
 ·intro h
  refine Nat.eq_of_testBit_eq fun u => ?_
  rw [Nat.testBit_and, Nat.zero_testBit]
  cases hA : A.testBit u with
  | false => rfl
  | true => rw [h u hA]; rfl
/-- A node has a neighbour in a set. -/
theorem nbrF_bit {g : Graph} (hg : GOK g) {S v : Nat} : (nbrF g S).testBit v = (decide (v < g.ports.length) && (netV g v &&& S != 0)) := by
 unfold nbrF
 rw [setF_bit]
 by_cases hv : v < g.ports.length
 ·rw [decide_eq_true hv, Bool.true_and, Bool.true_and, Bool.eq_iff_iff, List.any_eq_true, bne_iff_ne, ne_eq, and_zero_iff, getD_eq hv]
  constructor
  ·rintro ⟨l, hl, hb⟩ hall
   obtain ⟨a1, a2⟩ := link_to hg hv hl
   have hle := hg.le
   unfold hasB at hb
   simp at hb
   have := hall l.to.toNat ((netV_bit hv).2 ⟨l, hl, rfl⟩)
   rw [hb.2] at this; cases this
  ·intro hn
   apply Classical.byContradiction
   intro hx
   apply hn
   intro u hu
   obtain ⟨l, hl, rfl⟩ := (netV_bit hv).1 hu
   obtain ⟨a1, a2⟩ := link_to hg hv hl
   have hle := hg.le
   cases hb : S.testBit l.to.toNat with
   | false => rfl
   | true => exact absurd ⟨l, hl, by unfold hasB; rw [decide_eq_true a1, decide_eq_true (show l.to < 32 by omega), hb]; rfl⟩ hx
 ·rw [decide_eq_false hv]; rfl

/-! ### Independent sets -/
def indepP (g : Graph) (S : Nat) : Bool := (elemsF S).all fun v => netV g v &&& S == 0
theorem within_all {S n : Nat} (hn : n ≤ 32) (hS : S < 4294967296) : within32 S (setF n fun _ => true) = true ↔ ∀ v, S.testBit v = true → v < n := by
 rw [within32_iff]
 constructor
 ·intro h v hv
  have := h v (bit_lt hS hv) hv
  rw [setF_bit] at this
  simpa using this
 ·intro h v _ hv
  rw [setF_bit, decide_eq_true (h v hv)]; rfl
theorem indepP_iff {g : Graph} {S : Nat} (hS : S < 4294967296) : indepP g S = true ↔ ∀ v, S.testBit v = true → netV g v &&& S = 0 := by
 unfold indepP
 rw [List.all_eq_true]
 constructor
 ·intro h v hv
  have := h v (mem_elemsF.2 ⟨bit_lt hS hv, hv⟩)
  simpa using this
 ·intro h v hv
  simpa using h v (mem_elemsF.1 hv).2
theorem indep_same {g : Graph} (hg : GOK g) {S : Nat} (hS : S < 4294967296) (hw : within32 S (setF g.ports.length fun _ => true) = true) : indepF g S = indepP g S := by
 have hle := hg.le
 have hn := (within_all (by omega) hS).1 hw
 unfold indepF
 rw [(graphB_iff g).2 hg, hw, Bool.true_and, Bool.true_and, Bool.eq_iff_iff, indepP_iff hS, List.all_eq_true]
 constructor
 ·intro h v hv
  have := h v (by rw [List.mem_range]; exact bit_lt hS hv)
  rw [hv, Bool.and_true, nbrF_bit hg, decide_eq_true (hn v hv), Bool.true_and] at this
  simpa using this
 ·intro h v _
  cases hv : S.testBit v with
  | false => simp
  | true => rw [nbrF_bit hg, h v hv]; simp
theorem nbr_same {g : Graph} (hg : GOK g) {S : Nat} (hS : S < 4294967296) (hw : within32 S (setF g.ports.length fun _ => true) = true) : (nbrF g S &&& S == 0) = indepP g S := by
 have hle := hg.le
 have hn := (within_all (by omega) hS).1 hw
 rw [Bool.eq_iff_iff, beq_iff_eq, indepP_iff hS, Nat.and_comm, and_zero_iff]
 constructor
 ·intro h v hv
  have := h v hv
  rw [nbrF_bit hg, decide_eq_true (hn v hv), Bool.true_and] at this
  simpa using this
 ·intro h v hv
  rw [nbrF_bit hg, h v hv]; simp

/-! ### What a daemon permits -/
def permitsF (g : Graph) (kind : Int) (E S : Nat) : Bool :=
 if S = 0 then false else if within32 S E = false then false
 else if kind = 1 then (S &&& (S - 1)) == 0
 else if kind = 2 then indepP g S
 else if kind = 4 then S == E
 else true
/-- All sets that a daemon permits, and the error. -/
def choicesF (g : Graph) (kind : Int) (E : Nat) : List Nat × Int :=
 if E = 0 then ([], 0)
 else if kind = 1 then ((elemsF E).map (2 ^ ·), 0)
 else if kind = 4 then ([E], 0)
 else if 10 < (elemsF E).length then ([], 3)
 else ((partsFrom E (lsb E)).filter (permitsF g kind E), 0)
def kindB (kind : Int) : Bool := decide (1 ≤ kind) && decide (kind ≤ 4)

end Go.Proofs.YtgemlgpjbclonaaGreatDoor

/- A drawn region whose last operation may write what the others read: the chain of what waits is reckoned. -/
namespace Go.Proofs.YtgemlgpjbclonaaGreatDoor
open Go.RowKit

def nextOf (md : Region.Mode) (ops : Array Oper) (i : Nat) : Option Nat :=
 (List.range ops.size).find? fun j => match ops[j]? with | some o => o.after.any (fun e => Region.binds md e && e.on == i) | none => false
def chainF (md : Region.Mode) (ops : Array Oper) (L : Nat) : Nat → Nat → List Nat
 | 0, _ => []
 | n + 1, i => match nextOf md ops i with | none => [] | some j => j :: (if j == L then [] else chainF md ops L n j)
theorem AnyE.takeC {P : Program} {ops : Array Oper} {Q : Exit → Act → World → Prop} {md : Region.Mode} {S : World → Prop} {L : Nat} {i : Nat} {oi : Oper} {v : Value} {fuel : Nat} {listed : Array Bool} {a : Act} {w : World} (d : Option Tmp) (hi : ops[i]? = some oi) (hd : oi.dst = d)
  (hs : Region.noSelect ops = true) (hf : Region.free md ops listed i = true) (hr : (Region.ready md ops listed).contains i = true)
  (hc : ((chainF md ops L 60 i).contains L && waits md ops i (chainF md ops L 60 i) && unlisted listed (chainF md ops L 60 i)) = true)
  (hQ : ∀ c a w, Q (.panic c) (a.put d v) w → Q (.panic c) a w) (hS : S w) (hy : YieldsIf P ops S oi v a)
  (h : AnyE P md ops Q S L fuel (listed.setIfInBounds i true) (a.put d v) w) : AnyE P md ops Q S L (fuel + 1) listed a w := by
 rw [Bool.and_eq_true, Bool.and_eq_true] at hc
 exact AnyE.take (chainF md ops L 60 i) d hi hd hs hf hr hc.1.1 hc.1.2 hc.2 hQ hS hy h

theorem AnyE.t {P : Program} {ops : Array Oper} {Q : Exit → Act → World → Prop} {md : Region.Mode} {S : World → Prop} {L : Nat} {oi : Oper} {v : Value} {fuel : Nat} {listed : Array Bool} {a : Act} {w : World} (i d : Nat) (hi : ops[i]? = some oi) (hd : oi.dst = some d)
  (hc : (Region.noSelect ops && Region.free md ops listed i && (Region.ready md ops listed).contains i && ((chainF md ops L 60 i).contains L && waits md ops i (chainF md ops L 60 i) && unlisted listed (chainF md ops L 60 i))) = true)
  (hQ : ∀ c a w, Q (.panic c) (a.put (some d) v) w → Q (.panic c) a w) (hS : S w) (hy : YieldsIf P ops S oi v a)
  (h : AnyE P md ops Q S L fuel (listed.setIfInBounds i true) (a.put (some d) v) w) : AnyE P md ops Q S L (fuel + 1) listed a w := by
 rw [Bool.and_eq_true, Bool.and_eq_true, Bool.and_eq_true] at hc
 exact AnyE.takeC (some d) hi hd hc.1.1.1 hc.1.1.2 hc.1.2 hc.2 hQ hS hy h

/-- The same, whatever the post says of a panic. -/
theorem AnyE.startN {P : Program} {ops : Array Oper} {Q : Exit → Act → World → Prop} (S : World → Prop) (L : Nat) {id : Nat} {a : Act} {w : World} (hm : P.follows .mixedOrders = true)
  (h : AnyE P .any ops (NoPanic Q) S L ops.size (Array.replicate ops.size false) a w.drew) : (Code.region id ops true).wp P Q a w :=
 wp_region_noPanic (AnyE.start S L hm h)

end Go.Proofs.YtgemlgpjbclonaaGreatDoor

/- A drawn region in the body of a range over a function, by the same steps as elsewhere. -/
namespace Go.Proofs.YtgemlgpjbclonaaGreatDoor
open Go.RowKit

def notDefer : Op → Bool
 | .defer _ => false
 | _ => true
def noDefers (ops : Array Oper) : Bool := ops.all fun o => notDefer o.op

section
variable {P : Program} {ops : Array Oper} {Q : Exit → Act → World → Prop} {md : Region.Mode} {l n : Nat}
theorem oper_in {o : Oper} (ho : notDefer o.op = true) {a : Act} {w : World} {K K' : Act → World → Prop} (hK : ∀ a w, K a w → K' a w) (h : o.wp P a w K Q) : o.wpIn (Fence.wide.inRound l) n P a w K' Q := by
 refine ⟨fun _ _ => trivial, ?_⟩
 rw [Oper.semAt_eq _ _ _ (fun c h => by rw [h] at ho; cases ho)]
 unfold Oper.wp at h
 generalize (execOp a.eval o).run P w = r at *
 cases r with
 | ok x w' =>
  cases x with
  | value v => exact hK _ _ h
  | skip => exact hK _ _ h
  | defer d => exact hK _ _ h
  | enter f args => exact ⟨(fun hd => by cases hd), (CallsIn.inRound l ((callsIn_wide (n := n - 1)).2 h)).mono (fun e w'' he => by cases e <;> first | exact hK _ _ he | exact he)⟩
  | row r args => exact ⟨(fun hd => by cases hd), fun c cs _ => let ⟨v, w'', hr, hs⟩ := h c cs; ⟨v, w'', hK _ _ hr, stepsIn_wide.2 hs⟩⟩
  | round lr f tmps assign body => exact h.elim
  | _ => first | exact h | exact h.elim
 | halt x w' => cases x <;> first | exact h | exact h.elim
theorem op_in {i : Nat} (hd : noDefers ops = true) (hq : ¬ LetsOut Q) {a : Act} {w : World} {K K' : Act → World → Prop} (hK : ∀ a w, K a w → K' a w) (h : wpOp P ops Q i K a w) : wpOpIn (Fence.wide.inRound l) n P ops Q i K' a w := by
 unfold wpOp at h
 unfold wpOpIn
 cases ho : ops[i]? with
 | none => simp only [ho] at h; exact hK _ _ h
 | some o =>
  simp only [ho] at h ⊢
  have hn : notDefer o.op = true := by
   unfold noDefers at hd
   rw [Array.all_eq_true] at hd
   obtain ⟨hi, e⟩ := Array.getElem?_eq_some_iff.1 ho
   have := hd i hi
   rwa [e] at this
  by_cases hw : Region.wanted o (yielded ops a.tmps) = true
  ·rw [if_pos hw] at h ⊢; exact oper_in hn hK (h.resolve_right (fun e => hq e.2))
  ·rw [if_neg hw] at h ⊢; exact ⟨fun _ _ => trivial, hK _ _ h⟩
theorem any_in (hd : noDefers ops = true) (hq : ¬ LetsOut Q) : ∀ (fuel : Nat) (listed : Array Bool) (a : Act) (w : World), wpAny P md ops Q fuel listed a w → wpAnyIn (Fence.wide.inRound l) n P md ops Q fuel listed a w
 | 0, _, _, _, h => h
 | fuel + 1, _, _, _, h => ⟨h.1, fun i hi => op_in hd hq (fun a w k => any_in hd hq fuel _ a w k) (h.2 i hi)⟩
theorem AnyE.startIn (S : World → Prop) (L : Nat) {id : Nat} {a : Act} {w : World} (hm : P.follows .mixedOrders = true) (hd : noDefers ops = true) (hq : ¬ LetsOut Q)
  (h : AnyE P .any ops Q S L ops.size (Array.replicate ops.size false) a w.drew) : (Code.region id ops true).wpIn (Fence.wide.inRound l) n P Q a w :=
 wpIn_region_any hm (any_in hd hq _ _ _ _ (AnyE.any _ _ _ _ h))
end

end Go.Proofs.YtgemlgpjbclonaaGreatDoor

