/- Merged of: L13g (see NOTES.md). -/
import Derived.Test.YtaifafljakojnaaGreatZ26
import Derived.Test.YtaifafljakojnaaGreatZ27
import Derived.Test.YtaifafljakojnaaGreatZ21
set_option linter.unusedSimpArgs false
set_option linter.unnecessarySimpa false
set_option linter.unusedVariables false

/- Small lemmas for the walks of layer 13: nodes by remainder, what Verify refuses; a shorter take. -/
namespace Go.Proofs.YtaifafljakojnaaGreat
open Go.RowKit

/-- A list that Verify refuses, and one that it accepts, at a node. -/
theorem runF_bad {p : Prg} {g : Graph} {c : Config} {q : Nat} {l : List Term} (hm : memF p g c = 0) (hq : q < c.length) (hl : (verifyF l p.vars.length).2.2 ≠ 0) : runF p g c (q : Int) l = (0, 0, 7) := by
  rw [runF_node hm hq, if_pos hl]
theorem mod_node13 {v : Int} {n : Nat} (hn : 0 < n) : ∃ q : Nat, modF v n = (q : Int) ∧ q < n := by
  have h1 : 0 ≤ modF v n := Int.emod_nonneg _ (by omega)
  have h2 : modF v n < n := Int.emod_lt_of_pos _ (by omega)
  obtain ⟨q, hq⟩ := Int.eq_ofNat_of_zero_le h1
  exact ⟨q, hq, by omega⟩
theorem mem_pos13 {p : Prg} {g : Graph} {c : Config} (hm : memF p g c = 0) : 0 < c.length := by
  have h1 := (confB_iff.1 (mem_zero hm).2).1
  rw [tableF_length] at h1
  have h2 := (fits_zero (mem_zero hm).1).2.1
  have h3 := h2.ids
  have h4 := h2.pos
  omega
theorem AnyE.t {P : Program} {ops : Array Oper} {Q : Exit → Act → World → Prop} {md : Region.Mode} {S : World → Prop} {L : Nat} {oi : Oper} {v : Value} {fuel : Nat} {listed : Array Bool} {a : Act} {w : World} (i d : Nat) (hi : ops[i]? = some oi) (hd : oi.dst = some d)
    (hc : (Region.noSelect ops && Region.free md ops listed i && (Region.ready md ops listed).contains i && ((chainF md ops L 60 i).contains L && waits md ops i (chainF md ops L 60 i) && unlisted listed (chainF md ops L 60 i))) = true)
    (hQ : ∀ c a w, Q (.panic c) (a.put (some d) v) w → Q (.panic c) a w) (hS : S w) (hy : YieldsIf P ops S oi v a)
    (h : AnyE P md ops Q S L fuel (listed.setIfInBounds i true) (a.put (some d) v) w) : AnyE P md ops Q S L (fuel + 1) listed a w := by
  rw [Bool.and_eq_true, Bool.and_eq_true, Bool.and_eq_true] at hc
  exact AnyE.takeC (some d) hi hd hc.1.1.1 hc.1.1.2 hc.1.2 hc.2 hQ hS hy h

end Go.Proofs.YtaifafljakojnaaGreat

