/- Merged. -/
import Derived.Test.YtmoebklkkjbigaaGreatDoorZ27
set_option linter.unusedSimpArgs false
set_option linter.unnecessarySimpa false
set_option linter.unusedVariables false
set_option maxRecDepth 100000

namespace Go.Proofs.YtmoebklkkjbigaaGreatDoor
theorem bNk {E:Nat} (h:E<16777216):E&&&16777215=E:=by
 rw [show (16777215:Nat)=2 ^ 24-1 from rfl,Nat.and_two_pow_sub_one_eq_mod,Nat.mod_eq_of_lt h]
theorem bC8 {S n v:Nat} (hS:S<2 ^ n) (hv:S.testBit v=true):v<n:=by
 rcases Nat.lt_or_ge v n with h | h
 .exact h
 .rw [Nat.testBit_lt_two_pow (Nat.lt_of_lt_of_le hS (Nat.pow_le_pow_right (by decide) h))] at hv;cases hv
theorem bLa {S:Nat} (h:S<16777216):aCg S 16777215=0:=by
 have h1:(aCg S 16777215==0)=true:=by
  rw [aHp (by omega),aAi]
  intro v _ hv
  rw [show (16777215:Nat)=2 ^ 24-1 from rfl,Nat.testBit_two_pow_sub_one,decide_eq_true_iff]
  exact bC8 (n:=24) h hv
 simpa using h1
end Go.Proofs.YtmoebklkkjbigaaGreatDoor

