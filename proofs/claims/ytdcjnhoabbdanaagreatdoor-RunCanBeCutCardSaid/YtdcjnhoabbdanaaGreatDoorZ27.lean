/- Merged. -/
import Derived.Test.YtdcjnhoabbdanaaGreatDoorZ25
set_option linter.unusedSimpArgs false
set_option linter.unnecessarySimpa false
set_option linter.unusedVariables false
set_option maxRecDepth 100000

namespace Go.Proofs.YtdcjnhoabbdanaaGreatDoor
theorem aZ8 {E:Nat} (h:E<16777216):E&&&16777215=E:=by
 rw [show (16777215:Nat)=2 ^ 24-1 from rfl,Nat.and_two_pow_sub_one_eq_mod,Nat.mod_eq_of_lt h]
theorem aSm {S n v:Nat} (hS:S<2 ^ n) (hv:S.testBit v=true):v<n:=by
 rcases Nat.lt_or_ge v n with h | h
 .exact h
 .rw [Nat.testBit_lt_two_pow (Nat.lt_of_lt_of_le hS (Nat.pow_le_pow_right (by decide) h))] at hv;cases hv
theorem aXo {S:Nat} (h:S<16777216):aDy S 16777215=0:=by
 have h1:(aDy S 16777215==0)=true:=by
  rw [aFr (by omega),aB5]
  intro v _ hv
  rw [show (16777215:Nat)=2 ^ 24-1 from rfl,Nat.testBit_two_pow_sub_one,decide_eq_true_iff]
  exact aSm (n:=24) h hv
 simpa using h1
end Go.Proofs.YtdcjnhoabbdanaaGreatDoor

