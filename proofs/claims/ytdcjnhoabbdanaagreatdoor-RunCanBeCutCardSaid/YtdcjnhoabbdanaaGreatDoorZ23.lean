/- Merged. -/
import Derived.Test.YtdcjnhoabbdanaaGreatDoorZ22
import Derived.Test.YtdcjnhoabbdanaaGreatDoorZ21
set_option linter.unusedSimpArgs false
set_option linter.unnecessarySimpa false
set_option linter.unusedVariables false
set_option maxRecDepth 100000

namespace Go.Proofs.YtdcjnhoabbdanaaGreatDoor
open Go.RowKit
theorem aWu {p:Prg} {g:Graph} {c:aA5} {T:Nat} (hm:aD5 p g c=0) (h0:T≠0) (hw:aB1 T (aAk p g c)=true):aWt p g c T=(aBi p g c T,0):=by
 unfold aWt;rw [if_neg (by simpa using hm),if_neg (by rw [hw];simpa using h0)]
attribute [local go_sem] Oper.semAt_some
end Go.Proofs.YtdcjnhoabbdanaaGreatDoor

namespace Go.Proofs.YtdcjnhoabbdanaaGreatDoor
open Go.RowKit
attribute [local go_sem] Oper.semAt_some
theorem Agr.of_bel {E:Nat->Prop} {A B C:World} (h:Agr E B C) (k:Bel A B):Agr E A C :=
 ⟨h.os.trans k.os,h.tape.trans k.tape,h.output.trans k.output,Nat.le_trans k.size h.size,fun i hi hn=>(h.block i (Nat.lt_of_lt_of_le hi k.size) hn).trans (k.block i hi)⟩
theorem bA5.inRound {α:Type} {F:Fence} {n:Nat} {P:Program} {g:Nat} {lb:Array Value} {encs:α->Array Value} {Bs Rs:Nat->Prop} {S:List α} {w:World} (l:Nat) (h:bA5 F n P g lb encs Bs Rs S w):bA5 (F.inRound l) n P g lb encs Bs Rs S w:=h
end Go.Proofs.YtdcjnhoabbdanaaGreatDoor

namespace Go.Proofs.YtdcjnhoabbdanaaGreatDoor
open Go.RowKit
end Go.Proofs.YtdcjnhoabbdanaaGreatDoor

