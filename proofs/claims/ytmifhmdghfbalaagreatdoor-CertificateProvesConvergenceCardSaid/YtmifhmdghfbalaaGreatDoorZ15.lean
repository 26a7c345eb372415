/- Merged. -/
import Derived.Test.YtmifhmdghfbalaaGreatDoorZ10
import Derived.JoinedOf
import Derived.Test.YtmifhmdghfbalaaGreatDoorTie
import Derived.Test.YtmifhmdghfbalaaGreatDoorCards
import Derived.SevenTiedAt
set_option linter.unusedSimpArgs false
set_option linter.unnecessarySimpa false
set_option linter.unusedVariables false
set_option maxRecDepth 100000
open Go.Proofs.Tryz

namespace Go.Proofs.YtmifhmdghfbalaaGreatDoor
open Go.ChangeShapes Go.WideShapes Go.ChangeAt Go.WideMaps Go.WideElems Go.RowKit Go.Deep
abbrev jc0 (P:Program) (f:FuncId) (fn:Func) (s:ChangeSpec) (c:OpenClaim):Bool:=c.wf (OpenSpec.ofChange s)
abbrev jc1 (P:Program) (f:FuncId) (fn:Func) (s:ChangeSpec) (c:OpenClaim):Bool:=laidOutB P
abbrev jc2 (P:Program) (f:FuncId) (fn:Func) (s:ChangeSpec) (c:OpenClaim):Bool:=mapsRowed P
abbrev jc3 (P:Program) (f:FuncId) (fn:Func) (s:ChangeSpec) (c:OpenClaim):Bool:=fn.params.all (P.readableRec ·)
abbrev jc4 (P:Program) (f:FuncId) (fn:Func) (s:ChangeSpec) (c:OpenClaim):Bool:=namedTie P c.named s.vars
abbrev jc5 (P:Program) (f:FuncId) (fn:Func) (s:ChangeSpec) (c:OpenClaim):Bool:=(c.stops==[])
abbrev jc6 (P:Program) (f:FuncId) (fn:Func) (s:ChangeSpec) (c:OpenClaim):Bool:=(P.stops==[])
abbrev jc7 (P:Program) (f:FuncId) (fn:Func) (s:ChangeSpec) (c:OpenClaim):Bool:=(c.knobs==[])
abbrev jc8 (P:Program) (f:FuncId) (fn:Func) (s:ChangeSpec) (c:OpenClaim):Bool:=(P.stopKnobs==[])
abbrev jc9 (P:Program) (f:FuncId) (fn:Func) (s:ChangeSpec) (c:OpenClaim):Bool:=(c.inPlace==P.inPlace f)
abbrev bLh (P:Program) (f:FuncId) (fn:Func) (s:ChangeSpec) (c:OpenClaim):Bool:=(c.unfollowed==P.unfollowed f)
abbrev bLi (P:Program) (f:FuncId) (fn:Func) (s:ChangeSpec) (c:OpenClaim):Bool:=(c.recurses==P.recurses f)
abbrev bLj (P:Program) (f:FuncId) (fn:Func) (s:ChangeSpec) (c:OpenClaim):Bool:=(c.named==P.varsNamed f)
abbrev bLk (P:Program) (f:FuncId) (fn:Func) (s:ChangeSpec) (c:OpenClaim):Bool:=(c.maps==(fn.params.toList++s.plain.varTypes P).any (P.mapsRec ·))
abbrev bLl (P:Program) (f:FuncId) (fn:Func) (s:ChangeSpec) (c:OpenClaim):Bool:=(c.ifaces==(fn.params.toList++s.plain.varTypes P).any (P.ifacesRec ·))
abbrev bLm (P:Program) (f:FuncId) (fn:Func) (s:ChangeSpec) (c:OpenClaim):Bool:=(c.mapsOut==P.mapsAmong fn.resultTypes.toList)
abbrev bLn (P:Program) (f:FuncId) (fn:Func) (s:ChangeSpec) (c:OpenClaim):Bool:=(c.loops==(fn.params.toList++s.plain.varTypes P).any (P.loopsFrom ·))
abbrev bLo (P:Program) (f:FuncId) (fn:Func) (s:ChangeSpec) (c:OpenClaim):Bool:=(c.wideKeys==(fn.params.toList++s.plain.varTypes P++fn.resultTypes.toList).any (P.wideKeysFrom ·))
abbrev bLp (P:Program) (f:FuncId) (fn:Func) (s:ChangeSpec) (c:OpenClaim):Bool:=s.vars.all (P.varReadable ·)
abbrev bLq (P:Program) (f:FuncId) (fn:Func) (s:ChangeSpec) (c:OpenClaim):Bool:=fn.resultTypes.all (fun t=>P.readableRec t&&decide (t<P.types.size))
abbrev bLr (P:Program) (f:FuncId) (fn:Func) (s:ChangeSpec) (c:OpenClaim):Bool:=(c.ifacesOut==fn.resultTypes.toList.any (P.ifacesRec ·))
abbrev bLs (P:Program) (f:FuncId) (fn:Func) (s:ChangeSpec) (c:OpenClaim):Bool:=(c.loopsOut==fn.resultTypes.toList.any (P.loopsFrom ·))
abbrev bKr (P:Program) (f:FuncId) (fn:Func) (s:ChangeSpec) (c:OpenClaim):Bool:=(c.plainKeys==P.plainKeys)
abbrev bLt (P:Program) (f:FuncId) (fn:Func) (s:ChangeSpec) (c:OpenClaim):Bool:=c.shortTexts.isNone
abbrev bKs (P:Program) (f:FuncId) (fn:Func) (s:ChangeSpec) (c:OpenClaim):Bool:=P.stopsHeard
abbrev bKt (P:Program) (f:FuncId) (fn:Func) (s:ChangeSpec) (c:OpenClaim):Bool:=P.mayEnter
abbrev bKu (P:Program) (f:FuncId) (fn:Func) (s:ChangeSpec) (c:OpenClaim):Bool:=(c.lifted==P.liftsFinal)
abbrev bKv (P:Program) (f:FuncId) (fn:Func) (s:ChangeSpec) (c:OpenClaim):Bool:=(P.make==some c.make)
abbrev bLu (P:Program) (f:FuncId) (fn:Func) (s:ChangeSpec) (c:OpenClaim):Bool:=(c.kinds==(if c.domain.isEmpty then [] else fn.params.toList.map fun t=>match P.underlying t with | some (.int k)=>some k | _=>none))
abbrev bLv (P:Program) (f:FuncId) (fn:Func) (s:ChangeSpec) (c:OpenClaim):Bool:=(c.pinned==c.pinnedBy)
abbrev bLw (P:Program) (f:FuncId) (fn:Func) (s:ChangeSpec) (c:OpenClaim):Bool:=(c.veiled==(fn.params.toList++s.plain.varTypes P++fn.resultTypes.toList).any (P.veiledRec ·))
abbrev bLx (P:Program) (f:FuncId) (fn:Func) (s:ChangeSpec) (c:OpenClaim):Bool:=c.veiledFits P fn.params.toList (fn.params.toList++s.plain.varTypes P++fn.resultTypes.toList)
theorem aB0 {a b:Bool} (h:a=true) (k:b=true):(a&&b)=true:=by rw [h,k];rfl
theorem jp1:jc1 prog 16 Tryz.f16 Rows.certificateSumsNodesSpec Rows.certificateSumsNodesRow=true:=by kernel_rfl
theorem jp2:jc2 prog 16 Tryz.f16 Rows.certificateSumsNodesSpec Rows.certificateSumsNodesRow=true:=by kernel_rfl
theorem jp6:jc6 prog 16 Tryz.f16 Rows.certificateSumsNodesSpec Rows.certificateSumsNodesRow=true:=by kernel_rfl
theorem jp8:jc8 prog 16 Tryz.f16 Rows.certificateSumsNodesSpec Rows.certificateSumsNodesRow=true:=by kernel_rfl
theorem bLy:bKr prog 16 Tryz.f16 Rows.certificateSumsNodesSpec Rows.certificateSumsNodesRow=true:=by kernel_rfl
theorem bLz:bKs prog 16 Tryz.f16 Rows.certificateSumsNodesSpec Rows.certificateSumsNodesRow=true:=by kernel_rfl
theorem bM0:bKt prog 16 Tryz.f16 Rows.certificateSumsNodesSpec Rows.certificateSumsNodesRow=true:=by kernel_rfl
theorem bM1:bKu prog 16 Tryz.f16 Rows.certificateSumsNodesSpec Rows.certificateSumsNodesRow=true:=by kernel_rfl
theorem bM2:bKv prog 16 Tryz.f16 Rows.certificateSumsNodesSpec Rows.certificateSumsNodesRow=true:=by kernel_rfl
theorem bDl:prog.mainIs=some (Rows.certificateSumsNodesCard.stood.harness.1,Rows.certificateSumsNodesCard.stood.harness.2.toList):=by kernel_rfl
theorem bDk:false=prog.looks []:=by kernel_rfl
end Go.Proofs.YtmifhmdghfbalaaGreatDoor

