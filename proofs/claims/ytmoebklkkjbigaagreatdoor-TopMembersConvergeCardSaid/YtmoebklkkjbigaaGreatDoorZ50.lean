/- Merged. -/
import Derived.Test.YtmoebklkkjbigaaGreatDoorZ48
set_option linter.unusedSimpArgs false
set_option linter.unnecessarySimpa false
set_option linter.unusedVariables false
set_option maxRecDepth 100000
open Go.Proofs.Tryz

namespace Go.Proofs.YtmoebklkkjbigaaGreatDoor
open Go.RowKit
structure KnownL (p:Prg) (g:Graph) (kind moves rounds:Int):Prop where
 few:(aD3 p g).2=0->aDn p g<=700/\g.ports.length<=5
 sys:∃ (s:Spc) (f:Nat->Int) (G:Nat->Nat->Prop) (fr:Nat->Nat->Int),aHo p g kind=(s,0)/\aCy s=true/\wfS s/\aCf s=true/\(∀ k,s.enabled.getD k 0<16)/\(∀ o,OrdP s.arcs (aE3 s) s.arcs.length o->s.arcs.length<=o.length)/\CostP s.arcs (aE3 s) s.arcs.length (fun x=>((aAd x.1).length:Int)) f/\(∀ k,k<s.arcs.length->f k<=moves)/\RndP s.arcs s.enabled (aE3 s) s.arcs.length G fr/\(∀ k,k<s.arcs.length->(aE3 s).getD k false=false->fr k (s.enabled.getD k 0)<=rounds)
theorem aP7 (v1:Value) (p:Prg) (v2:Value) (g:Graph) (kind moves rounds:Int) (w:World) (h:aK5 w v1 p) (h2:aB2 w v2 g) (hT:aDl w) (hL:aCc p=true) (hG:aBt g=true) (hK:KnownL p g kind moves rounds) (hm0:0<=moves) (hr0:0<=rounds) :
  Calls prog 11 #[v1,v2,.int .i64 kind,.int .i64 moves,.int .i64 rounds] w fun e w'=>e = .returned (.bool true)/\Bel w w':=by
 obtain ⟨hf,s,f,G,fr,a1,a2,a3,a4,a5,a6,a7,a8,a9,a10⟩:=hK;exact aZ6 v1 p v2 g kind moves rounds w h h2 hT hL hG hf s a1 a2 a3 a4 a5 a6 f a7 a8 G fr a9 a10 hm0 hr0
end Go.Proofs.YtmoebklkkjbigaaGreatDoor

