/- Merged. -/
import Derived.Test.YtmoebklkkjbigaaGreatDoorZ26
import Derived.Test.YtmoebklkkjbigaaGreatDoorZ27
set_option linter.unusedSimpArgs false
set_option linter.unnecessarySimpa false
set_option linter.unusedVariables false
set_option maxRecDepth 100000

namespace Go.Proofs.YtmoebklkkjbigaaGreatDoor
open Go.RowKit
theorem Agr.of_belM {M:Nat->Prop} {a b:World} (h:Bel a b):Agr M a b:=⟨h.os,h.tape,h.output,h.size,fun k hk _=>h.block k hk⟩
def Rb (M:Nat->Prop) (R:World->Prop) (w:World):Prop:=∀ W,Agr M w W->R W
theorem Rb.here {M:Nat->Prop} {R:World->Prop} {w:World} (h:Rb M R w):R w:=h w (Agr.refl _ _)
theorem Rb.go {M:Nat->Prop} {R:World->Prop} {w W:World} (h:Rb M R w) (k:Agr M w W):Rb M R W:=fun V hV=>h V (k.trans hV)
theorem Rb.bel {M:Nat->Prop} {R:World->Prop} {w W:World} (h:Rb M R w) (k:Bel w W):Rb M R W:=h.go (Agr.of_belM k)
theorem Rb.more {M M':Nat->Prop} {R:World->Prop} {w:World} (h:Rb M R w) (hM:∀ k,M' k->M k∨w.heap.size<=k):Rb M' R w :=
 fun W hW=>h W ⟨hW.os,hW.tape,hW.output,hW.size,fun k hk hn=>hW.block k hk (fun e=>(hM k e).elim hn (fun h=>by omega))⟩
theorem Rb.and {M:Nat->Prop} {R S:World->Prop} {w:World} (h:Rb M R w) (k:Rb M S w):Rb M (fun W=>R W/\S W) w:=fun W hW=>⟨h W hW,k W hW⟩
theorem Rb.imp {M:Nat->Prop} {R S:World->Prop} {w:World} (h:Rb M R w) (k:∀ W,R W->S W):Rb M S w:=fun W hW=>k W (h W hW)
theorem Rb.sub {M M':Nat->Prop} {R:World->Prop} {w:World} (h:Rb M R w) (hM:∀ k,M' k->M k):Rb M' R w:=fun W hW=>h W (hW.mono hM)
theorem Rb.new {M:Nat->Prop} {N:Nat} {R:World->Prop} {w:World} (h:∀ W,aC3 N w W->R W) (hM:∀ k,M k->k<N):Rb M R w :=
 fun W hW=>h W ⟨hW.size,fun k hN hk=>hW.block k hk (fun e=>by have:=hM k e;omega)⟩
theorem Rb.old {M:Nat->Prop} {R:World->Prop} {w0 w:World} (h:∀ W,Bel w0 W->R W) (hb:Bel w0 w) (hM:∀ k,M k->w0.heap.size<=k):Rb M R w :=
 fun W hW=>h W (Agr.belE hb hW hM)
theorem Rb.box {M:Nat->Prop} {B:Nat} {t:TypeId} {v:Value} {w:World} (h:Boxed w B t v) (hB:¬ M B):Rb M (fun W=>Boxed W B t v) w:=fun _ hW=>hW.boxed h hB
structure Seer (P:Program) (N0:Nat) (f:FuncId) (caps:Array Value) (cv:Cnt->Value) (en:Trc->Nat) (ok:Trc->Prop) (Inv:(Nat->Prop)->List (Value × Trc)->World->Prop):Prop where
 enter:∀ a b d w,(callFunc f (#[a,b,d]++caps)).run P w = .ok (.enter f (#[a,b,d]++caps)) w
 dom:∀ M s w,Inv M s w->∀ k,M k->k<w.heap.size
 keep:∀ M s w W,Inv M s w->w.heap.size<=W.heap.size->(∀ k,M k∨k<N0->W.heap[k]?=w.heap[k]?)->Inv M s W
 grow:∀ (M M':Nat->Prop) s w,Inv M s w->(∀ k,M k->M' k)->(∀ k,M' k->k<w.heap.size)->Inv M' s w
 call:∀ M s w v t,s.length<=300->Inv M s w->aD2 w v t.last->ok t->Calls P f (#[v,.int .u32 (en t:Int),cv t.count]++caps) w fun e w' =>
  (∃ x,e = .returned x)/\∃ M',Inv M' (s++[(v,t)]) w'/\Agr M w w'/\(∀ k,M k->M' k)/\∀ k,M' k->M k∨w.heap.size<=k
end Go.Proofs.YtmoebklkkjbigaaGreatDoor

