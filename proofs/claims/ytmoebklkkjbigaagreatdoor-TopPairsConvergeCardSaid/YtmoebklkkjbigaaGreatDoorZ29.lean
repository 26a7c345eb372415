/- Merged. -/
import Derived.Test.YtmoebklkkjbigaaGreatDoorZ28
import Derived.Test.YtmoebklkkjbigaaGreatDoorZ27
set_option linter.unusedSimpArgs false
set_option linter.unnecessarySimpa false
set_option linter.unusedVariables false
set_option maxRecDepth 100000
set_option maxHeartbeats 1000000
open Go.Proofs.Tryz

namespace Go.Proofs.YtmoebklkkjbigaaGreatDoor
open Go.RowKit
theorem Agr.of_belM {M:Nat->Prop} {a b:World} (h:Bel a b):Agr M a b:=⟨h.os,h.tape,h.output,h.size,fun k hk _=>h.block k hk⟩
def Rb (M:Nat->Prop) (R:World->Prop) (w:World):Prop:=∀ W,Agr M w W->R W
theorem Rb.here {M:Nat->Prop} {R:World->Prop} {w:World} (h:Rb M R w):R w:=h w (Agr.refl _ _)
theorem Rb.go {M:Nat->Prop} {R:World->Prop} {w W:World} (h:Rb M R w) (k:Agr M w W):Rb M R W:=fun V hV=>h V (k.trans hV)
theorem Rb.bel {M:Nat->Prop} {R:World->Prop} {w W:World} (h:Rb M R w) (k:Bel w W):Rb M R W:=h.go (Agr.of_belM k)
theorem Rb.more {M M':Nat->Prop} {R:World->Prop} {w:World} (h:Rb M R w) (hM:∀ k,M' k->M k∨w.heap.size<=k):Rb M' R w :=
 fun W hW=>h W ⟨hW.os,hW.tape,hW.output,hW.size,fun k hk hn=>hW.block k hk (fun e=>(hM k e).elim hn (fun h=>by omega))⟩
theorem Rb.and {M:Nat->Prop} {R S:World->Prop} {w:World} (h:Rb M R w) (k:Rb M S w):Rb M (fun W=>R W/\S W) w:=fun W hW=>⟨h W hW,k W hW⟩
theorem Rb.imp {M:Nat->Prop} {R S:World->Prop} {w:World} (h:Rb M R w) (k:∀ W,R W->S W):Rb M S w:=fun W hW=>k W (h W hW)
theorem Rb.sub {M M':Nat->Prop} {R:World->Prop} {w:World} (h:Rb M R w) (hM:∀ k,M' k->M k):Rb M' R w:=fun W hW=>h W (hW.mono hM)
theorem Rb.new {M:Nat->Prop} {N:Nat} {R:World->Prop} {w:World} (h:∀ W,aC4 N w W->R W) (hM:∀ k,M k->k<N):Rb M R w :=
 fun W hW=>h W ⟨hW.size,fun k hN hk=>hW.block k hk (fun e=>by have:=hM k e;omega)⟩
theorem Rb.old {M:Nat->Prop} {R:World->Prop} {w0 w:World} (h:∀ W,Bel w0 W->R W) (hb:Bel w0 w) (hM:∀ k,M k->w0.heap.size<=k):Rb M R w :=
 fun W hW=>h W (Agr.belE hb hW hM)
theorem Rb.box {M:Nat->Prop} {B:Nat} {t:TypeId} {v:Value} {w:World} (h:Boxed w B t v) (hB:¬ M B):Rb M (fun W=>Boxed W B t v) w:=fun _ hW=>hW.boxed h hB
structure Seer (P:Program) (N0:Nat) (f:FuncId) (caps:Array Value) (cv:Cnt->Value) (en:Trc->Nat) (ok:Trc->Prop) (Inv:(Nat->Prop)->List (Value × Trc)->World->Prop):Prop where
 enter:∀ a b d w,(callFunc f (#[a,b,d]++caps)).run P w = .ok (.enter f (#[a,b,d]++caps)) w
 dom:∀ M s w,Inv M s w->∀ k,M k->k<w.heap.size
 keep:∀ M s w W,Inv M s w->w.heap.size<=W.heap.size->(∀ k,M k∨k<N0->W.heap[k]?=w.heap[k]?)->Inv M s W
 grow:∀ (M M':Nat->Prop) s w,Inv M s w->(∀ k,M k->M' k)->(∀ k,M' k->k<w.heap.size)->Inv M' s w
 call:∀ M s w v t,s.length<=300->Inv M s w->aD7 w v t.last->ok t->Calls P f (#[v,.int .u32 (en t:Int),cv t.count]++caps) w fun e w' =>
  (∃ x,e = .returned x)/\∃ M',Inv M' (s++[(v,t)]) w'/\Agr M w w'/\(∀ k,M k->M' k)/\∀ k,M' k->M k∨w.heap.size<=k
def aWy (k:Cnt):Value := .agg #[.int .i64 k.steps,.int .i64 k.moves,.int .i64 k.rounds,.int .i64 k.begun,.int .u32 (k.pending:Int)]
theorem bL0 {E:Nat} (h:E<16777216):bits .and .u32 (E:Int) 16777215=(E:Int):=by
 rw [show (16777215:Int)=((16777215:Nat):Int) from rfl,aCz (by omega) (by decide),bNq h]
theorem bL4 {S:Nat} (h:S<16777216):bits .andNot .u32 (S:Int) 16777215=0:=by
 rw [show (16777215:Int)=((16777215:Nat):Int) from rfl,aEm,bLd h];rfl
theorem aIz (A:Option Addr) (c:Nat) (l:List Nat) (w:World) (h:aC5 w A l.length l) (hl:∀ s∈l,s<16777216) (hn:l.length<=8) :
  Calls prog 160 #[.slice A l.length c] w fun e w'=>e = .returned (.bool true)/\Bel w w':=by
 have H:=aA0 (fun w' (k:Bel w w')=>aC5.keep h k);clear h;have HL:=aA0 hl;clear hl;go_enter func160,ntmps160
 go_wp2_with fail
 go_loopg [4,7] l.length (fun q _x z wr=>∃ j:Nat,j<=l.length/\q=l.length-j/\z = .int .i64 j/\Bel w wr)
 case atStart=>exact ⟨0,by omega,rfl,rfl,Bel.refl w⟩
 case round =>
  obtain ⟨j,hj,rfl,rfl,HB⟩:=hrel
  by_cases hlt:j<l.length
  .have hd0:decide (j<l.length)=true:=by simpa using hlt
   obtain ⟨b,o,rfl,hb,hc⟩:=(H.out _ HB).at_ j hlt;have hs:=HL.out _ (List.getElem_mem hlt);generalize l[j]=S at *;have hz:=bL4 hs
   go_wp2_with fail
   go_roundg (l.length-(j+1))
   case rel=>exact ⟨j+1,by omega,rfl,by go_num,HB⟩
   case measure=>omega
  .have hd0:decide (j<l.length)=false:=by simpa using hlt
   go_wp2_with fail
   go_ret;exact ⟨rfl,HB⟩
theorem aTz (E:Nat) (w:World) (hE:E<16777216) :
  Calls prog 134 #[.int .u32 (E:Int)] w fun e w'=>e = .returned (aWy (aOz E))/\Bel w w':=by
 have hb:=bL0 hE;have HB:Hid (∀ cs,Bel w (w.alloc (.cells cs 68))):=fun cs=>(Bel.refl w).alloc _;go_enter func134,ntmps134
 go_wp2_with fail
 refine bodyPost_ret (v:=aWy (aOz E)) (by simp [results,Tryz.results134,go_sem];try go_simp;try rfl) rfl ?_
 exact ⟨rfl,HB.out _⟩
end Go.Proofs.YtmoebklkkjbigaaGreatDoor

