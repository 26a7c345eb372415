/- Merged. -/
import Derived.Test.YtmoebklkkjbigaaGreatDoorZ29
import Derived.Test.YtmoebklkkjbigaaGreatDoorZ28
set_option linter.unusedSimpArgs false
set_option linter.unnecessarySimpa false
set_option linter.unusedVariables false
set_option maxRecDepth 100000
set_option maxHeartbeats 1000000
open Go.Proofs.Tryz

namespace Go.Proofs.YtmoebklkkjbigaaGreatDoor
open Go.RowKit
def aWt (k:Cnt):Value := .agg #[.int .i64 k.steps,.int .i64 k.moves,.int .i64 k.rounds,.int .i64 k.begun,.int .u32 (k.pending:Int)]
theorem bKw {E:Nat} (h:E<16777216):bits .and .u32 (E:Int) 16777215=(E:Int):=by
 rw [show (16777215:Int)=((16777215:Nat):Int) from rfl,aCs (by omega) (by decide),bNk h]
theorem bL1 {S:Nat} (h:S<16777216):bits .andNot .u32 (S:Int) 16777215=0:=by
 rw [show (16777215:Int)=((16777215:Nat):Int) from rfl,aEl,bLa h];rfl
theorem aIo (A:Option Addr) (c:Nat) (l:List Nat) (w:World) (h:aBw w A l.length l) (hl:∀ s∈l,s<16777216) (hn:l.length<=8) :
  Calls prog 160 #[.slice A l.length c] w fun e w'=>e = .returned (.bool true)/\Bel w w':=by
 have H:=aA0 (fun w' (k:Bel w w')=>aBw.keep h k);clear h;have HL:=aA0 hl;clear hl;go_enter func160,ntmps160
 go_wp2_with fail
 go_loopg [4,7] l.length (fun q _x z wr=>∃ j:Nat,j<=l.length/\q=l.length-j/\z = .int .i64 j/\Bel w wr)
 case atStart=>exact ⟨0,by omega,rfl,rfl,Bel.refl w⟩
 case round =>
  obtain ⟨j,hj,rfl,rfl,HB⟩:=hrel
  by_cases hlt:j<l.length
  .have hd0:decide (j<l.length)=true:=by simpa using hlt
   obtain ⟨b,o,rfl,hb,hc⟩:=(H.out _ HB).at_ j hlt;have hs:=HL.out _ (List.getElem_mem hlt);generalize l[j]=S at *;have hz:=bL1 hs
   go_wp2_with fail
   go_roundg (l.length-(j+1))
   case rel=>exact ⟨j+1,by omega,rfl,by go_num,HB⟩
   case measure=>omega
  .have hd0:decide (j<l.length)=false:=by simpa using hlt
   go_wp2_with fail
   go_ret;exact ⟨rfl,HB⟩
theorem aTu (E:Nat) (w:World) (hE:E<16777216) :
  Calls prog 134 #[.int .u32 (E:Int)] w fun e w'=>e = .returned (aWt (aOt E))/\Bel w w':=by
 have hb:=bKw hE;have HB:Hid (∀ cs,Bel w (w.alloc (.cells cs 68))):=fun cs=>(Bel.refl w).alloc _;go_enter func134,ntmps134
 go_wp2_with fail
 refine bodyPost_ret (v:=aWt (aOt E)) (by simp [results,Tryz.results134,go_sem];try go_simp;try rfl) rfl ?_
 exact ⟨rfl,HB.out _⟩
end Go.Proofs.YtmoebklkkjbigaaGreatDoor

