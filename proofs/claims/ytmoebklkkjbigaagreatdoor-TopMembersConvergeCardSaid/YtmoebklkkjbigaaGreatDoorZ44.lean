/- Merged. -/
import Derived.Test.YtmoebklkkjbigaaGreatDoorZ42
set_option linter.unusedSimpArgs false
set_option linter.unnecessarySimpa false
set_option linter.unusedVariables false
set_option maxRecDepth 100000
set_option maxHeartbeats 1000000
open Go.Proofs.Tryz

namespace Go.Proofs.YtmoebklkkjbigaaGreatDoor
open Go.RowKit
theorem bC2 (A:Option Addr) (c n:Nat) (l:List Bool) (w:World) (hB:aEw w A n l) (hn:n<=100000) :
  Calls prog 14 #[.slice A n c] w fun e w'=>e = .returned (.bool (l.any id))/\Bel w w':=by
 have hl:l.length=n:=hB.1;have H1:=aA0 (fun w' (k:Bel w w')=>hB.keep k);clear hB;go_enter func14,ntmps14
 go_wp2_with fail
 go_loopg [3] n (fun m z wr=>∃ i:Nat,i<=n/\m=n-i/\z = .int .i64 (i:Int)/\Bel w wr/\Hid ((l.take i).any id=false))
 case atStart=>exact ⟨0,by omega,rfl,rfl,Bel.refl w,by show (List.take 0 l).any id=false;simp⟩
 case round =>
  obtain ⟨i,hi,rfl,rfl,HW,HA⟩:=hrel
  by_cases hlt:i<n
  .have hd0:decide (i<n)=true:=by simpa using hlt
   have hil:i<l.length:=by omega
   obtain ⟨b,o,rfl,hb,c0⟩:=(H1.out _ HW).at_ i hil;have hts:=aA0 (List.take_succ_eq_append_getElem hil);cases hx:l[i] with
   | true =>
    rw [hx] at c0;have hall:Hid (l.any id=true):=List.any_eq_true.2 ⟨l[i],List.getElem_mem hil,by rw [hx];rfl⟩
    go_wp2_with fail
    refine bodyPost_ret (v := .bool true) (by simp [results,Tryz.results14]) rfl ⟨by rw [hall.out],HW⟩
   | false =>
    rw [hx] at c0;have hx':=aA0 hx
    go_wp2_with fail
    go_roundg (n-(i+1))
    case rel=>exact ⟨i+1,by omega,rfl,by go_num,HW,by show (List.take (i+1) l).any id=false;rw [hts.out,List.any_append,HA.out,hx'.out];rfl⟩
    case measure=>omega
  .have hd0:decide (i<n)=false:=by simpa using hlt
   obtain rfl:i=n:=by omega
   have hall:Hid (l.any id=false):=by have:=HA.out;rwa [List.take_of_length_le (by omega)] at this
   go_wp2_with fail
   refine bodyPost_ret (v := .bool false) (by simp [results,Tryz.results14]) rfl ⟨by rw [hall.out],HW⟩
end Go.Proofs.YtmoebklkkjbigaaGreatDoor

