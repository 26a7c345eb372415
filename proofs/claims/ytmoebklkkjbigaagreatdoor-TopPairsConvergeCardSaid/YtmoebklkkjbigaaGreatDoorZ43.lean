/- Merged. -/
import Derived.Test.YtmoebklkkjbigaaGreatDoorZ42
set_option linter.unusedSimpArgs false
set_option linter.unnecessarySimpa false
set_option linter.unusedVariables false
set_option maxRecDepth 100000
set_option maxHeartbeats 4000000
open Go.Proofs.Tryz

namespace Go.Proofs.YtmoebklkkjbigaaGreatDoor
open Go.RowKit
def aPg (g:Graph) (k:Nat):Nat:=((g.ports.take k).map List.length).sum
theorem aMb {g:Graph} {k:Nat} (h:k<g.ports.length):aPg g (k+1)=aPg g k+g.ports[k].length:=by
 unfold aPg;rw [List.take_succ_eq_append_getElem h,List.map_append,List.sum_append];simp
theorem aPz (v:Value) (g:Graph) (w:World) (h:aB7 w v g) (hG:aC7 g=true) (hg:GOK g) :
  Calls prog 10 #[v] w fun e w'=>e = .returned (.tuple #[.int .i64 (g.ids.length:Int),.int .i64 ((aPg g g.ports.length / 2:Nat):Int)])/\Bel w w':=by
 have HGV:=aA0 (fun w' (k:Bel w w')=>h.keep k);obtain ⟨A,k,A2,k2,rfl,hI,_,_,hP,_,_⟩:=h;have HP:=aA0 (fun w' (k:Bel w w')=>hP.keep k);have HL:=aA0 hG;have HGK:=aA0 hg;have hn:g.ports.length<=24:=hg.le;have HB0:=aA0 ((Bel.refl w).alloc (.cells #[.slice A g.ids.length k,.slice A2 g.ports.length k2] 25));have HX:=aA0 (Blk.new w #[.slice A g.ids.length k,.slice A2 g.ports.length k2] 25);clear hI hP hG hg;go_enter func10,ntmps10
 go_wp2_with (refine (aHu _ g _ (HGV.out _ HB0.out) HL.out).mono ?_;rintro e w1 ⟨rfl,hb⟩;rw [(aCa g).2 HGK.out];have HB1:=aA0 (HB0.out.trans hb);have HX1:=aA0 (HX.out.keep hb);have x1:=HX1.out.cell 1 (v := .slice A2 g.ports.length k2) rfl;have x0:=HX1.out.cell 0 (v := .slice A g.ids.length k) rfl;have xl:=HX1.out.lt;clear hb)
 go_loopg [3,5,12] g.ports.length (fun m y _a z wr=>∃ k:Nat,k<=g.ports.length/\m=g.ports.length-k/\y = .int .i64 (aPg g k:Int)/\z = .int .i64 (k:Int)/\aPg g k<=30*k/\w1=wr)
 case atStart=>exact ⟨0,by omega,rfl,rfl,rfl,by simp [aPg],rfl⟩
 case round =>
  obtain ⟨k,hk,rfl,rfl,rfl,hd,rfl⟩:=hrel
  by_cases hlt:k<g.ports.length
  .have hd0:decide (k<g.ports.length)=true:=by simpa using hlt
   obtain ⟨b,o,R,c,rfl,hb,c0,_,_,_⟩:=(HP.out _ HB1.out).at_ k hlt;have h30:=(aG1 HL.out).2.2 _ (List.getElem_mem hlt);have hsc:=aA0 (aMb hlt);generalize g.ports[k].length=n at *;generalize aPg g k=q at *
   go_wp2_with fail
   go_roundg (g.ports.length-(k+1))
   case rel=>exact ⟨k+1,by omega,rfl,by rw [hsc.out];go_num,by go_num,by rw [hsc.out];omega,rfl⟩
   case measure=>omega
  .obtain rfl:k=g.ports.length:=by omega
   have hd0:decide (g.ports.length<g.ports.length)=false:=by simp
   generalize hq:aPg g g.ports.length=q at *
   go_wp2_with fail
   refine bodyPost_ret (v := .tuple #[.int .i64 (g.ids.length:Int),.int .i64 ((q / 2:Nat):Int)]) (by simp [results,Tryz.results10]) rfl ⟨by rw [hq],HB1.out⟩
end Go.Proofs.YtmoebklkkjbigaaGreatDoor

