/- Merged. -/
import Derived.Test.YtdcjnhoabbdanaaGreatDoorZ37
import Derived.Lib.LaidTab
import Derived.LaidMore
import Derived.OpenShut
import Derived.Stop.Joined
set_option linter.unusedSimpArgs false
set_option linter.unnecessarySimpa false
set_option linter.unusedVariables false
set_option maxRecDepth 100000
set_option maxHeartbeats 8000000
open Go.Proofs.Tryz

namespace Go.Proofs.YtdcjnhoabbdanaaGreatDoor
open Go.RowKit
def aQs:aA7:=[[1],[1]]
def bAk:Trc:=⟨[2,1],[3,1,0],[[0],[0]],⟨2,2,1,1,0⟩⟩
theorem aKo:aAw exP=true/\aB3 exG=true/\aBl aQs=true:=by decide +kernel
theorem aYz:aJu exP exG 1 aQs 3=0:=by decide +kernel
theorem aZ0:aNp exP exG 1 (fun i E=>aAl exG 1 E (([2,2,2]:List Nat).getD i 0)) (fun _ E=>decide (E≠0)) 3 0 (aA3 exP exG aQs)=some bAk:=by kernel_rfl
theorem aYx {w:World} {b b0 b1:Nat} (hb:b<w.heap.size) (h0:b0<w.heap.size) (h1:b1<w.heap.size) (c0:w.cell? ⟨b,0,none⟩=some (.slice (some ⟨b0,0,none⟩) 1 1)) (c1:w.cell? ⟨b,1,none⟩=some (.slice (some ⟨b1,0,none⟩) 1 1)) (d0:w.cell? ⟨b0,0,none⟩=some (.int .i64 1)) (d1:w.cell? ⟨b1,0,none⟩=some (.int .i64 1)):aAy w (.slice (some ⟨b,0,none⟩) 2 2) aQs :=
 ⟨_,2,rfl,aAf.two hb ⟨_,1,c0,aAf.one h0 (by simpa [aHn] using d0),by decide,by decide⟩ ⟨_,1,c1,aAf.one h1 (by simpa [aHn] using d1),by decide,by decide⟩,by decide,by decide⟩
theorem aYy {w:World} {b:Nat} (hb:b<w.heap.size) (c0:w.cell? ⟨b,0,none⟩=some (.int .u32 2)) (c1:w.cell? ⟨b,1,none⟩=some (.int .u32 2)) (c2:w.cell? ⟨b,2,none⟩=some (.int .u32 2)):aAd w (some ⟨b,0,none⟩) ([2,2,2]:List Nat).length [2,2,2] :=
 ⟨rfl,fun i y hy=>by
  match i,hy with
  | 0, hy => obtain rfl : (2 : Nat) = y := by simpa using hy
             exact ⟨b,0,rfl,hb,by simpa [aHe] using c0⟩
  | 1, hy => obtain rfl : (2 : Nat) = y := by simpa using hy
             exact ⟨b,0,rfl,hb,by simpa [aHe] using c1⟩
  | 2, hy => obtain rfl : (2 : Nat) = y := by simpa using hy
             exact ⟨b,0,rfl,hb,by simpa [aHe] using c2⟩
  | i+3,hy=>simp at hy⟩
def bAb (w:World) (e:Ending) (w':World):Prop:=∃ A1 k1 b o k2 A3 k3,e = .returned (.tuple #[.agg #[.slice A1 2 k1,.slice (some ⟨b,o,none⟩) 3 k2,.slice A3 2 k3,.int .i64 2,.int .i64 2,.int .i64 1,.int .i64 1,.int .u32 0],.int .i64 0])/\b<w'.heap.size/\w'.cell? ⟨b,o+2,none⟩=some (.int .u32 0)/\Bel w w'
theorem aO3 (v1 v2 v3:Value) (b:Nat) (w:World) (h1:aEm w v1 exP) (h2:aAn w v2 exG) (h3:aAy w v3 aQs) (hM:aAd w (some ⟨b,0,none⟩) ([2,2,2]:List Nat).length [2,2,2]) (hT:aDg w) :
  Calls prog 18 #[v1,v2,.int .i64 1,v3,.slice (some ⟨b,0,none⟩) 3 3] w (bAb w):=by
 refine (aHa v1 exP v2 exG v3 aQs 1 (some ⟨b,0,none⟩) 3 [2,2,2] w h1 h2 h3 aKo.1 aKo.2.1 aKo.2.2 hM hT (by decide) (by decide)).mono ?_
 rintro e w' ⟨vt,rfl,hV,hb⟩;have e1:aJu exP exG 1 aQs (([2,2,2]:List Nat).length:Int)=0:=aYz
 have e2:aVl (aNp exP exG 1 (fun i E=>aAl exG 1 E (([2,2,2]:List Nat).getD i 0)) (fun _ E=>decide (E≠0)) ([2,2,2]:List Nat).length 0 (aA3 exP exG aQs))=(bAk,0):=by
  have:([2,2,2]:List Nat).length=3:=rfl;rw [this,aZ0];rfl
 rw [if_pos e1,e2] at hV ⊢;obtain ⟨A1,k1,A2,k2,A3,k3,rfl,_,_,_,q,_⟩:=(show aB5 w' vt bAk from hV.here)
 obtain ⟨b',o',rfl,hb',hc⟩:=aAd.at_ q 2 (by decide)
 exact ⟨A1,k1,b',o',k2,A3,k3,rfl,hb',hc,hb⟩
theorem aJb (w:World) (hT:aDg w):Calls prog 12 #[] w fun e w'=>e = .returned (.bool true)/\Bel w w':=by
 have HT:=aA0 (fun w' (k:Bel w w')=>hT.keep k);clear hT;go_enter func12,ntmps12
 go_upto_region 3 with (first
  | (go_at_call 34;refine (aPl _).mono ?_;rintro e w1 ⟨vp,vg,rfl,hp,hg,hb1w⟩;have HP:=aA0 (fun w' (k:Bel w1 w')=>hp.keep k);have HG:=aA0 (fun w' (k:Bel w1 w')=>hg.keep k);have HT1:=aA0 (fun w' (k:Bel w1 w')=>HT.out _ (hb1w.trans k));have HB1:=aA0 hb1w;obtain ⟨A1,k1,A2,k2,rfl,_,_,_,_,_,_⟩:=hp;obtain ⟨A3,k3,A4,k4,rfl,_,_,_,_,_,_⟩:=hg)
  | (go_at_call 18;have HB:Bel w1 ((((((w1.alloc (.cells #[.string exP.name,.slice A1 exP.vars.length k1,.slice A2 exP.rules.length k2] 25)).alloc (.cells #[.slice A3 exG.ids.length k3,.slice A4 exG.ports.length k4] 29)).alloc (.cells #[.int .i64 1] 3)).alloc (.cells #[.int .i64 1] 3)).alloc (.cells #[.slice (some ⟨w1.heap.size+1+1,0,none⟩) 1 1,.slice (some ⟨w1.heap.size+1+1+1,0,none⟩) 1 1] 26)).alloc (.cells #[.int .u32 2,.int .u32 2,.int .u32 2] 34)):=(by repeat' (first | exact Bel.refl _ | refine Bel.alloc ?_ _));refine (aO3 _ _ _ (w1.heap.size+1+1+1+1+1) _ (HP.out _ HB) (HG.out _ HB) (aYx (b0:=w1.heap.size+1+1) (b1:=w1.heap.size+1+1+1) (by simp) (by simp <;> omega) (by simp <;> omega) (by go_simp) (by go_simp) (by go_simp) (by go_simp)) (aYy (by simp) (by go_simp) (by go_simp) (by go_simp)) (HT1.out _ HB)).mono ?_;rintro e w2 ⟨B1,j1,b,o,j2,B3,j3,rfl,hbl,q,hb2⟩;have HB2:=aA0 (HB.trans hb2);clear hb2 HB))
 have c2:(w2.alloc (.cells #[.slice B1 2 j1,.slice (some ⟨b,o,none⟩) 3 j2,.slice B3 2 j3,.int .i64 2,.int .i64 2,.int .i64 1,.int .i64 1,.int .u32 0] 38)).cell? ⟨b,o+2,none⟩=some (.int .u32 0):=(((Bel.refl w2).alloc _).cell hbl).trans q;have hbl2:b<(w2.alloc (.cells #[.slice B1 2 j1,.slice (some ⟨b,o,none⟩) 3 j2,.slice B3 2 j3,.int .i64 2,.int .i64 2,.int .i64 1,.int .i64 1,.int .u32 0] 38)).heap.size:=by simp;omega
 have z:=Blk.new w2 #[.slice B1 2 j1,.slice (some ⟨b,o,none⟩) 3 j2,.slice B3 2 j3,.int .i64 2,.int .i64 2,.int .i64 1,.int .i64 1,.int .u32 0] 38;have z0:=z.cell 0 (v := .slice B1 2 j1) rfl;have z1:=z.cell 1 (v := .slice (some ⟨b,o,none⟩) 3 j2) rfl;have z3:=z.cell 3 (v := .int .i64 2) rfl;have z4:=z.cell 4 (v := .int .i64 2) rfl;have z5:=z.cell 5 (v := .int .i64 1) rfl;have zl:=z.lt;have HE:=aA0 (HB1.out.trans (HB2.out.alloc (.cells #[.slice B1 2 j1,.slice (some ⟨b,o,none⟩) 3 j2,.slice B3 2 j3,.int .i64 2,.int .i64 2,.int .i64 1,.int .i64 1,.int .u32 0] 38)));clear z q hbl;generalize w2.alloc (.cells #[.slice B1 2 j1,.slice (some ⟨b,o,none⟩) 3 j2,.slice B3 2 j3,.int .i64 2,.int .i64 2,.int .i64 1,.int .i64 1,.int .u32 0] 38)=W at *
 go_wp2_with fail
 go_ret;exact ⟨rfl,HE.out⟩
open Go.ChangeShapes Go.WideShapes Go.ChangeAt Go.RowKit Go.Deep
theorem Tryz.cells_u32:prog.cellsOf 34=1:=by kernel_rfl
section
variable {H:Type} {enc:TypeId × Value->H} {w:World} {base:Nat} {spare:Nat->Bool} {held:Bool}
theorem aRi:∀ n cs y b o,(∀ j,j<1->w.cell? ⟨b,o+j,none⟩=cs[j]?)->cs.length=1->DataW.trod enc prog w base spare held n 34 cs=some y->∃ x,aHe w b o x/\x<4294967296:=by
 intro n cs y b o hat hl h
 obtain ⟨x,rfl,_,hwf⟩:=DataW.trod_int underlying34 h;obtain ⟨S,rfl,hS⟩:=aYc hwf;refine ⟨S,?_,hS⟩
 have:=hat 0 (by omega)
 simpa [aHe] using this
end
section
variable {H:Type} {enc:TypeId × Value->H} {w:World} {base:Nat} {spare:Nat->Bool} {held:Bool}
theorem aVk {r:Reach} {b0:Nat} {v:Value} {d:DataW H} {p:List MemPlace} (h:DataW.Trod enc prog w base spare held 31 v d p) (hv:Value.okWide prog w r b0 31 v) :
  ∃ A c,∃ l:List Nat,v = .slice A l.length c/\aAd w A l.length l/\(∀ S∈l,S<4294967296)/\l.length<=c/\c<=maxLen:=by
 obtain ⟨a,l,c',rfl⟩:=okWide_slice underlying31 hv;obtain ⟨fuel,h⟩:=h;obtain ⟨A,n,c,xs,hcs,hr,hg,h1,h2⟩:=aJj (E:=aHe) (Good:=fun x=>x<4294967296) underlying31 Tryz.cells_u32 (by decide) aRi h
 have hn:=hr.1;subst hn;exact ⟨A,c,xs,by simpa [Value.cells] using hcs,hr,hg,h1,h2⟩
end
open Go.ChangeShapes Go.WideShapes Go.ChangeAt Go.WideMaps Go.WideElems Go.RowKit
theorem gTab : prog.globalNamed "math/bits.deBruijn32tab" = some 0 := by kernel_rfl
theorem tTab:(prog.globals[0]?).map (·.type)=some 177:=by kernel_rfl
theorem cTab1:prog.cellsOf 5=1:=by kernel_rfl
theorem bBa:prog.cellsOf 177=32:=by kernel_rfl
def aPh:List Int:=bruijn.map fun (n:Nat)=>(n:Int)
abbrev aVc : List (String × DataW Unit) := [("math/bits.deBruijn32tab", Rows.laid_math_bits_deBruijn32tab)]
theorem aZv {W:World} (h:laidMetH prog aVc W):aDg W:=by
 rw [MakeChecks.laidMetH_plain _ _ _ (by kernel_rfl)] at h
 have ht : Lib.TabIs prog W "math/bits.deBruijn32tab" .u8 aPh :=
  Lib.tabIs_of_head gTab tTab underlying177 underlying5 cTab1 bBa (show laidMet prog [("math/bits.deBruijn32tab", Lib.tabData .u8 aPh)] W from h)
 have hc:∀ i,i<32->W.cell? ⟨0,i,none⟩=some (.int .u8 ((bruijn.getD i 0:Nat):Int)):=fun i hi=>by
  have h1:=ht.cell gTab i (by simpa [aPh,bruijn] using hi)
  rw [h1];have hb:i<bruijn.length:=by simpa [bruijn] using hi
  simp [aPh,List.getD_eq_getElem?_getD,hb]
 refine ⟨?_,hc⟩
 have h0:=hc 0 (by decide)
 rcases Nat.lt_or_ge 0 W.heap.size with h | h
 .exact h
 .simp [World.cell?,Array.getElem?_eq_none h] at h0
theorem aYv (os:Os) (args:Array Value):laidMetH prog aVc ((World.doorLaid prog 400 os).forCall (fun _ _=>0) ⟨#[],args,[]⟩).memory :=
 laidMetH_of_parts3 (fuel:=8) (laidMet_of_run' 8 (by kernel_rfl) (by kernel_rfl)) (by kernel_rfl) (by kernel_rfl)
end Go.Proofs.YtdcjnhoabbdanaaGreatDoor

