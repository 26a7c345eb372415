/- Merged. -/
import Derived.Test.YtdcjnhoabbdanaaGreatDoorZ38
set_option linter.unusedSimpArgs false
set_option linter.unnecessarySimpa false
set_option linter.unusedVariables false
set_option maxRecDepth 100000
set_option maxHeartbeats 8000000
open Go.Proofs.Tryz

namespace Go.Proofs.YtdcjnhoabbdanaaGreatDoor
open Go.RowKit
def aPk:aA5:=[[1],[1]]
def aZd:Trc:=⟨[2,1],[3,1,0],[[0],[0]],⟨2,2,1,1,0⟩⟩
theorem aJs:aAq exP=true/\aB2 exG=true/\aBr aPk=true:=by decide +kernel
theorem aXs:aMy exP exG 1 aPk 3=0:=by decide +kernel
theorem aXt:aIb exP exG 1 (fun i E=>aAl exG 1 E (([2,2,2]:List Nat).getD i 0)) (fun _ E=>decide (E≠0)) 3 0 (aAg exP exG aPk)=some aZd:=by kernel_rfl
theorem aXq {w:World} {b b0 b1:Nat} (hb:b<w.heap.size) (h0:b0<w.heap.size) (h1:b1<w.heap.size) (c0:w.cell? ⟨b,0,none⟩=some (.slice (some ⟨b0,0,none⟩) 1 1)) (c1:w.cell? ⟨b,1,none⟩=some (.slice (some ⟨b1,0,none⟩) 1 1)) (d0:w.cell? ⟨b0,0,none⟩=some (.int .i64 1)) (d1:w.cell? ⟨b1,0,none⟩=some (.int .i64 1)):aAr w (.slice (some ⟨b,0,none⟩) 2 2) aPk :=
 ⟨_,2,rfl,aAc.two hb ⟨_,1,c0,aAc.one h0 (by simpa [aGp] using d0),by decide,by decide⟩ ⟨_,1,c1,aAc.one h1 (by simpa [aGp] using d1),by decide,by decide⟩,by decide,by decide⟩
theorem aXr {w:World} {b:Nat} (hb:b<w.heap.size) (c0:w.cell? ⟨b,0,none⟩=some (.int .u32 2)) (c1:w.cell? ⟨b,1,none⟩=some (.int .u32 2)) (c2:w.cell? ⟨b,2,none⟩=some (.int .u32 2)):aAb w (some ⟨b,0,none⟩) ([2,2,2]:List Nat).length [2,2,2] :=
 ⟨rfl,fun i y hy=>by
  match i,hy with
  | 0, hy => obtain rfl : (2 : Nat) = y := by simpa using hy
             exact ⟨b,0,rfl,hb,by simpa [aGg] using c0⟩
  | 1, hy => obtain rfl : (2 : Nat) = y := by simpa using hy
             exact ⟨b,0,rfl,hb,by simpa [aGg] using c1⟩
  | 2, hy => obtain rfl : (2 : Nat) = y := by simpa using hy
             exact ⟨b,0,rfl,hb,by simpa [aGg] using c2⟩
  | i+3,hy=>simp at hy⟩
def aZ3 (w:World) (e:Ending) (w':World):Prop:=∃ A1 k1 b o k2 A3 k3,e = .returned (.tuple #[.agg #[.slice A1 2 k1,.slice (some ⟨b,o,none⟩) 3 k2,.slice A3 2 k3,.int .i64 2,.int .i64 2,.int .i64 1,.int .i64 1,.int .u32 0],.int .i64 0])/\b<w'.heap.size/\w'.cell? ⟨b,o+2,none⟩=some (.int .u32 0)/\Bel w w'
theorem aN1 (v1 v2 v3:Value) (b:Nat) (w:World) (h1:aEo w v1 exP) (h2:aAm w v2 exG) (h3:aAr w v3 aPk) (hM:aAb w (some ⟨b,0,none⟩) ([2,2,2]:List Nat).length [2,2,2]) (hT:aC3 w) :
  Calls prog 18 #[v1,v2,.int .i64 1,v3,.slice (some ⟨b,0,none⟩) 3 3] w (aZ3 w):=by
 refine (aJm v1 exP v2 exG v3 aPk 1 (some ⟨b,0,none⟩) 3 [2,2,2] w h1 h2 h3 aJs.1 aJs.2.1 aJs.2.2 hM hT (by decide) (by decide)).mono ?_
 rintro e w' ⟨vt,rfl,hV,hb⟩;have e1:aMy exP exG 1 aPk (([2,2,2]:List Nat).length:Int)=0:=aXs
 have e2:aUc (aIb exP exG 1 (fun i E=>aAl exG 1 E (([2,2,2]:List Nat).getD i 0)) (fun _ E=>decide (E≠0)) ([2,2,2]:List Nat).length 0 (aAg exP exG aPk))=(aZd,0):=by
  have:([2,2,2]:List Nat).length=3:=rfl;rw [this,aXt];rfl
 rw [if_pos e1,e2] at hV ⊢;obtain ⟨A1,k1,A2,k2,A3,k3,rfl,_,_,_,q,_⟩:=(show aCl w' vt aZd from hV.here)
 obtain ⟨b',o',rfl,hb',hc⟩:=aAb.at_ q 2 (by decide)
 exact ⟨A1,k1,b',o',k2,A3,k3,rfl,hb',hc,hb⟩
theorem aBy (w:World) (hT:aC3 w):Calls prog 12 #[] w fun e w'=>e = .returned (.bool true)/\Bel w w':=by
 have HT:=aA0 (fun w' (k:Bel w w')=>hT.keep k);clear hT;go_enter func12,ntmps12
 go_upto_region 3 with (first
  | (go_at_call 34;refine (aOb _).mono ?_;rintro e w1 ⟨vp,vg,rfl,hp,hg,hb1w⟩;have HP:=aA0 (fun w' (k:Bel w1 w')=>hp.keep k);have HG:=aA0 (fun w' (k:Bel w1 w')=>hg.keep k);have HT1:=aA0 (fun w' (k:Bel w1 w')=>HT.out _ (hb1w.trans k));have HB1:=aA0 hb1w;obtain ⟨A1,k1,A2,k2,rfl,_,_,_,_,_,_⟩:=hp;obtain ⟨A3,k3,A4,k4,rfl,_,_,_,_,_,_⟩:=hg)
  | (go_at_call 18;have HB:Bel w1 ((((((w1.alloc (.cells #[.string exP.name,.slice A1 exP.vars.length k1,.slice A2 exP.rules.length k2] 25)).alloc (.cells #[.slice A3 exG.ids.length k3,.slice A4 exG.ports.length k4] 29)).alloc (.cells #[.int .i64 1] 3)).alloc (.cells #[.int .i64 1] 3)).alloc (.cells #[.slice (some ⟨w1.heap.size+1+1,0,none⟩) 1 1,.slice (some ⟨w1.heap.size+1+1+1,0,none⟩) 1 1] 26)).alloc (.cells #[.int .u32 2,.int .u32 2,.int .u32 2] 34)):=(by repeat' (first | exact Bel.refl _ | refine Bel.alloc ?_ _));refine (aN1 _ _ _ (w1.heap.size+1+1+1+1+1) _ (HP.out _ HB) (HG.out _ HB) (aXq (b0:=w1.heap.size+1+1) (b1:=w1.heap.size+1+1+1) (by simp) (by simp <;> omega) (by simp <;> omega) (by go_simp) (by go_simp) (by go_simp) (by go_simp)) (aXr (by simp) (by go_simp) (by go_simp) (by go_simp)) (HT1.out _ HB)).mono ?_;rintro e w2 ⟨B1,j1,b,o,j2,B3,j3,rfl,hbl,q,hb2⟩;have HB2:=aA0 (HB.trans hb2);clear hb2 HB))
 have c2:(w2.alloc (.cells #[.slice B1 2 j1,.slice (some ⟨b,o,none⟩) 3 j2,.slice B3 2 j3,.int .i64 2,.int .i64 2,.int .i64 1,.int .i64 1,.int .u32 0] 38)).cell? ⟨b,o+2,none⟩=some (.int .u32 0):=(((Bel.refl w2).alloc _).cell hbl).trans q;have hbl2:b<(w2.alloc (.cells #[.slice B1 2 j1,.slice (some ⟨b,o,none⟩) 3 j2,.slice B3 2 j3,.int .i64 2,.int .i64 2,.int .i64 1,.int .i64 1,.int .u32 0] 38)).heap.size:=by simp;omega
 have z:=Blk.new w2 #[.slice B1 2 j1,.slice (some ⟨b,o,none⟩) 3 j2,.slice B3 2 j3,.int .i64 2,.int .i64 2,.int .i64 1,.int .i64 1,.int .u32 0] 38;have z0:=z.cell 0 (v := .slice B1 2 j1) rfl;have z1:=z.cell 1 (v := .slice (some ⟨b,o,none⟩) 3 j2) rfl;have z3:=z.cell 3 (v := .int .i64 2) rfl;have z4:=z.cell 4 (v := .int .i64 2) rfl;have z5:=z.cell 5 (v := .int .i64 1) rfl;have zl:=z.lt;have HE:=aA0 (HB1.out.trans (HB2.out.alloc (.cells #[.slice B1 2 j1,.slice (some ⟨b,o,none⟩) 3 j2,.slice B3 2 j3,.int .i64 2,.int .i64 2,.int .i64 1,.int .i64 1,.int .u32 0] 38)));clear z q hbl;generalize w2.alloc (.cells #[.slice B1 2 j1,.slice (some ⟨b,o,none⟩) 3 j2,.slice B3 2 j3,.int .i64 2,.int .i64 2,.int .i64 1,.int .i64 1,.int .u32 0] 38)=W at *
 go_wp2_with fail
 go_ret;exact ⟨rfl,HE.out⟩
end Go.Proofs.YtdcjnhoabbdanaaGreatDoor

