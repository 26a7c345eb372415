/- Merged. -/
import Derived.Test.YtmoebklkkjbigaaGreatDoorZ41
set_option linter.unusedSimpArgs false
set_option linter.unnecessarySimpa false
set_option linter.unusedVariables false
set_option maxRecDepth 100000
set_option maxHeartbeats 8000000
open Go.Proofs.Tryz

namespace Go.Proofs.YtmoebklkkjbigaaGreatDoor
open Go.RowKit Go.Maps
def awC:aA2:=[[0],[0]]
def awT:Trc:=⟨[1],[3,0],[[1],[0]],⟨1,1,1,1,0⟩⟩
theorem aU7:aCi prC=true/\aC7 (aJ9 2)=true/\aI4 awC=true:=by decide +kernel
theorem bPb:bKg prC (aJ9 2) 1 awC 2=0:=by decide +kernel
theorem bPc:aVp prC (aJ9 2) 1 (fun i E=>aCp (aJ9 2) 1 E (([3,3]:List Nat).getD i 0)) (fun _ E=>decide (E≠0)) 2 0 (aDm prC (aJ9 2) awC)=some awT:=by kernel_rfl
theorem bP9 {w:World} {b b0 b1:Nat} (hb:b<w.heap.size) (h0:b0<w.heap.size) (h1:b1<w.heap.size) (c0:w.cell? ⟨b,0,none⟩=some (.slice (some ⟨b0,0,none⟩) 1 1)) (c1:w.cell? ⟨b,1,none⟩=some (.slice (some ⟨b1,0,none⟩) 1 1)) (d0:w.cell? ⟨b0,0,none⟩=some (.int .i64 0)) (d1:w.cell? ⟨b1,0,none⟩=some (.int .i64 0)):aD7 w (.slice (some ⟨b,0,none⟩) 2 2) awC :=
 ⟨_,2,rfl,aAc.two hb ⟨_,1,c0,aAc.one h0 (by simpa [aJd] using d0),by decide,by decide⟩ ⟨_,1,c1,aAc.one h1 (by simpa [aJd] using d1),by decide,by decide⟩,by decide,by decide⟩
theorem bPa {w:World} {b:Nat} (hb:b<w.heap.size) (c0:w.cell? ⟨b,0,none⟩=some (.int .u32 3)) (c1:w.cell? ⟨b,1,none⟩=some (.int .u32 3)):aC5 w (some ⟨b,0,none⟩) ([3,3]:List Nat).length [3,3] :=
 ⟨rfl,fun i y hy=>by
  match i,hy with
  | 0, hy => obtain rfl : (3 : Nat) = y := by simpa using hy
             exact ⟨b,0,rfl,hb,by simpa [aL3] using c0⟩
  | 1, hy => obtain rfl : (3 : Nat) = y := by simpa using hy
             exact ⟨b,0,rfl,hb,by simpa [aL3] using c1⟩
  | i+2,hy=>simp at hy⟩
def RetAw (w:World) (e:Ending) (w':World):Prop:=∃ A1 k1 A2 k2 b o k3 b2 o2 k4,e = .returned (.tuple #[.agg #[.slice A1 1 k1,.slice A2 2 k2,.slice (some ⟨b,o,none⟩) 2 k3,.int .i64 1,.int .i64 1,.int .i64 1,.int .i64 1,.int .u32 0],.int .i64 0])/\b<w'.heap.size/\w'.cell? ⟨b,o,none⟩=some (.slice (some ⟨b2,o2,none⟩) 1 k4)/\b2<w'.heap.size/\w'.cell? ⟨b2,o2,none⟩=some (.int .i64 1)/\Bel w w'
theorem aWm (v1 v2 v3:Value) (b:Nat) (w:World) (h1:aKy w v1 prC) (h2:aB7 w v2 (aJ9 2)) (h3:aD7 w v3 awC) (hM:aC5 w (some ⟨b,0,none⟩) ([3,3]:List Nat).length [3,3]) (hT:aDr w) :
  Calls prog 25 #[v1,v2,.int .i64 1,v3,.slice (some ⟨b,0,none⟩) 2 2] w (RetAw w):=by
 refine (aVr v1 prC v2 (aJ9 2) v3 awC 1 (some ⟨b,0,none⟩) 2 [3,3] w h1 h2 h3 aU7.1 aU7.2.1 aU7.2.2 hM hT (by decide) (by decide)).mono ?_
 rintro e w' ⟨vt,rfl,hV,hb⟩;have e1:bKg prC (aJ9 2) 1 awC (([3,3]:List Nat).length:Int)=0:=bPb
 have e2:bM6 (aVp prC (aJ9 2) 1 (fun i E=>aCp (aJ9 2) 1 E (([3,3]:List Nat).getD i 0)) (fun _ E=>decide (E≠0)) ([3,3]:List Nat).length 0 (aDm prC (aJ9 2) awC))=(awT,0):=by
  have:([3,3]:List Nat).length=2:=rfl;rw [this,bPc];rfl
 rw [if_pos e1,e2] at hV ⊢;obtain ⟨A1,k1,A2,k2,A3,k3,rfl,_,_,_,_,_,_,A,k,he,hr,_,_⟩:=(show aL4 w' vt awT from hV.here)
 injection he with he1 _ he2
 subst he1;subst he2;obtain ⟨b',o',R,rc,rfl,hb',hc,hR,_,_⟩:=aQ9.at_ hr 0 (by decide)
 obtain ⟨b2,o2,rfl,hb2,hc2⟩:=aAc.at_ hR 0 (by decide)
 exact ⟨A1,k1,A2,k2,b',o',k3,b2,o2,rc,rfl,hb',hc,hb2,hc2,hb⟩
theorem aC8 (w:World) (hT:aDr w) :
  Calls prog 8 #[] w fun e w'=>e = .returned (.bool true)/\Bel w w':=by
 have HT:=aA0 (fun w' (k:Bel w w')=>hT.keep k);clear hT;have HPA:=aA0 (fun w0:World=>aRl (ba txC) tkC prC w0 aK4.1 bPz bPt aK4.2.1 aK4.2.2.1 aK4.2.2.2.1 aK4.2.2.2.2);go_enter func8,ntmps8
 go_upto_region 4 with (first
  | (go_at_call 9;go_must (refine (HPA.out _).mono ?_;rintro e w1 ⟨⟨vp,rfl,hp⟩,hb⟩;have HP:=aA0 (fun w' (k:Bel w1 w')=>hp.keep k);have HT1:=aA0 (fun w' (k:Bel w1 w')=>HT.out _ (hb.trans k));have HB1:=aA0 hb;obtain ⟨A1,k1,A2,k2,rfl,_,_,_,_,_,_⟩:=hp;clear hb))
  | (go_at_call 24;go_must (refine (bMe 2 (by decide) (by decide) _).mono ?_;rintro e w2 ⟨vg,rfl,hg,hb⟩;have HG:=aA0 (fun w' (k:Bel w2 w')=>hg.keep k);have HB2:=aA0 (((Bel.refl w1).alloc (.cells #[.string prC.name,.slice A1 prC.vars.length k1,.slice A2 prC.rules.length k2] 31)).trans hb);have X1:=(Blk.new w1 #[.string prC.name,.slice A1 prC.vars.length k1,.slice A2 prC.rules.length k2] 31).keep hb;have x0:=X1.cell 0 (v := .string prC.name) rfl;have x1:=X1.cell 1 (v := .slice A1 prC.vars.length k1) rfl;have x2:=X1.cell 2 (v := .slice A2 prC.rules.length k2) rfl;have xl:=X1.lt;obtain ⟨A3,k3,A4,k4,rfl,_,_,_,_,_,_⟩:=hg;clear hb X1))
  | (go_at_call 25;go_must (have HB:Bel w2 (((((w2.alloc (.cells #[.slice A3 (aJ9 2).ids.length k3,.slice A4 (aJ9 2).ports.length k4] 25)).alloc (.cells #[.int .i64 0] 3)).alloc (.cells #[.int .i64 0] 3)).alloc (.cells #[.slice (some ⟨w2.heap.size+1,0,none⟩) 1 1,.slice (some ⟨w2.heap.size+1+1,0,none⟩) 1 1] 22)).alloc (.cells #[.int .u32 3,.int .u32 3] 46)):=(by repeat' (first | exact Bel.refl _ | refine Bel.alloc ?_ _));refine (aWm _ _ _ (w2.heap.size+1+1+1+1) _ (HP.out _ (HB2.out.trans HB)) (HG.out _ HB) (bP9 (b0:=w2.heap.size+1) (b1:=w2.heap.size+1+1) (by simp) (by simp <;> omega) (by simp <;> omega) (by go_simp) (by go_simp) (by go_simp) (by go_simp)) (bPa (by simp) (by go_simp) (by go_simp)) (HT1.out _ (HB2.out.trans HB))).mono ?_;rintro e w3 ⟨B1,j1,B2,j2,b,o,j3,b2,o2,j4,rfl,hbl,q,hbl2,q2,hb2⟩;have HB3:=aA0 (HB.trans hb2);clear hb2 HB)))
 have hA:=aA0 ((Bel.refl w3).alloc (.cells #[.slice B1 1 j1,.slice B2 2 j2,.slice (some ⟨b,o,none⟩) 2 j3,.int .i64 1,.int .i64 1,.int .i64 1,.int .i64 1,.int .u32 0] 70));have c1:=(hA.out.cell hbl).trans q;have c2:=(hA.out.cell hbl2).trans q2;have l1:=Nat.lt_of_lt_of_le hbl hA.out.size;have l2:=Nat.lt_of_lt_of_le hbl2 hA.out.size;have z:=Blk.new w3 #[.slice B1 1 j1,.slice B2 2 j2,.slice (some ⟨b,o,none⟩) 2 j3,.int .i64 1,.int .i64 1,.int .i64 1,.int .i64 1,.int .u32 0] 70;have z0:=z.cell 0 (v := .slice B1 1 j1) rfl;have z2:=z.cell 2 (v := .slice (some ⟨b,o,none⟩) 2 j3) rfl;have z5:=z.cell 5 (v := .int .i64 1) rfl;have zl:=z.lt;have HE:=aA0 (HB1.out.trans (HB2.out.trans (HB3.out.trans hA.out)));clear z q q2 hbl hbl2 x0 x1 x2 xl hA;generalize w3.alloc (.cells #[.slice B1 1 j1,.slice B2 2 j2,.slice (some ⟨b,o,none⟩) 2 j3,.int .i64 1,.int .i64 1,.int .i64 1,.int .i64 1,.int .u32 0] 70)=W at *
 go_wp2_with fail
 go_ret;exact ⟨rfl,HE.out⟩
end Go.Proofs.YtmoebklkkjbigaaGreatDoor

