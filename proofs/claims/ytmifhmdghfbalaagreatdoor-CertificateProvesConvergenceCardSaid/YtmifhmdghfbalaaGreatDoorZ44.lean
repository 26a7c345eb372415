/- Merged. -/
import Derived.Test.YtmifhmdghfbalaaGreatDoorZ43
set_option linter.unusedSimpArgs false
set_option linter.unnecessarySimpa false
set_option linter.unusedVariables false
set_option maxRecDepth 100000
set_option maxHeartbeats 8000000
open Go.Proofs.Tryz

namespace Go.Proofs.YtmifhmdghfbalaaGreatDoor
open Go.RowKit
def exLeg:List Bool:=[true,false,false,false]
def exYes:List Term:=[⟨43,0⟩,⟨5,0⟩,⟨1,1⟩,⟨1,0⟩]
def bMe:List Term:=[⟨6,0⟩]
theorem bD2:aC9 exP exG 3 exLeg [exYes]=(-1,0):=by decide +kernel
theorem bD1:aP1 exP exG 3 exLeg exYes=(2,0):=by decide +kernel
theorem bD3:aC9 exP exG 3 exLeg [bMe]=(3,15):=by decide +kernel
theorem aOb:aAt exP=true/\aB3 exG=true:=by decide +kernel
theorem aV0:(aAs exP exG).2=0->aC7 exP exG<=200/\exG.ports.length<=5:=by decide +kernel
theorem bIs {w:World} {b:Nat} (hb:b<w.heap.size) (c0:w.cell? ⟨b,0,none⟩=some (.bool true)) (c1:w.cell? ⟨b,1,none⟩=some (.bool false)) (c2:w.cell? ⟨b,2,none⟩=some (.bool false)) (c3:w.cell? ⟨b,3,none⟩=some (.bool false)):aDa w (some ⟨b,0,none⟩) 4 exLeg :=
 ⟨rfl,fun i y hy=>by
  match i,hy with
  | 0, hy => obtain rfl : true = y := by simpa [exLeg] using hy
             exact ⟨b,0,rfl,hb,by simpa [aKf] using c0⟩
  | 1, hy => obtain rfl : false = y := by simpa [exLeg] using hy
             exact ⟨b,0,rfl,hb,by simpa [aKf] using c1⟩
  | 2, hy => obtain rfl : false = y := by simpa [exLeg] using hy
             exact ⟨b,0,rfl,hb,by simpa [aKf] using c2⟩
  | 3, hy => obtain rfl : false = y := by simpa [exLeg] using hy
             exact ⟨b,0,rfl,hb,by simpa [aKf] using c3⟩
  | i+4,hy=>simp [exLeg] at hy⟩
theorem bIt {w:World} {b:Nat} (hb:b<w.heap.size) (c0:w.cell? ⟨b,0,none⟩=some (.int .i64 43)) (c1:w.cell? ⟨b,1,none⟩=some (.int .i64 0)) (c2:w.cell? ⟨b,2,none⟩=some (.int .i64 5)) (c3:w.cell? ⟨b,3,none⟩=some (.int .i64 0)) (c4:w.cell? ⟨b,4,none⟩=some (.int .i64 1)) (c5:w.cell? ⟨b,5,none⟩=some (.int .i64 1)) (c6:w.cell? ⟨b,6,none⟩=some (.int .i64 1)) (c7:w.cell? ⟨b,7,none⟩=some (.int .i64 0)):aAr w (some ⟨b,0,none⟩) 4 exYes :=
 ⟨rfl,fun i y hy=>by
  match i,hy with
  | 0, hy => obtain rfl : (⟨43, 0⟩ : Term) = y := by simpa [exYes] using hy
             exact ⟨b,0,rfl,hb,by simpa using c0,by simpa using c1⟩
  | 1, hy => obtain rfl : (⟨5, 0⟩ : Term) = y := by simpa [exYes] using hy
             exact ⟨b,0,rfl,hb,by simpa using c2,by simpa using c3⟩
  | 2, hy => obtain rfl : (⟨1, 1⟩ : Term) = y := by simpa [exYes] using hy
             exact ⟨b,0,rfl,hb,by simpa using c4,by simpa using c5⟩
  | 3, hy => obtain rfl : (⟨1, 0⟩ : Term) = y := by simpa [exYes] using hy
             exact ⟨b,0,rfl,hb,by simpa using c6,by simpa using c7⟩
  | i+4,hy=>simp [exYes] at hy⟩
theorem bBq {w:World} {b c:Nat} {A:Option Addr} {es:List Term} (hb:b<w.heap.size) (c0:w.cell? ⟨b,0,none⟩=some (.slice A es.length c)) (hT:aAr w A es.length es) (h1:es.length<=c) (h2:c<=maxLen):aAu w (some ⟨b,0,none⟩) [es].length [es]:=aAh.one hb ⟨A,c,c0,hT,h1,h2⟩
theorem aAk (w:World) (hT:aG1 w):Calls prog 37 #[] w fun e w'=>e = .returned (.bool true)/\Bel w w':=by
 have HT:=aA1 (fun w' (k:Bel w w')=>hT.keep k);clear hT;go_enter func37,ntmps37
 go_upto_region 5 with (first
  | (go_at_call 81;refine (aV1 _).mono ?_;rintro e w1 ⟨vp,vg,rfl,hp,hg,hb1w⟩;have HP:=aA1 (fun w' (k:Bel w1 w')=>hp.keep k);have HG:=aA1 (fun w' (k:Bel w1 w')=>hg.keep k);obtain ⟨A1,k1,A2,k2,rfl,_,_,_,_,_,_⟩:=hp;obtain ⟨A3,k3,A4,k4,rfl,_,_,_,_,_,_⟩:=hg;have HB1:=aA1 hb1w;have HBC:=Bel.refl ((((w1.alloc (.cells #[.string exP.name,.slice A1 exP.vars.length k1,.slice A2 exP.rules.length k2] 25)).alloc (.cells #[.slice A3 exG.ids.length k3,.slice A4 exG.ports.length k4] 29)).alloc (.cells #[.bool true,.bool false,.bool false,.bool false] 4)).alloc (.cells #[.int .i64 43,.int .i64 0,.int .i64 5,.int .i64 0,.int .i64 1,.int .i64 1,.int .i64 1,.int .i64 0] 115));have HBA:Hid (Bel ((w1.alloc (.cells #[.string exP.name,.slice A1 exP.vars.length k1,.slice A2 exP.rules.length k2] 25)).alloc (.cells #[.slice A3 exG.ids.length k3,.slice A4 exG.ports.length k4] 29)) ((((w1.alloc (.cells #[.string exP.name,.slice A1 exP.vars.length k1,.slice A2 exP.rules.length k2] 25)).alloc (.cells #[.slice A3 exG.ids.length k3,.slice A4 exG.ports.length k4] 29)).alloc (.cells #[.bool true,.bool false,.bool false,.bool false] 4)).alloc (.cells #[.int .i64 43,.int .i64 0,.int .i64 5,.int .i64 0,.int .i64 1,.int .i64 1,.int .i64 1,.int .i64 0] 115))):=((Bel.refl ((w1.alloc (.cells #[.string exP.name,.slice A1 exP.vars.length k1,.slice A2 exP.rules.length k2] 25)).alloc (.cells #[.slice A3 exG.ids.length k3,.slice A4 exG.ports.length k4] 29))).alloc _).alloc _;have HLB:Hid (∀ w',Bel ((((w1.alloc (.cells #[.string exP.name,.slice A1 exP.vars.length k1,.slice A2 exP.rules.length k2] 25)).alloc (.cells #[.slice A3 exG.ids.length k3,.slice A4 exG.ports.length k4] 29)).alloc (.cells #[.bool true,.bool false,.bool false,.bool false] 4)).alloc (.cells #[.int .i64 43,.int .i64 0,.int .i64 5,.int .i64 0,.int .i64 1,.int .i64 1,.int .i64 1,.int .i64 0] 115)) w'->aDa w' (some ⟨w1.heap.size+1+1,0,none⟩) exLeg.length exLeg):=(fun w' kk=>aDa.keep (bIs (w:=(((w1.alloc (.cells #[.string exP.name,.slice A1 exP.vars.length k1,.slice A2 exP.rules.length k2] 25)).alloc (.cells #[.slice A3 exG.ids.length k3,.slice A4 exG.ports.length k4] 29)).alloc (.cells #[.bool true,.bool false,.bool false,.bool false] 4)).alloc (.cells #[.int .i64 43,.int .i64 0,.int .i64 5,.int .i64 0,.int .i64 1,.int .i64 1,.int .i64 1,.int .i64 0] 115)) (by simp <;> omega) (by go_simp) (by go_simp) (by go_simp) (by go_simp)) kk);have HYB:Hid (∀ w',Bel ((((w1.alloc (.cells #[.string exP.name,.slice A1 exP.vars.length k1,.slice A2 exP.rules.length k2] 25)).alloc (.cells #[.slice A3 exG.ids.length k3,.slice A4 exG.ports.length k4] 29)).alloc (.cells #[.bool true,.bool false,.bool false,.bool false] 4)).alloc (.cells #[.int .i64 43,.int .i64 0,.int .i64 5,.int .i64 0,.int .i64 1,.int .i64 1,.int .i64 1,.int .i64 0] 115)) w'->aAr w' (some ⟨w1.heap.size+1+1+1,0,none⟩) exYes.length exYes):=(fun w' kk=>aAr.keep (bIt (w:=(((w1.alloc (.cells #[.string exP.name,.slice A1 exP.vars.length k1,.slice A2 exP.rules.length k2] 25)).alloc (.cells #[.slice A3 exG.ids.length k3,.slice A4 exG.ports.length k4] 29)).alloc (.cells #[.bool true,.bool false,.bool false,.bool false] 4)).alloc (.cells #[.int .i64 43,.int .i64 0,.int .i64 5,.int .i64 0,.int .i64 1,.int .i64 1,.int .i64 1,.int .i64 0] 115)) (by simp <;> omega) (by go_simp) (by go_simp) (by go_simp) (by go_simp) (by go_simp) (by go_simp) (by go_simp) (by go_simp)) kk);clear hb1w)
  | (go_at_call 38;go_must (have hb0:=HBC.alloc (.cells #[.slice (some ⟨w1.heap.size+1+1+1,0,none⟩) 4 4] 64);have hbw:Bel w1 _:=aA0 (HBA.out.trans hb0);refine (aBo _ exP _ exG 3 (some ⟨w1.heap.size+1+1,0,none⟩) 4 exLeg (some ⟨w1.heap.size+1+1+1+1,0,none⟩) 1 [exYes] _ (HP.out _ hbw) (HG.out _ hbw) (HT.out _ (HB1.out.trans hbw)) (HLB.out _ hb0) (bBq (c:=4) (A:=some ⟨w1.heap.size+1+1+1,0,none⟩) (by simp) (by show World.cell? _ _=some (.slice _ 4 4);go_simp) (HYB.out _ hb0) (by decide) (by decide)) aOb.1 aOb.2 (by decide) (by decide) (by decide) aV0).mono ?_;rintro e w2 ⟨rfl,hb⟩;rw [bD2];replace HBC:=hb0.trans hb;clear hb hb0 hbw;obtain ⟨p0,p1,p2,g0,g1,gsz⟩:=aA6 (HBA.out.trans HBC))))
 go_upto_region 6 with ((go_at_call 40;go_must (have hbw:Bel w1 _:=aA0 (HBA.out.trans HBC);refine (aIj _ exP _ exG 3 (some ⟨w1.heap.size+1+1,0,none⟩) 4 exLeg (some ⟨w1.heap.size+1+1+1,0,none⟩) 4 exYes _ (HP.out _ hbw) (HG.out _ hbw) (HT.out _ (HB1.out.trans hbw)) (HLB.out _ HBC) (HYB.out _ HBC) (by decide) (by decide) aOb.1 aOb.2 (by decide) (by decide) aV0).mono ?_;rintro e w3 ⟨rfl,hb⟩;rw [bD1];replace HBC:=HBC.trans hb;clear hb hbw p0 p1 p2 g0 g1 gsz;obtain ⟨p0,p1,p2,g0,g1,gsz⟩:=aA6 (HBA.out.trans HBC))))
 go_wp2_with (go_at_call 38;go_must (have hb0:=(HBC.alloc (.cells #[.int .i64 6,.int .i64 0] 115)).alloc (.cells #[.slice (some ⟨w3.heap.size,0,none⟩) 1 1] 64);have hbw:Bel w1 _:=aA0 (HBA.out.trans hb0);refine (aBo _ exP _ exG 3 (some ⟨w1.heap.size+1+1,0,none⟩) 4 exLeg (some ⟨w3.heap.size+1,0,none⟩) 1 [bMe] _ (HP.out _ hbw) (HG.out _ hbw) (HT.out _ (HB1.out.trans hbw)) (HLB.out _ hb0) (bBq (c:=1) (A:=some ⟨w3.heap.size,0,none⟩) (by simp) (by show World.cell? _ _=some (.slice _ 1 1);go_simp) (aAh.one (by simp <;> omega) ⟨by go_simp,by go_simp⟩) (by decide) (by decide)) aOb.1 aOb.2 (by decide) (by decide) (by decide) aV0).mono ?_;rintro e w4 ⟨rfl,hb⟩;rw [bD3];replace HBC:=hb0.trans hb;clear hb hb0 hbw))
 go_ret;exact ⟨rfl,HB1.out.trans (aA0 (HBA.out.trans HBC))⟩
end Go.Proofs.YtmifhmdghfbalaaGreatDoor

