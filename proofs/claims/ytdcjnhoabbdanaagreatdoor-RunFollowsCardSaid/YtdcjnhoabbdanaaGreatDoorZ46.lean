/- Merged. -/
import Derived.Test.YtdcjnhoabbdanaaGreatDoorZ45
set_option linter.unusedSimpArgs false
set_option linter.unnecessarySimpa false
set_option linter.unusedVariables false
set_option maxRecDepth 100000
set_option maxHeartbeats 1500000
open Go.Proofs.Tryz

namespace Go.Proofs.YtdcjnhoabbdanaaGreatDoor
open Go.RowKit
theorem aC8.teZ {b:Int} {r:Option Trc} {w w':World} {e:Ending} (hb:b≠0) (h:aC8 b r w e w'):aSg zeroT b w e w':=by
 have q:=h.te;rw [show bA8 b r=zeroT by unfold bA8;rw [if_neg hb],show bA7 b r=b by unfold bA7;rw [if_neg hb]] at q
 exact q
theorem aEz.teZ {b:Int} {r:Option Trc} {w w':World} {e:Ending} (hb:b≠0) (h:aEz b r w e w'):aSg zeroT b w e w':=by
 have q:=h.te;rw [show bA8 b r=zeroT by unfold bA8;rw [if_neg hb],show bA7 b r=b by unfold bA7;rw [if_neg hb]] at q
 exact q
theorem aQ7 (v1:Value) (p:Prg) (v2:Value) (g:Graph) (v3:Value) (c:aA7) (kind:Int) (Al:Option Addr) (cl:Nat) (l:List Nat) (w:World) (h:aEm w v1 p) (h2:aAn w v2 g) (h3:aAy w v3 c) (hL:aAw p=true) (hG:aB3 g=true) (hC:aBl c=true) (hM:aAd w Al l.length l) (hl32:∀ y∈l,y<4294967296) (hb0:aJu p g kind c l.length≠0) :
  Calls prog 25 #[v1,v2,.int .i64 kind,v3,.slice Al l.length cl] w fun e w'=>e = .returned (.tuple #[.slice none 0 0,.slice none 0 0,.int .i64 (aJu p g kind c l.length)])/\Bel w w':=by
 have HMK:=aA0 (fun w' (k:Bel w w')=>aAd.keep hM k);have H32:=aA0 hl32;clear hM hl32;have HPV:=aA0 (fun w' (k:Bel w w')=>h.keep k);have HGV:=aA0 (fun w' (k:Bel w w')=>h2.keep k);have HCV:=aA0 (fun w' (k:Bel w w')=>h3.keep k);obtain ⟨A1,k1,A2,k2,rfl,_,_,_,_,_,_⟩:=h;obtain ⟨A3,k3,A4,k4,rfl,_,_,_,_,_,_⟩:=h2;obtain ⟨A5,k5,rfl,_,_,_⟩:=h3;have HW:=Bel.refl ((w.alloc (.cells #[.string p.name,.slice A1 p.vars.length k1,.slice A2 p.rules.length k2] 25)).alloc (.cells #[.slice A3 g.ids.length k3,.slice A4 g.ports.length k4] 29));have HL:=aA0 hL;have HGL:=aA0 hG;have HCL:=aA0 hC;clear hL hG hC;have HB0:=aA0 hb0;obtain ⟨bb,hbb⟩:∃ bb,aJu p g kind c l.length=bb:=⟨_,rfl⟩;have HBB:=aA0 hbb;rw [hbb] at HB0 ⊢;have hne:(bb != 0)=true:=by simpa using HB0.out
 clear hb0 hbb;go_enter func25,ntmps25
 go_upto_region 2 with (go_at_call 23;have hc:=(aE5 _ p _ g _ c kind Al cl l _ (HPV.out _ (aA1 HW)) (HGV.out _ (aA1 HW)) (HCV.out _ (aA1 HW)) HL.out HGL.out HCL.out (HMK.out _ (aA1 HW)) H32.out (fun h=>absurd (HBB.out.symm.trans h) HB0.out)).mono (fun _ _ q=>aC8.teZ HB0.out (HBB.out ▸ q));refine hc.mono ?_;clear hc;rintro e w2 ⟨aA,ak,aB,al,aC,am,rfl,aq1,aq2,aq3,aq4,aq5,aq6,aq7,hb⟩;replace HW:=HW.trans hb;clear hb;(try clear p0 p1 p2 g0 g1 gsz);obtain ⟨p0,p1,p2,g0,g1,gsz⟩:=aAi HW)
 have HXa:Hid (Blk (w2.alloc (.cells #[.slice aA zeroT.chosen.length ak,.slice aB zeroT.enabled.length al,.slice aC zeroT.last.length am,.int .i64 zeroT.count.steps,.int .i64 zeroT.count.moves,.int .i64 zeroT.count.rounds,.int .i64 zeroT.count.begun,.int .u32 (zeroT.count.pending:Int)] 38)) w2.heap.size #[.slice aA zeroT.chosen.length ak,.slice aB zeroT.enabled.length al,.slice aC zeroT.last.length am,.int .i64 zeroT.count.steps,.int .i64 zeroT.count.moves,.int .i64 zeroT.count.rounds,.int .i64 zeroT.count.begun,.int .u32 (zeroT.count.pending:Int)] 38):=Blk.new _ _ _;have HMa:Hid (∀ W,Bel (w2.alloc (.cells #[.slice aA zeroT.chosen.length ak,.slice aB zeroT.enabled.length al,.slice aC zeroT.last.length am,.int .i64 zeroT.count.steps,.int .i64 zeroT.count.moves,.int .i64 zeroT.count.rounds,.int .i64 zeroT.count.begun,.int .u32 (zeroT.count.pending:Int)] 38)) W->aAd W aA zeroT.chosen.length zeroT.chosen/\aAd W aB zeroT.enabled.length zeroT.enabled/\aAy W (.slice aC zeroT.last.length am) zeroT.last):=fun W k=>have k2:=((Bel.refl w2).alloc _).trans k;⟨aq1 W (Agr.of_belM k2),aq4 W (Agr.of_belM k2),aq7 W (Agr.of_belM k2)⟩;replace HW:=HW.alloc (.cells #[.slice aA zeroT.chosen.length ak,.slice aB zeroT.enabled.length al,.slice aC zeroT.last.length am,.int .i64 zeroT.count.steps,.int .i64 zeroT.count.moves,.int .i64 zeroT.count.rounds,.int .i64 zeroT.count.begun,.int .u32 (zeroT.count.pending:Int)] 38);clear aq1 aq4 aq7;generalize w2.alloc (.cells #[.slice aA zeroT.chosen.length ak,.slice aB zeroT.enabled.length al,.slice aC zeroT.last.length am,.int .i64 zeroT.count.steps,.int .i64 zeroT.count.moves,.int .i64 zeroT.count.rounds,.int .i64 zeroT.count.begun,.int .u32 (zeroT.count.pending:Int)] 38)=Wa at *;generalize w2.heap.size=ba at *;have hca:Hid (∀ w',Bel Wa w'->w'.cell? ⟨ba,0,none⟩=some (.slice aA zeroT.chosen.length ak)/\w'.cell? ⟨ba,1,none⟩=some (.slice aB zeroT.enabled.length al)/\w'.cell? ⟨ba,2,none⟩=some (.slice aC zeroT.last.length am)/\w'.cell? ⟨ba,3,none⟩=some (.int .i64 zeroT.count.steps)/\w'.cell? ⟨ba,4,none⟩=some (.int .i64 zeroT.count.moves)/\w'.cell? ⟨ba,5,none⟩=some (.int .i64 zeroT.count.rounds)/\w'.cell? ⟨ba,6,none⟩=some (.int .i64 zeroT.count.begun)/\w'.cell? ⟨ba,7,none⟩=some (.int .u32 (zeroT.count.pending:Int))/\ba<w'.heap.size):=fun w' k=>have q:=HXa.out.keep k;⟨q.cell 0 rfl,q.cell 1 rfl,q.cell 2 rfl,q.cell 3 rfl,q.cell 4 rfl,q.cell 5 rfl,q.cell 6 rfl,q.cell 7 rfl,q.lt⟩;have HVa:Hid (∀ w',Bel Wa w'->aB5 w' (.agg #[.slice aA zeroT.chosen.length ak,.slice aB zeroT.enabled.length al,.slice aC zeroT.last.length am,.int .i64 zeroT.count.steps,.int .i64 zeroT.count.moves,.int .i64 zeroT.count.rounds,.int .i64 zeroT.count.begun,.int .u32 (zeroT.count.pending:Int)]) zeroT):=fun w' k=>have q:=HMa.out w' k;⟨aA,ak,aB,al,aC,am,rfl,q.1,aq2,aq3,q.2.1,aq5,aq6,q.2.2⟩;have HBa:=Bel.refl Wa;obtain ⟨a0,a1,a2,a3,a4,a5,a6,a7,az⟩:=hca.out _ HBa
 (try clear p0 p1 p2 g0 g1 gsz)
 obtain ⟨p0,p1,p2,g0,g1,gsz⟩:=aAi HW
 go_wp2_with fail
 refine bodyPost_ret (v := .tuple #[.slice none 0 0,.slice none 0 0,.int .i64 bb]) (by simp [results,Tryz.results25,go_sem];try go_simp) rfl ?_
 exact ⟨rfl,aA1 HW⟩
end Go.Proofs.YtdcjnhoabbdanaaGreatDoor

