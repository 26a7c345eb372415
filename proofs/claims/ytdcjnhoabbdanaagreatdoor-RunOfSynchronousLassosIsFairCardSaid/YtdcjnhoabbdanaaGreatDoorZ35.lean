/- Merged. -/
import Derived.Test.YtdcjnhoabbdanaaGreatDoorZ32
import Derived.Test.YtdcjnhoabbdanaaGreatDoorZ31
set_option linter.unusedSimpArgs false
set_option linter.unnecessarySimpa false
set_option linter.unusedVariables false
set_option maxRecDepth 100000
set_option maxHeartbeats 8000000
open Go.Proofs.Tryz

namespace Go.Proofs.YtdcjnhoabbdanaaGreatDoor
open Go.RowKit
theorem AppC.hsNew {w:World} {base cap:Nat} {B:Option Addr} {d:aA6} {hs:List Value} (h:AppC w base B cap d hs):aH1 base w hs:=fun v hv b o n c e=>by
 obtain ⟨u,hu,rfl⟩:=List.getElem_of_mem hv;have hl:=h.own.1;have hud:u<d.length:=by omega
 obtain ⟨R,c',h1,h2,_⟩:=h.rows u hud;rw [List.getElem?_eq_getElem hu] at h1;rw [Option.some.inj h1] at e;injection e with e
 exact h2.2.2.2 b o e
theorem aLy (v:Value) (c:aA6) (w:World) (h:aAw w v c) (hL:aBs c=true) (hpos:0<c.length) :
  Calls prog 66 #[v] w (aT7 c w):=by
 obtain ⟨A,k,rfl,hR,_,_⟩:=h;have HR:=aA0 (fun w' (kk:Bel w w')=>hR.keep kk);obtain ⟨l1,l2⟩:=aBb hL;have HL2:=aA0 l2;clear hR l2 hL;obtain ⟨i0,hi0,hz0,hz1,hz2⟩:=info_parts aPo;obtain ⟨j0,hj0,hy0,hy1,hy2⟩:=info_parts aKa;have HW:=Bel.refl w;go_enter func66,ntmps66;go_wp2
 go_loopg [3,4] c.length (fun m x z wr=>∃ (v:Nat) (B:Option Addr) (cb:Nat) (hs:List Value),v<=c.length/\m=c.length-v/\x = .slice B v cb/\z = .int .i64 v/\Hid (AppC wr w.heap.size B cb (c.take v) hs)/\Bel w wr)
 case atStart=>exact ⟨0,none,0,[],by omega,rfl,rfl,rfl,AppC.nil _ _,HW⟩
 case round =>
  clear HW;obtain ⟨v,B,cb,hs,hv,rfl,rfl,rfl,HO,HW⟩:=hrel
  by_cases hlt:v<c.length
  .have hd0:decide (v<c.length)=true:=by simpa using hlt
   obtain ⟨b,o,R,rc,rfl,hbl,hcell,hI,_,_⟩:=(HR.out _ HW).at_ v hlt;have hle:=HL2.out _ (List.getElem_mem hlt);have HI:=aA0 hI;have HT:Hid ((c.take v).length=v):=by show _=_;rw [List.length_take];omega
   clear hI
   go_wp2_with (first
    | (at_builtin;refine aB4 _ rfl (.const (.slice none 0 0)) (.tmp 15) 26 rfl wr.heap.size 3 j0 (.int .i64 0) 1 8 underlying26 hj0 hy0 hy1 hy2 rfl (by decide) none 0 0 [] rfl (World.ownsRow_nil _ _ _ _) R c[v].length rc (c[v].map (Value.int .i64)) rfl HI.out.cells (aFf _) (by unfold maxLen;omega) (by omega) (Nat.le_refl _) ?_;intro A3 c3 w3 hown3 hgr3 _;rw [List.nil_append,Nat.zero_add] at hown3;have hb3:=(Bel.refl wr).grown hgr3 (fun k hk=>by cases hk);obtain ⟨_,hN⟩:=aKm hown3;have HN:=aA0 hN;have HO3:=aA0 (HO.out.keep hb3);have HOV:=aA0 (bBp HO3.out.own HT.out);have hszr:=HW.size;have hoffA:∀ g o,B=some ⟨g,o,none⟩->Off g A3:=(fun g o e=>HN.out.off (by have:=HO.out.own;subst e;exact (bCf this)));replace HW:=HW.trans hb3;clear hown3 hgr3 hb3 hN)
    | (at_builtin;refine aEu _ rfl (.tmp 11) (.tmp 17) 30 rfl w.heap.size 26 i0 (.slice none 0 0) 1 24 underlying30 hi0 hz0 hz1 hz2 rfl (by decide) B v cb hs rfl (HOV.out.alloc _) w3.heap.size #[.slice A3 c[v].length c3] 26 (0,0) rfl (aFe _ _) rfl (aYd _ _ _) (by unfold maxLen;omega) (by omega) (by have:=HW.size;simp;omega) ?_;intro B4 c4 w4 hown4 hgr4 hat4;have HP:=aA0 (HO3.out.push HT.out (HN.out.lower hszr) hoffA hown4 hgr4 hat4);replace HW:=(HW.alloc _).push (HOV.out.alloc _) hgr4;clear hown4 hgr4 hat4))
   go_roundg (c.length-(v+1))
   case rel =>
    refine ⟨v+1,B4,c4,hs++[.slice A3 c[v].length c3],by omega,rfl,rfl,by go_num,?_,HW⟩
    show AppC _ _ _ _ _ _
    rw [List.take_succ_eq_append_getElem hlt];exact HP.out
   case measure=>omega
  .have hd0:decide (v<c.length)=false:=by simpa using hlt
   obtain rfl:v=c.length:=by omega
   go_wp2_with fail
   go_ret;have hO:=HO.out;rw [List.take_of_length_le (Nat.le_refl _)] at hO;obtain ⟨gb,rfl⟩:=hO.form hpos;exact ⟨gb,_,hs,rfl,hO.ownC,hO.hsNew,HW⟩
theorem aOv (E:Nat) (w:World) (hE:E<16777216) :
  Calls prog 67 #[.int .u32 (E:Int)] w fun e w'=>e = .returned (aIr (aHl E))/\Bel w w':=by
 have hb:=aUm hE;have HW:Hid (Bel w (w.alloc (.cells #[.int .i64 0,.int .i64 0,.int .i64 0,.int .i64 0,.int .u32 0] 36))):=(Bel.refl w).alloc _;have HZ:Hid (Blk (w.alloc (.cells #[.int .i64 0,.int .i64 0,.int .i64 0,.int .i64 0,.int .u32 0] 36)) w.heap.size #[.int .i64 0,.int .i64 0,.int .i64 0,.int .i64 0,.int .u32 0] 36):=Blk.new _ _ _;go_enter func67,ntmps67
 go_wp2_with (go_at_call 73;refine (aFl 24 _ (by decide)).mono ?_;rintro e w2 ⟨rfl,rfl⟩;rw [bBb])
 have HB:Hid (∀ cs,Bel w (w.alloc (.cells cs 36))):=fun cs=>(Bel.refl w).alloc _;refine bodyPost_ret (v:=aIr (aHl E)) (by simp [results,Tryz.results67,go_sem];try go_simp;try rfl) rfl ?_
 exact ⟨rfl,HB.out _⟩
theorem aSh (v1:Value) (p:Prg) (v2:Value) (g:Graph) (v3:Value) (c:aA6) (w:World) (h:aEi w v1 p) (h2:aAn w v2 g) (h3:aAw w v3 c) (hL:aAu p=true) (hG:aB3 g=true) (hC:aBs c=true) (hm:aD1 p g c=0) :
  Calls prog 40 #[v1,v2,v3] w fun e w'=>∃ vt,e = .returned vt/\(∀ W,aAx w.heap.size w' W->aBn W vt (aAe p g c))/\Bel w w':=by
 have HM:=aA0 hm;have HS:Hid (aAe p g c=⟨[],[aAk p g c],c,aHl (aAk p g c)⟩):=rfl;have hE24:=aFs hm;have HEN:=aA0 (aN7 hm);have hpos:=aRu hm;clear hm;have HPV:=aA0 (fun w' (k:Bel w w')=>h.keep k);have HGV:=aA0 (fun w' (k:Bel w w')=>h2.keep k);have HCV:=aA0 (fun w' (k:Bel w w')=>h3.keep k);obtain ⟨A1,k1,A2,k2,rfl,_,_,_,_,_,_⟩:=h;obtain ⟨A3,k3,A4,k4,rfl,_,_,_,_,_,_⟩:=h2;obtain ⟨A5,k5,rfl,_,_,_⟩:=h3;have HW:=Bel.refl ((w.alloc (.cells #[.string p.name,.slice A1 p.vars.length k1,.slice A2 p.rules.length k2] 25)).alloc (.cells #[.slice A3 g.ids.length k3,.slice A4 g.ports.length k4] 29));have HL:=aA0 hL;have HGL:=aA0 hG;have HCL:=aA0 hC;clear hL hG hC
 have HZ:Hid (Blk (((w.alloc (.cells #[.string p.name,.slice A1 p.vars.length k1,.slice A2 p.rules.length k2] 25)).alloc (.cells #[.slice A3 g.ids.length k3,.slice A4 g.ports.length k4] 29)).alloc (.cells #[.slice none 0 0,.slice none 0 0,.slice none 0 0,.int .i64 0,.int .i64 0,.int .i64 0,.int .i64 0,.int .u32 0] 38)) (w.heap.size+1+1) #[.slice none 0 0,.slice none 0 0,.slice none 0 0,.int .i64 0,.int .i64 0,.int .i64 0,.int .i64 0,.int .u32 0] 38):=by
  have:=Blk.new ((w.alloc (.cells #[.string p.name,.slice A1 p.vars.length k1,.slice A2 p.rules.length k2] 25)).alloc (.cells #[.slice A3 g.ids.length k3,.slice A4 g.ports.length k4] 29)) #[.slice none 0 0,.slice none 0 0,.slice none 0 0,.int .i64 0,.int .i64 0,.int .i64 0,.int .i64 0,.int .u32 0] 38;rw [World.size_alloc,World.size_alloc] at this;exact this
 replace HW:=HW.alloc (.cells #[.slice none 0 0,.slice none 0 0,.slice none 0 0,.int .i64 0,.int .i64 0,.int .i64 0,.int .i64 0,.int .u32 0] 38);generalize aAk p g c=E at *;go_enter func40,ntmps40
 go_wp2_with (first
  | (go_at_call 65;refine (aJc _ p _ g _ c _ (HPV.out _ (aA1 HW)) (HGV.out _ (aA1 HW)) (HCV.out _ (aA1 HW)) HL.out HGL.out HCL.out).mono ?_;rintro e w2 ⟨rfl,hb⟩;rw [HEN.out];replace HZ:=aA0 (HZ.out.keep hb);have HZ2:Hid (w.heap.size+1+1<w2.heap.size):=HZ.out.lt;replace HW:=HW.trans hb;clear hb;(try clear p0 p1 p2 g0 g1 gsz);obtain ⟨p0,p1,p2,g0,g1,gsz⟩:=aAd HW)
  | (go_at_call 66;have hb2:Bel w2 (w2.alloc (.cells #[.int .u32 (E:Int)] 34)):=(Bel.refl w2).alloc _;replace HZ:=aA0 (HZ.out.keep hb2);have HZ0:Hid (w.heap.size+1+1+1<=(w2.alloc (.cells #[.int .u32 (E:Int)] 34)).heap.size):=HZ.out.lt;replace HW:=HW.trans hb2;refine (aLy _ c _ (HCV.out _ (aA1 HW)) HCL.out hpos).mono ?_;rintro e w3 ⟨gc,cap,hs,rfl,hO,hn,hb⟩;have HMI:=aA0 (aAa.keep (w:=w2.alloc (.cells #[.int .u32 (E:Int)] 34)) (A:=some ⟨w2.heap.size,0,none⟩) (n:=1) (xs:=[E]) (aAi.one (by simp) (by show World.cell? _ _=_;go_simp)) hb);have HCN:=aA0 (fun W (k:aAx (w.heap.size+1+1+1) w3 W)=>hO.newC hn (k.up HZ0.out));replace HZ:=aA0 (HZ.out.keep hb);clear hO hn hb2;replace HW:=HW.trans hb;clear hb;(try clear p0 p1 p2 g0 g1 gsz);obtain ⟨p0,p1,p2,g0,g1,gsz⟩:=aAd HW)
  | (go_at_call 67;refine (aOv E _ hE24).mono ?_;rintro e w4 ⟨rfl,hb⟩;rw [show aIr (aHl E) = .agg #[.int .i64 0,.int .i64 0,.int .i64 0,.int .i64 0,.int .u32 (E:Int)] from rfl];replace HZ:=aA0 (HZ.out.keep hb);replace HMI:=aA0 (aAa.keep HMI.out hb);replace HCN:=aA0 (fun W (k:aAx (w.heap.size+1+1+1) w4 W)=>HCN.out W (k.back hb));replace HW:=HW.trans hb;clear hb;(try clear p0 p1 p2 g0 g1 gsz);obtain ⟨p0,p1,p2,g0,g1,gsz⟩:=aAd HW;have z0:=HZ.out.cell 0 (v := .slice none 0 0) rfl;have f0:=HZ.out.frozen 0;have z1:=HZ.out.cell 1 (v := .slice none 0 0) rfl;have f1:=HZ.out.frozen 1;have z2:=HZ.out.cell 2 (v := .slice none 0 0) rfl;have f2:=HZ.out.frozen 2;have z3:=HZ.out.cell 3 (v := .int .i64 0) rfl;have f3:=HZ.out.frozen 3;have z4:=HZ.out.cell 4 (v := .int .i64 0) rfl;have f4:=HZ.out.frozen 4;have z5:=HZ.out.cell 5 (v := .int .i64 0) rfl;have f5:=HZ.out.frozen 5;have z6:=HZ.out.cell 6 (v := .int .i64 0) rfl;have f6:=HZ.out.frozen 6;have z7:=HZ.out.cell 7 (v := .int .u32 0) rfl;have f7:=HZ.out.frozen 7;have zl:=HZ.out.lt))
 have HR9:Blk ((((((((w4.setCell ⟨w.heap.size+1+1,0,none⟩ (.slice none 0 0)).setCell ⟨w.heap.size+1+1,1,none⟩ (.slice (some ⟨w2.heap.size,0,none⟩) 1 1)).setCell ⟨w.heap.size+1+1,2,none⟩ (.slice (some ⟨gc,0,none⟩) c.length cap)).setCell ⟨w.heap.size+1+1,3,none⟩ (.int .i64 0)).setCell ⟨w.heap.size+1+1,4,none⟩ (.int .i64 0)).setCell ⟨w.heap.size+1+1,5,none⟩ (.int .i64 0)).setCell ⟨w.heap.size+1+1,6,none⟩ (.int .i64 0)).setCell ⟨w.heap.size+1+1,7,none⟩ (.int .u32 (E:Int))) (w.heap.size+1+1) #[.slice none 0 0,.slice (some ⟨w2.heap.size,0,none⟩) 1 1,.slice (some ⟨gc,0,none⟩) c.length cap,.int .i64 0,.int .i64 0,.int .i64 0,.int .i64 0,.int .u32 (E:Int)] 38:=((((((((HZ.out.set 0 _).set 1 _).set 2 _).set 3 _).set 4 _).set 5 _).set 6 _).set 7 _);have y0:=HR9.cell 0 (v := .slice none 0 0) rfl;have y1:=HR9.cell 1 (v := .slice (some ⟨w2.heap.size,0,none⟩) 1 1) rfl;have y2:=HR9.cell 2 (v := .slice (some ⟨gc,0,none⟩) c.length cap) rfl;have y3:=HR9.cell 3 (v := .int .i64 0) rfl;have y4:=HR9.cell 4 (v := .int .i64 0) rfl;have y5:=HR9.cell 5 (v := .int .i64 0) rfl;have y6:=HR9.cell 6 (v := .int .i64 0) rfl;have y7:=HR9.cell 7 (v := .int .u32 (E:Int)) rfl;refine bodyPost_ret (v := .agg #[.slice none 0 0,.slice (some ⟨w2.heap.size,0,none⟩) 1 1,.slice (some ⟨gc,0,none⟩) c.length cap,.int .i64 0,.int .i64 0,.int .i64 0,.int .i64 0,.int .u32 (E:Int)]) (by simp [results,Tryz.results40,go_sem,y0,y1,y2,y3,y4,y5,y6,y7];try go_simp) rfl ?_
 have hbf:=aA1 HW;have hsz:=HZ.out.lt;have hz2:=HZ2.out;have hag:=(((((((Agr.setCell (E:=fun k=>k=w.heap.size+1+1) w4 ⟨w.heap.size+1+1,0,none⟩ (.slice none 0 0) rfl).trans (Agr.setCell _ ⟨w.heap.size+1+1,1,none⟩ (.slice (some ⟨w2.heap.size,0,none⟩) 1 1) rfl)).trans (Agr.setCell _ ⟨w.heap.size+1+1,2,none⟩ (.slice (some ⟨gc,0,none⟩) c.length cap) rfl)).trans (Agr.setCell _ ⟨w.heap.size+1+1,3,none⟩ (.int .i64 0) rfl)).trans (Agr.setCell _ ⟨w.heap.size+1+1,4,none⟩ (.int .i64 0) rfl)).trans (Agr.setCell _ ⟨w.heap.size+1+1,5,none⟩ (.int .i64 0) rfl)).trans (Agr.setCell _ ⟨w.heap.size+1+1,6,none⟩ (.int .i64 0) rfl)).trans (Agr.setCell _ ⟨w.heap.size+1+1,7,none⟩ (.int .u32 (E:Int)) rfl);refine ⟨_,rfl,fun W hW=>?_,((((((((hbf.setCell (by simp;omega) _).setCell (by simp;omega) _).setCell (by simp;omega) _).setCell (by simp;omega) _).setCell (by simp;omega) _).setCell (by simp;omega) _).setCell (by simp;omega) _).setCell (by simp;omega) _)⟩
 rw [HS.out];refine ⟨none,0,some ⟨w2.heap.size,0,none⟩,1,some ⟨gc,0,none⟩,cap,rfl,aAi.nil,Nat.le_refl _,by unfold maxLen;omega,?_,Nat.le_refl _,by unfold maxLen;omega,HCN.out _ ⟨Nat.le_trans hag.size hW.1,fun i hN hi=>(hW.2 i (by omega) (Nat.lt_of_lt_of_le hi hag.size)).trans (hag.block i hi (fun e=>by omega))⟩⟩
 obtain ⟨b,o,e,hb,hc⟩:=aAa.at_ HMI.out 0 (by simp)
 obtain ⟨rfl,rfl⟩:b=w2.heap.size/\o=0:=by injection e with e;injection e with e1 e2;exact ⟨e1.symm,e2.symm⟩
 exact aAi.one (Nat.lt_of_lt_of_le (Nat.lt_of_lt_of_le hb hag.size) hW.1) ((hW.cell (by omega) (Nat.lt_of_lt_of_le hb hag.size)).trans ((hag.cell hb (by omega)).trans hc))
def aZd (d:aA6) (w:World) (e:Ending) (w':World):Prop:=∃ gb cap hs,e = .returned (.tuple #[.slice (some ⟨gb,0,none⟩) d.length cap,.int .i64 0])/\OwnC w' w.heap.size gb cap d hs/\aH1 w.heap.size w' hs/\Bel w w'
theorem aSi (v1:Value) (p:Prg) (v2:Value) (g:Graph) (v3:Value) (c:aA6) (S:Nat) (w:World) (h:aEi w v1 p) (h2:aAn w v2 g) (h3:aAw w v3 c) (hL:aAu p=true) (hG:aB3 g=true) (hC:aBs c=true) (hS:S<4294967296) (hm:aD1 p g c=0) (h0:S≠0) (hwi:aBe S (aAk p g c)=true) :
  Calls prog 68 #[v1,v2,v3,.int .u32 (S:Int)] w (aZd (aBi p g c S) w):=by
 have HPV:=aA0 (fun w' (k:Bel w w')=>h.keep k);have HGV:=aA0 (fun w' (k:Bel w w')=>h2.keep k);have HCV:=aA0 (fun w' (k:Bel w w')=>h3.keep k);obtain ⟨A1,k1,A2,k2,rfl,_,_,_,_,_,_⟩:=h;obtain ⟨A3,k3,A4,k4,rfl,_,_,_,_,_,_⟩:=h2;obtain ⟨A5,k5,rfl,_,_,_⟩:=h3;have HW:=Bel.refl ((w.alloc (.cells #[.string p.name,.slice A1 p.vars.length k1,.slice A2 p.rules.length k2] 25)).alloc (.cells #[.slice A3 g.ids.length k3,.slice A4 g.ports.length k4] 29));have HL:=aA0 hL;have HGL:=aA0 hG;have HCL:=aA0 hC;clear hL hG hC;have HS:=aA0 hS;have HM:=aA0 hm;have hle:c.length<=24:=by rw [aDg hm];exact (aAp (aB8 hm).1).2.1.le
 have HD:=aA0 (aEl (T:=aAk p g c) HS.out);have HP:=aA0 (aRu hm);clear hm hS;have hs0:((S:Int)==0)=false:=by simpa using h0
 have hs0':(S==0)=false:=by simpa using h0
 have hbn:=aCw S (aAk p g c);rw [hwi] at HD;have hz:((aD4 S (aAk p g c):Int) != 0)=false:=by have:=HD.out;simp at this ⊢;omega
 have hz':(aD4 S (aAk p g c) != 0)=false:=by have:=HD.out;simp at this ⊢;omega
 have HEN:Hid (∀ v,v<c.length->S.testBit v=true->0<=aCe p.rules g c v):=fun v hv hb=>by
  have:=aC0.1 hwi v (by omega) hb
  rw [aN6] at this;simp at this
  exact this.2
 clear h0 hwi;go_enter func68,ntmps68
 go_wp2_with (first
  | (go_at_call 64;refine (aCq _ p _ g _ c _ (HPV.out _ (aA1 HW)) (HGV.out _ (aA1 HW)) (HCV.out _ (aA1 HW)) HL.out HGL.out HCL.out).mono ?_;rintro e w' ⟨rfl,hb⟩;rw [HM.out];replace HW:=HW.trans hb;clear hb;(try clear p0 p1 p2 g0 g1 gsz);obtain ⟨p0,p1,p2,g0,g1,gsz⟩:=aAd HW)
  | (go_at_call 93;refine (aOa _ p _ g _ c _ (HPV.out _ (aA1 HW)) (HGV.out _ (aA1 HW)) (HCV.out _ (aA1 HW)) HM.out HL.out).mono ?_;rintro e w' ⟨rfl,hb⟩;replace HW:=HW.trans hb;clear hb;(try clear p0 p1 p2 g0 g1 gsz);obtain ⟨p0,p1,p2,g0,g1,gsz⟩:=aAd HW)
  | (go_at_call 66;refine (aLy _ c _ (HCV.out _ (aA1 HW)) HCL.out HP.out).mono ?_;rintro e w' ⟨gb,cap,hs,rfl,hO,hn,hb⟩;have HO:=aA0 hO;have HSN:=aA0 hn;clear hn;have HGB:=aA0 (aBg hO.own).1;have hsz:=HW.size;clear hO;replace HW:=HW.trans hb;clear hb;(try clear p0 p1 p2 g0 g1 gsz);obtain ⟨p0,p1,p2,g0,g1,gsz⟩:=aAd HW))
 have hgb:=HGB.out;simp only [World.size_alloc] at hsz
 have hgb2:w.heap.size+1<gb:=by omega
 have HO2:Hid (OwnC w' (w.heap.size+1+1) gb cap c hs):=⟨aS7 HO.out.own (by omega),HO.out.rows⟩
 have HSN2:Hid (aH1 (w.heap.size+1+1) w' hs):=fun v hv b o n c e=>⟨Nat.le_trans (by omega) (HSN.out v hv b o n c e).1,(HSN.out v hv b o n c e).2⟩
 clear hbn hz hz' hs0 hs0' hgb hsz p0 p1 p2 g0 g1 gsz HO
 go_loopg [12] c.length (fun m z wr=>∃ (v:Nat) (hs:List Value),v<=c.length/\m=c.length-v/\z = .int .i64 v/\Hid (OwnC wr (w.heap.size+1+1) gb cap (aLg p g c S v) hs)/\Hid (aH1 (w.heap.size+1+1) wr hs)/\Bel ((w.alloc (.cells #[.string p.name,.slice A1 p.vars.length k1,.slice A2 p.rules.length k2] 25)).alloc (.cells #[.slice A3 g.ids.length k3,.slice A4 g.ports.length k4] 29)) wr)
 case atStart=>exact ⟨0,hs,by omega,rfl,rfl,by show OwnC _ _ _ _ _ _;rw [aPj];exact HO2.out,HSN2,HW⟩
 case round =>
  clear HO2 HSN2 HSN HW;obtain ⟨v,hs,hv,rfl,rfl,HO,HSN,HW⟩:=hrel;obtain ⟨p0,p1,p2,g0,g1,gsz⟩:=aAd HW
  by_cases hlt:v<c.length
  .have hd0:decide (v<c.length)=true:=by simpa using hlt
   have hhas:aOo S (v:Int)=S.testBit v:=by unfold aOo;rw [decide_eq_true (show (0:Int)<=v by omega),decide_eq_true (show (v:Int)<32 by omega),Int.toNat_natCast];simp
   have HHAS:=aA0 hhas;clear hhas;cases hb:S.testBit v with
   | true =>
    have hf:=aA0 (HEN.out v hlt hb);have HPY:=aA0 (aS8 (p:=p) (g:=g) (c:=c) hb);have HSL:Hid (hs.length=c.length):=by have:=HO.out.own.1;rw [aEz] at this;show _=_;omega
    rw [hb] at HHAS;clear hb
    go_wp2_with (first
     | (go_at_call 55;refine (aFu S _ _ HS.out).mono ?_;rintro e w2 ⟨rfl,rfl⟩;rw [HHAS.out])
     | (go_at_call 94;refine (aSf _ p _ g _ c v _ (HPV.out _ (aA1 HW)) (HGV.out _ (aA1 HW)) (HCV.out _ (aA1 HW)) HM.out hlt hf.out HL.out HGL.out HCL.out).mono ?_;rintro e w2 ⟨R,rc,rfl,hN,hb⟩;have hgb3:=(aBg HO.out.own).2;have HN2:=aA0 hN;replace HW:=HW.trans hb;replace HO:=aA0 (HO.out.keep hb);replace HSN:=aA0 (HSN.out.size hb.size);have y1:=aGu HO.out.own v (by rw [HSL.out];omega);have y2:=HO.out.own.frozenAt v;have ygb:=(aBg HO.out.own).2;clear hb hN))
    go_roundg (c.length-(v+1))
    case rel =>
     refine ⟨v+1,hs.set v (.slice R (aLb p g c v).length rc),by omega,rfl,by go_num,?_,aH1.size (w:=w2) (HSN.out.set HN2.out (by omega) v) (by simp),HW.setCell (by simp;omega) _⟩
     have h3:=HN2.out;show OwnC _ _ _ _ _ _
     rw [<- HPY.out];exact HO.out.set (v:=v) (by rw [aEz];exact hlt) h3.1 h3.2.1 h3.2.2.1 (h3.off (by omega))
    case measure=>omega
   | false =>
    have HPN:=aA0 (aV6 (p:=p) (g:=g) (c:=c) hb);rw [hb] at HHAS;clear hb
    go_wp2_with (go_at_call 55;refine (aFu S _ _ HS.out).mono ?_;rintro e w2 ⟨rfl,rfl⟩;rw [HHAS.out])
    go_roundg (c.length-(v+1))
    case rel=>exact ⟨v+1,hs,by omega,rfl,by go_num,by show OwnC _ _ _ _ _ _;rw [<- HPN.out];exact HO.out,HSN,HW⟩
    case measure=>omega
  .have hd0:decide (v<c.length)=false:=by simpa using hlt
   obtain rfl:v=c.length:=by omega
   go_wp2_with fail
   go_ret2
   have hO:=HO.out;rw [aPi] at hO;have hz9:=HW.size;simp only [World.size_alloc] at hz9
   exact ⟨gb,cap,_,by rw [aEg];rfl,⟨aS7 hO.own (by omega),hO.rows⟩,fun v hv b o n c e=>⟨Nat.le_trans (by omega) (HSN.out v hv b o n c e).1,(HSN.out v hv b o n c e).2⟩,aA1 HW⟩
def aLo (p:Prg) (g:Graph) (c:aA6) (n:Int):Bool:=aFz p g&&aBs c&&decide (n<=60)&&decide (aM6 p*g.ports.length*aDw g*aDw g<=20000)
theorem aI3 {p:Prg} {g:Graph} {c:aA6} {n:Int} (h:aLo p g c n=true):aAu p=true/\aB3 g=true/\aBs c=true/\n<=60:=by
 unfold aLo at h;simp only [Bool.and_eq_true,decide_eq_true_eq] at h
 obtain ⟨⟨⟨h1,h2⟩,h3⟩,_⟩:=h;exact ⟨(aEq h1).1,(aEq h1).2,h2,h3⟩
def aOi (p:Prg) (g:Graph) (c:aA6) (n:Int):Bool:=aLo p g c n&&decide (aD1 p g c=0)
theorem aR3 {p:Prg} {g:Graph} {c:aA6} {n:Int} (h:aOi p g c n=true):aAu p=true/\aB3 g=true/\aBs c=true/\n<=60/\aD1 p g c=0:=by
 unfold aOi at h;simp only [Bool.and_eq_true,decide_eq_true_eq] at h
 obtain ⟨h1,h2,h3,h4⟩:=aI3 h.1;exact ⟨h1,h2,h3,h4,h.2⟩
theorem aGr (v1:Value) (p:Prg) (v2:Value) (g:Graph) (v3:Value) (c:aA6) (n:Int) (w:World) (h:aEi w v1 p) (h2:aAn w v2 g) (h3:aAw w v3 c):Calls prog 11 #[v1,v2,v3,.int .i64 n] w fun e w'=>e = .returned (.bool (aLo p g c n))/\Bel w w':=by
 have HPV:=aA0 (fun w' (k:Bel w w')=>h.keep k);have HGV:=aA0 (fun w' (k:Bel w w')=>h2.keep k);have HCV:=aA0 (fun w' (k:Bel w w')=>h3.keep k);obtain ⟨A1,k1,A2,k2,rfl,_,_,_,_,_,_⟩:=h;obtain ⟨A3,k3,A4,k4,rfl,_,_,_,_,_,_⟩:=h2;obtain ⟨A5,k5,rfl,_,_,_⟩:=h3;have HW:=Bel.refl ((w.alloc (.cells #[.string p.name,.slice A1 p.vars.length k1,.slice A2 p.rules.length k2] 25)).alloc (.cells #[.slice A3 g.ids.length k3,.slice A4 g.ports.length k4] 29));have hcell:=aA0 (fun w' (kk:Bel ((w.alloc (.cells #[.string p.name,.slice A1 p.vars.length k1,.slice A2 p.rules.length k2] 25)).alloc (.cells #[.slice A3 g.ids.length k3,.slice A4 g.ports.length k4] 29)) w')=>aAd kk);have HF:Hid (aLo p g c n=(aFz p g&&aBs c&&decide (n<=60)&&decide (aM6 p*g.ports.length*aDw g*aDw g<=20000))):=rfl;cases hq:aFz p g with
 | false =>
  rw [hq] at HF;have HQ:=aA0 hq;clear hq;go_enter func11,ntmps11
  go_wp2_with fail
  refine aA7.start (fun w'=>w'.cell? ⟨w.heap.size,0,none⟩=some (.string p.name)/\w'.cell? ⟨w.heap.size,1,none⟩=some (.slice A1 p.vars.length k1)/\w'.cell? ⟨w.heap.size,2,none⟩=some (.slice A2 p.rules.length k2)/\w'.cell? ⟨w.heap.size+1,0,none⟩=some (.slice A3 g.ids.length k3)/\w'.cell? ⟨w.heap.size+1,1,none⟩=some (.slice A4 g.ports.length k4)/\w.heap.size+1<w'.heap.size) 26 (by kernel_rfl) ?_
  replace HW:=HW.drew;have hHeld:=hcell.out _ HW
  (refine aA7.t (v:=?_) 0 9 rfl rfl (by kernel_rfl) (fun _ _ _ h=>h) hHeld (Or.inl ⟨by rfl,?_⟩) ?_;rotate_left 1;focus (intro w' hSw;(try dsimp only at hSw);go_simp;(try with_reducible rfl);done))
  (refine aA7.t (v:=?_) 1 10 rfl rfl (by kernel_rfl) (fun _ _ _ h=>h) hHeld (Or.inl ⟨by rfl,?_⟩) ?_;rotate_left 1;focus (intro w' hSw;(try dsimp only at hSw);go_simp;(try with_reducible rfl);done))
  refine aA7.one (i:=2) (by kernel_rfl) rfl (fun K hK=>?_)
  go_simp
  go_at_call 30
  refine (aKp _ p _ g _ (HPV.out _ (aA1 HW)) (HGV.out _ (aA1 HW))).mono ?_
  rintro e w' ⟨rfl,hb⟩;rw [HQ.out];replace HW:=HW.trans hb;clear hb
  (try go_simp)
  refine hK.out _ _ (fun _=>hcell.out _ HW) ?_
  clear hK K hHeld;have hHeld:=hcell.out _ HW
  (try simp only [Act.put,List.setIfInBounds_toArray,List.set_cons_zero,List.set_cons_succ])
  (refine aA7.t (v:=?_) 3 12 rfl rfl (by kernel_rfl) (fun _ _ _ h=>h) hHeld (Or.inl ⟨by rfl,?_⟩) ?_;rotate_left 1;focus (intro w' hSw;(try dsimp only at hSw);go_simp;(try with_reducible rfl);done))
  (refine aA7.t (v:=undef) 4 13 rfl rfl (by kernel_rfl) (fun _ _ _ h=>h) hHeld (Or.inr ⟨by rfl,rfl⟩) ?_;(try simp only [Act.put,List.setIfInBounds_toArray,List.set_cons_zero,List.set_cons_succ]))
  (refine aA7.t (v:=undef) 5 14 rfl rfl (by kernel_rfl) (fun _ _ _ h=>h) hHeld (Or.inr ⟨by rfl,rfl⟩) ?_;(try simp only [Act.put,List.setIfInBounds_toArray,List.set_cons_zero,List.set_cons_succ]))
  (refine aA7.t (v:=?_) 6 15 rfl rfl (by kernel_rfl) (fun _ _ _ h=>h) hHeld (Or.inl ⟨by rfl,?_⟩) ?_;rotate_left 1;focus (intro w' hSw;(try dsimp only at hSw);go_simp;(try with_reducible rfl);done))
  (refine aA7.t (v:=?_) 7 16 rfl rfl (by kernel_rfl) (fun _ _ _ h=>h) hHeld (Or.inl ⟨by rfl,?_⟩) ?_;rotate_left 1;focus (intro w' hSw;(try dsimp only at hSw);go_simp;(try with_reducible rfl);done))
  (refine aA7.t (v:=undef) 8 17 rfl rfl (by kernel_rfl) (fun _ _ _ h=>h) hHeld (Or.inr ⟨by rfl,rfl⟩) ?_;(try simp only [Act.put,List.setIfInBounds_toArray,List.set_cons_zero,List.set_cons_succ]))
  (refine aA7.t (v:=undef) 9 18 rfl rfl (by kernel_rfl) (fun _ _ _ h=>h) hHeld (Or.inr ⟨by rfl,rfl⟩) ?_;(try simp only [Act.put,List.setIfInBounds_toArray,List.set_cons_zero,List.set_cons_succ]))
  (refine aA7.t (v:=?_) 10 19 rfl rfl (by kernel_rfl) (fun _ _ _ h=>h) hHeld (Or.inl ⟨by rfl,?_⟩) ?_;rotate_left 1;focus (intro w' hSw;(try dsimp only at hSw);go_simp;(try with_reducible rfl);done))
  (refine aA7.t (v:=?_) 11 20 rfl rfl (by kernel_rfl) (fun _ _ _ h=>h) hHeld (Or.inl ⟨by rfl,?_⟩) ?_;rotate_left 1;focus (intro w' hSw;(try dsimp only at hSw);go_simp;(try with_reducible rfl);done))
  (refine aA7.t (v:=undef) 12 21 rfl rfl (by kernel_rfl) (fun _ _ _ h=>h) hHeld (Or.inr ⟨by rfl,rfl⟩) ?_;(try simp only [Act.put,List.setIfInBounds_toArray,List.set_cons_zero,List.set_cons_succ]))
  (refine aA7.t (v:=undef) 13 22 rfl rfl (by kernel_rfl) (fun _ _ _ h=>h) hHeld (Or.inr ⟨by rfl,rfl⟩) ?_;(try simp only [Act.put,List.setIfInBounds_toArray,List.set_cons_zero,List.set_cons_succ]))
  (refine aA7.t (v:=undef) 14 23 rfl rfl (by kernel_rfl) (fun _ _ _ h=>h) hHeld (Or.inr ⟨by rfl,rfl⟩) ?_;(try simp only [Act.put,List.setIfInBounds_toArray,List.set_cons_zero,List.set_cons_succ]))
  (refine aA7.t (v:=undef) 15 24 rfl rfl (by kernel_rfl) (fun _ _ _ h=>h) hHeld (Or.inr ⟨by rfl,rfl⟩) ?_;(try simp only [Act.put,List.setIfInBounds_toArray,List.set_cons_zero,List.set_cons_succ]))
  (refine aA7.t (v:=undef) 16 25 rfl rfl (by kernel_rfl) (fun _ _ _ h=>h) hHeld (Or.inr ⟨by rfl,rfl⟩) ?_;(try simp only [Act.put,List.setIfInBounds_toArray,List.set_cons_zero,List.set_cons_succ]))
  (refine aA7.t (v:=undef) 17 26 rfl rfl (by kernel_rfl) (fun _ _ _ h=>h) hHeld (Or.inr ⟨by rfl,rfl⟩) ?_;(try simp only [Act.put,List.setIfInBounds_toArray,List.set_cons_zero,List.set_cons_succ]))
  (refine aA7.t (v:=undef) 18 27 rfl rfl (by kernel_rfl) (fun _ _ _ h=>h) hHeld (Or.inr ⟨by rfl,rfl⟩) ?_;(try simp only [Act.put,List.setIfInBounds_toArray,List.set_cons_zero,List.set_cons_succ]))
  (refine aA7.t (v:=undef) 19 28 rfl rfl (by kernel_rfl) (fun _ _ _ h=>h) hHeld (Or.inr ⟨by rfl,rfl⟩) ?_;(try simp only [Act.put,List.setIfInBounds_toArray,List.set_cons_zero,List.set_cons_succ]))
  (refine aA7.t (v:=undef) 20 29 rfl rfl (by kernel_rfl) (fun _ _ _ h=>h) hHeld (Or.inr ⟨by rfl,rfl⟩) ?_;(try simp only [Act.put,List.setIfInBounds_toArray,List.set_cons_zero,List.set_cons_succ]))
  (refine aA7.t (v:=undef) 21 30 rfl rfl (by kernel_rfl) (fun _ _ _ h=>h) hHeld (Or.inr ⟨by rfl,rfl⟩) ?_;(try simp only [Act.put,List.setIfInBounds_toArray,List.set_cons_zero,List.set_cons_succ]))
  (refine aA7.t (v:=undef) 22 31 rfl rfl (by kernel_rfl) (fun _ _ _ h=>h) hHeld (Or.inr ⟨by rfl,rfl⟩) ?_;(try simp only [Act.put,List.setIfInBounds_toArray,List.set_cons_zero,List.set_cons_succ]))
  (refine aA7.t (v:=undef) 23 32 rfl rfl (by kernel_rfl) (fun _ _ _ h=>h) hHeld (Or.inr ⟨by rfl,rfl⟩) ?_;(try simp only [Act.put,List.setIfInBounds_toArray,List.set_cons_zero,List.set_cons_succ]))
  (refine aA7.t (v:=undef) 24 33 rfl rfl (by kernel_rfl) (fun _ _ _ h=>h) hHeld (Or.inr ⟨by rfl,rfl⟩) ?_;(try simp only [Act.put,List.setIfInBounds_toArray,List.set_cons_zero,List.set_cons_succ]))
  (refine aA7.t (v:=?_) 25 34 rfl rfl (by kernel_rfl) (fun _ _ _ h=>h) hHeld (Or.inl ⟨by rfl,?_⟩) ?_;rotate_left 1;focus (intro w' hSw;(try dsimp only at hSw);go_simp;(try with_reducible rfl);done))
  refine aA7.one (i:=26) (by kernel_rfl) rfl (fun K hK=>?_)
  go_simp
  refine hK.out _ _ (fun h=>absurd rfl h) ?_
  clear hK K hHeld;refine aA7.done (by kernel_rfl) ?_ _
  go_wp2_with fail
  go_ret;exact ⟨aA2 (by rw [HF.out];rfl),aA1 HW⟩
 | true =>
  rw [hq] at HF;have HQ:=aA0 hq;cases hc:aBs c with
  | false =>
   rw [hc] at HF;have HC:=aA0 hc;clear hq hc;go_enter func11,ntmps11
   go_wp2_with fail
   refine aA7.start (fun w'=>w'.cell? ⟨w.heap.size,0,none⟩=some (.string p.name)/\w'.cell? ⟨w.heap.size,1,none⟩=some (.slice A1 p.vars.length k1)/\w'.cell? ⟨w.heap.size,2,none⟩=some (.slice A2 p.rules.length k2)/\w'.cell? ⟨w.heap.size+1,0,none⟩=some (.slice A3 g.ids.length k3)/\w'.cell? ⟨w.heap.size+1,1,none⟩=some (.slice A4 g.ports.length k4)/\w.heap.size+1<w'.heap.size) 26 (by kernel_rfl) ?_
   replace HW:=HW.drew;have hHeld:=hcell.out _ HW
   (refine aA7.t (v:=?_) 0 9 rfl rfl (by kernel_rfl) (fun _ _ _ h=>h) hHeld (Or.inl ⟨by rfl,?_⟩) ?_;rotate_left 1;focus (intro w' hSw;(try dsimp only at hSw);go_simp;(try with_reducible rfl);done))
   (refine aA7.t (v:=?_) 1 10 rfl rfl (by kernel_rfl) (fun _ _ _ h=>h) hHeld (Or.inl ⟨by rfl,?_⟩) ?_;rotate_left 1;focus (intro w' hSw;(try dsimp only at hSw);go_simp;(try with_reducible rfl);done))
   refine aA7.one (i:=2) (by kernel_rfl) rfl (fun K hK=>?_)
   go_simp
   go_at_call 30
   refine (aKp _ p _ g _ (HPV.out _ (aA1 HW)) (HGV.out _ (aA1 HW))).mono ?_
   rintro e w' ⟨rfl,hb⟩;rw [HQ.out];replace HW:=HW.trans hb;clear hb
   (try go_simp)
   refine hK.out _ _ (fun _=>hcell.out _ HW) ?_
   clear hK K hHeld;have hHeld:=hcell.out _ HW
   (try simp only [Act.put,List.setIfInBounds_toArray,List.set_cons_zero,List.set_cons_succ])
   (refine aA7.t (v:=?_) 3 12 rfl rfl (by kernel_rfl) (fun _ _ _ h=>h) hHeld (Or.inl ⟨by rfl,?_⟩) ?_;rotate_left 1;focus (intro w' hSw;(try dsimp only at hSw);go_simp;(try with_reducible rfl);done))
   (refine aA7.t (v:=?_) 4 13 rfl rfl (by kernel_rfl) (fun _ _ _ h=>h) hHeld (Or.inl ⟨by rfl,?_⟩) ?_;rotate_left 1;focus (intro w' hSw;(try dsimp only at hSw);go_simp;(try with_reducible rfl);done))
   refine aA7.one (i:=5) (by kernel_rfl) rfl (fun K hK=>?_)
   go_simp
   go_at_call 31
   refine (aFx _ c _ (HCV.out _ (aA1 HW))).mono ?_
   rintro e w' ⟨rfl,rfl⟩;rw [HC.out]
   (try go_simp)
   refine hK.out _ _ (fun _=>hcell.out _ HW) ?_
   clear hK K hHeld;have hHeld:=hcell.out _ HW
   (try simp only [Act.put,List.setIfInBounds_toArray,List.set_cons_zero,List.set_cons_succ])
   (refine aA7.t (v:=?_) 6 15 rfl rfl (by kernel_rfl) (fun _ _ _ h=>h) hHeld (Or.inl ⟨by rfl,?_⟩) ?_;rotate_left 1;focus (intro w' hSw;(try dsimp only at hSw);go_simp;(try with_reducible rfl);done))
   (refine aA7.t (v:=?_) 7 16 rfl rfl (by kernel_rfl) (fun _ _ _ h=>h) hHeld (Or.inl ⟨by rfl,?_⟩) ?_;rotate_left 1;focus (intro w' hSw;(try dsimp only at hSw);go_simp;(try with_reducible rfl);done))
   (refine aA7.t (v:=undef) 8 17 rfl rfl (by kernel_rfl) (fun _ _ _ h=>h) hHeld (Or.inr ⟨by rfl,rfl⟩) ?_;(try simp only [Act.put,List.setIfInBounds_toArray,List.set_cons_zero,List.set_cons_succ]))
   (refine aA7.t (v:=undef) 9 18 rfl rfl (by kernel_rfl) (fun _ _ _ h=>h) hHeld (Or.inr ⟨by rfl,rfl⟩) ?_;(try simp only [Act.put,List.setIfInBounds_toArray,List.set_cons_zero,List.set_cons_succ]))
   (refine aA7.t (v:=?_) 10 19 rfl rfl (by kernel_rfl) (fun _ _ _ h=>h) hHeld (Or.inl ⟨by rfl,?_⟩) ?_;rotate_left 1;focus (intro w' hSw;(try dsimp only at hSw);go_simp;(try with_reducible rfl);done))
   (refine aA7.t (v:=?_) 11 20 rfl rfl (by kernel_rfl) (fun _ _ _ h=>h) hHeld (Or.inl ⟨by rfl,?_⟩) ?_;rotate_left 1;focus (intro w' hSw;(try dsimp only at hSw);go_simp;(try with_reducible rfl);done))
   (refine aA7.t (v:=undef) 12 21 rfl rfl (by kernel_rfl) (fun _ _ _ h=>h) hHeld (Or.inr ⟨by rfl,rfl⟩) ?_;(try simp only [Act.put,List.setIfInBounds_toArray,List.set_cons_zero,List.set_cons_succ]))
   (refine aA7.t (v:=undef) 13 22 rfl rfl (by kernel_rfl) (fun _ _ _ h=>h) hHeld (Or.inr ⟨by rfl,rfl⟩) ?_;(try simp only [Act.put,List.setIfInBounds_toArray,List.set_cons_zero,List.set_cons_succ]))
   (refine aA7.t (v:=undef) 14 23 rfl rfl (by kernel_rfl) (fun _ _ _ h=>h) hHeld (Or.inr ⟨by rfl,rfl⟩) ?_;(try simp only [Act.put,List.setIfInBounds_toArray,List.set_cons_zero,List.set_cons_succ]))
   (refine aA7.t (v:=undef) 15 24 rfl rfl (by kernel_rfl) (fun _ _ _ h=>h) hHeld (Or.inr ⟨by rfl,rfl⟩) ?_;(try simp only [Act.put,List.setIfInBounds_toArray,List.set_cons_zero,List.set_cons_succ]))
   (refine aA7.t (v:=undef) 16 25 rfl rfl (by kernel_rfl) (fun _ _ _ h=>h) hHeld (Or.inr ⟨by rfl,rfl⟩) ?_;(try simp only [Act.put,List.setIfInBounds_toArray,List.set_cons_zero,List.set_cons_succ]))
   (refine aA7.t (v:=undef) 17 26 rfl rfl (by kernel_rfl) (fun _ _ _ h=>h) hHeld (Or.inr ⟨by rfl,rfl⟩) ?_;(try simp only [Act.put,List.setIfInBounds_toArray,List.set_cons_zero,List.set_cons_succ]))
   (refine aA7.t (v:=undef) 18 27 rfl rfl (by kernel_rfl) (fun _ _ _ h=>h) hHeld (Or.inr ⟨by rfl,rfl⟩) ?_;(try simp only [Act.put,List.setIfInBounds_toArray,List.set_cons_zero,List.set_cons_succ]))
   (refine aA7.t (v:=undef) 19 28 rfl rfl (by kernel_rfl) (fun _ _ _ h=>h) hHeld (Or.inr ⟨by rfl,rfl⟩) ?_;(try simp only [Act.put,List.setIfInBounds_toArray,List.set_cons_zero,List.set_cons_succ]))
   (refine aA7.t (v:=undef) 20 29 rfl rfl (by kernel_rfl) (fun _ _ _ h=>h) hHeld (Or.inr ⟨by rfl,rfl⟩) ?_;(try simp only [Act.put,List.setIfInBounds_toArray,List.set_cons_zero,List.set_cons_succ]))
   (refine aA7.t (v:=undef) 21 30 rfl rfl (by kernel_rfl) (fun _ _ _ h=>h) hHeld (Or.inr ⟨by rfl,rfl⟩) ?_;(try simp only [Act.put,List.setIfInBounds_toArray,List.set_cons_zero,List.set_cons_succ]))
   (refine aA7.t (v:=undef) 22 31 rfl rfl (by kernel_rfl) (fun _ _ _ h=>h) hHeld (Or.inr ⟨by rfl,rfl⟩) ?_;(try simp only [Act.put,List.setIfInBounds_toArray,List.set_cons_zero,List.set_cons_succ]))
   (refine aA7.t (v:=undef) 23 32 rfl rfl (by kernel_rfl) (fun _ _ _ h=>h) hHeld (Or.inr ⟨by rfl,rfl⟩) ?_;(try simp only [Act.put,List.setIfInBounds_toArray,List.set_cons_zero,List.set_cons_succ]))
   (refine aA7.t (v:=undef) 24 33 rfl rfl (by kernel_rfl) (fun _ _ _ h=>h) hHeld (Or.inr ⟨by rfl,rfl⟩) ?_;(try simp only [Act.put,List.setIfInBounds_toArray,List.set_cons_zero,List.set_cons_succ]))
   (refine aA7.t (v:=?_) 25 34 rfl rfl (by kernel_rfl) (fun _ _ _ h=>h) hHeld (Or.inl ⟨by rfl,?_⟩) ?_;rotate_left 1;focus (intro w' hSw;(try dsimp only at hSw);go_simp;(try with_reducible rfl);done))
   refine aA7.one (i:=26) (by kernel_rfl) rfl (fun K hK=>?_)
   go_simp
   refine hK.out _ _ (fun h=>absurd rfl h) ?_
   clear hK K hHeld;refine aA7.done (by kernel_rfl) ?_ _
   go_wp2_with fail
   go_ret;exact ⟨aA2 (by rw [HF.out];rfl),aA1 HW⟩
  | true =>
   rw [hc] at HF;have HC:=aA0 hc
   by_cases hn:n<=60
   .have dn:decide (n<=60)=true:=decide_eq_true hn
    rw [dn] at HF;have hT:=aSu (aEq hq).1;have hD:=aN0 (aEq hq).2;have hN:=(aDd (aEq hq).2).2.1;have HLP:=aA0 (aEq hq).1;have w1:=aJ0 hT hN (by decide)
    have w2:=aJ0 (Nat.mul_le_mul hT hN) hD.2 (by decide)
    have w3:=aJ0 (Nat.mul_le_mul (Nat.mul_le_mul hT hN) hD.2) hD.2 (by decide)
    have W2:=aA0 w2;have W3:=aA0 w3;rw [<- Int.natCast_mul] at W2 W3;clear w2 w3 hT hD hN hq hc hn;go_enter func11,ntmps11
    go_wp2_with fail
    replace HW:=HW.drew
    go_region_held3 (fun w'=>w'.cell? ⟨w.heap.size,0,none⟩=some (.string p.name)/\w'.cell? ⟨w.heap.size,1,none⟩=some (.slice A1 p.vars.length k1)/\w'.cell? ⟨w.heap.size,2,none⟩=some (.slice A2 p.rules.length k2)/\w'.cell? ⟨w.heap.size+1,0,none⟩=some (.slice A3 g.ids.length k3)/\w'.cell? ⟨w.heap.size+1,1,none⟩=some (.slice A4 g.ports.length k4)/\w.heap.size+1<w'.heap.size) (exact aAd HW) (first
     | (go_simp;go_at_call 30;refine (aKp _ p _ g _ (HPV.out _ (aA1 HW)) (HGV.out _ (aA1 HW))).mono ?_;rintro e w' ⟨rfl,hb⟩;rw [HQ.out];replace HW:=HW.trans hb;clear hb)
     | (go_simp;go_at_call 31;refine (aFx _ c _ (HCV.out _ (aA1 HW))).mono ?_;rintro e w' ⟨rfl,rfl⟩;rw [HC.out])
     | (go_simp;go_at_call 32;refine (aSw _ p _ (HPV.out _ (aA1 HW)) HLP.out).mono ?_;rintro e w4 ⟨rfl,hb⟩;replace HW:=HW.trans hb;clear hb)
     | (go_simp;go_at_call 33;refine (aN1 _ g _ (HGV.out _ (aA1 HW))).mono ?_;rintro e w4 ⟨rfl,hb⟩;replace HW:=HW.trans hb;clear hb))
    go_wp2_with fail
    go_ret;refine ⟨aA2 ?_,aA1 HW⟩
    rw [HF.out,Bool.eq_iff_iff];simp only [decide_eq_true_eq,<- Int.natCast_mul,Bool.true_and]
    rw [W2.out,<- Int.natCast_mul,W3.out];omega
   .have dn:decide (n<=60)=false:=decide_eq_false hn
    rw [dn] at HF;clear hq hc hn;go_enter func11,ntmps11
    go_wp2_with fail
    refine aA7.start (fun w'=>w'.cell? ⟨w.heap.size,0,none⟩=some (.string p.name)/\w'.cell? ⟨w.heap.size,1,none⟩=some (.slice A1 p.vars.length k1)/\w'.cell? ⟨w.heap.size,2,none⟩=some (.slice A2 p.rules.length k2)/\w'.cell? ⟨w.heap.size+1,0,none⟩=some (.slice A3 g.ids.length k3)/\w'.cell? ⟨w.heap.size+1,1,none⟩=some (.slice A4 g.ports.length k4)/\w.heap.size+1<w'.heap.size) 26 (by kernel_rfl) ?_
    replace HW:=HW.drew;have hHeld:=hcell.out _ HW
    (refine aA7.t (v:=?_) 0 9 rfl rfl (by kernel_rfl) (fun _ _ _ h=>h) hHeld (Or.inl ⟨by rfl,?_⟩) ?_;rotate_left 1;focus (intro w' hSw;(try dsimp only at hSw);go_simp;(try with_reducible rfl);done))
    (refine aA7.t (v:=?_) 1 10 rfl rfl (by kernel_rfl) (fun _ _ _ h=>h) hHeld (Or.inl ⟨by rfl,?_⟩) ?_;rotate_left 1;focus (intro w' hSw;(try dsimp only at hSw);go_simp;(try with_reducible rfl);done))
    refine aA7.one (i:=2) (by kernel_rfl) rfl (fun K hK=>?_)
    go_simp
    go_at_call 30
    refine (aKp _ p _ g _ (HPV.out _ (aA1 HW)) (HGV.out _ (aA1 HW))).mono ?_
    rintro e w' ⟨rfl,hb⟩;rw [HQ.out];replace HW:=HW.trans hb;clear hb
    (try go_simp)
    refine hK.out _ _ (fun _=>hcell.out _ HW) ?_
    clear hK K hHeld;have hHeld:=hcell.out _ HW
    (try simp only [Act.put,List.setIfInBounds_toArray,List.set_cons_zero,List.set_cons_succ])
    (refine aA7.t (v:=?_) 3 12 rfl rfl (by kernel_rfl) (fun _ _ _ h=>h) hHeld (Or.inl ⟨by rfl,?_⟩) ?_;rotate_left 1;focus (intro w' hSw;(try dsimp only at hSw);go_simp;(try with_reducible rfl);done))
    (refine aA7.t (v:=?_) 4 13 rfl rfl (by kernel_rfl) (fun _ _ _ h=>h) hHeld (Or.inl ⟨by rfl,?_⟩) ?_;rotate_left 1;focus (intro w' hSw;(try dsimp only at hSw);go_simp;(try with_reducible rfl);done))
    refine aA7.one (i:=5) (by kernel_rfl) rfl (fun K hK=>?_)
    go_simp
    go_at_call 31
    refine (aFx _ c _ (HCV.out _ (aA1 HW))).mono ?_
    rintro e w' ⟨rfl,rfl⟩;rw [HC.out]
    (try go_simp)
    refine hK.out _ _ (fun _=>hcell.out _ HW) ?_
    clear hK K hHeld;have hHeld:=hcell.out _ HW
    (try simp only [Act.put,List.setIfInBounds_toArray,List.set_cons_zero,List.set_cons_succ])
    (refine aA7.t (v:=?_) 6 15 rfl rfl (by kernel_rfl) (fun _ _ _ h=>h) hHeld (Or.inl ⟨by rfl,?_⟩) ?_;rotate_left 1;focus (intro w' hSw;(try dsimp only at hSw);go_simp;(try with_reducible rfl);done))
    (refine aA7.t (v:=?_) 7 16 rfl rfl (by kernel_rfl) (fun _ _ _ h=>h) hHeld (Or.inl ⟨by rfl,?_⟩) ?_;rotate_left 1;focus (intro w' hSw;(try dsimp only at hSw);go_simp;(try with_reducible rfl);done))
    (refine aA7.t (v:=?_) 8 17 rfl rfl (by kernel_rfl) (fun _ _ _ h=>h) hHeld (Or.inl ⟨by rfl,?_⟩) ?_;rotate_left 1;focus (intro w' hSw;(try dsimp only at hSw);go_simp;(try with_reducible rfl);done))
    (refine aA7.t (v:=?_) 9 18 rfl rfl (by kernel_rfl) (fun _ _ _ h=>h) hHeld (Or.inl ⟨by rfl,?_⟩) ?_;rotate_left 1;focus (intro w' hSw;(try dsimp only at hSw);go_simp;(try with_reducible rfl);done))
    (refine aA7.t (v:=?_) 10 19 rfl rfl (by kernel_rfl) (fun _ _ _ h=>h) hHeld (Or.inl ⟨by rfl,?_⟩) ?_;rotate_left 1;focus (intro w' hSw;(try dsimp only at hSw);go_simp;(try with_reducible rfl);done))
    (refine aA7.t (v:=?_) 11 20 rfl rfl (by kernel_rfl) (fun _ _ _ h=>h) hHeld (Or.inl ⟨by rfl,?_⟩) ?_;rotate_left 1;focus (intro w' hSw;(try dsimp only at hSw);go_simp;(try with_reducible rfl);done))
    (refine aA7.t (v:=undef) 12 21 rfl rfl (by kernel_rfl) (fun _ _ _ h=>h) hHeld (Or.inr ⟨by rfl,rfl⟩) ?_;(try simp only [Act.put,List.setIfInBounds_toArray,List.set_cons_zero,List.set_cons_succ]))
    (refine aA7.t (v:=undef) 13 22 rfl rfl (by kernel_rfl) (fun _ _ _ h=>h) hHeld (Or.inr ⟨by rfl,rfl⟩) ?_;(try simp only [Act.put,List.setIfInBounds_toArray,List.set_cons_zero,List.set_cons_succ]))
    (refine aA7.t (v:=undef) 14 23 rfl rfl (by kernel_rfl) (fun _ _ _ h=>h) hHeld (Or.inr ⟨by rfl,rfl⟩) ?_;(try simp only [Act.put,List.setIfInBounds_toArray,List.set_cons_zero,List.set_cons_succ]))
    (refine aA7.t (v:=undef) 15 24 rfl rfl (by kernel_rfl) (fun _ _ _ h=>h) hHeld (Or.inr ⟨by rfl,rfl⟩) ?_;(try simp only [Act.put,List.setIfInBounds_toArray,List.set_cons_zero,List.set_cons_succ]))
    (refine aA7.t (v:=undef) 16 25 rfl rfl (by kernel_rfl) (fun _ _ _ h=>h) hHeld (Or.inr ⟨by rfl,rfl⟩) ?_;(try simp only [Act.put,List.setIfInBounds_toArray,List.set_cons_zero,List.set_cons_succ]))
    (refine aA7.t (v:=undef) 17 26 rfl rfl (by kernel_rfl) (fun _ _ _ h=>h) hHeld (Or.inr ⟨by rfl,rfl⟩) ?_;(try simp only [Act.put,List.setIfInBounds_toArray,List.set_cons_zero,List.set_cons_succ]))
    (refine aA7.t (v:=undef) 18 27 rfl rfl (by kernel_rfl) (fun _ _ _ h=>h) hHeld (Or.inr ⟨by rfl,rfl⟩) ?_;(try simp only [Act.put,List.setIfInBounds_toArray,List.set_cons_zero,List.set_cons_succ]))
    (refine aA7.t (v:=undef) 19 28 rfl rfl (by kernel_rfl) (fun _ _ _ h=>h) hHeld (Or.inr ⟨by rfl,rfl⟩) ?_;(try simp only [Act.put,List.setIfInBounds_toArray,List.set_cons_zero,List.set_cons_succ]))
    (refine aA7.t (v:=undef) 20 29 rfl rfl (by kernel_rfl) (fun _ _ _ h=>h) hHeld (Or.inr ⟨by rfl,rfl⟩) ?_;(try simp only [Act.put,List.setIfInBounds_toArray,List.set_cons_zero,List.set_cons_succ]))
    (refine aA7.t (v:=undef) 21 30 rfl rfl (by kernel_rfl) (fun _ _ _ h=>h) hHeld (Or.inr ⟨by rfl,rfl⟩) ?_;(try simp only [Act.put,List.setIfInBounds_toArray,List.set_cons_zero,List.set_cons_succ]))
    (refine aA7.t (v:=undef) 22 31 rfl rfl (by kernel_rfl) (fun _ _ _ h=>h) hHeld (Or.inr ⟨by rfl,rfl⟩) ?_;(try simp only [Act.put,List.setIfInBounds_toArray,List.set_cons_zero,List.set_cons_succ]))
    (refine aA7.t (v:=undef) 23 32 rfl rfl (by kernel_rfl) (fun _ _ _ h=>h) hHeld (Or.inr ⟨by rfl,rfl⟩) ?_;(try simp only [Act.put,List.setIfInBounds_toArray,List.set_cons_zero,List.set_cons_succ]))
    (refine aA7.t (v:=undef) 24 33 rfl rfl (by kernel_rfl) (fun _ _ _ h=>h) hHeld (Or.inr ⟨by rfl,rfl⟩) ?_;(try simp only [Act.put,List.setIfInBounds_toArray,List.set_cons_zero,List.set_cons_succ]))
    (refine aA7.t (v:=?_) 25 34 rfl rfl (by kernel_rfl) (fun _ _ _ h=>h) hHeld (Or.inl ⟨by rfl,?_⟩) ?_;rotate_left 1;focus (intro w' hSw;(try dsimp only at hSw);go_simp;(try with_reducible rfl);done))
    refine aA7.one (i:=26) (by kernel_rfl) rfl (fun K hK=>?_)
    go_simp
    refine hK.out _ _ (fun h=>absurd rfl h) ?_
    clear hK K hHeld;refine aA7.done (by kernel_rfl) ?_ _
    go_wp2_with fail
    go_ret;exact ⟨aA2 (by rw [HF.out];rfl),aA1 HW⟩
theorem aDf (v1:Value) (p:Prg) (v2:Value) (g:Graph) (v3:Value) (c:aA6) (n:Int) (w:World) (h:aEi w v1 p) (h2:aAn w v2 g) (h3:aAw w v3 c):Calls prog 16 #[v1,v2,v3,.int .i64 n] w fun e w'=>e = .returned (.bool (aOi p g c n))/\Bel w w':=by
 have HPV:=aA0 (fun w' (k:Bel w w')=>h.keep k);have HGV:=aA0 (fun w' (k:Bel w w')=>h2.keep k);have HCV:=aA0 (fun w' (k:Bel w w')=>h3.keep k);obtain ⟨A1,k1,A2,k2,rfl,_,_,_,_,_,_⟩:=h;obtain ⟨A3,k3,A4,k4,rfl,_,_,_,_,_,_⟩:=h2;obtain ⟨A5,k5,rfl,_,_,_⟩:=h3;have HW:=Bel.refl ((w.alloc (.cells #[.string p.name,.slice A1 p.vars.length k1,.slice A2 p.rules.length k2] 25)).alloc (.cells #[.slice A3 g.ids.length k3,.slice A4 g.ports.length k4] 29));have HF:Hid (aOi p g c n=(aLo p g c n&&decide (aD1 p g c=0))):=rfl;cases hq:aLo p g c n with
 | false =>
  rw [hq] at HF;go_enter func16,ntmps16
  go_wp2_with (go_at_call 11;refine (aGr _ p _ g _ c n _ (HPV.out _ (aA1 HW)) (HGV.out _ (aA1 HW)) (HCV.out _ (aA1 HW))).mono ?_;rintro e w' ⟨rfl,hb⟩;rw [hq];replace HW:=HW.trans hb;clear hb;(try clear p0 p1 p2 g0 g1 gsz);obtain ⟨p0,p1,p2,g0,g1,gsz⟩:=aAd HW)
  go_ret;exact ⟨aA2 (by rw [HF.out];rfl),aA1 HW⟩
 | true =>
  have HL:=aA0 (aI3 hq);rw [hq] at HF;go_enter func16,ntmps16
  go_wp2_with (first
   | (go_at_call 11;refine (aGr _ p _ g _ c n _ (HPV.out _ (aA1 HW)) (HGV.out _ (aA1 HW)) (HCV.out _ (aA1 HW))).mono ?_;rintro e w' ⟨rfl,hb⟩;rw [hq];replace HW:=HW.trans hb;clear hb;(try clear p0 p1 p2 g0 g1 gsz);obtain ⟨p0,p1,p2,g0,g1,gsz⟩:=aAd HW)
   | (go_at_call 42;refine (aG0 _ p _ g _ c _ (HPV.out _ (aA1 HW)) (HGV.out _ (aA1 HW)) (HCV.out _ (aA1 HW)) HL.out.1 HL.out.2.1 HL.out.2.2.1).mono ?_;rintro e w' ⟨rfl,hb⟩;replace HW:=HW.trans hb;clear hb;(try clear p0 p1 p2 g0 g1 gsz);obtain ⟨p0,p1,p2,g0,g1,gsz⟩:=aAd HW))
  go_ret;exact ⟨aA2 (by rw [HF.out];simp),aA1 HW⟩
end Go.Proofs.YtdcjnhoabbdanaaGreatDoor

