/- Merged. -/
import Derived.Test.YtdcjnhoabbdanaaGreatDoorZ33
import Derived.Test.YtdcjnhoabbdanaaGreatDoorZ34
set_option linter.unusedSimpArgs false
set_option linter.unnecessarySimpa false
set_option linter.unusedVariables false
set_option maxRecDepth 100000
set_option maxHeartbeats 8000000
open Go.Proofs.Tryz

namespace Go.Proofs.YtdcjnhoabbdanaaGreatDoor
open Go.RowKit
theorem AppC.hsNew {w:World} {base cap:Nat} {B:Option Addr} {d:aA7} {hs:List Value} (h:AppC w base B cap d hs):aGu base w hs:=fun v hv b o n c e=>by
 obtain ⟨u,hu,rfl⟩:=List.getElem_of_mem hv;have hl:=h.own.1;have hud:u<d.length:=by omega
 obtain ⟨R,c',h1,h2,_⟩:=h.rows u hud;rw [List.getElem?_eq_getElem hu] at h1;rw [Option.some.inj h1] at e;injection e with e
 exact h2.2.2.2 b o e
theorem aLj (v:Value) (c:aA7) (w:World) (h:aAy w v c) (hL:aBl c=true) (hpos:0<c.length) :
  Calls prog 66 #[v] w (aSf c w):=by
 obtain ⟨A,k,rfl,hR,_,_⟩:=h;have HR:=aA0 (fun w' (kk:Bel w w')=>hR.keep kk);obtain ⟨l1,l2⟩:=aBx hL;have HL2:=aA0 l2;clear hR l2 hL;obtain ⟨i0,hi0,hz0,hz1,hz2⟩:=info_parts aP0;obtain ⟨j0,hj0,hy0,hy1,hy2⟩:=info_parts aK1;have HW:=Bel.refl w;go_enter func66,ntmps66;go_wp2
 go_loopg [3,4] c.length (fun m x z wr=>∃ (v:Nat) (B:Option Addr) (cb:Nat) (hs:List Value),v<=c.length/\m=c.length-v/\x = .slice B v cb/\z = .int .i64 v/\Hid (AppC wr w.heap.size B cb (c.take v) hs)/\Bel w wr)
 case atStart=>exact ⟨0,none,0,[],by omega,rfl,rfl,rfl,AppC.nil _ _,HW⟩
 case round =>
  clear HW;obtain ⟨v,B,cb,hs,hv,rfl,rfl,rfl,HO,HW⟩:=hrel
  by_cases hlt:v<c.length
  .have hd0:decide (v<c.length)=true:=by simpa using hlt
   obtain ⟨b,o,R,rc,rfl,hbl,hcell,hI,_,_⟩:=(HR.out _ HW).at_ v hlt;have hle:=HL2.out _ (List.getElem_mem hlt);have HI:=aA0 hI;have HT:Hid ((c.take v).length=v):=by show _=_;rw [List.length_take];omega
   clear hI
   go_wp2_with (first
    | (at_builtin;refine aFa _ rfl (.const (.slice none 0 0)) (.tmp 15) 26 rfl wr.heap.size 3 j0 (.int .i64 0) 1 8 underlying26 hj0 hy0 hy1 hy2 rfl (by decide) none 0 0 [] rfl (World.ownsRow_nil _ _ _ _) R c[v].length rc (c[v].map (Value.int .i64)) rfl HI.out.cells (aF5 _) (by unfold maxLen;omega) (by omega) (Nat.le_refl _) ?_;intro A3 c3 w3 hown3 hgr3 _;rw [List.nil_append,Nat.zero_add] at hown3;have hb3:=(Bel.refl wr).grown hgr3 (fun k hk=>by cases hk);obtain ⟨_,hN⟩:=aKc hown3;have HN:=aA0 hN;have HO3:=aA0 (HO.out.keep hb3);have HOV:=aA0 (bAt HO3.out.own HT.out);have hszr:=HW.size;have hoffA:∀ g o,B=some ⟨g,o,none⟩->Off g A3:=(fun g o e=>HN.out.off (by have:=HO.out.own;subst e;exact (bBf this)));replace HW:=HW.trans hb3;clear hown3 hgr3 hb3 hN)
    | (at_builtin;refine aDr _ rfl (.tmp 11) (.tmp 17) 30 rfl w.heap.size 26 i0 (.slice none 0 0) 1 24 underlying30 hi0 hz0 hz1 hz2 rfl (by decide) B v cb hs rfl (HOV.out.alloc _) w3.heap.size #[.slice A3 c[v].length c3] 26 (0,0) rfl (aEn _ _) rfl (aEr _ _ _) (by unfold maxLen;omega) (by omega) (by have:=HW.size;simp;omega) ?_;intro B4 c4 w4 hown4 hgr4 hat4;have HP:=aA0 (HO3.out.push HT.out (HN.out.lower hszr) hoffA hown4 hgr4 hat4);replace HW:=(HW.alloc _).push (HOV.out.alloc _) hgr4;clear hown4 hgr4 hat4))
   go_roundg (c.length-(v+1))
   case rel =>
    refine ⟨v+1,B4,c4,hs++[.slice A3 c[v].length c3],by omega,rfl,rfl,by go_num,?_,HW⟩
    show AppC _ _ _ _ _ _
    rw [List.take_succ_eq_append_getElem hlt];exact HP.out
   case measure=>omega
  .have hd0:decide (v<c.length)=false:=by simpa using hlt
   obtain rfl:v=c.length:=by omega
   go_wp2_with fail
   go_ret;have hO:=HO.out;rw [List.take_of_length_le (Nat.le_refl _)] at hO;obtain ⟨gb,rfl⟩:=hO.form hpos;exact ⟨gb,_,hs,rfl,hO.ownC,hO.hsNew,HW⟩
theorem aO9 (E:Nat) (w:World) (hE:E<16777216) :
  Calls prog 67 #[.int .u32 (E:Int)] w fun e w'=>e = .returned (aIs (aHh E))/\Bel w w':=by
 have hb:=aTt hE;have HW:Hid (Bel w (w.alloc (.cells #[.int .i64 0,.int .i64 0,.int .i64 0,.int .i64 0,.int .u32 0] 36))):=(Bel.refl w).alloc _;have HZ:Hid (Blk (w.alloc (.cells #[.int .i64 0,.int .i64 0,.int .i64 0,.int .i64 0,.int .u32 0] 36)) w.heap.size #[.int .i64 0,.int .i64 0,.int .i64 0,.int .i64 0,.int .u32 0] 36):=Blk.new _ _ _;go_enter func67,ntmps67
 go_wp2_with (go_at_call 73;refine (aIm 24 _ (by decide)).mono ?_;rintro e w2 ⟨rfl,rfl⟩;rw [bAf])
 have HB:Hid (∀ cs,Bel w (w.alloc (.cells cs 36))):=fun cs=>(Bel.refl w).alloc _;refine bodyPost_ret (v:=aIs (aHh E)) (by simp [results,Tryz.results67,go_sem];try go_simp;try rfl) rfl ?_
 exact ⟨rfl,HB.out _⟩
theorem aLo (v1:Value) (p:Prg) (v2:Value) (g:Graph) (v3:Value) (c:aA7) (w:World) (h:aEm w v1 p) (h2:aAn w v2 g) (h3:aAy w v3 c) (hL:aAw p=true) (hG:aB3 g=true) (hC:aBl c=true) (hm:aCv p g c=0) :
  Calls prog 40 #[v1,v2,v3] w fun e w'=>∃ vt,e = .returned vt/\(∀ W,aAv w.heap.size w' W->aB5 W vt (aA3 p g c))/\Bel w w':=by
 have HM:=aA0 hm;have HS:Hid (aA3 p g c=⟨[],[aAj p g c],c,aHh (aAj p g c)⟩):=rfl;have hE24:=aGe hm;have HEN:=aA0 (aMp hm);have hpos:=aR9 hm;clear hm;have HPV:=aA0 (fun w' (k:Bel w w')=>h.keep k);have HGV:=aA0 (fun w' (k:Bel w w')=>h2.keep k);have HCV:=aA0 (fun w' (k:Bel w w')=>h3.keep k);obtain ⟨A1,k1,A2,k2,rfl,_,_,_,_,_,_⟩:=h;obtain ⟨A3,k3,A4,k4,rfl,_,_,_,_,_,_⟩:=h2;obtain ⟨A5,k5,rfl,_,_,_⟩:=h3;have HW:=Bel.refl ((w.alloc (.cells #[.string p.name,.slice A1 p.vars.length k1,.slice A2 p.rules.length k2] 25)).alloc (.cells #[.slice A3 g.ids.length k3,.slice A4 g.ports.length k4] 29));have HL:=aA0 hL;have HGL:=aA0 hG;have HCL:=aA0 hC;clear hL hG hC
 have HZ:Hid (Blk (((w.alloc (.cells #[.string p.name,.slice A1 p.vars.length k1,.slice A2 p.rules.length k2] 25)).alloc (.cells #[.slice A3 g.ids.length k3,.slice A4 g.ports.length k4] 29)).alloc (.cells #[.slice none 0 0,.slice none 0 0,.slice none 0 0,.int .i64 0,.int .i64 0,.int .i64 0,.int .i64 0,.int .u32 0] 38)) (w.heap.size+1+1) #[.slice none 0 0,.slice none 0 0,.slice none 0 0,.int .i64 0,.int .i64 0,.int .i64 0,.int .i64 0,.int .u32 0] 38):=by
  have:=Blk.new ((w.alloc (.cells #[.string p.name,.slice A1 p.vars.length k1,.slice A2 p.rules.length k2] 25)).alloc (.cells #[.slice A3 g.ids.length k3,.slice A4 g.ports.length k4] 29)) #[.slice none 0 0,.slice none 0 0,.slice none 0 0,.int .i64 0,.int .i64 0,.int .i64 0,.int .i64 0,.int .u32 0] 38;rw [World.size_alloc,World.size_alloc] at this;exact this
 replace HW:=HW.alloc (.cells #[.slice none 0 0,.slice none 0 0,.slice none 0 0,.int .i64 0,.int .i64 0,.int .i64 0,.int .i64 0,.int .u32 0] 38);generalize aAj p g c=E at *;go_enter func40,ntmps40
 go_wp2_with (first
  | (go_at_call 65;refine (aJ4 _ p _ g _ c _ (HPV.out _ (aA1 HW)) (HGV.out _ (aA1 HW)) (HCV.out _ (aA1 HW)) HL.out HGL.out HCL.out).mono ?_;rintro e w2 ⟨rfl,hb⟩;rw [HEN.out];replace HZ:=aA0 (HZ.out.keep hb);have HZ2:Hid (w.heap.size+1+1<w2.heap.size):=HZ.out.lt;replace HW:=HW.trans hb;clear hb;(try clear p0 p1 p2 g0 g1 gsz);obtain ⟨p0,p1,p2,g0,g1,gsz⟩:=aAi HW)
  | (go_at_call 66;have hb2:Bel w2 (w2.alloc (.cells #[.int .u32 (E:Int)] 34)):=(Bel.refl w2).alloc _;replace HZ:=aA0 (HZ.out.keep hb2);have HZ0:Hid (w.heap.size+1+1+1<=(w2.alloc (.cells #[.int .u32 (E:Int)] 34)).heap.size):=HZ.out.lt;replace HW:=HW.trans hb2;refine (aLj _ c _ (HCV.out _ (aA1 HW)) HCL.out hpos).mono ?_;rintro e w3 ⟨gc,cap,hs,rfl,hO,hn,hb⟩;have HMI:=aA0 (aAd.keep (w:=w2.alloc (.cells #[.int .u32 (E:Int)] 34)) (A:=some ⟨w2.heap.size,0,none⟩) (n:=1) (xs:=[E]) (aAf.one (by simp) (by show World.cell? _ _=_;go_simp)) hb);have HCN:=aA0 (fun W (k:aAv (w.heap.size+1+1+1) w3 W)=>hO.newC hn (k.up HZ0.out));replace HZ:=aA0 (HZ.out.keep hb);clear hO hn hb2;replace HW:=HW.trans hb;clear hb;(try clear p0 p1 p2 g0 g1 gsz);obtain ⟨p0,p1,p2,g0,g1,gsz⟩:=aAi HW)
  | (go_at_call 67;refine (aO9 E _ hE24).mono ?_;rintro e w4 ⟨rfl,hb⟩;rw [show aIs (aHh E) = .agg #[.int .i64 0,.int .i64 0,.int .i64 0,.int .i64 0,.int .u32 (E:Int)] from rfl];replace HZ:=aA0 (HZ.out.keep hb);replace HMI:=aA0 (aAd.keep HMI.out hb);replace HCN:=aA0 (fun W (k:aAv (w.heap.size+1+1+1) w4 W)=>HCN.out W (k.back hb));replace HW:=HW.trans hb;clear hb;(try clear p0 p1 p2 g0 g1 gsz);obtain ⟨p0,p1,p2,g0,g1,gsz⟩:=aAi HW;have z0:=HZ.out.cell 0 (v := .slice none 0 0) rfl;have f0:=HZ.out.frozen 0;have z1:=HZ.out.cell 1 (v := .slice none 0 0) rfl;have f1:=HZ.out.frozen 1;have z2:=HZ.out.cell 2 (v := .slice none 0 0) rfl;have f2:=HZ.out.frozen 2;have z3:=HZ.out.cell 3 (v := .int .i64 0) rfl;have f3:=HZ.out.frozen 3;have z4:=HZ.out.cell 4 (v := .int .i64 0) rfl;have f4:=HZ.out.frozen 4;have z5:=HZ.out.cell 5 (v := .int .i64 0) rfl;have f5:=HZ.out.frozen 5;have z6:=HZ.out.cell 6 (v := .int .i64 0) rfl;have f6:=HZ.out.frozen 6;have z7:=HZ.out.cell 7 (v := .int .u32 0) rfl;have f7:=HZ.out.frozen 7;have zl:=HZ.out.lt))
 have HR9:Blk ((((((((w4.setCell ⟨w.heap.size+1+1,0,none⟩ (.slice none 0 0)).setCell ⟨w.heap.size+1+1,1,none⟩ (.slice (some ⟨w2.heap.size,0,none⟩) 1 1)).setCell ⟨w.heap.size+1+1,2,none⟩ (.slice (some ⟨gc,0,none⟩) c.length cap)).setCell ⟨w.heap.size+1+1,3,none⟩ (.int .i64 0)).setCell ⟨w.heap.size+1+1,4,none⟩ (.int .i64 0)).setCell ⟨w.heap.size+1+1,5,none⟩ (.int .i64 0)).setCell ⟨w.heap.size+1+1,6,none⟩ (.int .i64 0)).setCell ⟨w.heap.size+1+1,7,none⟩ (.int .u32 (E:Int))) (w.heap.size+1+1) #[.slice none 0 0,.slice (some ⟨w2.heap.size,0,none⟩) 1 1,.slice (some ⟨gc,0,none⟩) c.length cap,.int .i64 0,.int .i64 0,.int .i64 0,.int .i64 0,.int .u32 (E:Int)] 38:=((((((((HZ.out.set 0 _).set 1 _).set 2 _).set 3 _).set 4 _).set 5 _).set 6 _).set 7 _);have y0:=HR9.cell 0 (v := .slice none 0 0) rfl;have y1:=HR9.cell 1 (v := .slice (some ⟨w2.heap.size,0,none⟩) 1 1) rfl;have y2:=HR9.cell 2 (v := .slice (some ⟨gc,0,none⟩) c.length cap) rfl;have y3:=HR9.cell 3 (v := .int .i64 0) rfl;have y4:=HR9.cell 4 (v := .int .i64 0) rfl;have y5:=HR9.cell 5 (v := .int .i64 0) rfl;have y6:=HR9.cell 6 (v := .int .i64 0) rfl;have y7:=HR9.cell 7 (v := .int .u32 (E:Int)) rfl;refine bodyPost_ret (v := .agg #[.slice none 0 0,.slice (some ⟨w2.heap.size,0,none⟩) 1 1,.slice (some ⟨gc,0,none⟩) c.length cap,.int .i64 0,.int .i64 0,.int .i64 0,.int .i64 0,.int .u32 (E:Int)]) (by simp [results,Tryz.results40,go_sem,y0,y1,y2,y3,y4,y5,y6,y7];try go_simp) rfl ?_
 have hbf:=aA1 HW;have hsz:=HZ.out.lt;have hz2:=HZ2.out;have hag:=(((((((Agr.setCell (E:=fun k=>k=w.heap.size+1+1) w4 ⟨w.heap.size+1+1,0,none⟩ (.slice none 0 0) rfl).trans (Agr.setCell _ ⟨w.heap.size+1+1,1,none⟩ (.slice (some ⟨w2.heap.size,0,none⟩) 1 1) rfl)).trans (Agr.setCell _ ⟨w.heap.size+1+1,2,none⟩ (.slice (some ⟨gc,0,none⟩) c.length cap) rfl)).trans (Agr.setCell _ ⟨w.heap.size+1+1,3,none⟩ (.int .i64 0) rfl)).trans (Agr.setCell _ ⟨w.heap.size+1+1,4,none⟩ (.int .i64 0) rfl)).trans (Agr.setCell _ ⟨w.heap.size+1+1,5,none⟩ (.int .i64 0) rfl)).trans (Agr.setCell _ ⟨w.heap.size+1+1,6,none⟩ (.int .i64 0) rfl)).trans (Agr.setCell _ ⟨w.heap.size+1+1,7,none⟩ (.int .u32 (E:Int)) rfl);refine ⟨_,rfl,fun W hW=>?_,((((((((hbf.setCell (by simp;omega) _).setCell (by simp;omega) _).setCell (by simp;omega) _).setCell (by simp;omega) _).setCell (by simp;omega) _).setCell (by simp;omega) _).setCell (by simp;omega) _).setCell (by simp;omega) _)⟩
 rw [HS.out];refine ⟨none,0,some ⟨w2.heap.size,0,none⟩,1,some ⟨gc,0,none⟩,cap,rfl,aAf.nil,Nat.le_refl _,by unfold maxLen;omega,?_,Nat.le_refl _,by unfold maxLen;omega,HCN.out _ ⟨Nat.le_trans hag.size hW.1,fun i hN hi=>(hW.2 i (by omega) (Nat.lt_of_lt_of_le hi hag.size)).trans (hag.block i hi (fun e=>by omega))⟩⟩
 obtain ⟨b,o,e,hb,hc⟩:=aAd.at_ HMI.out 0 (by simp)
 obtain ⟨rfl,rfl⟩:b=w2.heap.size/\o=0:=by injection e with e;injection e with e1 e2;exact ⟨e1.symm,e2.symm⟩
 exact aAf.one (Nat.lt_of_lt_of_le (Nat.lt_of_lt_of_le hb hag.size) hW.1) ((hW.cell (by omega) (Nat.lt_of_lt_of_le hb hag.size)).trans ((hag.cell hb (by omega)).trans hc))
def aYi (d:aA7) (w:World) (e:Ending) (w':World):Prop:=∃ gb cap hs,e = .returned (.tuple #[.slice (some ⟨gb,0,none⟩) d.length cap,.int .i64 0])/\OwnC w' w.heap.size gb cap d hs/\aGu w.heap.size w' hs/\Bel w w'
theorem aRu (v1:Value) (p:Prg) (v2:Value) (g:Graph) (v3:Value) (c:aA7) (S:Nat) (w:World) (h:aEm w v1 p) (h2:aAn w v2 g) (h3:aAy w v3 c) (hL:aAw p=true) (hG:aB3 g=true) (hC:aBl c=true) (hS:S<4294967296) (hm:aCv p g c=0) (h0:S≠0) (hwi:aBn S (aAj p g c)=true) :
  Calls prog 68 #[v1,v2,v3,.int .u32 (S:Int)] w (aYi (aBe p g c S) w):=by
 have HPV:=aA0 (fun w' (k:Bel w w')=>h.keep k);have HGV:=aA0 (fun w' (k:Bel w w')=>h2.keep k);have HCV:=aA0 (fun w' (k:Bel w w')=>h3.keep k);obtain ⟨A1,k1,A2,k2,rfl,_,_,_,_,_,_⟩:=h;obtain ⟨A3,k3,A4,k4,rfl,_,_,_,_,_,_⟩:=h2;obtain ⟨A5,k5,rfl,_,_,_⟩:=h3;have HW:=Bel.refl ((w.alloc (.cells #[.string p.name,.slice A1 p.vars.length k1,.slice A2 p.rules.length k2] 25)).alloc (.cells #[.slice A3 g.ids.length k3,.slice A4 g.ports.length k4] 29));have HL:=aA0 hL;have HGL:=aA0 hG;have HCL:=aA0 hC;clear hL hG hC;have HS:=aA0 hS;have HM:=aA0 hm;have hle:c.length<=24:=by rw [aG0 hm];exact (aAp (aB8 hm).1).2.1.le
 have HD:=aA0 (aIj (T:=aAj p g c) HS.out);have HP:=aA0 (aR9 hm);clear hm hS;have hs0:((S:Int)==0)=false:=by simpa using h0
 have hs0':(S==0)=false:=by simpa using h0
 have hbn:=aEc S (aAj p g c);rw [hwi] at HD;have hz:((aF0 S (aAj p g c):Int) != 0)=false:=by have:=HD.out;simp at this ⊢;omega
 have hz':(aF0 S (aAj p g c) != 0)=false:=by have:=HD.out;simp at this ⊢;omega
 have HEN:Hid (∀ v,v<c.length->S.testBit v=true->0<=aCb p.rules g c v):=fun v hv hb=>by
  have:=aBm.1 hwi v (by omega) hb
  rw [aMo] at this;simp at this
  exact this.2
 clear h0 hwi;go_enter func68,ntmps68
 go_wp2_with (first
  | (go_at_call 64;refine (aCo _ p _ g _ c _ (HPV.out _ (aA1 HW)) (HGV.out _ (aA1 HW)) (HCV.out _ (aA1 HW)) HL.out HGL.out HCL.out).mono ?_;rintro e w' ⟨rfl,hb⟩;rw [HM.out];replace HW:=HW.trans hb;clear hb;(try clear p0 p1 p2 g0 g1 gsz);obtain ⟨p0,p1,p2,g0,g1,gsz⟩:=aAi HW)
  | (go_at_call 93;refine (aNl _ p _ g _ c _ (HPV.out _ (aA1 HW)) (HGV.out _ (aA1 HW)) (HCV.out _ (aA1 HW)) HM.out HL.out).mono ?_;rintro e w' ⟨rfl,hb⟩;replace HW:=HW.trans hb;clear hb;(try clear p0 p1 p2 g0 g1 gsz);obtain ⟨p0,p1,p2,g0,g1,gsz⟩:=aAi HW)
  | (go_at_call 66;refine (aLj _ c _ (HCV.out _ (aA1 HW)) HCL.out HP.out).mono ?_;rintro e w' ⟨gb,cap,hs,rfl,hO,hn,hb⟩;have HO:=aA0 hO;have HSN:=aA0 hn;clear hn;have HGB:=aA0 (aBf hO.own).1;have hsz:=HW.size;clear hO;replace HW:=HW.trans hb;clear hb;(try clear p0 p1 p2 g0 g1 gsz);obtain ⟨p0,p1,p2,g0,g1,gsz⟩:=aAi HW))
 have hgb:=HGB.out;simp only [World.size_alloc] at hsz
 have hgb2:w.heap.size+1<gb:=by omega
 have HO2:Hid (OwnC w' (w.heap.size+1+1) gb cap c hs):=⟨aRl HO.out.own (by omega),HO.out.rows⟩
 have HSN2:Hid (aGu (w.heap.size+1+1) w' hs):=fun v hv b o n c e=>⟨Nat.le_trans (by omega) (HSN.out v hv b o n c e).1,(HSN.out v hv b o n c e).2⟩
 clear hbn hz hz' hs0 hs0' hgb hsz p0 p1 p2 g0 g1 gsz HO
 go_loopg [12] c.length (fun m z wr=>∃ (v:Nat) (hs:List Value),v<=c.length/\m=c.length-v/\z = .int .i64 v/\Hid (OwnC wr (w.heap.size+1+1) gb cap (aL2 p g c S v) hs)/\Hid (aGu (w.heap.size+1+1) wr hs)/\Bel ((w.alloc (.cells #[.string p.name,.slice A1 p.vars.length k1,.slice A2 p.rules.length k2] 25)).alloc (.cells #[.slice A3 g.ids.length k3,.slice A4 g.ports.length k4] 29)) wr)
 case atStart=>exact ⟨0,hs,by omega,rfl,rfl,by show OwnC _ _ _ _ _ _;rw [aOw];exact HO2.out,HSN2,HW⟩
 case round =>
  clear HO2 HSN2 HSN HW;obtain ⟨v,hs,hv,rfl,rfl,HO,HSN,HW⟩:=hrel;obtain ⟨p0,p1,p2,g0,g1,gsz⟩:=aAi HW
  by_cases hlt:v<c.length
  .have hd0:decide (v<c.length)=true:=by simpa using hlt
   have hhas:aLw S (v:Int)=S.testBit v:=by unfold aLw;rw [decide_eq_true (show (0:Int)<=v by omega),decide_eq_true (show (v:Int)<32 by omega),Int.toNat_natCast];simp
   have HHAS:=aA0 hhas;clear hhas;cases hb:S.testBit v with
   | true =>
    have hf:=aA0 (HEN.out v hlt hb);have HPY:=aA0 (aRn (p:=p) (g:=g) (c:=c) hb);have HSL:Hid (hs.length=c.length):=by have:=HO.out.own.1;rw [aEt] at this;show _=_;omega
    rw [hb] at HHAS;clear hb
    go_wp2_with (first
     | (go_at_call 55;refine (aEg S _ _ HS.out).mono ?_;rintro e w2 ⟨rfl,rfl⟩;rw [HHAS.out])
     | (go_at_call 94;refine (aRt _ p _ g _ c v _ (HPV.out _ (aA1 HW)) (HGV.out _ (aA1 HW)) (HCV.out _ (aA1 HW)) HM.out hlt hf.out HL.out HGL.out HCL.out).mono ?_;rintro e w2 ⟨R,rc,rfl,hN,hb⟩;have hgb3:=(aBf HO.out.own).2;have HN2:=aA0 hN;replace HW:=HW.trans hb;replace HO:=aA0 (HO.out.keep hb);replace HSN:=aA0 (HSN.out.size hb.size);have y1:=aGm HO.out.own v (by rw [HSL.out];omega);have y2:=HO.out.own.frozenAt v;have ygb:=(aBf HO.out.own).2;clear hb hN))
    go_roundg (c.length-(v+1))
    case rel =>
     refine ⟨v+1,hs.set v (.slice R (aKx p g c v).length rc),by omega,rfl,by go_num,?_,aGu.size (w:=w2) (HSN.out.set HN2.out (by omega) v) (by simp),HW.setCell (by simp;omega) _⟩
     have h3:=HN2.out;show OwnC _ _ _ _ _ _
     rw [<- HPY.out];exact HO.out.set (v:=v) (by rw [aEt];exact hlt) h3.1 h3.2.1 h3.2.2.1 (h3.off (by omega))
    case measure=>omega
   | false =>
    have HPN:=aA0 (aUc (p:=p) (g:=g) (c:=c) hb);rw [hb] at HHAS;clear hb
    go_wp2_with (go_at_call 55;refine (aEg S _ _ HS.out).mono ?_;rintro e w2 ⟨rfl,rfl⟩;rw [HHAS.out])
    go_roundg (c.length-(v+1))
    case rel=>exact ⟨v+1,hs,by omega,rfl,by go_num,by show OwnC _ _ _ _ _ _;rw [<- HPN.out];exact HO.out,HSN,HW⟩
    case measure=>omega
  .have hd0:decide (v<c.length)=false:=by simpa using hlt
   obtain rfl:v=c.length:=by omega
   go_wp2_with fail
   go_ret2
   have hO:=HO.out;rw [aOv] at hO;have hz9:=HW.size;simp only [World.size_alloc] at hz9
   exact ⟨gb,cap,_,by rw [aE7];rfl,⟨aRl hO.own (by omega),hO.rows⟩,fun v hv b o n c e=>⟨Nat.le_trans (by omega) (HSN.out v hv b o n c e).1,(HSN.out v hv b o n c e).2⟩,aA1 HW⟩
theorem aKj (v1 v2:Value) (t:Trc) (w:World) (h1:aB5 w v1 t) (h2:aB5 w v2 t) (hl:aBl t.last=true) (hn1:t.chosen.length<=1000) (hn2:t.enabled.length<=1000) :
  Calls prog 15 #[v1,v2] w fun e w'=>e = .returned (.bool true)/\Bel w w':=by
 obtain ⟨A1,k1,A2,k2,A3,k3,rfl,a1,_,_,a2,_,_,a3⟩:=h1;obtain ⟨B1,j1,B2,j2,B3,j3,rfl,b1,_,_,b2,_,_,b3⟩:=h2;have H1:=aA0 (fun w' (k:Bel w w')=>And.intro (aAd.keep a1 k) (aAd.keep b1 k));have H2:=aA0 (fun w' (k:Bel w w')=>And.intro (aAd.keep a2 k) (aAd.keep b2 k));have H3:=aA0 (fun w' (k:Bel w w')=>And.intro (a3.keep k) (b3.keep k));have HL:=aA0 hl;have HN1:=aA0 hn1;have HN2:=aA0 hn2;obtain ⟨lc,le,lt,⟨st,mv,ro,be,pe⟩⟩:=t;dsimp only at *;have HZ1:Hid (Blk ((w.alloc (.cells #[.slice A1 lc.length k1,.slice A2 le.length k2,.slice A3 lt.length k3,.int .i64 st,.int .i64 mv,.int .i64 ro,.int .i64 be,.int .u32 (pe:Int)] 38)).alloc (.cells #[.slice B1 lc.length j1,.slice B2 le.length j2,.slice B3 lt.length j3,.int .i64 st,.int .i64 mv,.int .i64 ro,.int .i64 be,.int .u32 (pe:Int)] 38)) w.heap.size #[.slice A1 lc.length k1,.slice A2 le.length k2,.slice A3 lt.length k3,.int .i64 st,.int .i64 mv,.int .i64 ro,.int .i64 be,.int .u32 (pe:Int)] 38):=(Blk.new _ _ _).alloc _
 have HZ2:Hid (Blk ((w.alloc (.cells #[.slice A1 lc.length k1,.slice A2 le.length k2,.slice A3 lt.length k3,.int .i64 st,.int .i64 mv,.int .i64 ro,.int .i64 be,.int .u32 (pe:Int)] 38)).alloc (.cells #[.slice B1 lc.length j1,.slice B2 le.length j2,.slice B3 lt.length j3,.int .i64 st,.int .i64 mv,.int .i64 ro,.int .i64 be,.int .u32 (pe:Int)] 38)) (w.heap.size+1) #[.slice B1 lc.length j1,.slice B2 le.length j2,.slice B3 lt.length j3,.int .i64 st,.int .i64 mv,.int .i64 ro,.int .i64 be,.int .u32 (pe:Int)] 38):=by
  have:=Blk.new (w.alloc (.cells #[.slice A1 lc.length k1,.slice A2 le.length k2,.slice A3 lt.length k3,.int .i64 st,.int .i64 mv,.int .i64 ro,.int .i64 be,.int .u32 (pe:Int)] 38)) #[.slice B1 lc.length j1,.slice B2 le.length j2,.slice B3 lt.length j3,.int .i64 st,.int .i64 mv,.int .i64 ro,.int .i64 be,.int .u32 (pe:Int)] 38;rw [World.size_alloc] at this;exact this
 have HW:Bel w ((w.alloc (.cells #[.slice A1 lc.length k1,.slice A2 le.length k2,.slice A3 lt.length k3,.int .i64 st,.int .i64 mv,.int .i64 ro,.int .i64 be,.int .u32 (pe:Int)] 38)).alloc (.cells #[.slice B1 lc.length j1,.slice B2 le.length j2,.slice B3 lt.length j3,.int .i64 st,.int .i64 mv,.int .i64 ro,.int .i64 be,.int .u32 (pe:Int)] 38)):=((Bel.refl w).alloc _).alloc _;clear a1 a2 a3 b1 b2 b3 hl hn1 hn2;go_enter func15,ntmps15
 go_wp2_with (first
  | (go_at_call 21;with_reducible refine (aIa A1 _ lc _ _ _ (H1.out _ HW).1 (H1.out _ HW).2 (by have:=HN1.out;omega)).mono ?_;rintro e w' ⟨rfl,hb⟩;replace HW:=HW.trans hb;replace HZ1:=aA0 (HZ1.out.keep hb);replace HZ2:=aA0 (HZ2.out.keep hb);clear hb;(try clear x0 x1 x2 x3 x4 x5 x6 x7 y0 y1 y2 y3 y4 y5 y6 y7 xl yl);have x0:=HZ1.out.cell 0 (v := .slice A1 lc.length k1) rfl;have y0:=HZ2.out.cell 0 (v := .slice B1 lc.length j1) rfl;have x1:=HZ1.out.cell 1 (v := .slice A2 le.length k2) rfl;have y1:=HZ2.out.cell 1 (v := .slice B2 le.length j2) rfl;have x2:=HZ1.out.cell 2 (v := .slice A3 lt.length k3) rfl;have y2:=HZ2.out.cell 2 (v := .slice B3 lt.length j3) rfl;have x3:=HZ1.out.cell 3 (v := .int .i64 st) rfl;have y3:=HZ2.out.cell 3 (v := .int .i64 st) rfl;have x4:=HZ1.out.cell 4 (v := .int .i64 mv) rfl;have y4:=HZ2.out.cell 4 (v := .int .i64 mv) rfl;have x5:=HZ1.out.cell 5 (v := .int .i64 ro) rfl;have y5:=HZ2.out.cell 5 (v := .int .i64 ro) rfl;have x6:=HZ1.out.cell 6 (v := .int .i64 be) rfl;have y6:=HZ2.out.cell 6 (v := .int .i64 be) rfl;have x7:=HZ1.out.cell 7 (v := .int .u32 (pe:Int)) rfl;have y7:=HZ2.out.cell 7 (v := .int .u32 (pe:Int)) rfl;have xl:=HZ1.out.lt;have yl:=HZ2.out.lt)
  | (go_at_call 21;with_reducible refine (aIa A2 _ le _ _ _ (H2.out _ HW).1 (H2.out _ HW).2 (by have:=HN2.out;omega)).mono ?_;rintro e w' ⟨rfl,hb⟩;replace HW:=HW.trans hb;replace HZ1:=aA0 (HZ1.out.keep hb);replace HZ2:=aA0 (HZ2.out.keep hb);clear hb;(try clear x0 x1 x2 x3 x4 x5 x6 x7 y0 y1 y2 y3 y4 y5 y6 y7 xl yl);have x0:=HZ1.out.cell 0 (v := .slice A1 lc.length k1) rfl;have y0:=HZ2.out.cell 0 (v := .slice B1 lc.length j1) rfl;have x1:=HZ1.out.cell 1 (v := .slice A2 le.length k2) rfl;have y1:=HZ2.out.cell 1 (v := .slice B2 le.length j2) rfl;have x2:=HZ1.out.cell 2 (v := .slice A3 lt.length k3) rfl;have y2:=HZ2.out.cell 2 (v := .slice B3 lt.length j3) rfl;have x3:=HZ1.out.cell 3 (v := .int .i64 st) rfl;have y3:=HZ2.out.cell 3 (v := .int .i64 st) rfl;have x4:=HZ1.out.cell 4 (v := .int .i64 mv) rfl;have y4:=HZ2.out.cell 4 (v := .int .i64 mv) rfl;have x5:=HZ1.out.cell 5 (v := .int .i64 ro) rfl;have y5:=HZ2.out.cell 5 (v := .int .i64 ro) rfl;have x6:=HZ1.out.cell 6 (v := .int .i64 be) rfl;have y6:=HZ2.out.cell 6 (v := .int .i64 be) rfl;have x7:=HZ1.out.cell 7 (v := .int .u32 (pe:Int)) rfl;have y7:=HZ2.out.cell 7 (v := .int .u32 (pe:Int)) rfl;have xl:=HZ1.out.lt;have yl:=HZ2.out.lt)
  | (go_at_call 20;refine (aNo _ _ lt lt _ (H3.out _ HW).1 (H3.out _ HW).2 (by have:=(aBx HL.out).1;omega) (fun r hr=>by have:=(aBx HL.out).2 r hr;omega)).mono ?_;rintro e w' ⟨rfl,hb⟩;rw [decide_eq_true rfl];replace HW:=HW.trans hb;replace HZ1:=aA0 (HZ1.out.keep hb);replace HZ2:=aA0 (HZ2.out.keep hb);clear hb;(try clear x0 x1 x2 x3 x4 x5 x6 x7 y0 y1 y2 y3 y4 y5 y6 y7 xl yl);have x0:=HZ1.out.cell 0 (v := .slice A1 lc.length k1) rfl;have y0:=HZ2.out.cell 0 (v := .slice B1 lc.length j1) rfl;have x1:=HZ1.out.cell 1 (v := .slice A2 le.length k2) rfl;have y1:=HZ2.out.cell 1 (v := .slice B2 le.length j2) rfl;have x2:=HZ1.out.cell 2 (v := .slice A3 lt.length k3) rfl;have y2:=HZ2.out.cell 2 (v := .slice B3 lt.length j3) rfl;have x3:=HZ1.out.cell 3 (v := .int .i64 st) rfl;have y3:=HZ2.out.cell 3 (v := .int .i64 st) rfl;have x4:=HZ1.out.cell 4 (v := .int .i64 mv) rfl;have y4:=HZ2.out.cell 4 (v := .int .i64 mv) rfl;have x5:=HZ1.out.cell 5 (v := .int .i64 ro) rfl;have y5:=HZ2.out.cell 5 (v := .int .i64 ro) rfl;have x6:=HZ1.out.cell 6 (v := .int .i64 be) rfl;have y6:=HZ2.out.cell 6 (v := .int .i64 be) rfl;have x7:=HZ1.out.cell 7 (v := .int .u32 (pe:Int)) rfl;have y7:=HZ2.out.cell 7 (v := .int .u32 (pe:Int)) rfl;have xl:=HZ1.out.lt;have yl:=HZ2.out.lt))
 go_ret;exact ⟨rfl,HW⟩
def aQt (p:Prg) (g:Graph) (c:aA7) (n:Int):Bool:=aFp p g&&aBl c&&decide (n<=60)&&decide (aLs p*g.ports.length*aDl g*aDl g<=20000)
theorem aQu {p:Prg} {g:Graph} {c:aA7} {n:Int} (h:aQt p g c n=true):aAw p=true/\aB3 g=true/\aBl c=true/\n<=60:=by
 unfold aQt at h;simp only [Bool.and_eq_true,decide_eq_true_eq] at h
 obtain ⟨⟨⟨h1,h2⟩,h3⟩,_⟩:=h;exact ⟨(aEj h1).1,(aEj h1).2,h2,h3⟩
theorem aKp (v1:Value) (p:Prg) (v2:Value) (g:Graph) (v3:Value) (c:aA7) (n:Int) (w:World) (h:aEm w v1 p) (h2:aAn w v2 g) (h3:aAy w v3 c):Calls prog 11 #[v1,v2,v3,.int .i64 n] w fun e w'=>e = .returned (.bool (aQt p g c n))/\Bel w w':=by
 have HPV:=aA0 (fun w' (k:Bel w w')=>h.keep k);have HGV:=aA0 (fun w' (k:Bel w w')=>h2.keep k);have HCV:=aA0 (fun w' (k:Bel w w')=>h3.keep k);obtain ⟨A1,k1,A2,k2,rfl,_,_,_,_,_,_⟩:=h;obtain ⟨A3,k3,A4,k4,rfl,_,_,_,_,_,_⟩:=h2;obtain ⟨A5,k5,rfl,_,_,_⟩:=h3;have HW:=Bel.refl ((w.alloc (.cells #[.string p.name,.slice A1 p.vars.length k1,.slice A2 p.rules.length k2] 25)).alloc (.cells #[.slice A3 g.ids.length k3,.slice A4 g.ports.length k4] 29));have hcell:=aA0 (fun w' (kk:Bel ((w.alloc (.cells #[.string p.name,.slice A1 p.vars.length k1,.slice A2 p.rules.length k2] 25)).alloc (.cells #[.slice A3 g.ids.length k3,.slice A4 g.ports.length k4] 29)) w')=>aAi kk);have HF:Hid (aQt p g c n=(aFp p g&&aBl c&&decide (n<=60)&&decide (aLs p*g.ports.length*aDl g*aDl g<=20000))):=rfl;cases hq:aFp p g with
 | false =>
  rw [hq] at HF;have HQ:=aA0 hq;clear hq;go_enter func11,ntmps11
  go_wp2_with fail
  refine aA6.start (fun w'=>w'.cell? ⟨w.heap.size,0,none⟩=some (.string p.name)/\w'.cell? ⟨w.heap.size,1,none⟩=some (.slice A1 p.vars.length k1)/\w'.cell? ⟨w.heap.size,2,none⟩=some (.slice A2 p.rules.length k2)/\w'.cell? ⟨w.heap.size+1,0,none⟩=some (.slice A3 g.ids.length k3)/\w'.cell? ⟨w.heap.size+1,1,none⟩=some (.slice A4 g.ports.length k4)/\w.heap.size+1<w'.heap.size) 26 (by kernel_rfl) ?_
  replace HW:=HW.drew;have hHeld:=hcell.out _ HW
  (refine aA6.t (v:=?_) 0 9 rfl rfl (by kernel_rfl) (fun _ _ _ h=>h) hHeld (Or.inl ⟨by rfl,?_⟩) ?_;rotate_left 1;focus (intro w' hSw;(try dsimp only at hSw);go_simp;(try with_reducible rfl);done))
  (refine aA6.t (v:=?_) 1 10 rfl rfl (by kernel_rfl) (fun _ _ _ h=>h) hHeld (Or.inl ⟨by rfl,?_⟩) ?_;rotate_left 1;focus (intro w' hSw;(try dsimp only at hSw);go_simp;(try with_reducible rfl);done))
  refine aA6.one (i:=2) (by kernel_rfl) rfl (fun K hK=>?_)
  go_simp
  go_at_call 30
  refine (aKf _ p _ g _ (HPV.out _ (aA1 HW)) (HGV.out _ (aA1 HW))).mono ?_
  rintro e w' ⟨rfl,hb⟩;rw [HQ.out];replace HW:=HW.trans hb;clear hb
  (try go_simp)
  refine hK.out _ _ (fun _=>hcell.out _ HW) ?_
  clear hK K hHeld;have hHeld:=hcell.out _ HW
  (try simp only [Act.put,List.setIfInBounds_toArray,List.set_cons_zero,List.set_cons_succ])
  (refine aA6.t (v:=?_) 3 12 rfl rfl (by kernel_rfl) (fun _ _ _ h=>h) hHeld (Or.inl ⟨by rfl,?_⟩) ?_;rotate_left 1;focus (intro w' hSw;(try dsimp only at hSw);go_simp;(try with_reducible rfl);done))
  (refine aA6.t (v:=undef) 4 13 rfl rfl (by kernel_rfl) (fun _ _ _ h=>h) hHeld (Or.inr ⟨by rfl,rfl⟩) ?_;(try simp only [Act.put,List.setIfInBounds_toArray,List.set_cons_zero,List.set_cons_succ]))
  (refine aA6.t (v:=undef) 5 14 rfl rfl (by kernel_rfl) (fun _ _ _ h=>h) hHeld (Or.inr ⟨by rfl,rfl⟩) ?_;(try simp only [Act.put,List.setIfInBounds_toArray,List.set_cons_zero,List.set_cons_succ]))
  (refine aA6.t (v:=?_) 6 15 rfl rfl (by kernel_rfl) (fun _ _ _ h=>h) hHeld (Or.inl ⟨by rfl,?_⟩) ?_;rotate_left 1;focus (intro w' hSw;(try dsimp only at hSw);go_simp;(try with_reducible rfl);done))
  (refine aA6.t (v:=?_) 7 16 rfl rfl (by kernel_rfl) (fun _ _ _ h=>h) hHeld (Or.inl ⟨by rfl,?_⟩) ?_;rotate_left 1;focus (intro w' hSw;(try dsimp only at hSw);go_simp;(try with_reducible rfl);done))
  (refine aA6.t (v:=undef) 8 17 rfl rfl (by kernel_rfl) (fun _ _ _ h=>h) hHeld (Or.inr ⟨by rfl,rfl⟩) ?_;(try simp only [Act.put,List.setIfInBounds_toArray,List.set_cons_zero,List.set_cons_succ]))
  (refine aA6.t (v:=undef) 9 18 rfl rfl (by kernel_rfl) (fun _ _ _ h=>h) hHeld (Or.inr ⟨by rfl,rfl⟩) ?_;(try simp only [Act.put,List.setIfInBounds_toArray,List.set_cons_zero,List.set_cons_succ]))
  (refine aA6.t (v:=?_) 10 19 rfl rfl (by kernel_rfl) (fun _ _ _ h=>h) hHeld (Or.inl ⟨by rfl,?_⟩) ?_;rotate_left 1;focus (intro w' hSw;(try dsimp only at hSw);go_simp;(try with_reducible rfl);done))
  (refine aA6.t (v:=?_) 11 20 rfl rfl (by kernel_rfl) (fun _ _ _ h=>h) hHeld (Or.inl ⟨by rfl,?_⟩) ?_;rotate_left 1;focus (intro w' hSw;(try dsimp only at hSw);go_simp;(try with_reducible rfl);done))
  (refine aA6.t (v:=undef) 12 21 rfl rfl (by kernel_rfl) (fun _ _ _ h=>h) hHeld (Or.inr ⟨by rfl,rfl⟩) ?_;(try simp only [Act.put,List.setIfInBounds_toArray,List.set_cons_zero,List.set_cons_succ]))
  (refine aA6.t (v:=undef) 13 22 rfl rfl (by kernel_rfl) (fun _ _ _ h=>h) hHeld (Or.inr ⟨by rfl,rfl⟩) ?_;(try simp only [Act.put,List.setIfInBounds_toArray,List.set_cons_zero,List.set_cons_succ]))
  (refine aA6.t (v:=undef) 14 23 rfl rfl (by kernel_rfl) (fun _ _ _ h=>h) hHeld (Or.inr ⟨by rfl,rfl⟩) ?_;(try simp only [Act.put,List.setIfInBounds_toArray,List.set_cons_zero,List.set_cons_succ]))
  (refine aA6.t (v:=undef) 15 24 rfl rfl (by kernel_rfl) (fun _ _ _ h=>h) hHeld (Or.inr ⟨by rfl,rfl⟩) ?_;(try simp only [Act.put,List.setIfInBounds_toArray,List.set_cons_zero,List.set_cons_succ]))
  (refine aA6.t (v:=undef) 16 25 rfl rfl (by kernel_rfl) (fun _ _ _ h=>h) hHeld (Or.inr ⟨by rfl,rfl⟩) ?_;(try simp only [Act.put,List.setIfInBounds_toArray,List.set_cons_zero,List.set_cons_succ]))
  (refine aA6.t (v:=undef) 17 26 rfl rfl (by kernel_rfl) (fun _ _ _ h=>h) hHeld (Or.inr ⟨by rfl,rfl⟩) ?_;(try simp only [Act.put,List.setIfInBounds_toArray,List.set_cons_zero,List.set_cons_succ]))
  (refine aA6.t (v:=undef) 18 27 rfl rfl (by kernel_rfl) (fun _ _ _ h=>h) hHeld (Or.inr ⟨by rfl,rfl⟩) ?_;(try simp only [Act.put,List.setIfInBounds_toArray,List.set_cons_zero,List.set_cons_succ]))
  (refine aA6.t (v:=undef) 19 28 rfl rfl (by kernel_rfl) (fun _ _ _ h=>h) hHeld (Or.inr ⟨by rfl,rfl⟩) ?_;(try simp only [Act.put,List.setIfInBounds_toArray,List.set_cons_zero,List.set_cons_succ]))
  (refine aA6.t (v:=undef) 20 29 rfl rfl (by kernel_rfl) (fun _ _ _ h=>h) hHeld (Or.inr ⟨by rfl,rfl⟩) ?_;(try simp only [Act.put,List.setIfInBounds_toArray,List.set_cons_zero,List.set_cons_succ]))
  (refine aA6.t (v:=undef) 21 30 rfl rfl (by kernel_rfl) (fun _ _ _ h=>h) hHeld (Or.inr ⟨by rfl,rfl⟩) ?_;(try simp only [Act.put,List.setIfInBounds_toArray,List.set_cons_zero,List.set_cons_succ]))
  (refine aA6.t (v:=undef) 22 31 rfl rfl (by kernel_rfl) (fun _ _ _ h=>h) hHeld (Or.inr ⟨by rfl,rfl⟩) ?_;(try simp only [Act.put,List.setIfInBounds_toArray,List.set_cons_zero,List.set_cons_succ]))
  (refine aA6.t (v:=undef) 23 32 rfl rfl (by kernel_rfl) (fun _ _ _ h=>h) hHeld (Or.inr ⟨by rfl,rfl⟩) ?_;(try simp only [Act.put,List.setIfInBounds_toArray,List.set_cons_zero,List.set_cons_succ]))
  (refine aA6.t (v:=undef) 24 33 rfl rfl (by kernel_rfl) (fun _ _ _ h=>h) hHeld (Or.inr ⟨by rfl,rfl⟩) ?_;(try simp only [Act.put,List.setIfInBounds_toArray,List.set_cons_zero,List.set_cons_succ]))
  (refine aA6.t (v:=?_) 25 34 rfl rfl (by kernel_rfl) (fun _ _ _ h=>h) hHeld (Or.inl ⟨by rfl,?_⟩) ?_;rotate_left 1;focus (intro w' hSw;(try dsimp only at hSw);go_simp;(try with_reducible rfl);done))
  refine aA6.one (i:=26) (by kernel_rfl) rfl (fun K hK=>?_)
  go_simp
  refine hK.out _ _ (fun h=>absurd rfl h) ?_
  clear hK K hHeld;refine aA6.done (by kernel_rfl) ?_ _
  go_wp2_with fail
  go_ret;exact ⟨aA2 (by rw [HF.out];rfl),aA1 HW⟩
 | true =>
  rw [hq] at HF;have HQ:=aA0 hq;cases hc:aBl c with
  | false =>
   rw [hc] at HF;have HC:=aA0 hc;clear hq hc;go_enter func11,ntmps11
   go_wp2_with fail
   refine aA6.start (fun w'=>w'.cell? ⟨w.heap.size,0,none⟩=some (.string p.name)/\w'.cell? ⟨w.heap.size,1,none⟩=some (.slice A1 p.vars.length k1)/\w'.cell? ⟨w.heap.size,2,none⟩=some (.slice A2 p.rules.length k2)/\w'.cell? ⟨w.heap.size+1,0,none⟩=some (.slice A3 g.ids.length k3)/\w'.cell? ⟨w.heap.size+1,1,none⟩=some (.slice A4 g.ports.length k4)/\w.heap.size+1<w'.heap.size) 26 (by kernel_rfl) ?_
   replace HW:=HW.drew;have hHeld:=hcell.out _ HW
   (refine aA6.t (v:=?_) 0 9 rfl rfl (by kernel_rfl) (fun _ _ _ h=>h) hHeld (Or.inl ⟨by rfl,?_⟩) ?_;rotate_left 1;focus (intro w' hSw;(try dsimp only at hSw);go_simp;(try with_reducible rfl);done))
   (refine aA6.t (v:=?_) 1 10 rfl rfl (by kernel_rfl) (fun _ _ _ h=>h) hHeld (Or.inl ⟨by rfl,?_⟩) ?_;rotate_left 1;focus (intro w' hSw;(try dsimp only at hSw);go_simp;(try with_reducible rfl);done))
   refine aA6.one (i:=2) (by kernel_rfl) rfl (fun K hK=>?_)
   go_simp
   go_at_call 30
   refine (aKf _ p _ g _ (HPV.out _ (aA1 HW)) (HGV.out _ (aA1 HW))).mono ?_
   rintro e w' ⟨rfl,hb⟩;rw [HQ.out];replace HW:=HW.trans hb;clear hb
   (try go_simp)
   refine hK.out _ _ (fun _=>hcell.out _ HW) ?_
   clear hK K hHeld;have hHeld:=hcell.out _ HW
   (try simp only [Act.put,List.setIfInBounds_toArray,List.set_cons_zero,List.set_cons_succ])
   (refine aA6.t (v:=?_) 3 12 rfl rfl (by kernel_rfl) (fun _ _ _ h=>h) hHeld (Or.inl ⟨by rfl,?_⟩) ?_;rotate_left 1;focus (intro w' hSw;(try dsimp only at hSw);go_simp;(try with_reducible rfl);done))
   (refine aA6.t (v:=?_) 4 13 rfl rfl (by kernel_rfl) (fun _ _ _ h=>h) hHeld (Or.inl ⟨by rfl,?_⟩) ?_;rotate_left 1;focus (intro w' hSw;(try dsimp only at hSw);go_simp;(try with_reducible rfl);done))
   refine aA6.one (i:=5) (by kernel_rfl) rfl (fun K hK=>?_)
   go_simp
   go_at_call 31
   refine (aFn _ c _ (HCV.out _ (aA1 HW))).mono ?_
   rintro e w' ⟨rfl,rfl⟩;rw [HC.out]
   (try go_simp)
   refine hK.out _ _ (fun _=>hcell.out _ HW) ?_
   clear hK K hHeld;have hHeld:=hcell.out _ HW
   (try simp only [Act.put,List.setIfInBounds_toArray,List.set_cons_zero,List.set_cons_succ])
   (refine aA6.t (v:=?_) 6 15 rfl rfl (by kernel_rfl) (fun _ _ _ h=>h) hHeld (Or.inl ⟨by rfl,?_⟩) ?_;rotate_left 1;focus (intro w' hSw;(try dsimp only at hSw);go_simp;(try with_reducible rfl);done))
   (refine aA6.t (v:=?_) 7 16 rfl rfl (by kernel_rfl) (fun _ _ _ h=>h) hHeld (Or.inl ⟨by rfl,?_⟩) ?_;rotate_left 1;focus (intro w' hSw;(try dsimp only at hSw);go_simp;(try with_reducible rfl);done))
   (refine aA6.t (v:=undef) 8 17 rfl rfl (by kernel_rfl) (fun _ _ _ h=>h) hHeld (Or.inr ⟨by rfl,rfl⟩) ?_;(try simp only [Act.put,List.setIfInBounds_toArray,List.set_cons_zero,List.set_cons_succ]))
   (refine aA6.t (v:=undef) 9 18 rfl rfl (by kernel_rfl) (fun _ _ _ h=>h) hHeld (Or.inr ⟨by rfl,rfl⟩) ?_;(try simp only [Act.put,List.setIfInBounds_toArray,List.set_cons_zero,List.set_cons_succ]))
   (refine aA6.t (v:=?_) 10 19 rfl rfl (by kernel_rfl) (fun _ _ _ h=>h) hHeld (Or.inl ⟨by rfl,?_⟩) ?_;rotate_left 1;focus (intro w' hSw;(try dsimp only at hSw);go_simp;(try with_reducible rfl);done))
   (refine aA6.t (v:=?_) 11 20 rfl rfl (by kernel_rfl) (fun _ _ _ h=>h) hHeld (Or.inl ⟨by rfl,?_⟩) ?_;rotate_left 1;focus (intro w' hSw;(try dsimp only at hSw);go_simp;(try with_reducible rfl);done))
   (refine aA6.t (v:=undef) 12 21 rfl rfl (by kernel_rfl) (fun _ _ _ h=>h) hHeld (Or.inr ⟨by rfl,rfl⟩) ?_;(try simp only [Act.put,List.setIfInBounds_toArray,List.set_cons_zero,List.set_cons_succ]))
   (refine aA6.t (v:=undef) 13 22 rfl rfl (by kernel_rfl) (fun _ _ _ h=>h) hHeld (Or.inr ⟨by rfl,rfl⟩) ?_;(try simp only [Act.put,List.setIfInBounds_toArray,List.set_cons_zero,List.set_cons_succ]))
   (refine aA6.t (v:=undef) 14 23 rfl rfl (by kernel_rfl) (fun _ _ _ h=>h) hHeld (Or.inr ⟨by rfl,rfl⟩) ?_;(try simp only [Act.put,List.setIfInBounds_toArray,List.set_cons_zero,List.set_cons_succ]))
   (refine aA6.t (v:=undef) 15 24 rfl rfl (by kernel_rfl) (fun _ _ _ h=>h) hHeld (Or.inr ⟨by rfl,rfl⟩) ?_;(try simp only [Act.put,List.setIfInBounds_toArray,List.set_cons_zero,List.set_cons_succ]))
   (refine aA6.t (v:=undef) 16 25 rfl rfl (by kernel_rfl) (fun _ _ _ h=>h) hHeld (Or.inr ⟨by rfl,rfl⟩) ?_;(try simp only [Act.put,List.setIfInBounds_toArray,List.set_cons_zero,List.set_cons_succ]))
   (refine aA6.t (v:=undef) 17 26 rfl rfl (by kernel_rfl) (fun _ _ _ h=>h) hHeld (Or.inr ⟨by rfl,rfl⟩) ?_;(try simp only [Act.put,List.setIfInBounds_toArray,List.set_cons_zero,List.set_cons_succ]))
   (refine aA6.t (v:=undef) 18 27 rfl rfl (by kernel_rfl) (fun _ _ _ h=>h) hHeld (Or.inr ⟨by rfl,rfl⟩) ?_;(try simp only [Act.put,List.setIfInBounds_toArray,List.set_cons_zero,List.set_cons_succ]))
   (refine aA6.t (v:=undef) 19 28 rfl rfl (by kernel_rfl) (fun _ _ _ h=>h) hHeld (Or.inr ⟨by rfl,rfl⟩) ?_;(try simp only [Act.put,List.setIfInBounds_toArray,List.set_cons_zero,List.set_cons_succ]))
   (refine aA6.t (v:=undef) 20 29 rfl rfl (by kernel_rfl) (fun _ _ _ h=>h) hHeld (Or.inr ⟨by rfl,rfl⟩) ?_;(try simp only [Act.put,List.setIfInBounds_toArray,List.set_cons_zero,List.set_cons_succ]))
   (refine aA6.t (v:=undef) 21 30 rfl rfl (by kernel_rfl) (fun _ _ _ h=>h) hHeld (Or.inr ⟨by rfl,rfl⟩) ?_;(try simp only [Act.put,List.setIfInBounds_toArray,List.set_cons_zero,List.set_cons_succ]))
   (refine aA6.t (v:=undef) 22 31 rfl rfl (by kernel_rfl) (fun _ _ _ h=>h) hHeld (Or.inr ⟨by rfl,rfl⟩) ?_;(try simp only [Act.put,List.setIfInBounds_toArray,List.set_cons_zero,List.set_cons_succ]))
   (refine aA6.t (v:=undef) 23 32 rfl rfl (by kernel_rfl) (fun _ _ _ h=>h) hHeld (Or.inr ⟨by rfl,rfl⟩) ?_;(try simp only [Act.put,List.setIfInBounds_toArray,List.set_cons_zero,List.set_cons_succ]))
   (refine aA6.t (v:=undef) 24 33 rfl rfl (by kernel_rfl) (fun _ _ _ h=>h) hHeld (Or.inr ⟨by rfl,rfl⟩) ?_;(try simp only [Act.put,List.setIfInBounds_toArray,List.set_cons_zero,List.set_cons_succ]))
   (refine aA6.t (v:=?_) 25 34 rfl rfl (by kernel_rfl) (fun _ _ _ h=>h) hHeld (Or.inl ⟨by rfl,?_⟩) ?_;rotate_left 1;focus (intro w' hSw;(try dsimp only at hSw);go_simp;(try with_reducible rfl);done))
   refine aA6.one (i:=26) (by kernel_rfl) rfl (fun K hK=>?_)
   go_simp
   refine hK.out _ _ (fun h=>absurd rfl h) ?_
   clear hK K hHeld;refine aA6.done (by kernel_rfl) ?_ _
   go_wp2_with fail
   go_ret;exact ⟨aA2 (by rw [HF.out];rfl),aA1 HW⟩
  | true =>
   rw [hc] at HF;have HC:=aA0 hc
   by_cases hn:n<=60
   .have dn:decide (n<=60)=true:=decide_eq_true hn
    rw [dn] at HF;have hT:=aS5 (aEj hq).1;have hD:=aMk (aEj hq).2;have hN:=(aD5 (aEj hq).2).2.1;have HLP:=aA0 (aEj hq).1;have w1:=aIq hT hN (by decide)
    have w2:=aIq (Nat.mul_le_mul hT hN) hD.2 (by decide)
    have w3:=aIq (Nat.mul_le_mul (Nat.mul_le_mul hT hN) hD.2) hD.2 (by decide)
    have W2:=aA0 w2;have W3:=aA0 w3;rw [<- Int.natCast_mul] at W2 W3;clear w2 w3 hT hD hN hq hc hn;go_enter func11,ntmps11
    go_wp2_with fail
    replace HW:=HW.drew
    go_region_held3 (fun w'=>w'.cell? ⟨w.heap.size,0,none⟩=some (.string p.name)/\w'.cell? ⟨w.heap.size,1,none⟩=some (.slice A1 p.vars.length k1)/\w'.cell? ⟨w.heap.size,2,none⟩=some (.slice A2 p.rules.length k2)/\w'.cell? ⟨w.heap.size+1,0,none⟩=some (.slice A3 g.ids.length k3)/\w'.cell? ⟨w.heap.size+1,1,none⟩=some (.slice A4 g.ports.length k4)/\w.heap.size+1<w'.heap.size) (exact aAi HW) (first
     | (go_simp;go_at_call 30;refine (aKf _ p _ g _ (HPV.out _ (aA1 HW)) (HGV.out _ (aA1 HW))).mono ?_;rintro e w' ⟨rfl,hb⟩;rw [HQ.out];replace HW:=HW.trans hb;clear hb)
     | (go_simp;go_at_call 31;refine (aFn _ c _ (HCV.out _ (aA1 HW))).mono ?_;rintro e w' ⟨rfl,rfl⟩;rw [HC.out])
     | (go_simp;go_at_call 32;refine (aS7 _ p _ (HPV.out _ (aA1 HW)) HLP.out).mono ?_;rintro e w4 ⟨rfl,hb⟩;replace HW:=HW.trans hb;clear hb)
     | (go_simp;go_at_call 33;refine (aMl _ g _ (HGV.out _ (aA1 HW))).mono ?_;rintro e w4 ⟨rfl,hb⟩;replace HW:=HW.trans hb;clear hb))
    go_wp2_with fail
    go_ret;refine ⟨aA2 ?_,aA1 HW⟩
    rw [HF.out,Bool.eq_iff_iff];simp only [decide_eq_true_eq,<- Int.natCast_mul,Bool.true_and]
    rw [W2.out,<- Int.natCast_mul,W3.out];omega
   .have dn:decide (n<=60)=false:=decide_eq_false hn
    rw [dn] at HF;clear hq hc hn;go_enter func11,ntmps11
    go_wp2_with fail
    refine aA6.start (fun w'=>w'.cell? ⟨w.heap.size,0,none⟩=some (.string p.name)/\w'.cell? ⟨w.heap.size,1,none⟩=some (.slice A1 p.vars.length k1)/\w'.cell? ⟨w.heap.size,2,none⟩=some (.slice A2 p.rules.length k2)/\w'.cell? ⟨w.heap.size+1,0,none⟩=some (.slice A3 g.ids.length k3)/\w'.cell? ⟨w.heap.size+1,1,none⟩=some (.slice A4 g.ports.length k4)/\w.heap.size+1<w'.heap.size) 26 (by kernel_rfl) ?_
    replace HW:=HW.drew;have hHeld:=hcell.out _ HW
    (refine aA6.t (v:=?_) 0 9 rfl rfl (by kernel_rfl) (fun _ _ _ h=>h) hHeld (Or.inl ⟨by rfl,?_⟩) ?_;rotate_left 1;focus (intro w' hSw;(try dsimp only at hSw);go_simp;(try with_reducible rfl);done))
    (refine aA6.t (v:=?_) 1 10 rfl rfl (by kernel_rfl) (fun _ _ _ h=>h) hHeld (Or.inl ⟨by rfl,?_⟩) ?_;rotate_left 1;focus (intro w' hSw;(try dsimp only at hSw);go_simp;(try with_reducible rfl);done))
    refine aA6.one (i:=2) (by kernel_rfl) rfl (fun K hK=>?_)
    go_simp
    go_at_call 30
    refine (aKf _ p _ g _ (HPV.out _ (aA1 HW)) (HGV.out _ (aA1 HW))).mono ?_
    rintro e w' ⟨rfl,hb⟩;rw [HQ.out];replace HW:=HW.trans hb;clear hb
    (try go_simp)
    refine hK.out _ _ (fun _=>hcell.out _ HW) ?_
    clear hK K hHeld;have hHeld:=hcell.out _ HW
    (try simp only [Act.put,List.setIfInBounds_toArray,List.set_cons_zero,List.set_cons_succ])
    (refine aA6.t (v:=?_) 3 12 rfl rfl (by kernel_rfl) (fun _ _ _ h=>h) hHeld (Or.inl ⟨by rfl,?_⟩) ?_;rotate_left 1;focus (intro w' hSw;(try dsimp only at hSw);go_simp;(try with_reducible rfl);done))
    (refine aA6.t (v:=?_) 4 13 rfl rfl (by kernel_rfl) (fun _ _ _ h=>h) hHeld (Or.inl ⟨by rfl,?_⟩) ?_;rotate_left 1;focus (intro w' hSw;(try dsimp only at hSw);go_simp;(try with_reducible rfl);done))
    refine aA6.one (i:=5) (by kernel_rfl) rfl (fun K hK=>?_)
    go_simp
    go_at_call 31
    refine (aFn _ c _ (HCV.out _ (aA1 HW))).mono ?_
    rintro e w' ⟨rfl,rfl⟩;rw [HC.out]
    (try go_simp)
    refine hK.out _ _ (fun _=>hcell.out _ HW) ?_
    clear hK K hHeld;have hHeld:=hcell.out _ HW
    (try simp only [Act.put,List.setIfInBounds_toArray,List.set_cons_zero,List.set_cons_succ])
    (refine aA6.t (v:=?_) 6 15 rfl rfl (by kernel_rfl) (fun _ _ _ h=>h) hHeld (Or.inl ⟨by rfl,?_⟩) ?_;rotate_left 1;focus (intro w' hSw;(try dsimp only at hSw);go_simp;(try with_reducible rfl);done))
    (refine aA6.t (v:=?_) 7 16 rfl rfl (by kernel_rfl) (fun _ _ _ h=>h) hHeld (Or.inl ⟨by rfl,?_⟩) ?_;rotate_left 1;focus (intro w' hSw;(try dsimp only at hSw);go_simp;(try with_reducible rfl);done))
    (refine aA6.t (v:=?_) 8 17 rfl rfl (by kernel_rfl) (fun _ _ _ h=>h) hHeld (Or.inl ⟨by rfl,?_⟩) ?_;rotate_left 1;focus (intro w' hSw;(try dsimp only at hSw);go_simp;(try with_reducible rfl);done))
    (refine aA6.t (v:=?_) 9 18 rfl rfl (by kernel_rfl) (fun _ _ _ h=>h) hHeld (Or.inl ⟨by rfl,?_⟩) ?_;rotate_left 1;focus (intro w' hSw;(try dsimp only at hSw);go_simp;(try with_reducible rfl);done))
    (refine aA6.t (v:=?_) 10 19 rfl rfl (by kernel_rfl) (fun _ _ _ h=>h) hHeld (Or.inl ⟨by rfl,?_⟩) ?_;rotate_left 1;focus (intro w' hSw;(try dsimp only at hSw);go_simp;(try with_reducible rfl);done))
    (refine aA6.t (v:=?_) 11 20 rfl rfl (by kernel_rfl) (fun _ _ _ h=>h) hHeld (Or.inl ⟨by rfl,?_⟩) ?_;rotate_left 1;focus (intro w' hSw;(try dsimp only at hSw);go_simp;(try with_reducible rfl);done))
    (refine aA6.t (v:=undef) 12 21 rfl rfl (by kernel_rfl) (fun _ _ _ h=>h) hHeld (Or.inr ⟨by rfl,rfl⟩) ?_;(try simp only [Act.put,List.setIfInBounds_toArray,List.set_cons_zero,List.set_cons_succ]))
    (refine aA6.t (v:=undef) 13 22 rfl rfl (by kernel_rfl) (fun _ _ _ h=>h) hHeld (Or.inr ⟨by rfl,rfl⟩) ?_;(try simp only [Act.put,List.setIfInBounds_toArray,List.set_cons_zero,List.set_cons_succ]))
    (refine aA6.t (v:=undef) 14 23 rfl rfl (by kernel_rfl) (fun _ _ _ h=>h) hHeld (Or.inr ⟨by rfl,rfl⟩) ?_;(try simp only [Act.put,List.setIfInBounds_toArray,List.set_cons_zero,List.set_cons_succ]))
    (refine aA6.t (v:=undef) 15 24 rfl rfl (by kernel_rfl) (fun _ _ _ h=>h) hHeld (Or.inr ⟨by rfl,rfl⟩) ?_;(try simp only [Act.put,List.setIfInBounds_toArray,List.set_cons_zero,List.set_cons_succ]))
    (refine aA6.t (v:=undef) 16 25 rfl rfl (by kernel_rfl) (fun _ _ _ h=>h) hHeld (Or.inr ⟨by rfl,rfl⟩) ?_;(try simp only [Act.put,List.setIfInBounds_toArray,List.set_cons_zero,List.set_cons_succ]))
    (refine aA6.t (v:=undef) 17 26 rfl rfl (by kernel_rfl) (fun _ _ _ h=>h) hHeld (Or.inr ⟨by rfl,rfl⟩) ?_;(try simp only [Act.put,List.setIfInBounds_toArray,List.set_cons_zero,List.set_cons_succ]))
    (refine aA6.t (v:=undef) 18 27 rfl rfl (by kernel_rfl) (fun _ _ _ h=>h) hHeld (Or.inr ⟨by rfl,rfl⟩) ?_;(try simp only [Act.put,List.setIfInBounds_toArray,List.set_cons_zero,List.set_cons_succ]))
    (refine aA6.t (v:=undef) 19 28 rfl rfl (by kernel_rfl) (fun _ _ _ h=>h) hHeld (Or.inr ⟨by rfl,rfl⟩) ?_;(try simp only [Act.put,List.setIfInBounds_toArray,List.set_cons_zero,List.set_cons_succ]))
    (refine aA6.t (v:=undef) 20 29 rfl rfl (by kernel_rfl) (fun _ _ _ h=>h) hHeld (Or.inr ⟨by rfl,rfl⟩) ?_;(try simp only [Act.put,List.setIfInBounds_toArray,List.set_cons_zero,List.set_cons_succ]))
    (refine aA6.t (v:=undef) 21 30 rfl rfl (by kernel_rfl) (fun _ _ _ h=>h) hHeld (Or.inr ⟨by rfl,rfl⟩) ?_;(try simp only [Act.put,List.setIfInBounds_toArray,List.set_cons_zero,List.set_cons_succ]))
    (refine aA6.t (v:=undef) 22 31 rfl rfl (by kernel_rfl) (fun _ _ _ h=>h) hHeld (Or.inr ⟨by rfl,rfl⟩) ?_;(try simp only [Act.put,List.setIfInBounds_toArray,List.set_cons_zero,List.set_cons_succ]))
    (refine aA6.t (v:=undef) 23 32 rfl rfl (by kernel_rfl) (fun _ _ _ h=>h) hHeld (Or.inr ⟨by rfl,rfl⟩) ?_;(try simp only [Act.put,List.setIfInBounds_toArray,List.set_cons_zero,List.set_cons_succ]))
    (refine aA6.t (v:=undef) 24 33 rfl rfl (by kernel_rfl) (fun _ _ _ h=>h) hHeld (Or.inr ⟨by rfl,rfl⟩) ?_;(try simp only [Act.put,List.setIfInBounds_toArray,List.set_cons_zero,List.set_cons_succ]))
    (refine aA6.t (v:=?_) 25 34 rfl rfl (by kernel_rfl) (fun _ _ _ h=>h) hHeld (Or.inl ⟨by rfl,?_⟩) ?_;rotate_left 1;focus (intro w' hSw;(try dsimp only at hSw);go_simp;(try with_reducible rfl);done))
    refine aA6.one (i:=26) (by kernel_rfl) rfl (fun K hK=>?_)
    go_simp
    refine hK.out _ _ (fun h=>absurd rfl h) ?_
    clear hK K hHeld;refine aA6.done (by kernel_rfl) ?_ _
    go_wp2_with fail
    go_ret;exact ⟨aA2 (by rw [HF.out];rfl),aA1 HW⟩
end Go.Proofs.YtdcjnhoabbdanaaGreatDoor

