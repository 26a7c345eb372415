/- Merged. -/
import Derived.Test.YtmoebklkkjbigaaGreatDoorZ30
set_option linter.unusedSimpArgs false
set_option linter.unnecessarySimpa false
set_option linter.unusedVariables false
set_option maxRecDepth 100000
set_option maxHeartbeats 4000000
open Go.Proofs.Tryz

namespace Go.Proofs.YtmoebklkkjbigaaGreatDoor
open Go.RowKit
theorem bFi {w:World} {B S A:Nat} {t:TypeId} (h:Blk w B #[.int .u32 (S:Int),.int .u32 (A:Int)] t):aBw w (some ⟨B,0,none⟩) 2 [S,A]:=by
 refine ⟨rfl,fun i x hx=>⟨B,0,rfl,h.lt,?_⟩⟩
 match i,hx with
 | 0, hx => obtain rfl : S = x := by simpa using hx
            exact h.cell 0 rfl
 | 1, hx => obtain rfl : A = x := by simpa using hx
            exact h.cell 1 rfl
 | i+2,hx=>simp at hx
theorem bIr {w:World} {B S:Nat} {t:TypeId} (h:Blk w B #[.int .u32 (S:Int)] t):aBw w (some ⟨B,0,none⟩) 1 [S]:=by
 refine ⟨rfl,fun i x hx=>⟨B,0,rfl,h.lt,?_⟩⟩
 match i,hx with
 | 0, hx => obtain rfl : S = x := by simpa using hx
            exact h.cell 0 rfl
 | i+1,hx=>simp at hx
theorem bFg {w:World} {B S:Nat} {t:TypeId} (h:w.heap.size=B):aBw (w.alloc (.cells #[.int .u32 (S:Int)] t)) (some ⟨B,0,none⟩) [S].length [S]:=by
 subst h;exact bIr (Blk.new w _ _)
theorem bB5 {w:World} {B S A:Nat} {t:TypeId} (h:w.heap.size=B):aBw (w.alloc (.cells #[.int .u32 (S:Int),.int .u32 (A:Int)] t)) (some ⟨B,0,none⟩) [S,A].length [S,A]:=by
 subst h;exact bFi (Blk.new w _ _)
theorem aTv (k:Cnt) (n:Nat) (w:World) (h:OkK k n) (hn:n<=120) :
  Calls prog 159 #[aWt k] w fun e w'=>e = .returned (.bool true)/\Bel w w':=by
 obtain ⟨st,mv,ro,be,pe⟩:=k;obtain ⟨h1,h2,h3,h4,h5,h6,h7,h8⟩:=h;dsimp only at h1 h2 h3 h4 h5 h6 h7 h8;have s0:0<=st:=by omega
 have s1:st<=120:=by omega
 have d1:decide (st<0)=false:=by simp;omega
 have d2:decide (4096<st)=false:=by simp;omega
 have d3:decide (ro<0)=false:=by simp;omega
 have d4:decide (be<ro)=false:=by simp;omega
 have d5:decide (st<be)=false:=by simp;omega
 have d6:decide (ro+1<be)=false:=by simp;omega
 have d7:decide (st<=mv)=true:=by simp;omega
 have d8:decide (mv<=24*st)=true:=by simp;omega
 have r1:ro<=120:=by omega
 have HP:Hid (∀ s∈[pe],s<16777216):=fun s hs=>(List.mem_singleton.1 hs) ▸ h8;clear h5 h6 h7 h8 h2 h3 h1;have HW:=aA0 (Bel.refl (w.alloc (.cells #[.int .i64 st,.int .i64 mv,.int .i64 ro,.int .i64 be,.int .u32 (pe:Int)] 68)));unfold aWt;dsimp only;go_enter func159,ntmps159
 go_wp2_with (go_at_call 160;refine (aIo _ _ [pe] _ (bFg (by simp)) HP.out (by simp)).mono ?_;rintro e w' ⟨rfl,hb⟩)
 go_ret;exact ⟨rfl,aA6 (((HW.out.alloc _)).trans hb)⟩
theorem aZn (k:Cnt) (n S A:Nat) (w:World) (h:OkK k n) (hn:n<=120) (h0:S≠0) (hS:S<16777216) (hA:A<16777216) :
  Calls prog 136 #[aWt k,.int .u32 (S:Int),.int .u32 (A:Int)] w fun e w'=>e = .returned (.tuple #[aWt (bGl k S A),.int .i64 0])/\Bel w w':=by
 have HK:=aA0 h;have HP:Hid (∀ s∈[S,A],s<16777216):=fun s hs=>(List.mem_cons.1 hs).elim (fun e=>e ▸ hS) fun e=>(List.mem_singleton.1 e) ▸ hA;obtain ⟨st,mv,ro,be,pe⟩:=k;obtain ⟨h1,h2,h3,h4,h5,h6,h7,h8⟩:=h;dsimp only at h1 h2 h3 h4 h5 h6 h7 h8;have z0:((S:Int)==0)=false:=by simp;omega
 have z0':(S==0)=false:=by simp;omega
 have d1:(st==4096)=false:=by simp;omega
 have hel:=aJd (S:=S) (n:=24) (by decide) hS
 have HF:Hid (bGl ⟨st,mv,ro,be,pe⟩ S A=if aCg pe S&&&A=0 then ⟨st+1,mv+(aAd S).length,ro+1,ro+1,A⟩ else ⟨st+1,mv+(aAd S).length,ro,ro+1,aCg pe S&&&A⟩):=rfl
 have HS32:Hid (S<4294967296):=by show _<_;omega
 have hbn:=aEl pe S;have hba:=aCs (S:=aCg pe S) (T:=A) (aPm _ _) (by omega)
 generalize aCg pe S=D at *;have HB0:Hid (Blk ((w.alloc (.cells #[.int .i64 st,.int .i64 mv,.int .i64 ro,.int .i64 be,.int .u32 (pe:Int)] 68)).alloc (.cells #[.int .i64 0,.int .i64 0,.int .i64 0,.int .i64 0,.int .u32 0] 68)) w.heap.size #[.int .i64 st,.int .i64 mv,.int .i64 ro,.int .i64 be,.int .u32 (pe:Int)] 68):=(Blk.new _ _ _).alloc _
 have HB1:Hid (Blk ((w.alloc (.cells #[.int .i64 st,.int .i64 mv,.int .i64 ro,.int .i64 be,.int .u32 (pe:Int)] 68)).alloc (.cells #[.int .i64 0,.int .i64 0,.int .i64 0,.int .i64 0,.int .u32 0] 68)) (w.heap.size+1) #[.int .i64 0,.int .i64 0,.int .i64 0,.int .i64 0,.int .u32 0] 68):=by
  have:=Blk.new (w.alloc (.cells #[.int .i64 st,.int .i64 mv,.int .i64 ro,.int .i64 be,.int .u32 (pe:Int)] 68)) #[.int .i64 0,.int .i64 0,.int .i64 0,.int .i64 0,.int .u32 0] 68;rw [World.size_alloc] at this;exact this
 have HW:=Bel.refl ((w.alloc (.cells #[.int .i64 st,.int .i64 mv,.int .i64 ro,.int .i64 be,.int .u32 (pe:Int)] 68)).alloc (.cells #[.int .i64 0,.int .i64 0,.int .i64 0,.int .i64 0,.int .u32 0] 68));have HE:Hid (Bel w ((w.alloc (.cells #[.int .i64 st,.int .i64 mv,.int .i64 ro,.int .i64 be,.int .u32 (pe:Int)] 68)).alloc (.cells #[.int .i64 0,.int .i64 0,.int .i64 0,.int .i64 0,.int .u32 0] 68))):=((Bel.refl w).alloc _).alloc _;have s0:0<=st:=by omega
 have s1:st<=120:=by omega
 have m1:0<=mv:=by omega
 have m2:mv<=3000:=by omega
 have r1:ro<=120:=by omega
 clear h0 hS hA h8 h1 h2 h3 h5 h6 h7;unfold aWt;dsimp only;go_enter func136,ntmps136
 go_wp2_with (first
  | (go_at_call 159;refine (aTv ⟨st,mv,ro,be,pe⟩ n _ HK.out hn).mono ?_;rintro e w1 ⟨rfl,hb1⟩;replace HW:=HW.trans hb1)
  | (go_at_call 160;refine (aIo _ _ [S,A] _ (bB5 (by simp)) HP.out (by simp)).mono ?_;rintro e w2 ⟨rfl,hb2⟩;replace HW:=(HW.alloc _).trans hb2;replace HB0:=aA0 (Blk.keep HB0.out HW);replace HB1:=aA0 (Blk.keep HB1.out HW);have c0:=HB0.out.cell 0 (v := .int .i64 st) rfl;have c1:=HB0.out.cell 1 (v := .int .i64 mv) rfl;have c2:=HB0.out.cell 2 (v := .int .i64 ro) rfl;have c3:=HB0.out.cell 3 (v := .int .i64 be) rfl;have c4:=HB0.out.cell 4 (v := .int .u32 (pe:Int)) rfl;have f0:=HB0.out.frozen 0;have lb:=HB0.out.lt))
 have HA:Hid (Blk (w2.setCell ⟨w.heap.size,0,none⟩ (.int .i64 (st+1))) w.heap.size #[.int .i64 (st+1),.int .i64 mv,.int .i64 ro,.int .i64 be,.int .u32 (pe:Int)] 68):=HB0.out.set 0 _;have HZ:Hid (Blk (w2.setCell ⟨w.heap.size,0,none⟩ (.int .i64 (st+1))) (w.heap.size+1) #[.int .i64 0,.int .i64 0,.int .i64 0,.int .i64 0,.int .u32 0] 68):=HB1.out.other (by simp) _
 have HL:Hid (Bel w (w2.setCell ⟨w.heap.size,0,none⟩ (.int .i64 (st+1)))):=(HE.out.trans HW).setCell (Nat.le_refl _) _;clear c0 c1 c2 c3 c4 f0 lb HB0 HB1;generalize w2.setCell ⟨w.heap.size,0,none⟩ (.int .i64 (st+1))=W at *;refine aA4.start (fun w'=>w'.cell? ⟨w.heap.size,1,none⟩=some (.int .i64 mv)/\w.heap.size<w'.heap.size) 6 (by kernel_rfl) ?_
 have hHeld:W.drew.cell? ⟨w.heap.size,1,none⟩=some (.int .i64 mv)/\w.heap.size<W.drew.heap.size:=⟨HA.out.cell 1 rfl,HA.out.lt⟩
 (refine aA4.u (v:=?_) 0 30 rfl hHeld ?_ ?_;rotate_left 1;focus (intro w' hSw;(try dsimp only at hSw);go_simp;(try with_reducible rfl);done))
 (refine aA4.u (v:=?_) 1 31 rfl hHeld ?_ ?_;rotate_left 1;focus (intro w' hSw;(try dsimp only at hSw);go_simp;(try with_reducible rfl);done))
 (refine aA4.u (v:=?_) 2 32 rfl hHeld ?_ ?_;rotate_left 1;focus (intro w' hSw;(try dsimp only at hSw);go_simp;(try with_reducible rfl);done))
 refine aA4.one (i:=3) (by kernel_rfl) rfl (fun K hK=>?_)
 go_simp
 go_at_call 116
 refine (aPt S _ HS32.out).mono ?_
 rintro e w3 ⟨rfl,hb3⟩
 (try go_simp)
 have hb3':Bel W w3:=(Bel.refl W).drew.trans hb3;replace HA:=aA0 (HA.out.keep hb3');replace HZ:=aA0 (HZ.out.keep hb3');replace HL:=aA0 (HL.out.trans hb3');refine hK.out _ _ (fun _=>⟨HA.out.cell 1 rfl,HA.out.lt⟩) ?_
 clear hK K hHeld hb3 hb3';have hHeld:w3.cell? ⟨w.heap.size,1,none⟩=some (.int .i64 mv)/\w.heap.size<w3.heap.size:=⟨HA.out.cell 1 rfl,HA.out.lt⟩
 (try simp only [Act.put,List.setIfInBounds_toArray,List.set_cons_zero,List.set_cons_succ])
 (refine aA4.u (v:=?_) 4 34 rfl hHeld ?_ ?_;rotate_left 1;focus (intro w' hSw;(try dsimp only at hSw);go_simp;(try with_reducible rfl);done))
 (refine aA4.u (v:=?_) 5 35 rfl hHeld ?_ ?_;rotate_left 1;focus (intro w' hSw;(try dsimp only at hSw);go_simp;(try with_reducible rfl);done))
 have f1:=HA.out.frozen 1;have lb:=HA.out.lt;have e6:IntKind.i64.wrap (mv+((aAd S).length:Int))=mv+((aAd S).length:Int):=IntWalk.i64_in _ ⟨by omega,by omega⟩
 (refine aA4.one (i:=6) (by kernel_rfl) rfl (fun K hK=>?_));go_simp;refine hK.out _ _ (fun h=>absurd rfl h) ?_;clear hK K;refine aA4.done (by kernel_rfl) ?_ _;(try simp only [Act.put,List.setIfInBounds_toArray,List.set_cons_zero,List.set_cons_succ])
 clear f1 lb hHeld e6;replace HA:Hid (Blk (w3.setCell ⟨w.heap.size,1,none⟩ (.int .i64 (mv+((aAd S).length:Int)))) w.heap.size #[.int .i64 (st+1),.int .i64 (mv+((aAd S).length:Int)),.int .i64 ro,.int .i64 be,.int .u32 (pe:Int)] 68):=HA.out.set 1 _;replace HZ:Hid (Blk (w3.setCell ⟨w.heap.size,1,none⟩ (.int .i64 (mv+((aAd S).length:Int)))) (w.heap.size+1) #[.int .i64 0,.int .i64 0,.int .i64 0,.int .i64 0,.int .u32 0] 68):=HZ.out.other (by simp) _
 replace HL:Hid (Bel w (w3.setCell ⟨w.heap.size,1,none⟩ (.int .i64 (mv+((aAd S).length:Int))))):=HL.out.setCell (Nat.le_refl _) _;generalize w3.setCell ⟨w.heap.size,1,none⟩ (.int .i64 (mv+((aAd S).length:Int)))=W4 at *;generalize mv+((aAd S).length:Int)=mn at *
 by_cases hz:D&&&A=0
 .rw [if_pos hz] at HF
  rw [hz] at hba;clear hz;have c0:=HA.out.cell 0 (v := .int .i64 (st+1)) rfl;have c1:=HA.out.cell 1 (v := .int .i64 mn) rfl;have c2:=HA.out.cell 2 (v := .int .i64 ro) rfl;have c3:=HA.out.cell 3 (v := .int .i64 be) rfl;have c4:=HA.out.cell 4 (v := .int .u32 (pe:Int)) rfl;have f3:=HA.out.frozen 3;have f4:=HA.out.frozen 4;have lb:=HA.out.lt
  go_upto_region 12 with fail
  clear c0 c1 c2 c3 c4 f3 f4 lb;replace HA:Hid (Blk ((W4.setCell ⟨w.heap.size,3,none⟩ (.int .i64 (ro+1))).setCell ⟨w.heap.size,4,none⟩ (.int .u32 0)) w.heap.size #[.int .i64 (st+1),.int .i64 mn,.int .i64 ro,.int .i64 (ro+1),.int .u32 0] 68):=((HA.out.set 3 _).set 4 _);replace HZ:Hid (Blk ((W4.setCell ⟨w.heap.size,3,none⟩ (.int .i64 (ro+1))).setCell ⟨w.heap.size,4,none⟩ (.int .u32 0)) (w.heap.size+1) #[.int .i64 0,.int .i64 0,.int .i64 0,.int .i64 0,.int .u32 0] 68):=((HZ.out.other (by simp) _).other (by simp) _)
  replace HL:Hid (Bel w ((W4.setCell ⟨w.heap.size,3,none⟩ (.int .i64 (ro+1))).setCell ⟨w.heap.size,4,none⟩ (.int .u32 0))):=((HL.out.setCell (Nat.le_refl _) _).setCell (Nat.le_refl _) _);generalize (W4.setCell ⟨w.heap.size,3,none⟩ (.int .i64 (ro+1))).setCell ⟨w.heap.size,4,none⟩ (.int .u32 0)=W5 at *;have c0:=HA.out.cell 0 (v := .int .i64 (st+1)) rfl;have c1:=HA.out.cell 1 (v := .int .i64 mn) rfl;have c2:=HA.out.cell 2 (v := .int .i64 ro) rfl;have c3:=HA.out.cell 3 (v := .int .i64 (ro+1)) rfl;have c4:=HA.out.cell 4 (v := .int .u32 0) rfl;have f2:=HA.out.frozen 2;have f4:=HA.out.frozen 4;have lb:=HA.out.lt
  go_upto_region 14 with fail
  clear c0 c1 c2 c3 c4 f2 f4 lb;replace HA:Hid (Blk ((W5.setCell ⟨w.heap.size,2,none⟩ (.int .i64 (ro+1))).setCell ⟨w.heap.size,4,none⟩ (.int .u32 (A:Int))) w.heap.size #[.int .i64 (st+1),.int .i64 mn,.int .i64 (ro+1),.int .i64 (ro+1),.int .u32 (A:Int)] 68):=((HA.out.set 2 _).set 4 _);replace HZ:Hid (Blk ((W5.setCell ⟨w.heap.size,2,none⟩ (.int .i64 (ro+1))).setCell ⟨w.heap.size,4,none⟩ (.int .u32 (A:Int))) (w.heap.size+1) #[.int .i64 0,.int .i64 0,.int .i64 0,.int .i64 0,.int .u32 0] 68):=((HZ.out.other (by simp) _).other (by simp) _)
  replace HL:Hid (Bel w ((W5.setCell ⟨w.heap.size,2,none⟩ (.int .i64 (ro+1))).setCell ⟨w.heap.size,4,none⟩ (.int .u32 (A:Int)))):=((HL.out.setCell (Nat.le_refl _) _).setCell (Nat.le_refl _) _);generalize (W5.setCell ⟨w.heap.size,2,none⟩ (.int .i64 (ro+1))).setCell ⟨w.heap.size,4,none⟩ (.int .u32 (A:Int))=W6 at *;have c0:=HA.out.cell 0 (v := .int .i64 (st+1)) rfl;have c1:=HA.out.cell 1 (v := .int .i64 mn) rfl;have c2:=HA.out.cell 2 (v := .int .i64 (ro+1)) rfl;have c3:=HA.out.cell 3 (v := .int .i64 (ro+1)) rfl;have c4:=HA.out.cell 4 (v := .int .u32 (A:Int)) rfl;have lb:=HA.out.lt;have z1:=HZ.out.cell 0 (v := .int .i64 0) rfl;have g0:=HZ.out.frozen 0;have z2:=HZ.out.cell 1 (v := .int .i64 0) rfl;have g1:=HZ.out.frozen 1;have z3:=HZ.out.cell 2 (v := .int .i64 0) rfl;have g2:=HZ.out.frozen 2;have z4:=HZ.out.cell 3 (v := .int .i64 0) rfl;have g3:=HZ.out.frozen 3;have z5:=HZ.out.cell 4 (v := .int .u32 0) rfl;have g4:=HZ.out.frozen 4;have gl:=HZ.out.lt;clear hba
  go_wp2_with fail
  have HZ2:Blk (((((W6.setCell ⟨w.heap.size+1,0,none⟩ (.int .i64 (st+1))).setCell ⟨w.heap.size+1,1,none⟩ (.int .i64 mn)).setCell ⟨w.heap.size+1,2,none⟩ (.int .i64 (ro+1))).setCell ⟨w.heap.size+1,3,none⟩ (.int .i64 (ro+1))).setCell ⟨w.heap.size+1,4,none⟩ (.int .u32 (A:Int))) (w.heap.size+1) #[.int .i64 (st+1),.int .i64 mn,.int .i64 (ro+1),.int .i64 (ro+1),.int .u32 (A:Int)] 68:=(((((HZ.out.set 0 _).set 1 _).set 2 _).set 3 _).set 4 _);have y0:=HZ2.cell 0 (v := .int .i64 (st+1)) rfl;have y1:=HZ2.cell 1 (v := .int .i64 mn) rfl;have y2:=HZ2.cell 2 (v := .int .i64 (ro+1)) rfl;have y3:=HZ2.cell 3 (v := .int .i64 (ro+1)) rfl;have y4:=HZ2.cell 4 (v := .int .u32 (A:Int)) rfl;refine bodyPost_ret (v := .tuple #[aWt ⟨st+1,mn,ro+1,ro+1,A⟩,.int .i64 0]) (by simp [results,Tryz.results136,go_sem,y0,y1,y2,y3,y4,aWt];try go_simp) rfl ?_
  rw [HF.out];exact ⟨rfl,(((((HL.out.setCell (by simp) _).setCell (by simp) _).setCell (by simp) _).setCell (by simp) _).setCell (by simp) _)⟩
 .rw [if_neg hz] at HF
  have hzb:(((D&&&A:Nat):Int)==0)=false:=by simpa using hz
  have hzb':(D&&&A==0)=false:=by simpa using hz
  generalize D&&&A=P at *;clear hz;have c0:=HA.out.cell 0 (v := .int .i64 (st+1)) rfl;have c1:=HA.out.cell 1 (v := .int .i64 mn) rfl;have c2:=HA.out.cell 2 (v := .int .i64 ro) rfl;have c3:=HA.out.cell 3 (v := .int .i64 be) rfl;have c4:=HA.out.cell 4 (v := .int .u32 (pe:Int)) rfl;have f3:=HA.out.frozen 3;have f4:=HA.out.frozen 4;have lb:=HA.out.lt
  go_upto_region 14 with fail
  clear c0 c1 c2 c3 c4 f3 f4 lb;replace HA:Hid (Blk ((W4.setCell ⟨w.heap.size,3,none⟩ (.int .i64 (ro+1))).setCell ⟨w.heap.size,4,none⟩ (.int .u32 (P:Int))) w.heap.size #[.int .i64 (st+1),.int .i64 mn,.int .i64 ro,.int .i64 (ro+1),.int .u32 (P:Int)] 68):=((HA.out.set 3 _).set 4 _);replace HZ:Hid (Blk ((W4.setCell ⟨w.heap.size,3,none⟩ (.int .i64 (ro+1))).setCell ⟨w.heap.size,4,none⟩ (.int .u32 (P:Int))) (w.heap.size+1) #[.int .i64 0,.int .i64 0,.int .i64 0,.int .i64 0,.int .u32 0] 68):=((HZ.out.other (by simp) _).other (by simp) _)
  replace HL:Hid (Bel w ((W4.setCell ⟨w.heap.size,3,none⟩ (.int .i64 (ro+1))).setCell ⟨w.heap.size,4,none⟩ (.int .u32 (P:Int)))):=((HL.out.setCell (Nat.le_refl _) _).setCell (Nat.le_refl _) _);generalize (W4.setCell ⟨w.heap.size,3,none⟩ (.int .i64 (ro+1))).setCell ⟨w.heap.size,4,none⟩ (.int .u32 (P:Int))=W6 at *;have c0:=HA.out.cell 0 (v := .int .i64 (st+1)) rfl;have c1:=HA.out.cell 1 (v := .int .i64 mn) rfl;have c2:=HA.out.cell 2 (v := .int .i64 ro) rfl;have c3:=HA.out.cell 3 (v := .int .i64 (ro+1)) rfl;have c4:=HA.out.cell 4 (v := .int .u32 (P:Int)) rfl;have lb:=HA.out.lt;have z1:=HZ.out.cell 0 (v := .int .i64 0) rfl;have g0:=HZ.out.frozen 0;have z2:=HZ.out.cell 1 (v := .int .i64 0) rfl;have g1:=HZ.out.frozen 1;have z3:=HZ.out.cell 2 (v := .int .i64 0) rfl;have g2:=HZ.out.frozen 2;have z4:=HZ.out.cell 3 (v := .int .i64 0) rfl;have g3:=HZ.out.frozen 3;have z5:=HZ.out.cell 4 (v := .int .u32 0) rfl;have g4:=HZ.out.frozen 4;have gl:=HZ.out.lt;clear hba
  go_wp2_with fail
  have HZ2:Blk (((((W6.setCell ⟨w.heap.size+1,0,none⟩ (.int .i64 (st+1))).setCell ⟨w.heap.size+1,1,none⟩ (.int .i64 mn)).setCell ⟨w.heap.size+1,2,none⟩ (.int .i64 ro)).setCell ⟨w.heap.size+1,3,none⟩ (.int .i64 (ro+1))).setCell ⟨w.heap.size+1,4,none⟩ (.int .u32 (P:Int))) (w.heap.size+1) #[.int .i64 (st+1),.int .i64 mn,.int .i64 ro,.int .i64 (ro+1),.int .u32 (P:Int)] 68:=(((((HZ.out.set 0 _).set 1 _).set 2 _).set 3 _).set 4 _);have y0:=HZ2.cell 0 (v := .int .i64 (st+1)) rfl;have y1:=HZ2.cell 1 (v := .int .i64 mn) rfl;have y2:=HZ2.cell 2 (v := .int .i64 ro) rfl;have y3:=HZ2.cell 3 (v := .int .i64 (ro+1)) rfl;have y4:=HZ2.cell 4 (v := .int .u32 (P:Int)) rfl;refine bodyPost_ret (v := .tuple #[aWt ⟨st+1,mn,ro,ro+1,P⟩,.int .i64 0]) (by simp [results,Tryz.results136,go_sem,y0,y1,y2,y3,y4,aWt];try go_simp) rfl ?_
  rw [HF.out];exact ⟨rfl,(((((HL.out.setCell (by simp) _).setCell (by simp) _).setCell (by simp) _).setCell (by simp) _).setCell (by simp) _)⟩
end Go.Proofs.YtmoebklkkjbigaaGreatDoor

