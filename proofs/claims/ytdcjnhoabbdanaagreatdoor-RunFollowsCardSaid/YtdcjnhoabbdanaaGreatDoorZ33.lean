/- Merged. -/
import Derived.Test.YtdcjnhoabbdanaaGreatDoorZ32
import Derived.JoinedOf
import Derived.Test.YtdcjnhoabbdanaaGreatDoorTie
import Derived.Test.YtdcjnhoabbdanaaGreatDoorCards
import Derived.SevenTiedAt
set_option linter.unusedSimpArgs false
set_option linter.unnecessarySimpa false
set_option linter.unusedVariables false
set_option maxRecDepth 100000
set_option maxHeartbeats 4000000
open Go.Proofs.Tryz

namespace Go.Proofs.YtdcjnhoabbdanaaGreatDoor
open Go.RowKit
theorem bAf:aFr 24 (fun _=>true)=16777215:=by decide +kernel
theorem aOb (k:Cnt) (n:Nat) (w:World) (h:OkK k n) (hn:n<=120) :
  Calls prog 95 #[aIs k] w fun e w'=>e = .returned (.bool true)/\Bel w w':=by
 obtain ⟨st,mv,ro,be,pe⟩:=k;obtain ⟨h1,h2,h3,h4,h5,h6,h7,h8⟩:=h;dsimp only at h1 h2 h3 h4 h5 h6 h7 h8;have s0:0<=st:=by omega
 have s1:st<=120:=by omega
 have b0:0<=be:=by omega
 have b1:be<=120:=by omega
 have r1:ro<=120:=by omega
 have d3:decide (ro<0)=false:=by simp;omega
 have d4:decide (be<ro)=false:=by simp;omega
 have d6:decide (1<be-ro)=false:=by simp;omega
 have d5:decide (st<be)=false:=by simp;omega
 have d2:decide (st<=4096)=true:=by simp;omega
 have d7:decide (st<=mv)=true:=by simp;omega
 have d8:decide (mv<=24*st)=true:=by simp;omega
 have e6:IntKind.i64.wrap (24*st)=24*st:=IntWalk.i64_in _ ⟨by omega,by omega⟩
 have hz:=aPf h8;clear h5 h6 h7 h8 h2 h3 h1;have HB:Hid (Blk (w.alloc (.cells #[.int .i64 st,.int .i64 mv,.int .i64 ro,.int .i64 be,.int .u32 (pe:Int)] 36)) w.heap.size #[.int .i64 st,.int .i64 mv,.int .i64 ro,.int .i64 be,.int .u32 (pe:Int)] 36):=Blk.new _ _ _;have HE:Hid (Bel w (w.alloc (.cells #[.int .i64 st,.int .i64 mv,.int .i64 ro,.int .i64 be,.int .u32 (pe:Int)] 36))):=(Bel.refl w).alloc _;unfold aIs;dsimp only;go_enter func95,ntmps95
 go_wp2_with fail
 generalize w.alloc (.cells #[.int .i64 st,.int .i64 mv,.int .i64 ro,.int .i64 be,.int .u32 (pe:Int)] 36)=W at *;have hc:W.cell? ⟨w.heap.size,0,none⟩=some (.int .i64 st)/\W.cell? ⟨w.heap.size,1,none⟩=some (.int .i64 mv)/\W.cell? ⟨w.heap.size,4,none⟩=some (.int .u32 (pe:Int))/\w.heap.size<W.heap.size:=⟨HB.out.cell 0 rfl,HB.out.cell 1 rfl,HB.out.cell 4 rfl,HB.out.lt⟩
 go_region_held3 (fun w'=>w'.cell? ⟨w.heap.size,0,none⟩=some (.int .i64 st)/\w'.cell? ⟨w.heap.size,1,none⟩=some (.int .i64 mv)/\w'.cell? ⟨w.heap.size,4,none⟩=some (.int .u32 (pe:Int))/\w.heap.size<w'.heap.size) (exact hc) (first
  | (go_simp;go_at_call 73;refine (aIm 24 _ (by decide)).mono ?_;rintro e w2 ⟨rfl,rfl⟩;rw [bAf]))
 go_wp2_with fail
 go_ret;exact ⟨rfl,HE.out.drew⟩
theorem aQ6 (S:Nat) (w:World) (hS:S<4294967296) :
  Calls prog 45 #[.int .u32 (S:Int)] w fun e w'=>e = .returned (.int .i64 ((aAe S).length:Int))/\Bel w w':=(aNk S w hS).mono fun _ _ h=>⟨h.1,h.2 ▸ Bel.refl _⟩
theorem aVp (k:Cnt) (n S A:Nat) (w:World) (h:OkK k n) (hn:n<=120) (h0:S≠0) (hS:S<16777216) (hA:A<16777216) :
  Calls prog 69 #[aIs k,.int .u32 (S:Int),.int .u32 (A:Int)] w fun e w'=>e = .returned (.tuple #[aIs (aO0 k S A),.int .i64 0])/\Bel w w':=by
 have HK:=aA0 h;have HP:Hid (∀ s∈[S,A],s<16777216):=fun s hs=>(List.mem_cons.1 hs).elim (fun e=>e ▸ hS) fun e=>(List.mem_singleton.1 e) ▸ hA;obtain ⟨st,mv,ro,be,pe⟩:=k;obtain ⟨h1,h2,h3,h4,h5,h6,h7,h8⟩:=h;dsimp only at h1 h2 h3 h4 h5 h6 h7 h8;have z0:((S:Int)==0)=false:=by simp;omega
 have z0':(S==0)=false:=by simp;omega
 have d1:(st==4096)=false:=by simp;omega
 have hel:=aMn (S:=S) (n:=24) (by decide) hS
 have HF:Hid (aO0 ⟨st,mv,ro,be,pe⟩ S A=if aF0 pe S&&&A=0 then ⟨st+1,mv+(aAe S).length,ro+1,ro+1,A⟩ else ⟨st+1,mv+(aAe S).length,ro,ro+1,aF0 pe S&&&A⟩):=rfl
 have HS32:Hid (S<4294967296):=by show _<_;omega
 have hbn:=aEc pe S;have hba:=aCs (S:=aF0 pe S) (T:=A) (aM3 _ _) (by omega)
 have hor:=aWl (S:=S) (T:=A) (by omega) (by omega)
 have hno:=aPf (S:=S|||A) (Nat.or_lt_two_pow (n:=24) hS hA);generalize S|||A=SA at *;generalize aF0 pe S=D at *;have HB0:Hid (Blk ((w.alloc (.cells #[.int .i64 st,.int .i64 mv,.int .i64 ro,.int .i64 be,.int .u32 (pe:Int)] 36)).alloc (.cells #[.int .i64 0,.int .i64 0,.int .i64 0,.int .i64 0,.int .u32 0] 36)) w.heap.size #[.int .i64 st,.int .i64 mv,.int .i64 ro,.int .i64 be,.int .u32 (pe:Int)] 36):=(Blk.new _ _ _).alloc _
 have HB1:Hid (Blk ((w.alloc (.cells #[.int .i64 st,.int .i64 mv,.int .i64 ro,.int .i64 be,.int .u32 (pe:Int)] 36)).alloc (.cells #[.int .i64 0,.int .i64 0,.int .i64 0,.int .i64 0,.int .u32 0] 36)) (w.heap.size+1) #[.int .i64 0,.int .i64 0,.int .i64 0,.int .i64 0,.int .u32 0] 36):=by
  have:=Blk.new (w.alloc (.cells #[.int .i64 st,.int .i64 mv,.int .i64 ro,.int .i64 be,.int .u32 (pe:Int)] 36)) #[.int .i64 0,.int .i64 0,.int .i64 0,.int .i64 0,.int .u32 0] 36;rw [World.size_alloc] at this;exact this
 have HW:=Bel.refl ((w.alloc (.cells #[.int .i64 st,.int .i64 mv,.int .i64 ro,.int .i64 be,.int .u32 (pe:Int)] 36)).alloc (.cells #[.int .i64 0,.int .i64 0,.int .i64 0,.int .i64 0,.int .u32 0] 36));have HE:Hid (Bel w ((w.alloc (.cells #[.int .i64 st,.int .i64 mv,.int .i64 ro,.int .i64 be,.int .u32 (pe:Int)] 36)).alloc (.cells #[.int .i64 0,.int .i64 0,.int .i64 0,.int .i64 0,.int .u32 0] 36))):=((Bel.refl w).alloc _).alloc _;have s0:0<=st:=by omega
 have s1:st<=120:=by omega
 have m1:0<=mv:=by omega
 have m2:mv<=3000:=by omega
 have r1:ro<=120:=by omega
 clear h0 hS hA h8 h1 h2 h3 h5 h6 h7;unfold aIs;dsimp only;go_enter func69,ntmps69
 go_wp2_with (first
  | (go_at_call 95;refine (aOb ⟨st,mv,ro,be,pe⟩ n _ HK.out hn).mono ?_;rintro e w1 ⟨rfl,hb1⟩;replace HW:=HW.trans hb1)
  | (go_at_call 73;refine (aIm 24 _ (by decide)).mono ?_;rintro e w2 ⟨rfl,rfl⟩;rw [bAf];replace HB0:=aA0 (Blk.keep HB0.out HW);replace HB1:=aA0 (Blk.keep HB1.out HW);have c0:=HB0.out.cell 0 (v := .int .i64 st) rfl;have c1:=HB0.out.cell 1 (v := .int .i64 mv) rfl;have c2:=HB0.out.cell 2 (v := .int .i64 ro) rfl;have c3:=HB0.out.cell 3 (v := .int .i64 be) rfl;have c4:=HB0.out.cell 4 (v := .int .u32 (pe:Int)) rfl;have f0:=HB0.out.frozen 0;have lb:=HB0.out.lt))
 have HA:Hid (Blk (w1.setCell ⟨w.heap.size,0,none⟩ (.int .i64 (st+1))) w.heap.size #[.int .i64 (st+1),.int .i64 mv,.int .i64 ro,.int .i64 be,.int .u32 (pe:Int)] 36):=HB0.out.set 0 _;have HZ:Hid (Blk (w1.setCell ⟨w.heap.size,0,none⟩ (.int .i64 (st+1))) (w.heap.size+1) #[.int .i64 0,.int .i64 0,.int .i64 0,.int .i64 0,.int .u32 0] 36):=HB1.out.other (by simp) _
 have HL:Hid (Bel w (w1.setCell ⟨w.heap.size,0,none⟩ (.int .i64 (st+1)))):=(HE.out.trans HW).setCell (Nat.le_refl _) _;clear c0 c1 c2 c3 c4 f0 lb HB0 HB1;generalize w1.setCell ⟨w.heap.size,0,none⟩ (.int .i64 (st+1))=W at *;refine aA6.start (fun w'=>w'.cell? ⟨w.heap.size,1,none⟩=some (.int .i64 mv)/\w.heap.size<w'.heap.size) 6 (by kernel_rfl) ?_
 have hHeld:W.drew.cell? ⟨w.heap.size,1,none⟩=some (.int .i64 mv)/\w.heap.size<W.drew.heap.size:=⟨HA.out.cell 1 rfl,HA.out.lt⟩
 (refine aA6.t (v:=?_) 0 34 rfl rfl (by kernel_rfl) (fun _ _ _ h=>h) hHeld (Or.inl ⟨by rfl,?_⟩) ?_;rotate_left 1;focus (intro w' hSw;(try dsimp only at hSw);go_simp;(try with_reducible rfl);done))
 (refine aA6.t (v:=?_) 1 35 rfl rfl (by kernel_rfl) (fun _ _ _ h=>h) hHeld (Or.inl ⟨by rfl,?_⟩) ?_;rotate_left 1;focus (intro w' hSw;(try dsimp only at hSw);go_simp;(try with_reducible rfl);done))
 (refine aA6.t (v:=?_) 2 36 rfl rfl (by kernel_rfl) (fun _ _ _ h=>h) hHeld (Or.inl ⟨by rfl,?_⟩) ?_;rotate_left 1;focus (intro w' hSw;(try dsimp only at hSw);go_simp;(try with_reducible rfl);done))
 refine aA6.one (i:=3) (by kernel_rfl) rfl (fun K hK=>?_)
 go_simp
 go_at_call 45
 refine (aQ6 S _ HS32.out).mono ?_
 rintro e w3 ⟨rfl,hb3⟩
 (try go_simp)
 have hb3':Bel W w3:=(Bel.refl W).drew.trans hb3;replace HA:=aA0 (HA.out.keep hb3');replace HZ:=aA0 (HZ.out.keep hb3');replace HL:=aA0 (HL.out.trans hb3');refine hK.out _ _ (fun _=>⟨HA.out.cell 1 rfl,HA.out.lt⟩) ?_
 clear hK K hHeld hb3 hb3';have hHeld:w3.cell? ⟨w.heap.size,1,none⟩=some (.int .i64 mv)/\w.heap.size<w3.heap.size:=⟨HA.out.cell 1 rfl,HA.out.lt⟩
 (try simp only [Act.put,List.setIfInBounds_toArray,List.set_cons_zero,List.set_cons_succ])
 (refine aA6.t (v:=?_) 4 38 rfl rfl (by kernel_rfl) (fun _ _ _ h=>h) hHeld (Or.inl ⟨by rfl,?_⟩) ?_;rotate_left 1;focus (intro w' hSw;(try dsimp only at hSw);go_simp;(try with_reducible rfl);done))
 (refine aA6.t (v:=?_) 5 39 rfl rfl (by kernel_rfl) (fun _ _ _ h=>h) hHeld (Or.inl ⟨by rfl,?_⟩) ?_;rotate_left 1;focus (intro w' hSw;(try dsimp only at hSw);go_simp;(try with_reducible rfl);done))
 have f1:=HA.out.frozen 1;have lb:=HA.out.lt;have e6:IntKind.i64.wrap (mv+((aAe S).length:Int))=mv+((aAe S).length:Int):=IntWalk.i64_in _ ⟨by omega,by omega⟩
 (refine aA6.one (i:=6) (by kernel_rfl) rfl (fun K hK=>?_));go_simp;refine hK.out _ _ (fun h=>absurd rfl h) ?_;clear hK K;refine aA6.done (by kernel_rfl) ?_ _;(try simp only [Act.put,List.setIfInBounds_toArray,List.set_cons_zero,List.set_cons_succ])
 clear f1 lb hHeld e6;replace HA:Hid (Blk (w3.setCell ⟨w.heap.size,1,none⟩ (.int .i64 (mv+((aAe S).length:Int)))) w.heap.size #[.int .i64 (st+1),.int .i64 (mv+((aAe S).length:Int)),.int .i64 ro,.int .i64 be,.int .u32 (pe:Int)] 36):=HA.out.set 1 _;replace HZ:Hid (Blk (w3.setCell ⟨w.heap.size,1,none⟩ (.int .i64 (mv+((aAe S).length:Int)))) (w.heap.size+1) #[.int .i64 0,.int .i64 0,.int .i64 0,.int .i64 0,.int .u32 0] 36):=HZ.out.other (by simp) _
 replace HL:Hid (Bel w (w3.setCell ⟨w.heap.size,1,none⟩ (.int .i64 (mv+((aAe S).length:Int))))):=HL.out.setCell (Nat.le_refl _) _;generalize w3.setCell ⟨w.heap.size,1,none⟩ (.int .i64 (mv+((aAe S).length:Int)))=W4 at *;generalize mv+((aAe S).length:Int)=mn at *
 by_cases hz:D&&&A=0
 .rw [if_pos hz] at HF
  rw [hz] at hba;clear hz;have c0:=HA.out.cell 0 (v := .int .i64 (st+1)) rfl;have c1:=HA.out.cell 1 (v := .int .i64 mn) rfl;have c2:=HA.out.cell 2 (v := .int .i64 ro) rfl;have c3:=HA.out.cell 3 (v := .int .i64 be) rfl;have c4:=HA.out.cell 4 (v := .int .u32 (pe:Int)) rfl;have f3:=HA.out.frozen 3;have f4:=HA.out.frozen 4;have lb:=HA.out.lt
  go_upto_region 12 with fail
  clear c0 c1 c2 c3 c4 f3 f4 lb;replace HA:Hid (Blk ((W4.setCell ⟨w.heap.size,3,none⟩ (.int .i64 (ro+1))).setCell ⟨w.heap.size,4,none⟩ (.int .u32 0)) w.heap.size #[.int .i64 (st+1),.int .i64 mn,.int .i64 ro,.int .i64 (ro+1),.int .u32 0] 36):=((HA.out.set 3 _).set 4 _);replace HZ:Hid (Blk ((W4.setCell ⟨w.heap.size,3,none⟩ (.int .i64 (ro+1))).setCell ⟨w.heap.size,4,none⟩ (.int .u32 0)) (w.heap.size+1) #[.int .i64 0,.int .i64 0,.int .i64 0,.int .i64 0,.int .u32 0] 36):=((HZ.out.other (by simp) _).other (by simp) _)
  replace HL:Hid (Bel w ((W4.setCell ⟨w.heap.size,3,none⟩ (.int .i64 (ro+1))).setCell ⟨w.heap.size,4,none⟩ (.int .u32 0))):=((HL.out.setCell (Nat.le_refl _) _).setCell (Nat.le_refl _) _);generalize (W4.setCell ⟨w.heap.size,3,none⟩ (.int .i64 (ro+1))).setCell ⟨w.heap.size,4,none⟩ (.int .u32 0)=W5 at *;have c0:=HA.out.cell 0 (v := .int .i64 (st+1)) rfl;have c1:=HA.out.cell 1 (v := .int .i64 mn) rfl;have c2:=HA.out.cell 2 (v := .int .i64 ro) rfl;have c3:=HA.out.cell 3 (v := .int .i64 (ro+1)) rfl;have c4:=HA.out.cell 4 (v := .int .u32 0) rfl;have f2:=HA.out.frozen 2;have f4:=HA.out.frozen 4;have lb:=HA.out.lt
  go_upto_region 13 with fail
  clear c0 c1 c2 c3 c4 f2 f4 lb;replace HA:Hid (Blk ((W5.setCell ⟨w.heap.size,2,none⟩ (.int .i64 (ro+1))).setCell ⟨w.heap.size,4,none⟩ (.int .u32 (A:Int))) w.heap.size #[.int .i64 (st+1),.int .i64 mn,.int .i64 (ro+1),.int .i64 (ro+1),.int .u32 (A:Int)] 36):=((HA.out.set 2 _).set 4 _);replace HZ:Hid (Blk ((W5.setCell ⟨w.heap.size,2,none⟩ (.int .i64 (ro+1))).setCell ⟨w.heap.size,4,none⟩ (.int .u32 (A:Int))) (w.heap.size+1) #[.int .i64 0,.int .i64 0,.int .i64 0,.int .i64 0,.int .u32 0] 36):=((HZ.out.other (by simp) _).other (by simp) _)
  replace HL:Hid (Bel w ((W5.setCell ⟨w.heap.size,2,none⟩ (.int .i64 (ro+1))).setCell ⟨w.heap.size,4,none⟩ (.int .u32 (A:Int)))):=((HL.out.setCell (Nat.le_refl _) _).setCell (Nat.le_refl _) _);generalize (W5.setCell ⟨w.heap.size,2,none⟩ (.int .i64 (ro+1))).setCell ⟨w.heap.size,4,none⟩ (.int .u32 (A:Int))=W6 at *;have c0:=HA.out.cell 0 (v := .int .i64 (st+1)) rfl;have c1:=HA.out.cell 1 (v := .int .i64 mn) rfl;have c2:=HA.out.cell 2 (v := .int .i64 (ro+1)) rfl;have c3:=HA.out.cell 3 (v := .int .i64 (ro+1)) rfl;have c4:=HA.out.cell 4 (v := .int .u32 (A:Int)) rfl;have lb:=HA.out.lt;have z1:=HZ.out.cell 0 (v := .int .i64 0) rfl;have g0:=HZ.out.frozen 0;have z2:=HZ.out.cell 1 (v := .int .i64 0) rfl;have g1:=HZ.out.frozen 1;have z3:=HZ.out.cell 2 (v := .int .i64 0) rfl;have g2:=HZ.out.frozen 2;have z4:=HZ.out.cell 3 (v := .int .i64 0) rfl;have g3:=HZ.out.frozen 3;have z5:=HZ.out.cell 4 (v := .int .u32 0) rfl;have g4:=HZ.out.frozen 4;have gl:=HZ.out.lt;clear hba
  go_wp2_with fail
  have HZ2:Blk (((((W6.setCell ⟨w.heap.size+1,0,none⟩ (.int .i64 (st+1))).setCell ⟨w.heap.size+1,1,none⟩ (.int .i64 mn)).setCell ⟨w.heap.size+1,2,none⟩ (.int .i64 (ro+1))).setCell ⟨w.heap.size+1,3,none⟩ (.int .i64 (ro+1))).setCell ⟨w.heap.size+1,4,none⟩ (.int .u32 (A:Int))) (w.heap.size+1) #[.int .i64 (st+1),.int .i64 mn,.int .i64 (ro+1),.int .i64 (ro+1),.int .u32 (A:Int)] 36:=(((((HZ.out.set 0 _).set 1 _).set 2 _).set 3 _).set 4 _);have y0:=HZ2.cell 0 (v := .int .i64 (st+1)) rfl;have y1:=HZ2.cell 1 (v := .int .i64 mn) rfl;have y2:=HZ2.cell 2 (v := .int .i64 (ro+1)) rfl;have y3:=HZ2.cell 3 (v := .int .i64 (ro+1)) rfl;have y4:=HZ2.cell 4 (v := .int .u32 (A:Int)) rfl;refine bodyPost_ret (v := .tuple #[aIs ⟨st+1,mn,ro+1,ro+1,A⟩,.int .i64 0]) (by simp [results,Tryz.results69,go_sem,y0,y1,y2,y3,y4,aIs];try go_simp) rfl ?_
  rw [HF.out];exact ⟨rfl,(((((HL.out.setCell (by simp) _).setCell (by simp) _).setCell (by simp) _).setCell (by simp) _).setCell (by simp) _)⟩
 .rw [if_neg hz] at HF
  have hzb:(((D&&&A:Nat):Int)==0)=false:=by simpa using hz
  have hzb':(D&&&A==0)=false:=by simpa using hz
  generalize D&&&A=P at *;clear hz;have c0:=HA.out.cell 0 (v := .int .i64 (st+1)) rfl;have c1:=HA.out.cell 1 (v := .int .i64 mn) rfl;have c2:=HA.out.cell 2 (v := .int .i64 ro) rfl;have c3:=HA.out.cell 3 (v := .int .i64 be) rfl;have c4:=HA.out.cell 4 (v := .int .u32 (pe:Int)) rfl;have f3:=HA.out.frozen 3;have f4:=HA.out.frozen 4;have lb:=HA.out.lt
  go_upto_region 13 with fail
  clear c0 c1 c2 c3 c4 f3 f4 lb;replace HA:Hid (Blk ((W4.setCell ⟨w.heap.size,3,none⟩ (.int .i64 (ro+1))).setCell ⟨w.heap.size,4,none⟩ (.int .u32 (P:Int))) w.heap.size #[.int .i64 (st+1),.int .i64 mn,.int .i64 ro,.int .i64 (ro+1),.int .u32 (P:Int)] 36):=((HA.out.set 3 _).set 4 _);replace HZ:Hid (Blk ((W4.setCell ⟨w.heap.size,3,none⟩ (.int .i64 (ro+1))).setCell ⟨w.heap.size,4,none⟩ (.int .u32 (P:Int))) (w.heap.size+1) #[.int .i64 0,.int .i64 0,.int .i64 0,.int .i64 0,.int .u32 0] 36):=((HZ.out.other (by simp) _).other (by simp) _)
  replace HL:Hid (Bel w ((W4.setCell ⟨w.heap.size,3,none⟩ (.int .i64 (ro+1))).setCell ⟨w.heap.size,4,none⟩ (.int .u32 (P:Int)))):=((HL.out.setCell (Nat.le_refl _) _).setCell (Nat.le_refl _) _);generalize (W4.setCell ⟨w.heap.size,3,none⟩ (.int .i64 (ro+1))).setCell ⟨w.heap.size,4,none⟩ (.int .u32 (P:Int))=W6 at *;have c0:=HA.out.cell 0 (v := .int .i64 (st+1)) rfl;have c1:=HA.out.cell 1 (v := .int .i64 mn) rfl;have c2:=HA.out.cell 2 (v := .int .i64 ro) rfl;have c3:=HA.out.cell 3 (v := .int .i64 (ro+1)) rfl;have c4:=HA.out.cell 4 (v := .int .u32 (P:Int)) rfl;have lb:=HA.out.lt;have z1:=HZ.out.cell 0 (v := .int .i64 0) rfl;have g0:=HZ.out.frozen 0;have z2:=HZ.out.cell 1 (v := .int .i64 0) rfl;have g1:=HZ.out.frozen 1;have z3:=HZ.out.cell 2 (v := .int .i64 0) rfl;have g2:=HZ.out.frozen 2;have z4:=HZ.out.cell 3 (v := .int .i64 0) rfl;have g3:=HZ.out.frozen 3;have z5:=HZ.out.cell 4 (v := .int .u32 0) rfl;have g4:=HZ.out.frozen 4;have gl:=HZ.out.lt;clear hba
  go_wp2_with fail
  have HZ2:Blk (((((W6.setCell ⟨w.heap.size+1,0,none⟩ (.int .i64 (st+1))).setCell ⟨w.heap.size+1,1,none⟩ (.int .i64 mn)).setCell ⟨w.heap.size+1,2,none⟩ (.int .i64 ro)).setCell ⟨w.heap.size+1,3,none⟩ (.int .i64 (ro+1))).setCell ⟨w.heap.size+1,4,none⟩ (.int .u32 (P:Int))) (w.heap.size+1) #[.int .i64 (st+1),.int .i64 mn,.int .i64 ro,.int .i64 (ro+1),.int .u32 (P:Int)] 36:=(((((HZ.out.set 0 _).set 1 _).set 2 _).set 3 _).set 4 _);have y0:=HZ2.cell 0 (v := .int .i64 (st+1)) rfl;have y1:=HZ2.cell 1 (v := .int .i64 mn) rfl;have y2:=HZ2.cell 2 (v := .int .i64 ro) rfl;have y3:=HZ2.cell 3 (v := .int .i64 (ro+1)) rfl;have y4:=HZ2.cell 4 (v := .int .u32 (P:Int)) rfl;refine bodyPost_ret (v := .tuple #[aIs ⟨st+1,mn,ro,ro+1,P⟩,.int .i64 0]) (by simp [results,Tryz.results69,go_sem,y0,y1,y2,y3,y4,aIs];try go_simp) rfl ?_
  rw [HF.out];exact ⟨rfl,(((((HL.out.setCell (by simp) _).setCell (by simp) _).setCell (by simp) _).setCell (by simp) _).setCell (by simp) _)⟩
theorem aCp (v2:Value) (g:Graph) (kind:Int) (E:Nat) (w:World) (h2:aAn w v2 g) (hg:GOK g) (hG:aB3 g=true) (hk:aFl kind=true) (hE:E<2 ^ g.ports.length) :
  Calls prog 44 #[v2,.int .i64 kind,.int .u32 (E:Int)] w fun e w'=>e = .returned (.bool true)/\Bel w w':=by
 have HGV:=aA0 (fun w' (k:Bel w w')=>h2.keep k);obtain ⟨A3,k3,A4,k4,rfl,_,_,_,_,_,_⟩:=h2;have HGL:=aA0 hG;have hle:=hg.le;have HGT:Hid (aEa g=true):=(aEe g).2 hg;have hE32:E<4294967296:=Nat.lt_of_lt_of_le hE (Nat.pow_le_pow_right (n:=2) (by decide) (show g.ports.length<=32 by omega))
 have HKB:=aA0 hk;obtain ⟨M,hM⟩:∃ M,aFr g.ports.length (fun _=>true)=M:=⟨_,rfl⟩;have HM:=aA0 hM;have HD:=aIj (T:=M) hE32;have hwb:=aLt (E:=E) (show g.ports.length<=32 by omega) hE
 rw [hM] at hwb;rw [hwb] at HD;have hbn:=aEc E M;have hz:((aF0 E M:Int)==0)=true:=by simp at HD ⊢;omega
 have hz':(aF0 E M==0)=true:=by simp at HD ⊢;omega
 have HW:=Bel.refl (w.alloc (.cells #[.slice A3 g.ids.length k3,.slice A4 g.ports.length k4] 29));have q0:=aA9 HW 0 (v := .slice A3 g.ids.length k3) rfl;have q1:=aA9 HW 1 (v := .slice A4 g.ports.length k4) rfl;have q2:=aAx HW;clear hG hg hk hM hwb HD hE;go_enter func44,ntmps44
 go_wp2_with (first
  | (go_at_call 72;refine (aDc _ g _ (HGV.out _ (aA4 HW)) HGL.out).mono ?_;rintro e w' ⟨rfl,hb⟩;rw [HGT.out];replace HW:=HW.trans hb;clear hb q0 q1 q2;have q0:=aA9 HW 0 (v := .slice A3 g.ids.length k3) rfl;have q1:=aA9 HW 1 (v := .slice A4 g.ports.length k4) rfl;have q2:=aAx HW)
  | (go_at_call 48;refine (aF8 _ _).mono ?_;rintro e w' ⟨rfl,rfl⟩;rw [HKB.out])
  | (go_at_call 73;refine (aIm g.ports.length _ (by omega)).mono ?_;rintro e w' ⟨rfl,rfl⟩;rw [HM.out]))
 go_ret;exact ⟨rfl,aA4 HW⟩
def aT1 (g:Graph) (W v:Nat):Nat:=((List.range v).filter (W.testBit ·)).foldl (fun s v=>if aHq g v&&&s=0 then s|||2 ^ v else s) 0
theorem aR1 (g:Graph) (W v:Nat):aT1 g W (v+1)=if W.testBit v=true then (if aHq g v&&&aT1 g W v=0 then aT1 g W v|||2 ^ v else aT1 g W v) else aT1 g W v:=by
 unfold aT1;rw [List.range_succ,List.filter_append,List.foldl_append];cases h:W.testBit v <;> simp [h]
theorem aX0 (g:Graph) (W:Nat):∀ v,v<=32->aT1 g W v<4294967296
 | 0,_=>by simp [aT1]
 | v+1,h=>by
  have:=aX0 g W v (by omega)
  rw [aR1];split
  .split
   .exact Nat.or_lt_two_pow (n:=32) this (aIg (by omega))
   .exact this
  .exact this
theorem aWz {g:Graph} {W n:Nat} (hW:W<2 ^ n) (hn:n<=32):aT1 g W n=aD4 g (aAe W):=by
 have e:(List.range 32).filter (W.testBit ·)=(List.range n).filter (W.testBit ·):=by
  obtain ⟨k,hk⟩:∃ k,32=n+k:=⟨32-n,by omega⟩
  have e0:((List.range k).map (n+·)).filter (W.testBit ·)=[]:=by
   rw [List.filter_eq_nil_iff];intro x hx
   obtain ⟨y,_,rfl⟩:=List.mem_map.1 hx;intro hb
   have:=aPe hW hb;omega
  rw [hk,List.range_add,List.filter_append,e0,List.append_nil]
 unfold aT1 aD4 aAe;rw [e]
theorem aKh (v2:Value) (g:Graph) (W:Nat) (w:World) (h2:aAn w v2 g) (hg:GOK g) (hG:aB3 g=true) (hW:W<2 ^ g.ports.length) :
  Calls prog 76 #[v2,.int .u32 (W:Int)] w fun e w'=>e = .returned (.int .u32 (aD4 g (aAe W):Nat))/\Bel w w':=by
 have HGV:=aA0 (fun w' (k:Bel w w')=>h2.keep k);obtain ⟨A3,k3,A4,k4,rfl,_,_,_,_,_,_⟩:=h2;have HG:=aA0 hg;have HGL:=aA0 hG;have hle:=hg.le;have HF:=aA0 (aWz (g:=g) hW (by omega))
 have HWL:Hid (W<4294967296):=Nat.lt_of_lt_of_le hW (Nat.pow_le_pow_right (n:=2) (by decide) (show g.ports.length<=32 by omega))
 have HW:=Bel.refl (w.alloc (.cells #[.slice A3 g.ids.length k3,.slice A4 g.ports.length k4] 29));clear hg hG hW;go_enter func76,ntmps76
 go_wp2_with fail
 go_loopg [5,6] g.ports.length (fun m s x wr=>∃ v:Nat,v<=g.ports.length/\m=g.ports.length-v/\s = .int .u32 (aT1 g W v:Nat)/\x = .int .i64 v/\Bel (w.alloc (.cells #[.slice A3 g.ids.length k3,.slice A4 g.ports.length k4] 29)) wr)
 case atStart=>exact ⟨0,by omega,rfl,rfl,rfl,HW⟩
 case round =>
  clear HW;obtain ⟨v,hv,rfl,rfl,rfl,HW⟩:=hrel;have q0:=aA9 HW 0 (v := .slice A3 g.ids.length k3) rfl;have q1:=aA9 HW 1 (v := .slice A4 g.ports.length k4) rfl;have q2:=aAx HW;have hgl:=aX0 g W v (by omega)
  by_cases hlt:v<g.ports.length
  .have hd0:decide (v<g.ports.length)=true:=by simpa using hlt
   have HH:Hid (aLw W (v:Int)=W.testBit v):=by show _=_;unfold aLw;rw [decide_eq_true (show (0:Int)<=(v:Int) by omega),decide_eq_true (show (v:Int)<32 by omega)];rfl
   have HN:Hid (aLw (bAq g (aT1 g W v)) (v:Int)=(aHq g v&&&aT1 g W v != 0)):=by
    show _=_
    unfold aLw;rw [decide_eq_true (show (0:Int)<=(v:Int) by omega),decide_eq_true (show (v:Int)<32 by omega),Int.toNat_natCast,aZf HG.out,decide_eq_true hlt];rfl
   have HNL:Hid (bAq g (aT1 g W v)<4294967296):=aGq _ (by omega)
   have HS:=aA0 (aR1 g W v);have hbs:=aFz hgl (show v<32 by omega)
   generalize aT1 g W v=s at *;generalize hNE:bAq g s=N at *;have HNE:=aA0 hNE;clear hNE;cases hb:W.testBit v with
   | false =>
    rw [hb] at HH HS;rw [if_neg (by decide)] at HS
    go_wp2_with (go_at_call 55;refine (aEg W _ _ HWL.out).mono ?_;rintro e w2 ⟨rfl,rfl⟩;rw [HH.out])
    go_roundg (g.ports.length-(v+1))
    case rel=>exact ⟨v+1,by omega,rfl,by rw [HS.out],by go_num,HW⟩
    case measure=>omega
   | true =>
    rw [hb] at HH HS;rw [if_pos rfl] at HS
    by_cases hz:aHq g v&&&s=0
    .rw [if_pos hz] at HS
     have hzb:(aHq g v&&&s != 0)=false:=by simpa using hz
     rw [hzb] at HN;clear hz hzb
     go_wp2_with (first
      | (go_at_call 74;refine (aLn _ g s _ (HGV.out _ (aA4 HW)) HG.out HGL.out hgl).mono ?_;rintro e w2 ⟨rfl,hb2⟩;rw [HNE.out];replace HW:=HW.trans hb2;clear hb2 q0 q1 q2;have q0:=aA9 HW 0 (v := .slice A3 g.ids.length k3) rfl;have q1:=aA9 HW 1 (v := .slice A4 g.ports.length k4) rfl;have q2:=aAx HW)
      | (go_at_call 55;first | (with_reducible refine (aEg W _ _ HWL.out).mono ?_;rintro e w2 ⟨rfl,rfl⟩;rw [HH.out]) | (with_reducible refine (aEg N _ _ HNL.out).mono ?_;rintro e w2 ⟨rfl,rfl⟩;rw [HN.out])))
     go_roundg (g.ports.length-(v+1))
     case rel=>exact ⟨v+1,by omega,rfl,by rw [HS.out],by go_num,HW⟩
     case measure=>omega
    .rw [if_neg hz] at HS
     have hzb:(aHq g v&&&s != 0)=true:=by simpa using hz
     rw [hzb] at HN;clear hz hzb
     go_wp2_with (first
      | (go_at_call 74;refine (aLn _ g s _ (HGV.out _ (aA4 HW)) HG.out HGL.out hgl).mono ?_;rintro e w2 ⟨rfl,hb2⟩;rw [HNE.out];replace HW:=HW.trans hb2;clear hb2 q0 q1 q2;have q0:=aA9 HW 0 (v := .slice A3 g.ids.length k3) rfl;have q1:=aA9 HW 1 (v := .slice A4 g.ports.length k4) rfl;have q2:=aAx HW)
      | (go_at_call 55;first | (with_reducible refine (aEg W _ _ HWL.out).mono ?_;rintro e w2 ⟨rfl,rfl⟩;rw [HH.out]) | (with_reducible refine (aEg N _ _ HNL.out).mono ?_;rintro e w2 ⟨rfl,rfl⟩;rw [HN.out])))
     go_roundg (g.ports.length-(v+1))
     case rel=>exact ⟨v+1,by omega,rfl,by rw [HS.out],by go_num,HW⟩
     case measure=>omega
  .have hd0:decide (v<g.ports.length)=false:=by simpa using hlt
   obtain rfl:v=g.ports.length:=by omega
   go_wp2_with fail
   go_ret;exact ⟨aA5 (by rw [HF.out]),aA4 HW⟩
theorem aOa (v2:Value) (g:Graph) (kind:Int) (E W:Nat) (w:World) (h2:aAn w v2 g) (hg:GOK g) (hG:aB3 g=true) (hk:aFl kind=true) (hE:E<2 ^ g.ports.length) (h0:E≠0) (hW:W<4294967296) :
  Calls prog 49 #[v2,.int .i64 kind,.int .u32 (E:Int),.int .u32 (W:Int)] w fun e w'=>e = .returned (.int .u32 (aAl g kind E W:Nat))/\Bel w w':=by
 have HGV:=aA0 (fun w' (k:Bel w w')=>h2.keep k);obtain ⟨A3,k3,A4,k4,rfl,_,_,_,_,_,_⟩:=h2;have HGO:=aA0 hg;have HGL:=aA0 hG;have HKB:=aA0 hk;have HE:=aA0 hE;have hle:=hg.le;have hE32:E<4294967296:=Nat.lt_of_lt_of_le hE (Nat.pow_le_pow_right (n:=2) (by decide) (show g.ports.length<=32 by omega))
 have HW:=Bel.refl (w.alloc (.cells #[.slice A3 g.ids.length k3,.slice A4 g.ports.length k4] 29));have q0:=aA9 HW 0 (v := .slice A3 g.ids.length k3) rfl;have q1:=aA9 HW 1 (v := .slice A4 g.ports.length k4) rfl;have q2:=aAx HW;have z0:((E:Int)==0)=false:=by simp;omega
 have z0':(E==0)=false:=by simp;omega
 have hba:=aCs hW hE32;obtain ⟨x,hx⟩:∃ x,(if W&&&E=0 then lsb E else W&&&E)=x:=⟨_,rfl⟩
 have HF:Hid (aAl g kind E W=if kind=1 then lsb x else if kind=2 then aD4 g (aAe x) else if kind=4 then E else x):=by show _=_;unfold aAl;rw [hx]
 have hxl:x<2 ^ g.ports.length:=by
  rw [<- hx];split
  .exact Nat.lt_of_le_of_lt Nat.and_le_left hE
  .exact Nat.lt_of_le_of_lt Nat.and_le_right hE
 have HX:=aA0 hxl;have HX32:Hid (x<4294967296):=Nat.lt_of_lt_of_le hxl (Nat.pow_le_pow_right (n:=2) (by decide) (show g.ports.length<=32 by omega))
 clear hg hG hk hE hxl h0
 have K:((((W&&&E:Nat):Int)==0)=true/\Hid (lsb E=x))∨((((W&&&E:Nat):Int)==0)=false/\W&&&E=x):=by
  by_cases h:W&&&E=0
  .rw [if_pos h] at hx
   exact .inl ⟨by simpa using h,hx⟩
  .rw [if_neg h] at hx
   exact .inr ⟨by simpa using h,hx⟩
 clear hx
 by_cases k1:kind=1
 .subst k1
  rw [if_pos rfl] at HF
  rcases K with ⟨c1,HL⟩ | ⟨c1,hL⟩
  .generalize W&&&E=m at *
   go_enter func49,ntmps49
   go_wp2_with (first
    | (go_at_call 44;refine (aCp _ g 1 E _ (HGV.out _ (aA4 HW)) HGO.out HGL.out HKB.out HE.out).mono ?_;rintro e w' ⟨rfl,hb⟩;replace HW:=HW.trans hb;clear hb q0 q1 q2;have q0:=aA9 HW 0 (v := .slice A3 g.ids.length k3) rfl;have q1:=aA9 HW 1 (v := .slice A4 g.ports.length k4) rfl;have q2:=aAx HW)
    | (go_at_call 75;first | (with_reducible refine (aD6 E _ hE32).mono ?_;rintro e w2 ⟨rfl,rfl⟩;rw [HL.out]) | (with_reducible refine (aD6 x _ HX32.out).mono ?_;rintro e w2 ⟨rfl,rfl⟩)))
   go_ret;exact ⟨aA5 (by rw [HF.out]),aA4 HW⟩
  .rw [hL] at hba c1
   clear hL;go_enter func49,ntmps49
   go_wp2_with (first
    | (go_at_call 44;refine (aCp _ g 1 E _ (HGV.out _ (aA4 HW)) HGO.out HGL.out HKB.out HE.out).mono ?_;rintro e w' ⟨rfl,hb⟩;replace HW:=HW.trans hb;clear hb q0 q1 q2;have q0:=aA9 HW 0 (v := .slice A3 g.ids.length k3) rfl;have q1:=aA9 HW 1 (v := .slice A4 g.ports.length k4) rfl;have q2:=aAx HW)
    | (go_at_call 75;(with_reducible refine (aD6 x _ HX32.out).mono ?_);rintro e w2 ⟨rfl,rfl⟩))
   go_ret;exact ⟨aA5 (by rw [HF.out]),aA4 HW⟩
 rw [if_neg k1] at HF;have k1':(kind==1)=false:=by simpa using k1
 by_cases k2:kind=2
 .subst k2
  rw [if_pos rfl] at HF;clear k1
  rcases K with ⟨c1,HL⟩ | ⟨c1,hL⟩
  .generalize W&&&E=m at *
   go_enter func49,ntmps49
   go_wp2_with (first
    | (go_at_call 44;refine (aCp _ g 2 E _ (HGV.out _ (aA4 HW)) HGO.out HGL.out HKB.out HE.out).mono ?_;rintro e w' ⟨rfl,hb⟩;replace HW:=HW.trans hb;clear hb q0 q1 q2;have q0:=aA9 HW 0 (v := .slice A3 g.ids.length k3) rfl;have q1:=aA9 HW 1 (v := .slice A4 g.ports.length k4) rfl;have q2:=aAx HW)
    | (go_at_call 75;(with_reducible refine (aD6 E _ hE32).mono ?_);rintro e w2 ⟨rfl,rfl⟩;rw [HL.out])
    | (go_at_call 76;refine (aKh _ g x _ (HGV.out _ (aA4 HW)) HGO.out HGL.out HX.out).mono ?_;rintro e w2 ⟨rfl,hb2⟩;replace HW:=HW.trans hb2))
   go_ret;exact ⟨aA5 (by rw [HF.out]),aA4 HW⟩
  .rw [hL] at hba c1
   clear hL;go_enter func49,ntmps49
   go_wp2_with (first
    | (go_at_call 44;refine (aCp _ g 2 E _ (HGV.out _ (aA4 HW)) HGO.out HGL.out HKB.out HE.out).mono ?_;rintro e w' ⟨rfl,hb⟩;replace HW:=HW.trans hb;clear hb q0 q1 q2;have q0:=aA9 HW 0 (v := .slice A3 g.ids.length k3) rfl;have q1:=aA9 HW 1 (v := .slice A4 g.ports.length k4) rfl;have q2:=aAx HW)
    | (go_at_call 76;refine (aKh _ g x _ (HGV.out _ (aA4 HW)) HGO.out HGL.out HX.out).mono ?_;rintro e w2 ⟨rfl,hb2⟩;replace HW:=HW.trans hb2))
   go_ret;exact ⟨aA5 (by rw [HF.out]),aA4 HW⟩
 rw [if_neg k2] at HF;have k2':(kind==2)=false:=by simpa using k2
 have K4:((kind==4)=true/\Hid (aAl g kind E W=E))∨((kind==4)=false/\Hid (aAl g kind E W=x)):=by
  by_cases k4:kind=4
  .have:=HF.out
   rw [if_pos k4] at this;exact .inl ⟨by simpa using k4,this⟩
  .have:=HF.out
   rw [if_neg k4] at this;exact .inr ⟨by simpa using k4,this⟩
 clear k1 k2 HF
 rcases K4 with ⟨k4',HF⟩ | ⟨k4',HF⟩
 all_goals
  rcases K with ⟨c1,HL⟩ | ⟨c1,hL⟩
  .generalize W&&&E=m at *
   go_enter func49,ntmps49
   go_wp2_with (first
    | (go_at_call 44;refine (aCp _ g kind E _ (HGV.out _ (aA4 HW)) HGO.out HGL.out HKB.out HE.out).mono ?_;rintro e w' ⟨rfl,hb⟩;replace HW:=HW.trans hb;clear hb q0 q1 q2;have q0:=aA9 HW 0 (v := .slice A3 g.ids.length k3) rfl;have q1:=aA9 HW 1 (v := .slice A4 g.ports.length k4) rfl;have q2:=aAx HW)
    | (go_at_call 75;(with_reducible refine (aD6 E _ hE32).mono ?_);rintro e w2 ⟨rfl,rfl⟩;rw [HL.out]))
   go_ret;exact ⟨aA5 (by rw [HF.out]),aA4 HW⟩
  .rw [hL] at hba c1
   clear hL;go_enter func49,ntmps49
   go_wp2_with (go_at_call 44;refine (aCp _ g kind E _ (HGV.out _ (aA4 HW)) HGO.out HGL.out HKB.out HE.out).mono ?_;rintro e w' ⟨rfl,hb⟩;replace HW:=HW.trans hb;clear hb q0 q1 q2;have q0:=aA9 HW 0 (v := .slice A3 g.ids.length k3) rfl;have q1:=aA9 HW 1 (v := .slice A4 g.ports.length k4) rfl;have q2:=aAx HW)
   go_ret;exact ⟨aA5 (by rw [HF.out]),aA4 HW⟩
theorem aIa (A:Option Addr) (c:Nat) (l:List Nat) (A2:Option Addr) (c2:Nat) (w:World) (h1:aAd w A l.length l) (h2:aAd w A2 l.length l) (hl:l.length<=1000000) :
  Calls prog 21 #[.slice A l.length c,.slice A2 l.length c2] w fun e w'=>e = .returned (.bool true)/\Bel w w':=by
 have H1:=aA0 (fun w' (k:Bel w w')=>aAd.keep h1 k);clear h1;have H2:=aA0 (fun w' (k:Bel w w')=>aAd.keep h2 k);clear h2;have hb:(l.length != l.length)=false:=by simp
 go_enter func21,ntmps21
 go_wp2_with fail
 clear hb
 go_loopg [5] l.length (fun q x wr=>∃ j:Nat,j<=l.length/\q=l.length-j/\x = .int .i64 j/\Bel w wr)
 case atStart=>exact ⟨0,by omega,rfl,rfl,Bel.refl w⟩
 case round =>
  obtain ⟨j,hj,rfl,rfl,HB⟩:=hrel
  by_cases hlt:j<l.length
  .obtain ⟨b',o',rfl,hb',hl1⟩:=(H1.out _ HB).at_ j hlt
   obtain ⟨b2,o2,rfl,hb2,hl2⟩:=(H2.out _ HB).at_ j hlt;have hd0:decide (j<l.length)=true:=by simpa using hlt
   generalize l[j]=S at *;have hbb:(S != S)=false:=by simp
   have hbi:((S:Int) != (S:Int))=false:=by simp
   go_wp2_with fail
   go_quiet (fail)
   go_wp2_with fail
   go_roundg (l.length-(j+1))
   case rel=>exact ⟨j+1,by omega,rfl,by go_num,HB.drewN _⟩
   case measure=>omega
  .have hd0:decide (j<l.length)=false:=by simpa using hlt
   go_wp2_with fail
   go_ret;exact ⟨rfl,HB⟩
variable {p:Prg} {g:Graph} {kind:Int} {c:aA7}
variable {p:Prg} {g:Graph} {kind:Int}
structure FollowP (p:Prg) (g:Graph) (kind:Int) (c:aA7) (ws:List Nat) (T:Trc):Prop where
 res:aNp p g kind (fun i E=>aAl g kind E (ws.getD i 0)) (fun _ E=>decide (E≠0)) ws.length 0 (aA3 p g c)=some T
 vis:aP6 p g kind (fun i E=>aAl g kind E (ws.getD i 0)) (fun _ E=>decide (E≠0)) ws.length 0 (aA3 p g c)=aBw p g kind (aA3 p g c) ws
 play:aJk p g kind (aA3 p g c) T.chosen=some T
 ok:OkT p g T
 len:T.chosen.length<=ws.length
 all:∀ S∈T.chosen,S<4294967296
 stop:T.chosen.length=ws.length∨aAj p g T.last=0
 wlen:(aBw p g kind (aA3 p g c) ws).length=T.chosen.length+1
 wlast:(aBw p g kind (aA3 p g c) ws).getLast?=some T
 wat:∀ k,k<=T.chosen.length->aJk p g kind (aA3 p g c) (T.chosen.take k)=(aBw p g kind (aA3 p g c) ws)[k]?
theorem aV4 {c:aA7} (hg:GOK g) (hk:aFl kind=true) (hm:aCv p g c=0) (ws:List Nat):∃ T,FollowP p g kind c ws T:=by
 obtain ⟨r1,r2⟩:=aNq (p:=p) hg hk ws ws.length 0 (aA3 p g c) (OkT.start hm) (by omega)
 rw [List.drop_zero] at r1 r2;obtain ⟨l,l1,l2,l3,l4,l5,l6⟩:=aNf (p:=p) hg hk ws _ (OkT.start hm);obtain ⟨l',m1,m2,m3,m4⟩:=aIh (p:=p) hg hk ws _ (OkT.start hm);have e1:(aCm p g kind (aA3 p g c) ws).chosen=l:=by rw [l1];rfl
 have e2:l'=l:=by
  have:(aA3 p g c).chosen++l'=(aA3 p g c).chosen++l:=by rw [<- m1,<- l1]
  exact List.append_cancel_left this
 subst e2;exact ⟨_,r1,r2,by rw [e1];exact l2,l5,by rw [e1];exact l3,by rw [e1];exact l6,by rw [e1];exact l4,by rw [e1];exact m2,m3,by rw [e1];exact m4⟩
theorem FollowP.elen {c:aA7} {ws:List Nat} {T:Trc} (h:FollowP p g kind c ws T):T.enabled.length=T.chosen.length+1:=h.ok.len
attribute [local go_sem] Oper.semAt_some
theorem aMf {S:Nat} (hS:S<4294967296):bits .and .u32 (S:Int) (-(S:Int) % 4294967296)=((lsb S:Nat):Int):=by
 by_cases h0:S=0
 .subst h0;rfl
 .exact aTu hS h0
def aBa (g:Graph) (s v:Nat):Nat:=if aHq g v&&&s=0 then s|||2 ^ v else s
theorem aKs (g:Graph) (l:List Nat):aD4 g l=l.foldl (aBa g) 0:=rfl
theorem aKt {g:Graph} {s v:Nat} (hs:s<4294967296) (hv:v<32):aBa g s v<4294967296:=by
 unfold aBa;split
 .exact Nat.or_lt_two_pow (n:=32) hs (aIg hv)
 .exact hs
theorem aS0 (A:Option Addr) (c:Nat) (g:Graph) (E wi x:Nat) (w:World) (hN:aMb w A g) (hT:aDg w) (hg:GOK g) (hE:E<4294967296) (hW:wi<4294967296)
  (hx:(wi&&&E=0/\lsb E=x)∨(wi&&&E≠0/\wi&&&E=x)) (hw:∀ v,x.testBit v=true->v<g.ports.length) :
  Calls prog 71 #[.slice A g.ports.length c,.int .i64 2,.int .u32 (E:Int),.int .u32 (wi:Int)] w fun e w'=>e = .returned (.int .u32 (aD4 g (aAe x):Nat))/\Bel w w':=by
 have HN:=aA0 (fun w' (k:Bel w w')=>hN.keep k);have HT:=aA0 (fun w' (k:Bel w w')=>hT.keep k);have hle:=hg.le;have hba:=aCs hW hE;have hbl:=aMf hE
 have hxl:x<4294967296:=by
  rcases hx with ⟨_,h⟩ | ⟨_,h⟩
  .rw [<- h];exact aU0 hE
  .rw [<- h];exact Nat.lt_of_le_of_lt Nat.and_le_right hE
 rcases hx with ⟨h1,h2⟩ | ⟨h1,h2⟩
 .have z:(((wi&&&E:Nat):Int)==0)=true:=by simpa using h1
  rw [h2] at hbl;clear h1 h2;generalize wi&&&E=m at *;refine aJc func71 rfl ?_
  simp only [ntmps71,List.size_toArray,List.length_cons,List.length_nil,Nat.reduceAdd,Nat.reduceSub,Array.replicate_succ,Array.replicate_zero,List.push_toArray,List.append_toArray,List.nil_append,List.cons_append]
  go_wp2_with (go_at_call 96;refine (aH6 _ _).mono ?_;rintro e w' ⟨rfl,rfl⟩)
  obtain ⟨W0,hW0⟩:∃ W0,((w.alloc (.cells #[.slice A g.ports.length c] 66)).alloc (.cells #[.int .u32 0] 34)).alloc (.cells #[.int .u32 (x:Int)] 34)=W0:=⟨_,rfl⟩;have b1:Boxed W0 w.heap.size 66 (.slice A g.ports.length c):=by rw [<- hW0];exact ((Boxed.new w _ _).alloc _).alloc _
  have b2:Boxed W0 (w.heap.size+1) 34 (.int .u32 0):=by
   rw [<- hW0];have:=Boxed.new (w.alloc (.cells #[.slice A g.ports.length c] 66)) 34 (.int .u32 0);rw [World.size_alloc] at this;exact this.alloc _
  have b3:Boxed W0 (w.heap.size+1+1) 34 (.int .u32 (x:Int)):=by
   rw [<- hW0];have:=Boxed.new ((w.alloc (.cells #[.slice A g.ports.length c] 66)).alloc (.cells #[.int .u32 0] 34)) 34 (.int .u32 (x:Int));rw [World.size_alloc,World.size_alloc] at this;exact this
  have hb0:Bel w W0:=by rw [<- hW0];exact (((Bel.refl w).alloc _).alloc _).alloc _
  have hz0:W0.heap.size=w.heap.size+1+1+1:=by rw [<- hW0];simp
  rw [hW0];clear hW0;refine (wpIn_wide (n:=5)).1 ?_
  refine aJq (n:=5) rfl (by decide) (gf:=119) (lb:=#[.pointer (some ⟨w.heap.size+1+1,0,none⟩)]) (by simp [go_sem]) trivial (enters_of func119 (by kernel_rfl) rfl)
   (aN9 4 _ x W0 (by decide) hxl b3 (HT.out _ hb0)) (by rintro k rfl;omega) (by rintro k rfl;exact (HT.out _ hb0).1) (fun _=>rfl) (fun k=>k=w.heap.size+1+1∨k=W0.heap.size∨k=W0.heap.size+1) (fun k=>Iff.rfl)
   (fun pre W=>Boxed W w.heap.size 66 (.slice A g.ports.length c)/\Boxed W (w.heap.size+1) 34 (.int .u32 (pre.foldl (aBa g) 0:Nat))/\pre.foldl (aBa g) 0<4294967296/\Bel w W)
   (fun c pre W=>False)
   (fun s A B ⟨h1,h2,h3,h4⟩ hg=>⟨hg.boxed h1 (by omega),hg.boxed h2 (by omega),h3,hg.belE h4 (by omega)⟩)
   (fun c s A B h hg=>h)
   ⟨b1,b2,by show (0:Nat)<4294967296;decide,hb0⟩
   (fun v a' W=>a'={ tmps:=#[.slice A g.ports.length c,.int .i64 2,.int .u32 (E:Int),.int .u32 (x:Int),.pointer (some ⟨w.heap.size,0,none⟩),undef,undef,undef,.int .u32 0,.pointer (some ⟨w.heap.size+1,0,none⟩),.int .i64 (v:Int),.int .u32 (wi:Int),.int .u32 (E:Int),.int .u32 (m:Int),.int .u32 (m:Int),.bool true,.int .u32 (E:Int),.int .u32 (E:Int),.int .u32 (-(E:Int) % 4294967296),.int .u32 (x:Int),.int .i64 2,.bool false,.bool false,undef,undef,undef,undef,.bool true,.bool true,.int .u32 (x:Int),.func (.func 119) #[] #[.pointer (some ⟨w.heap.size+1+1,0,none⟩)],.int .i64 (v:Int),undef,undef,undef,undef,undef,undef,undef,undef,undef,undef,undef,undef,undef,undef,undef,undef],defers:=[] })
   (fun _ _ _ _ h _=>h) ?assign ?body ?done ?stop
  case assign =>
   intro pre v W K hp hI hl hK
   gi_wp2
   exact hK _ _ (aCi.refl _ _) hI rfl
  case body =>
   rintro pre v a' W hp ⟨h1,h2,h3,h4⟩ rfl hl ⟨r,hr⟩;have hv:v∈aAe x:=hp.subset (by simp)
   have hvn:=hw v (aCy.1 hv).2;obtain ⟨b,o,e,hb,hc⟩:=(HN.out _ h4).at_ hvn;subst e;have HFS:Hid ((pre++[v]).foldl (aBa g) 0=aBa g (pre.foldl (aBa g) 0) v):=by show _=_;rw [List.foldl_append];rfl
   have HLT:Hid (aBa g (pre.foldl (aBa g) 0) v<4294967296):=aKt h3 (by omega)
   have HGS:Hid (aBa g (pre.foldl (aBa g) 0) v=if aHq g v&&&pre.foldl (aBa g) 0=0 then pre.foldl (aBa g) 0|||2 ^ v else pre.foldl (aBa g) 0):=rfl
   obtain ⟨c1,f1,l1⟩:=aBb h1;obtain ⟨c2,f2,l2⟩:=aBb h2;have q:=aCs (aTb hg v) h3;have q2:=aFz h3 (show v<32 by omega)
   have hdv:decide (v<g.ports.length)=true:=by simpa using hvn
   generalize pre.foldl (aBa g) 0=s at *;generalize hnv:aHq g v=N at *;refine wpIn_block (wpIn_seq ?_)
   refine aA6.startIn (fun w'=>w'.cell? ⟨w.heap.size,0,none⟩=some (.slice (some ⟨b,o,none⟩) g.ports.length c)/\w'.cell? ⟨w.heap.size+1,0,none⟩=some (.int .u32 (s:Int))/\w'.cell? ⟨b,o+v,none⟩=some (.int .u32 (N:Int))/\w.heap.size<w'.heap.size/\w.heap.size+1<w'.heap.size/\b<w'.heap.size) 6 (by kernel_rfl) (by kernel_rfl) (by rintro ⟨_,_,h⟩;exact h) ?_
   have hHeld:W.drew.cell? ⟨w.heap.size,0,none⟩=some (.slice (some ⟨b,o,none⟩) g.ports.length c)/\W.drew.cell? ⟨w.heap.size+1,0,none⟩=some (.int .u32 (s:Int))/\W.drew.cell? ⟨b,o+v,none⟩=some (.int .u32 (N:Int))/\w.heap.size<W.drew.heap.size/\w.heap.size+1<W.drew.heap.size/\b<W.drew.heap.size:=⟨c1,c2,hc,l1,l2,hb⟩
   by_cases hz:N&&&s=0
   .rw [hz] at q
    rw [if_pos hz] at HGS
    (refine aA6.t (v:=?_) 0 32 rfl rfl (by kernel_rfl) (fun _ _ _ h=>h) hHeld (Or.inl ⟨by rfl,?_⟩) ?_;rotate_left 1;focus (intro w' hSw;(try dsimp only at hSw);go_simp;(try with_reducible rfl);done))
    (refine aA6.t (v:=?_) 1 33 rfl rfl (by kernel_rfl) (fun _ _ _ h=>h) hHeld (Or.inl ⟨by rfl,?_⟩) ?_;rotate_left 1;focus (intro w' hSw;(try dsimp only at hSw);go_simp;(try with_reducible rfl);done))
    (refine aA6.t (v:=?_) 2 34 rfl rfl (by kernel_rfl) (fun _ _ _ h=>h) hHeld (Or.inl ⟨by rfl,?_⟩) ?_;rotate_left 1;focus (intro w' hSw;(try dsimp only at hSw);go_simp;(try with_reducible rfl);done))
    (refine aA6.t (v:=?_) 3 35 rfl rfl (by kernel_rfl) (fun _ _ _ h=>h) hHeld (Or.inl ⟨by rfl,?_⟩) ?_;rotate_left 1;focus (intro w' hSw;(try dsimp only at hSw);go_simp;(try with_reducible rfl);done))
    (refine aA6.t (v:=?_) 4 36 rfl rfl (by kernel_rfl) (fun _ _ _ h=>h) hHeld (Or.inl ⟨by rfl,?_⟩) ?_;rotate_left 1;focus (intro w' hSw;(try dsimp only at hSw);go_simp;(try with_reducible rfl);done))
    (refine aA6.t (v:=?_) 5 37 rfl rfl (by kernel_rfl) (fun _ _ _ h=>h) hHeld (Or.inl ⟨by rfl,?_⟩) ?_;rotate_left 1;focus (intro w' hSw;(try dsimp only at hSw);go_simp;(try with_reducible rfl);done))
    refine aA6.one (i:=6) (by kernel_rfl) rfl (fun K hK=>?_)
    go_simp
    refine hK.out _ _ (fun h=>absurd rfl h) ?_
    refine aA6.done (by kernel_rfl) ?_ _
    (try simp only [Act.put,List.setIfInBounds_toArray,List.set_cons_zero,List.set_cons_succ])
    change Code.wpIn _ _ _ _ _ _ _
    gi_wp2
    refine aA6.startIn (fun w'=>w'.cell? ⟨w.heap.size,0,none⟩=some (.slice (some ⟨b,o,none⟩) g.ports.length c)/\w'.cell? ⟨w.heap.size+1,0,none⟩=some (.int .u32 (s:Int))/\w'.cell? ⟨b,o+v,none⟩=some (.int .u32 (N:Int))/\w.heap.size<w'.heap.size/\w.heap.size+1<w'.heap.size/\b<w'.heap.size) 4 (by kernel_rfl) (by kernel_rfl) (by rintro ⟨_,_,h⟩;exact h) ?_
    have hHeld:W.drew.drew.cell? ⟨w.heap.size,0,none⟩=some (.slice (some ⟨b,o,none⟩) g.ports.length c)/\W.drew.drew.cell? ⟨w.heap.size+1,0,none⟩=some (.int .u32 (s:Int))/\W.drew.drew.cell? ⟨b,o+v,none⟩=some (.int .u32 (N:Int))/\w.heap.size<W.drew.drew.heap.size/\w.heap.size+1<W.drew.drew.heap.size/\b<W.drew.drew.heap.size:=⟨c1,c2,hc,l1,l2,hb⟩
    (refine aA6.t (v:=?_) 0 39 rfl rfl (by kernel_rfl) (fun _ _ _ h=>h) hHeld (Or.inl ⟨by rfl,?_⟩) ?_;rotate_left 1;focus (intro w' hSw;(try dsimp only at hSw);go_simp;(try with_reducible rfl);done))
    (refine aA6.t (v:=?_) 1 40 rfl rfl (by kernel_rfl) (fun _ _ _ h=>h) hHeld (Or.inl ⟨by rfl,?_⟩) ?_;rotate_left 1;focus (intro w' hSw;(try dsimp only at hSw);go_simp;(try with_reducible rfl);done))
    (refine aA6.t (v:=?_) 2 41 rfl rfl (by kernel_rfl) (fun _ _ _ h=>h) hHeld (Or.inl ⟨by rfl,?_⟩) ?_;rotate_left 1;focus (intro w' hSw;(try dsimp only at hSw);go_simp;(try with_reducible rfl);done))
    (refine aA6.t (v:=?_) 3 42 rfl rfl (by kernel_rfl) (fun _ _ _ h=>h) hHeld (Or.inl ⟨by rfl,?_⟩) ?_;rotate_left 1;focus (intro w' hSw;(try dsimp only at hSw);go_simp;(try with_reducible rfl);done))
    (refine aA6.one (i:=4) (by kernel_rfl) rfl (fun K hK=>?_));go_simp;refine hK.out _ _ (fun h=>absurd rfl h) ?_;clear hK K;refine aA6.done (by kernel_rfl) ?_ _;(try simp only [Act.put,List.setIfInBounds_toArray,List.set_cons_zero,List.set_cons_succ])
    rw [show IntKind.u32.wrap (2 ^ v)=2 ^ v % 4294967296 from rfl,q2,<- HGS.out]
    gi_wp2
    have h2':=h2.set (.int .u32 (aBa g s v:Nat));refine ⟨aCi.drew (aCi.drew (aCi.setCell _ _ _ ?_)),?_,?_,?_,((h4.setCell (by simp) _).drew).drew⟩
    .have:=hT.1
     rintro ((h | h | h) | h) <;> (dsimp only at h;omega)
    .exact (Below.heap_setCell _ _ _ _ (by simp)).trans h1
    .rw [HFS.out];exact h2'
    .rw [HFS.out];exact HLT.out
   .have hq:(((N&&&s:Nat):Int)==0)=false:=by simpa using hz
    rw [if_neg hz] at HGS;generalize N&&&s=Z at *
    (refine aA6.t (v:=?_) 0 32 rfl rfl (by kernel_rfl) (fun _ _ _ h=>h) hHeld (Or.inl ⟨by rfl,?_⟩) ?_;rotate_left 1;focus (intro w' hSw;(try dsimp only at hSw);go_simp;(try with_reducible rfl);done))
    (refine aA6.t (v:=?_) 1 33 rfl rfl (by kernel_rfl) (fun _ _ _ h=>h) hHeld (Or.inl ⟨by rfl,?_⟩) ?_;rotate_left 1;focus (intro w' hSw;(try dsimp only at hSw);go_simp;(try with_reducible rfl);done))
    (refine aA6.t (v:=?_) 2 34 rfl rfl (by kernel_rfl) (fun _ _ _ h=>h) hHeld (Or.inl ⟨by rfl,?_⟩) ?_;rotate_left 1;focus (intro w' hSw;(try dsimp only at hSw);go_simp;(try with_reducible rfl);done))
    (refine aA6.t (v:=?_) 3 35 rfl rfl (by kernel_rfl) (fun _ _ _ h=>h) hHeld (Or.inl ⟨by rfl,?_⟩) ?_;rotate_left 1;focus (intro w' hSw;(try dsimp only at hSw);go_simp;(try with_reducible rfl);done))
    (refine aA6.t (v:=?_) 4 36 rfl rfl (by kernel_rfl) (fun _ _ _ h=>h) hHeld (Or.inl ⟨by rfl,?_⟩) ?_;rotate_left 1;focus (intro w' hSw;(try dsimp only at hSw);go_simp;(try with_reducible rfl);done))
    (refine aA6.t (v:=?_) 5 37 rfl rfl (by kernel_rfl) (fun _ _ _ h=>h) hHeld (Or.inl ⟨by rfl,?_⟩) ?_;rotate_left 1;focus (intro w' hSw;(try dsimp only at hSw);go_simp;(try with_reducible rfl);done))
    refine aA6.one (i:=6) (by kernel_rfl) rfl (fun K hK=>?_)
    go_simp
    refine hK.out _ _ (fun h=>absurd rfl h) ?_
    refine aA6.done (by kernel_rfl) ?_ _
    (try simp only [Act.put,List.setIfInBounds_toArray,List.set_cons_zero,List.set_cons_succ])
    change Code.wpIn _ _ _ _ _ _ _
    gi_wp2
    refine ⟨aCi.of_bel ((Bel.refl W).drew),h1,?_,?_,h4.drew⟩
    .rw [HFS.out,HGS.out];exact h2
    .rw [HFS.out];exact HLT.out
  case done =>
   rintro W ⟨h1,h2,h3,h4⟩ hK;obtain ⟨c2,f2,l2⟩:=aBb h2;rw [<- aKs] at *;go_wp2;refine aFm (B:=w.heap.size) (aFd.push (aFd.nil _ _) (by omega) hK (by simp)) ?_
   intro W' hA hs
   exact ⟨.int .u32 (aD4 g (aAe x):Nat),by simp [results,Tryz.results71,go_sem],rfl,hA.bel h4⟩
  case stop =>
   rintro c' pre W hp h hK;exact h.elim
 .have z:(((wi&&&E:Nat):Int)==0)=false:=by simpa using h1
  rw [h2] at hba z;clear h1 h2;refine aJc func71 rfl ?_
  simp only [ntmps71,List.size_toArray,List.length_cons,List.length_nil,Nat.reduceAdd,Nat.reduceSub,Array.replicate_succ,Array.replicate_zero,List.push_toArray,List.append_toArray,List.nil_append,List.cons_append]
  go_wp2_with (go_at_call 96;refine (aH6 _ _).mono ?_;rintro e w' ⟨rfl,rfl⟩)
  obtain ⟨W0,hW0⟩:∃ W0,((w.alloc (.cells #[.slice A g.ports.length c] 66)).alloc (.cells #[.int .u32 0] 34)).alloc (.cells #[.int .u32 (x:Int)] 34)=W0:=⟨_,rfl⟩;have b1:Boxed W0 w.heap.size 66 (.slice A g.ports.length c):=by rw [<- hW0];exact ((Boxed.new w _ _).alloc _).alloc _
  have b2:Boxed W0 (w.heap.size+1) 34 (.int .u32 0):=by
   rw [<- hW0];have:=Boxed.new (w.alloc (.cells #[.slice A g.ports.length c] 66)) 34 (.int .u32 0);rw [World.size_alloc] at this;exact this.alloc _
  have b3:Boxed W0 (w.heap.size+1+1) 34 (.int .u32 (x:Int)):=by
   rw [<- hW0];have:=Boxed.new ((w.alloc (.cells #[.slice A g.ports.length c] 66)).alloc (.cells #[.int .u32 0] 34)) 34 (.int .u32 (x:Int));rw [World.size_alloc,World.size_alloc] at this;exact this
  have hb0:Bel w W0:=by rw [<- hW0];exact (((Bel.refl w).alloc _).alloc _).alloc _
  have hz0:W0.heap.size=w.heap.size+1+1+1:=by rw [<- hW0];simp
  rw [hW0];clear hW0;refine (wpIn_wide (n:=5)).1 ?_
  refine aJq (n:=5) rfl (by decide) (gf:=119) (lb:=#[.pointer (some ⟨w.heap.size+1+1,0,none⟩)]) (by simp [go_sem]) trivial (enters_of func119 (by kernel_rfl) rfl)
   (aN9 4 _ x W0 (by decide) hxl b3 (HT.out _ hb0)) (by rintro k rfl;omega) (by rintro k rfl;exact (HT.out _ hb0).1) (fun _=>rfl) (fun k=>k=w.heap.size+1+1∨k=W0.heap.size∨k=W0.heap.size+1) (fun k=>Iff.rfl)
   (fun pre W=>Boxed W w.heap.size 66 (.slice A g.ports.length c)/\Boxed W (w.heap.size+1) 34 (.int .u32 (pre.foldl (aBa g) 0:Nat))/\pre.foldl (aBa g) 0<4294967296/\Bel w W)
   (fun c pre W=>False)
   (fun s A B ⟨h1,h2,h3,h4⟩ hg=>⟨hg.boxed h1 (by omega),hg.boxed h2 (by omega),h3,hg.belE h4 (by omega)⟩)
   (fun c s A B h hg=>h)
   ⟨b1,b2,by show (0:Nat)<4294967296;decide,hb0⟩
   (fun v a' W=>a'={ tmps:=#[.slice A g.ports.length c,.int .i64 2,.int .u32 (E:Int),.int .u32 (x:Int),.pointer (some ⟨w.heap.size,0,none⟩),undef,undef,undef,.int .u32 0,.pointer (some ⟨w.heap.size+1,0,none⟩),.int .i64 (v:Int),.int .u32 (wi:Int),.int .u32 (E:Int),.int .u32 (x:Int),.int .u32 (x:Int),.bool false,undef,undef,undef,undef,.int .i64 2,.bool false,.bool false,undef,undef,undef,undef,.bool true,.bool true,.int .u32 (x:Int),.func (.func 119) #[] #[.pointer (some ⟨w.heap.size+1+1,0,none⟩)],.int .i64 (v:Int),undef,undef,undef,undef,undef,undef,undef,undef,undef,undef,undef,undef,undef,undef,undef,undef],defers:=[] })
   (fun _ _ _ _ h _=>h) ?assign ?body ?done ?stop
  case assign =>
   intro pre v W K hp hI hl hK
   gi_wp2
   exact hK _ _ (aCi.refl _ _) hI rfl
  case body =>
   rintro pre v a' W hp ⟨h1,h2,h3,h4⟩ rfl hl ⟨r,hr⟩;have hv:v∈aAe x:=hp.subset (by simp)
   have hvn:=hw v (aCy.1 hv).2;obtain ⟨b,o,e,hb,hc⟩:=(HN.out _ h4).at_ hvn;subst e;have HFS:Hid ((pre++[v]).foldl (aBa g) 0=aBa g (pre.foldl (aBa g) 0) v):=by show _=_;rw [List.foldl_append];rfl
   have HLT:Hid (aBa g (pre.foldl (aBa g) 0) v<4294967296):=aKt h3 (by omega)
   have HGS:Hid (aBa g (pre.foldl (aBa g) 0) v=if aHq g v&&&pre.foldl (aBa g) 0=0 then pre.foldl (aBa g) 0|||2 ^ v else pre.foldl (aBa g) 0):=rfl
   obtain ⟨c1,f1,l1⟩:=aBb h1;obtain ⟨c2,f2,l2⟩:=aBb h2;have q:=aCs (aTb hg v) h3;have q2:=aFz h3 (show v<32 by omega)
   have hdv:decide (v<g.ports.length)=true:=by simpa using hvn
   generalize pre.foldl (aBa g) 0=s at *;generalize hnv:aHq g v=N at *;refine wpIn_block (wpIn_seq ?_)
   refine aA6.startIn (fun w'=>w'.cell? ⟨w.heap.size,0,none⟩=some (.slice (some ⟨b,o,none⟩) g.ports.length c)/\w'.cell? ⟨w.heap.size+1,0,none⟩=some (.int .u32 (s:Int))/\w'.cell? ⟨b,o+v,none⟩=some (.int .u32 (N:Int))/\w.heap.size<w'.heap.size/\w.heap.size+1<w'.heap.size/\b<w'.heap.size) 6 (by kernel_rfl) (by kernel_rfl) (by rintro ⟨_,_,h⟩;exact h) ?_
   have hHeld:W.drew.cell? ⟨w.heap.size,0,none⟩=some (.slice (some ⟨b,o,none⟩) g.ports.length c)/\W.drew.cell? ⟨w.heap.size+1,0,none⟩=some (.int .u32 (s:Int))/\W.drew.cell? ⟨b,o+v,none⟩=some (.int .u32 (N:Int))/\w.heap.size<W.drew.heap.size/\w.heap.size+1<W.drew.heap.size/\b<W.drew.heap.size:=⟨c1,c2,hc,l1,l2,hb⟩
   by_cases hz:N&&&s=0
   .rw [hz] at q
    rw [if_pos hz] at HGS
    (refine aA6.t (v:=?_) 0 32 rfl rfl (by kernel_rfl) (fun _ _ _ h=>h) hHeld (Or.inl ⟨by rfl,?_⟩) ?_;rotate_left 1;focus (intro w' hSw;(try dsimp only at hSw);go_simp;(try with_reducible rfl);done))
    (refine aA6.t (v:=?_) 1 33 rfl rfl (by kernel_rfl) (fun _ _ _ h=>h) hHeld (Or.inl ⟨by rfl,?_⟩) ?_;rotate_left 1;focus (intro w' hSw;(try dsimp only at hSw);go_simp;(try with_reducible rfl);done))
    (refine aA6.t (v:=?_) 2 34 rfl rfl (by kernel_rfl) (fun _ _ _ h=>h) hHeld (Or.inl ⟨by rfl,?_⟩) ?_;rotate_left 1;focus (intro w' hSw;(try dsimp only at hSw);go_simp;(try with_reducible rfl);done))
    (refine aA6.t (v:=?_) 3 35 rfl rfl (by kernel_rfl) (fun _ _ _ h=>h) hHeld (Or.inl ⟨by rfl,?_⟩) ?_;rotate_left 1;focus (intro w' hSw;(try dsimp only at hSw);go_simp;(try with_reducible rfl);done))
    (refine aA6.t (v:=?_) 4 36 rfl rfl (by kernel_rfl) (fun _ _ _ h=>h) hHeld (Or.inl ⟨by rfl,?_⟩) ?_;rotate_left 1;focus (intro w' hSw;(try dsimp only at hSw);go_simp;(try with_reducible rfl);done))
    (refine aA6.t (v:=?_) 5 37 rfl rfl (by kernel_rfl) (fun _ _ _ h=>h) hHeld (Or.inl ⟨by rfl,?_⟩) ?_;rotate_left 1;focus (intro w' hSw;(try dsimp only at hSw);go_simp;(try with_reducible rfl);done))
    refine aA6.one (i:=6) (by kernel_rfl) rfl (fun K hK=>?_)
    go_simp
    refine hK.out _ _ (fun h=>absurd rfl h) ?_
    refine aA6.done (by kernel_rfl) ?_ _
    (try simp only [Act.put,List.setIfInBounds_toArray,List.set_cons_zero,List.set_cons_succ])
    change Code.wpIn _ _ _ _ _ _ _
    gi_wp2
    refine aA6.startIn (fun w'=>w'.cell? ⟨w.heap.size,0,none⟩=some (.slice (some ⟨b,o,none⟩) g.ports.length c)/\w'.cell? ⟨w.heap.size+1,0,none⟩=some (.int .u32 (s:Int))/\w'.cell? ⟨b,o+v,none⟩=some (.int .u32 (N:Int))/\w.heap.size<w'.heap.size/\w.heap.size+1<w'.heap.size/\b<w'.heap.size) 4 (by kernel_rfl) (by kernel_rfl) (by rintro ⟨_,_,h⟩;exact h) ?_
    have hHeld:W.drew.drew.cell? ⟨w.heap.size,0,none⟩=some (.slice (some ⟨b,o,none⟩) g.ports.length c)/\W.drew.drew.cell? ⟨w.heap.size+1,0,none⟩=some (.int .u32 (s:Int))/\W.drew.drew.cell? ⟨b,o+v,none⟩=some (.int .u32 (N:Int))/\w.heap.size<W.drew.drew.heap.size/\w.heap.size+1<W.drew.drew.heap.size/\b<W.drew.drew.heap.size:=⟨c1,c2,hc,l1,l2,hb⟩
    (refine aA6.t (v:=?_) 0 39 rfl rfl (by kernel_rfl) (fun _ _ _ h=>h) hHeld (Or.inl ⟨by rfl,?_⟩) ?_;rotate_left 1;focus (intro w' hSw;(try dsimp only at hSw);go_simp;(try with_reducible rfl);done))
    (refine aA6.t (v:=?_) 1 40 rfl rfl (by kernel_rfl) (fun _ _ _ h=>h) hHeld (Or.inl ⟨by rfl,?_⟩) ?_;rotate_left 1;focus (intro w' hSw;(try dsimp only at hSw);go_simp;(try with_reducible rfl);done))
    (refine aA6.t (v:=?_) 2 41 rfl rfl (by kernel_rfl) (fun _ _ _ h=>h) hHeld (Or.inl ⟨by rfl,?_⟩) ?_;rotate_left 1;focus (intro w' hSw;(try dsimp only at hSw);go_simp;(try with_reducible rfl);done))
    (refine aA6.t (v:=?_) 3 42 rfl rfl (by kernel_rfl) (fun _ _ _ h=>h) hHeld (Or.inl ⟨by rfl,?_⟩) ?_;rotate_left 1;focus (intro w' hSw;(try dsimp only at hSw);go_simp;(try with_reducible rfl);done))
    (refine aA6.one (i:=4) (by kernel_rfl) rfl (fun K hK=>?_));go_simp;refine hK.out _ _ (fun h=>absurd rfl h) ?_;clear hK K;refine aA6.done (by kernel_rfl) ?_ _;(try simp only [Act.put,List.setIfInBounds_toArray,List.set_cons_zero,List.set_cons_succ])
    rw [show IntKind.u32.wrap (2 ^ v)=2 ^ v % 4294967296 from rfl,q2,<- HGS.out]
    gi_wp2
    have h2':=h2.set (.int .u32 (aBa g s v:Nat));refine ⟨aCi.drew (aCi.drew (aCi.setCell _ _ _ ?_)),?_,?_,?_,((h4.setCell (by simp) _).drew).drew⟩
    .have:=hT.1
     rintro ((h | h | h) | h) <;> (dsimp only at h;omega)
    .exact (Below.heap_setCell _ _ _ _ (by simp)).trans h1
    .rw [HFS.out];exact h2'
    .rw [HFS.out];exact HLT.out
   .have hq:(((N&&&s:Nat):Int)==0)=false:=by simpa using hz
    rw [if_neg hz] at HGS;generalize N&&&s=Z at *
    (refine aA6.t (v:=?_) 0 32 rfl rfl (by kernel_rfl) (fun _ _ _ h=>h) hHeld (Or.inl ⟨by rfl,?_⟩) ?_;rotate_left 1;focus (intro w' hSw;(try dsimp only at hSw);go_simp;(try with_reducible rfl);done))
    (refine aA6.t (v:=?_) 1 33 rfl rfl (by kernel_rfl) (fun _ _ _ h=>h) hHeld (Or.inl ⟨by rfl,?_⟩) ?_;rotate_left 1;focus (intro w' hSw;(try dsimp only at hSw);go_simp;(try with_reducible rfl);done))
    (refine aA6.t (v:=?_) 2 34 rfl rfl (by kernel_rfl) (fun _ _ _ h=>h) hHeld (Or.inl ⟨by rfl,?_⟩) ?_;rotate_left 1;focus (intro w' hSw;(try dsimp only at hSw);go_simp;(try with_reducible rfl);done))
    (refine aA6.t (v:=?_) 3 35 rfl rfl (by kernel_rfl) (fun _ _ _ h=>h) hHeld (Or.inl ⟨by rfl,?_⟩) ?_;rotate_left 1;focus (intro w' hSw;(try dsimp only at hSw);go_simp;(try with_reducible rfl);done))
    (refine aA6.t (v:=?_) 4 36 rfl rfl (by kernel_rfl) (fun _ _ _ h=>h) hHeld (Or.inl ⟨by rfl,?_⟩) ?_;rotate_left 1;focus (intro w' hSw;(try dsimp only at hSw);go_simp;(try with_reducible rfl);done))
    (refine aA6.t (v:=?_) 5 37 rfl rfl (by kernel_rfl) (fun _ _ _ h=>h) hHeld (Or.inl ⟨by rfl,?_⟩) ?_;rotate_left 1;focus (intro w' hSw;(try dsimp only at hSw);go_simp;(try with_reducible rfl);done))
    refine aA6.one (i:=6) (by kernel_rfl) rfl (fun K hK=>?_)
    go_simp
    refine hK.out _ _ (fun h=>absurd rfl h) ?_
    refine aA6.done (by kernel_rfl) ?_ _
    (try simp only [Act.put,List.setIfInBounds_toArray,List.set_cons_zero,List.set_cons_succ])
    change Code.wpIn _ _ _ _ _ _ _
    gi_wp2
    refine ⟨aCi.of_bel ((Bel.refl W).drew),h1,?_,?_,h4.drew⟩
    .rw [HFS.out,HGS.out];exact h2
    .rw [HFS.out];exact HLT.out
  case done =>
   rintro W ⟨h1,h2,h3,h4⟩ hK;obtain ⟨c2,f2,l2⟩:=aBb h2;rw [<- aKs] at *;go_wp2;refine aFm (B:=w.heap.size) (aFd.push (aFd.nil _ _) (by omega) hK (by simp)) ?_
   intro W' hA hs
   exact ⟨.int .u32 (aD4 g (aAe x):Nat),by simp [results,Tryz.results71,go_sem],rfl,hA.bel h4⟩
  case stop =>
   rintro c' pre W hp h hK;exact h.elim
theorem aIz (g:Graph):∀ (l:List Nat) (s:Nat),s<4294967296->(∀ v∈l,v<32)->l.foldl (aBa g) s<4294967296
 | [],_,h,_=>h
 | v :: l,_,h,hl=>aIz g l _ (aKt h (hl v List.mem_cons_self)) fun u hu=>hl u (List.mem_cons_of_mem _ hu)
theorem aVr (g:Graph) (kind:Int) {E:Nat} (wi:Nat) (hE:E<4294967296):aAl g kind E wi<4294967296:=by
 have hx:(if wi&&&E=0 then lsb E else wi&&&E)<4294967296:=by
  split
  .exact aU0 hE
  .exact Nat.lt_of_le_of_lt Nat.and_le_right hE
 unfold aAl;generalize (if wi&&&E=0 then lsb E else wi&&&E)=x at *
 dsimp only;split
 .exact aU0 hx
 .split
  .rw [aKs];exact aIz g _ _ (by decide) fun v hv=>(aCy.1 hv).1
  .split
   .exact hE
   .exact hx
theorem aTm (A:Option Addr) (c:Nat) (g:Graph) (kind:Int) (E wi:Nat) (w:World) (hN:aMb w A g) (hT:aDg w) (hg:GOK g) (hE:E<2 ^ g.ports.length) (hW:wi<4294967296) :
  Calls prog 71 #[.slice A g.ports.length c,.int .i64 kind,.int .u32 (E:Int),.int .u32 (wi:Int)] w fun e w'=>e = .returned (.int .u32 (aAl g kind E wi:Nat))/\Bel w w':=by
 have hle:=hg.le;have hE32:E<4294967296:=Nat.lt_of_lt_of_le hE (Nat.pow_le_pow_right (n:=2) (by decide) (show g.ports.length<=32 by omega))
 obtain ⟨x,hx⟩:∃ x,(if wi&&&E=0 then lsb E else wi&&&E)=x:=⟨_,rfl⟩
 have hF:aAl g kind E wi=if kind=1 then lsb x else if kind=2 then aD4 g (aAe x) else if kind=4 then E else x:=by unfold aAl;rw [hx]
 have hxE:x<=E:=by
  rw [<- hx];split
  .exact Nat.and_le_left
  .exact Nat.and_le_right
 have hx2:(wi&&&E=0/\lsb E=x)∨(wi&&&E≠0/\wi&&&E=x):=by
  by_cases h:wi&&&E=0
  .rw [if_pos h] at hx;exact .inl ⟨h,hx⟩
  .rw [if_neg h] at hx;exact .inr ⟨h,hx⟩
 rw [hF]
 by_cases k2:kind=2
 .subst k2
  rw [if_neg (by decide),if_pos rfl]
  refine aS0 A c g E wi x w hN hT hg hE32 hW hx2 fun v hv=>?_
  rcases Nat.lt_or_ge v g.ports.length with h | h
  .exact h
  .have e:2 ^ g.ports.length<=2 ^ v:=Nat.pow_le_pow_right (by decide) h
   rw [Nat.testBit_lt_two_pow (by omega)] at hv;cases hv
 have k2':(kind==2)=false:=by simpa using k2
 have HB:Hid (Bel w (w.alloc (.cells #[.slice A g.ports.length c] 66))):=(Bel.refl w).alloc _;have hba:=aCs hW hE32;have hbl:=aMf hE32;have HBX:=aMf (S:=x) (by omega)
 have HR:Hid ((if kind=1 then lsb x else if kind=2 then aD4 g (aAe x) else if kind=4 then E else x)=if kind=1 then lsb x else if kind=4 then E else x):=by show _=_;rw [if_neg k2]
 rw [HR.out];obtain ⟨r,hr⟩:∃ r,(if kind=1 then lsb x else if kind=4 then E else x)=r:=⟨_,rfl⟩
 have K:((kind==1)=true/\Hid (lsb x=r))∨((kind==1)=false/\(kind==4)=true/\Hid (E=r))∨((kind==1)=false/\(kind==4)=false/\Hid (x=r)):=by
  by_cases k1:kind=1
  .rw [if_pos k1] at hr;exact .inl ⟨by simpa using k1,hr⟩
  .rw [if_neg k1] at hr
   by_cases k4:kind=4
   .rw [if_pos k4] at hr;exact .inr (.inl ⟨by simpa using k1,by simpa using k4,hr⟩)
   .rw [if_neg k4] at hr;exact .inr (.inr ⟨by simpa using k1,by simpa using k4,hr⟩)
 rw [hr];clear hF hx HR hr hN hT hg hE k2
 rcases hx2 with ⟨h1,h2⟩ | ⟨h1,h2⟩
 .have z:(((wi&&&E:Nat):Int)==0)=true:=by simpa using h1
  rw [h2] at hbl;clear h1 h2;generalize wi&&&E=m at *
  rcases K with ⟨k1,hr⟩ | ⟨k1,k4,hr⟩ | ⟨k1,k4,hr⟩
  all_goals
   go_enter func71,ntmps71
   go_wp2_with fail
   go_ret;exact ⟨aA5 (by rw [<- hr.out]),HB.out⟩
 .have z:(((wi&&&E:Nat):Int)==0)=false:=by simpa using h1
  rw [h2] at hba z;clear h1 h2
  rcases K with ⟨k1,hr⟩ | ⟨k1,k4,hr⟩ | ⟨k1,k4,hr⟩
  all_goals
   go_enter func71,ntmps71
   go_wp2_with fail
   go_ret;exact ⟨aA5 (by rw [<- hr.out]),HB.out⟩
end Go.Proofs.YtdcjnhoabbdanaaGreatDoor

namespace Go.Proofs.YtdcjnhoabbdanaaGreatDoor
open Go.RowKit
def aJu (p:Prg) (g:Graph) (kind:Int) (c:aA7) (n:Int):Int:=if aCv p g c≠0 then aCv p g c else if aFl kind=false then 12 else if 4096<n then 3 else 0
theorem aDv {p:Prg} {g:Graph} {kind:Int} {c:aA7} {n:Int} (h:aJu p g kind c n=0):aCv p g c=0/\aFl kind=true/\n<=4096:=by
 unfold aJu at h;split at h
 .exact absurd h (by assumption)
 .rename_i h1
  split at h
  .cases h
  .rename_i h2
   split at h
   .cases h
   .rename_i h3
    exact ⟨by simpa using h1,by simpa using h2,by omega⟩
theorem aEv (v1:Value) (p:Prg) (v2:Value) (g:Graph) (v3:Value) (c:aA7) (kind n:Int) (w:World) (h:aEm w v1 p) (h2:aAn w v2 g) (h3:aAy w v3 c) (hL:aAw p=true) (hG:aB3 g=true) (hC:aBl c=true) :
  Calls prog 35 #[v1,v2,.int .i64 kind,v3,.int .i64 n] w fun e w'=>e = .returned (.int .i64 (aJu p g kind c n))/\Bel w w':=by
 have HPV:=aA0 (fun w' (k:Bel w w')=>h.keep k);have HGV:=aA0 (fun w' (k:Bel w w')=>h2.keep k);have HCV:=aA0 (fun w' (k:Bel w w')=>h3.keep k);obtain ⟨A1,k1,A2,k2,rfl,_,_,_,_,_,_⟩:=h;obtain ⟨A3,k3,A4,k4,rfl,_,_,_,_,_,_⟩:=h2;obtain ⟨A5,k5,rfl,_,_,_⟩:=h3;have HW:=Bel.refl ((w.alloc (.cells #[.string p.name,.slice A1 p.vars.length k1,.slice A2 p.rules.length k2] 25)).alloc (.cells #[.slice A3 g.ids.length k3,.slice A4 g.ports.length k4] 29));have HL:=aA0 hL;have HGL:=aA0 hG;have HCL:=aA0 hC;clear hL hG hC;have HF:Hid (aJu p g kind c n=if aCv p g c≠0 then aCv p g c else if aFl kind=false then 12 else if 4096<n then 3 else 0):=rfl
 by_cases hm:aCv p g c=0
 .rw [if_neg (by simpa using hm)] at HF
  have HM:=aA0 hm;clear hm;cases hk:aFl kind with
  | false =>
   rw [hk,if_pos rfl] at HF;have HK:=aA0 hk;clear hk;go_enter func35,ntmps35
   go_wp2_with (first
    | (go_at_call 58;refine (aG3 _ p _ g _ c _ (HPV.out _ (aA1 HW)) (HGV.out _ (aA1 HW)) (HCV.out _ (aA1 HW)) HL.out HGL.out HCL.out).mono ?_;rintro e w' ⟨rfl,hb⟩;rw [HM.out];replace HW:=HW.trans hb;clear hb;(try clear p0 p1 p2 g0 g1 gsz);obtain ⟨p0,p1,p2,g0,g1,gsz⟩:=aAi HW)
    | (go_at_call 59;refine (aFh kind _).mono ?_;rintro e w' ⟨rfl,rfl⟩;rw [HK.out]))
   go_ret;exact ⟨aA5 (by rw [HF.out]),aA1 HW⟩
  | true =>
   rw [hk,if_neg (by decide)] at HF
   have HK:=aA0 hk;clear hk
   by_cases hn:4096<n
   .rw [if_pos hn] at HF
    have hd:decide (4096<n)=true:=by simpa using hn
    clear hn;go_enter func35,ntmps35
    go_wp2_with (first
     | (go_at_call 58;refine (aG3 _ p _ g _ c _ (HPV.out _ (aA1 HW)) (HGV.out _ (aA1 HW)) (HCV.out _ (aA1 HW)) HL.out HGL.out HCL.out).mono ?_;rintro e w' ⟨rfl,hb⟩;rw [HM.out];replace HW:=HW.trans hb;clear hb;(try clear p0 p1 p2 g0 g1 gsz);obtain ⟨p0,p1,p2,g0,g1,gsz⟩:=aAi HW)
     | (go_at_call 59;refine (aFh kind _).mono ?_;rintro e w' ⟨rfl,rfl⟩;rw [HK.out]))
    go_ret;exact ⟨aA5 (by rw [HF.out]),aA1 HW⟩
   .rw [if_neg hn] at HF
    have hd:decide (4096<n)=false:=by simpa using hn
    clear hn;go_enter func35,ntmps35
    go_wp2_with (first
     | (go_at_call 58;refine (aG3 _ p _ g _ c _ (HPV.out _ (aA1 HW)) (HGV.out _ (aA1 HW)) (HCV.out _ (aA1 HW)) HL.out HGL.out HCL.out).mono ?_;rintro e w' ⟨rfl,hb⟩;rw [HM.out];replace HW:=HW.trans hb;clear hb;(try clear p0 p1 p2 g0 g1 gsz);obtain ⟨p0,p1,p2,g0,g1,gsz⟩:=aAi HW)
     | (go_at_call 59;refine (aFh kind _).mono ?_;rintro e w' ⟨rfl,rfl⟩;rw [HK.out]))
    go_ret;exact ⟨aA5 (by rw [HF.out]),aA1 HW⟩
 .rw [if_pos hm] at HF
  have hmb:(aCv p g c != 0)=true:=by simpa using hm
  clear hm;go_enter func35,ntmps35
  go_wp2_with (go_at_call 58;refine (aG3 _ p _ g _ c _ (HPV.out _ (aA1 HW)) (HGV.out _ (aA1 HW)) (HCV.out _ (aA1 HW)) HL.out HGL.out HCL.out).mono ?_;rintro e w' ⟨rfl,hb⟩;replace HW:=HW.trans hb;clear hb;(try clear p0 p1 p2 g0 g1 gsz);obtain ⟨p0,p1,p2,g0,g1,gsz⟩:=aAi HW)
  go_ret;exact ⟨aA5 (by rw [HF.out]),aA1 HW⟩
theorem aJ3 (v1:Value) (p:Prg) (v2:Value) (g:Graph) (v3:Value) (c:aA7) (kind n:Int) (w:World) (h:aEm w v1 p) (h2:aAn w v2 g) (h3:aAy w v3 c) (hL:aAw p=true) (hG:aB3 g=true) (hC:aBl c=true) :
  Calls prog 39 #[v1,v2,.int .i64 kind,v3,.int .i64 n] w fun e w'=>e = .returned (.int .i64 (aJu p g kind c n))/\Bel w w':=by
 have HPV:=aA0 (fun w' (k:Bel w w')=>h.keep k);have HGV:=aA0 (fun w' (k:Bel w w')=>h2.keep k);have HCV:=aA0 (fun w' (k:Bel w w')=>h3.keep k);obtain ⟨A1,k1,A2,k2,rfl,_,_,_,_,_,_⟩:=h;obtain ⟨A3,k3,A4,k4,rfl,_,_,_,_,_,_⟩:=h2;obtain ⟨A5,k5,rfl,_,_,_⟩:=h3;have HW:=Bel.refl ((w.alloc (.cells #[.string p.name,.slice A1 p.vars.length k1,.slice A2 p.rules.length k2] 25)).alloc (.cells #[.slice A3 g.ids.length k3,.slice A4 g.ports.length k4] 29));have HL:=aA0 hL;have HGL:=aA0 hG;have HCL:=aA0 hC;clear hL hG hC;have HF:Hid (aJu p g kind c n=if aCv p g c≠0 then aCv p g c else if aFl kind=false then 12 else if 4096<n then 3 else 0):=rfl
 by_cases hm:aCv p g c=0
 .rw [if_neg (by simpa using hm)] at HF
  have HM:=aA0 hm;clear hm;cases hk:aFl kind with
  | false =>
   rw [hk,if_pos rfl] at HF;have HK:=aA0 hk;clear hk;go_enter func39,ntmps39
   go_wp2_with (first
    | (go_at_call 64;refine (aCo _ p _ g _ c _ (HPV.out _ (aA1 HW)) (HGV.out _ (aA1 HW)) (HCV.out _ (aA1 HW)) HL.out HGL.out HCL.out).mono ?_;rintro e w' ⟨rfl,hb⟩;rw [HM.out];replace HW:=HW.trans hb;clear hb;(try clear p0 p1 p2 g0 g1 gsz);obtain ⟨p0,p1,p2,g0,g1,gsz⟩:=aAi HW)
    | (go_at_call 48;refine (aF8 kind _).mono ?_;rintro e w' ⟨rfl,rfl⟩;rw [HK.out]))
   go_ret;exact ⟨aA5 (by rw [HF.out]),aA1 HW⟩
  | true =>
   rw [hk,if_neg (by decide)] at HF
   have HK:=aA0 hk;clear hk
   by_cases hn:4096<n
   .rw [if_pos hn] at HF
    have hd:decide (4096<n)=true:=by simpa using hn
    clear hn;go_enter func39,ntmps39
    go_wp2_with (first
     | (go_at_call 64;refine (aCo _ p _ g _ c _ (HPV.out _ (aA1 HW)) (HGV.out _ (aA1 HW)) (HCV.out _ (aA1 HW)) HL.out HGL.out HCL.out).mono ?_;rintro e w' ⟨rfl,hb⟩;rw [HM.out];replace HW:=HW.trans hb;clear hb;(try clear p0 p1 p2 g0 g1 gsz);obtain ⟨p0,p1,p2,g0,g1,gsz⟩:=aAi HW)
     | (go_at_call 48;refine (aF8 kind _).mono ?_;rintro e w' ⟨rfl,rfl⟩;rw [HK.out]))
    go_ret;exact ⟨aA5 (by rw [HF.out]),aA1 HW⟩
   .rw [if_neg hn] at HF
    have hd:decide (4096<n)=false:=by simpa using hn
    clear hn;go_enter func39,ntmps39
    go_wp2_with (first
     | (go_at_call 64;refine (aCo _ p _ g _ c _ (HPV.out _ (aA1 HW)) (HGV.out _ (aA1 HW)) (HCV.out _ (aA1 HW)) HL.out HGL.out HCL.out).mono ?_;rintro e w' ⟨rfl,hb⟩;rw [HM.out];replace HW:=HW.trans hb;clear hb;(try clear p0 p1 p2 g0 g1 gsz);obtain ⟨p0,p1,p2,g0,g1,gsz⟩:=aAi HW)
     | (go_at_call 48;refine (aF8 kind _).mono ?_;rintro e w' ⟨rfl,rfl⟩;rw [HK.out]))
    go_ret;exact ⟨aA5 (by rw [HF.out]),aA1 HW⟩
 .rw [if_pos hm] at HF
  have hmb:(aCv p g c != 0)=true:=by simpa using hm
  clear hm;go_enter func39,ntmps39
  go_wp2_with (go_at_call 64;refine (aCo _ p _ g _ c _ (HPV.out _ (aA1 HW)) (HGV.out _ (aA1 HW)) (HCV.out _ (aA1 HW)) HL.out HGL.out HCL.out).mono ?_;rintro e w' ⟨rfl,hb⟩;replace HW:=HW.trans hb;clear hb;(try clear p0 p1 p2 g0 g1 gsz);obtain ⟨p0,p1,p2,g0,g1,gsz⟩:=aAi HW)
  go_ret;exact ⟨aA5 (by rw [HF.out]),aA1 HW⟩
theorem aXz (n:Nat):aFr n (fun _=>true)=2 ^ n-1:=by
 apply Nat.eq_of_testBit_eq
 intro v
 rw [aIp,Nat.testBit_two_pow_sub_one,Bool.and_true]
theorem aR2 (v2:Value) (g:Graph) (w:World) (h2:aAn w v2 g) (hg:GOK g) :
  Calls prog 54 #[v2] w fun e w'=>e = .returned (.int .u32 (aFr g.ports.length (fun _=>true):Nat))/\Bel w w':=by
 obtain ⟨A3,k3,A4,k4,rfl,_,_,_,_,_,_⟩:=h2;have hle:=hg.le;have hid:=hg.ids;have HB:Hid (Bel w (w.alloc (.cells #[.slice A3 g.ids.length k3,.slice A4 g.ports.length k4] 29))):=(Bel.refl w).alloc _;have d1:decide (g.ids.length<32)=true:=by simp;omega
 have HF:Hid (aFr g.ports.length (fun _=>true)=2 ^ g.ports.length-1):=aXz _;have HID:=aA0 hid;clear hid;go_enter func54,ntmps54
 go_wp2_with fail
 go_ret;refine ⟨aA5 ?_,HB.out⟩
 rw [HF.out,HID.out];have hp:2 ^ g.ports.length<4294967296:=aIg (by omega)
 have hp0:0<2 ^ g.ports.length:=Nat.two_pow_pos _;rw [Nat.min_eq_left (by omega)]
 have e1:(2:Int) ^ g.ports.length=((2 ^ g.ports.length:Nat):Int):=by rw [Int.natCast_pow];rfl
 rw [e1];omega
theorem aAv.unset {N k o:Nat} {v:Value} {w W:World} (h:aAv N (w.setCell ⟨k,o,none⟩ v) W) (hk:k<N):aAv N w W :=
 ⟨by have:=h.1;simpa using this,fun i hN hi=>(h.2 i hN (by simpa using hi)).trans (Below.heap_setCell _ _ _ _ (show i≠k by omega))⟩
def aWb (p:Prg) (g:Graph) (v1 v2:Value) (kind:Int) (fs:FuncId) (capsS:Array Value) (w:World) (e:Ending) (w':World):Prop :=
 ∃ B A cn,e = .returned (.agg #[.pointer (some ⟨B,0,none⟩),.slice A g.ports.length cn,.int .i64 kind,.int .u32 (aFr g.ports.length (fun _=>true):Nat),.func (.func fs) #[] capsS]) /\
  (∀ W,aAv w.heap.size w' W->aEm W v1 p->aAn W v2 g->aE9 W B p g/\aMb W A g)/\Bel w w'
theorem aH5 (v1:Value) (p:Prg) (v2:Value) (g:Graph) (kind:Int) (fs:FuncId) (capsS:Array Value) (w:World) (h:aEm w v1 p) (h2:aAn w v2 g) (hc:aBq p=0) (hg:GOK g) (hG:aB3 g=true) :
  Calls prog 36 #[v1,v2,.int .i64 kind,.func (.func fs) #[] capsS] w (aWb p g v1 v2 kind fs capsS w):=by
 have HPV:=aA0 (fun w' (k:Bel w w')=>h.keep k);have HGV:=aA0 (fun w' (k:Bel w w')=>h2.keep k);obtain ⟨A1,k1,A2,k2,rfl,_,_,_,_,_,_⟩:=h;obtain ⟨A3,k3,A4,k4,rfl,_,_,_,_,_,_⟩:=h2;have HW:=Bel.refl ((w.alloc (.cells #[.string p.name,.slice A1 p.vars.length k1,.slice A2 p.rules.length k2] 25)).alloc (.cells #[.slice A3 g.ids.length k3,.slice A4 g.ports.length k4] 29));have HC:=aA0 hc;have HG:=aA0 hg;have HGL:=aA0 hG;have HMV:Hid True:=trivial;have HNT:Hid True:=trivial;clear hc hg hG
 have HZ:Hid (Blk (((w.alloc (.cells #[.string p.name,.slice A1 p.vars.length k1,.slice A2 p.rules.length k2] 25)).alloc (.cells #[.slice A3 g.ids.length k3,.slice A4 g.ports.length k4] 29)).alloc (.cells #[.pointer none,.slice none 0 0,.int .i64 0,.int .u32 0,.nilFunc] 69)) (w.heap.size+1+1) #[.pointer none,.slice none 0 0,.int .i64 0,.int .u32 0,.nilFunc] 69):=by
  have:=Blk.new ((w.alloc (.cells #[.string p.name,.slice A1 p.vars.length k1,.slice A2 p.rules.length k2] 25)).alloc (.cells #[.slice A3 g.ids.length k3,.slice A4 g.ports.length k4] 29)) #[.pointer none,.slice none 0 0,.int .i64 0,.int .u32 0,.nilFunc] 69;rw [World.size_alloc,World.size_alloc] at this;exact this
 replace HW:=HW.alloc (.cells #[.pointer none,.slice none 0 0,.int .i64 0,.int .u32 0,.nilFunc] 69);have hcell:=aA0 (fun w' (kk:Bel ((w.alloc (.cells #[.string p.name,.slice A1 p.vars.length k1,.slice A2 p.rules.length k2] 25)).alloc (.cells #[.slice A3 g.ids.length k3,.slice A4 g.ports.length k4] 29)) w')=>aAi kk);go_enter func36,ntmps36
 go_wp2_with fail
 replace HW:=HW.drew;replace HZ:=aA0 HZ.out.drew
 go_region_held3 (fun w'=>w'.cell? ⟨w.heap.size,0,none⟩=some (.string p.name)/\w'.cell? ⟨w.heap.size,1,none⟩=some (.slice A1 p.vars.length k1)/\w'.cell? ⟨w.heap.size,2,none⟩=some (.slice A2 p.rules.length k2)/\w'.cell? ⟨w.heap.size+1,0,none⟩=some (.slice A3 g.ids.length k3)/\w'.cell? ⟨w.heap.size+1,1,none⟩=some (.slice A4 g.ports.length k4)/\w.heap.size+1<w'.heap.size) (first | exact hcell.out _ HW | exact hcell.out _ (((((HW.setCell (by simp) _).setCell (by simp) _).setCell (by simp) _).setCell (by simp) _).setCell (by simp) _)) (first
  | (go_simp;go_at_call 60;refine (aPz _ p _ g _ (HPV.out _ (aA1 HW)) (HGV.out _ (aA1 HW)) HC.out HG.out HGL.out).mono ?_;rintro e w' ⟨bm,rfl,hMV,hb⟩;have hz:=HZ.out.lt;replace HMV:=aA0 (fun W (hW:aAv (w.heap.size+1+1+1) w' W) (q1:aEm W _ p) (q2:aAn W _ g)=>hMV W (hW.up hz) q1 q2);replace HW:=HW.trans hb;replace HZ:=aA0 (HZ.out.keep hb);clear hb hMV hz)
  | (go_simp;go_at_call 61;refine (aTd _ g _ (HGV.out _ (aA1 HW)) HG.out).mono ?_;rintro e w' ⟨AN,kn,rfl,hNT,_,_,hb⟩;have hz:=HZ.out.lt;replace HNT:=aA0 (fun W (hW:aAv (w.heap.size+1+1+1) w' W)=>hNT W (hW.up hz));replace HMV:=aA0 (fun W (hW:aAv (w.heap.size+1+1+1) w' W)=>HMV.out W (hW.back hb));replace HW:=HW.trans hb;replace HZ:=aA0 (HZ.out.keep hb);clear hb hNT hz)
  | (go_simp;go_at_call 54;refine (aR2 _ g _ (HGV.out _ (aA1 HW)) HG.out).mono ?_;rintro e w' ⟨rfl,hb⟩;replace HNT:=aA0 (fun W (hW:aAv (w.heap.size+1+1+1) w' W)=>HNT.out W (hW.back hb));replace HMV:=aA0 (fun W (hW:aAv (w.heap.size+1+1+1) w' W)=>HMV.out W (hW.back hb));replace HW:=HW.trans hb;replace HZ:=aA0 (HZ.out.keep hb);clear hb;have z0:=HZ.out.cell 0 (v := .pointer none) rfl;have f0:=HZ.out.frozen 0;have z1:=HZ.out.cell 1 (v := .slice none 0 0) rfl;have f1:=HZ.out.frozen 1;have z2:=HZ.out.cell 2 (v := .int .i64 0) rfl;have f2:=HZ.out.frozen 2;have z3:=HZ.out.cell 3 (v := .int .u32 0) rfl;have f3:=HZ.out.frozen 3;have z4:=HZ.out.cell 4 (v := .nilFunc) rfl;have f4:=HZ.out.frozen 4;have zl:=HZ.out.lt))
 go_wp2_with fail
 have HR9:Blk (((((w'.setCell ⟨w.heap.size+1+1,0,none⟩ (.pointer (some ⟨bm,0,none⟩))).setCell ⟨w.heap.size+1+1,1,none⟩ (.slice AN g.ports.length kn)).setCell ⟨w.heap.size+1+1,2,none⟩ (.int .i64 kind)).setCell ⟨w.heap.size+1+1,3,none⟩ (.int .u32 (aFr g.ports.length (fun _=>true):Nat))).setCell ⟨w.heap.size+1+1,4,none⟩ (.func (.func fs) #[] capsS)) (w.heap.size+1+1) #[.pointer (some ⟨bm,0,none⟩),.slice AN g.ports.length kn,.int .i64 kind,.int .u32 (aFr g.ports.length (fun _=>true):Nat),.func (.func fs) #[] capsS] 69:=(((((HZ.out.set 0 _).set 1 _).set 2 _).set 3 _).set 4 _);have y0:=HR9.cell 0 (v := .pointer (some ⟨bm,0,none⟩)) rfl;have y1:=HR9.cell 1 (v := .slice AN g.ports.length kn) rfl;have y2:=HR9.cell 2 (v := .int .i64 kind) rfl;have y3:=HR9.cell 3 (v := .int .u32 (aFr g.ports.length (fun _=>true):Nat)) rfl;have y4:=HR9.cell 4 (v := .func (.func fs) #[] capsS) rfl;refine bodyPost_ret (v := .agg #[.pointer (some ⟨bm,0,none⟩),.slice AN g.ports.length kn,.int .i64 kind,.int .u32 (aFr g.ports.length (fun _=>true):Nat),.func (.func fs) #[] capsS]) (by simp [results,Tryz.results36,go_sem,y0,y1,y2,y3,y4];try go_simp) rfl ?_
 have hbf:=aA1 HW;have hsz:=hbf.size;refine ⟨bm,AN,kn,rfl,fun W hW q1 q2=>?_,(((((hbf.setCell (by simp;omega) _).setCell (by simp;omega) _).setCell (by simp;omega) _).setCell (by simp;omega) _).setCell (by simp;omega) _)⟩
 have hW':aAv (w.heap.size+1+1+1) w' W:=(((((hW.up (by omega:w.heap.size<=w.heap.size+1+1+1)).unset (by omega)).unset (by omega)).unset (by omega)).unset (by omega)).unset (by omega)
 exact ⟨HMV.out W hW' q1 q2,HNT.out W hW'⟩
theorem aMw (N0:Nat) (en:Trc->Nat) (ok:Trc->Prop):Seer prog N0 37 #[] aIs en ok (fun M _ w=>∀ k,M k->k<w.heap.size) where
 enter:=fun a b d w=>by kernel_rfl
 dom:=fun M s w h=>h
 keep:=fun M s w W h hz _ k hk=>Nat.lt_of_lt_of_le (h k hk) hz
 grow:=fun M M' s w _ _ h=>h
 call:=fun M s w v t _ h hC _=>by
  have hb:Bel w (w.alloc (.cells (aC9 t.count) 36)):=(Bel.refl w).alloc _;have HB:=aA0 hb;have HM:=aA0 h;clear hb h hC;unfold aIs;unfold aC9 at HB;go_enter func37,ntmps37
  go_wp2_with fail
  go_end0
  exact ⟨⟨_,rfl⟩,M,fun k hk=>Nat.lt_of_lt_of_le (HM.out k hk) HB.out.size,Agr.of_belM HB.out,fun k hk=>hk,fun k hk => .inl hk⟩
def aIw (x:Value × Trc):List Value:=(aC9 x.2.count).toList
structure WatchI (bx by':Nat) (M C:Nat->Prop) (s:List (Value × Trc)) (w:World) (AX:Option Addr) (cX:Nat) (AY:Option Addr) (cY:Nat) (hs:List Value):Prop where
 box1:Boxed w bx 51 (.slice AX s.length cX)
 box2:Boxed w by' 52 (.slice AY s.length cY)
 row1:w.ownsRow (by'+1) 30 1 (.slice AX s.length cX) s.length hs
 row2:w.ownsRow (by'+1) 36 5 (.slice AY s.length cY) s.length (s.flatMap aIw)
 in1:∀ k,k=bx∨k=by'∨ob AX s.length cX=some k∨ob AY s.length cY=some k∨C k->M k
 off:∀ k,C k->k≠bx/\k≠by'/\ob AX s.length cX≠some k/\ob AY s.length cY≠some k
 dom:∀ k,M k->k<w.heap.size
 lt:bx<by'
 rows:∀ (u:Nat) (x:Value × Trc),s[u]?=some x->∃ v,hs[u]?=some v/\∀ W,w.heap.size<=W.heap.size->(∀ k,C k->W.heap[k]?=w.heap[k]?)->aAy W v x.2.last
theorem aUb {M:Nat->Prop} {w W:World} {base e size n c m:Nat} {A:Option Addr} {xs:List Value} (h:w.ownsRow base e size (.slice A n c) m xs) (hk:∀ k,M k->W.heap[k]?=w.heap[k]?) (hM:∀ k,ob A n c=some k->M k):W.ownsRow base e size (.slice A n c) m xs:=by
 refine ⟨h.1,?_⟩
 rcases h.2 with hn | ⟨g,cap,cur,hv,hb,hg,hr⟩
 .exact .inl hn
 .refine .inr ⟨g,cap,cur,hv,hb,?_,hr⟩
  injection hv with hA hn hc
  subst hA;rw [hk g (hM g (by simp [ob,Value.ownBlock]))];exact hg
section
variable {bx by':Nat} {M C:Nat->Prop} {s:List (Value × Trc)} {w W:World} {AX:Option Addr} {cX:Nat} {AY:Option Addr} {cY:Nat} {hs:List Value}
theorem WatchI.keep (h:WatchI bx by' M C s w AX cX AY cY hs) (hz:w.heap.size<=W.heap.size) (hk:∀ k,M k->W.heap[k]?=w.heap[k]?):WatchI bx by' M C s W AX cX AY cY hs where
 box1:=(hk bx (h.in1 _ (.inl rfl))).trans h.box1
 box2:=(hk by' (h.in1 _ (.inr (.inl rfl)))).trans h.box2
 row1:=aUb h.row1 hk fun k e=>h.in1 k (.inr (.inr (.inl e)))
 row2:=aUb h.row2 hk fun k e=>h.in1 k (.inr (.inr (.inr (.inl e))))
 in1:=h.in1
 off:=h.off
 dom:=fun k hm=>Nat.lt_of_lt_of_le (h.dom k hm) hz
 lt:=h.lt
 rows:=fun u x hx=>by
  obtain ⟨v,h1,h3⟩:=h.rows u x hx;exact ⟨v,h1,fun V hV hkV=>h3 V (Nat.le_trans hz hV) fun k hm=>(hkV k hm).trans (hk k (h.in1 k (.inr (.inr (.inr (.inr hm))))))⟩
theorem WatchI.bel (h:WatchI bx by' M C s w AX cX AY cY hs) (k:Bel w W):WatchI bx by' M C s W AX cX AY cY hs:=h.keep k.size fun q hq=>k.block q (h.dom q hq)
theorem WatchI.grow {M':Nat->Prop} (h:WatchI bx by' M C s w AX cX AY cY hs) (hg:∀ k,M k->M' k) (hd:∀ k,M' k->k<w.heap.size):WatchI bx by' M' C s w AX cX AY cY hs :=
 { h with in1:=fun k hk=>hg k (h.in1 k hk),dom:=hd }
theorem WatchI.start (h1:Boxed w bx 51 (.slice none 0 0)) (h2:Boxed w by' 52 (.slice none 0 0)) (hl:bx<by') (hM:∀ k,k=bx∨k=by'->M k) (hd:∀ k,M k->k<w.heap.size):WatchI bx by' M (fun _=>False) [] w none 0 none 0 [] where
 box1:=h1
 box2:=h2
 row1:=World.ownsRow_nil _ _ _ _
 row2:=World.ownsRow_nil _ _ _ _
 in1:=fun k hk=>by
  rcases hk with e | e | e | e | e
  .exact hM k (.inl e)
  .exact hM k (.inr e)
  .cases e
  .cases e
  .exact e.elim
 off:=fun k hk=>hk.elim
 dom:=hd
 lt:=hl
 rows:=fun u x hx=>by simp at hx
theorem WatchI.next (h:WatchI bx by' M C s w AX cX AY cY hs) {w1 w4 w6:World} {AX':Option Addr} {cX':Nat} {AY':Option Addr} {cY':Nat} {v v':Value} {t:Trc} {a:Nat} (hb1:Bel w w1) (ha:w.heap.size<=a) (hv:∀ W,aAv a w1 W->aAy W v' t.last) {o1 o2:Obj}
  (hown1:w4.ownsRow (by'+1) 30 1 (.slice AX' (s.length+1) cX') (s.length+1) (hs++[v'])) (hgr1:(w1.alloc o1).grownBy w4 (Value.slice AX s.length cX).ownBlock)
  (hat1:(Value.slice AX' (s.length+1) cX').ownBlock=(Value.slice AX s.length cX).ownBlock∨(Value.slice AX' (s.length+1) cX').ownBlock=some (w1.alloc o1).heap.size)
  (hown2:w6.ownsRow (by'+1) 36 5 (.slice AY' (s.length+1) cY') (s.length+1) (s.flatMap aIw++aIw (v,t))) (hgr2:((w4.setCell ⟨bx,0,none⟩ (.slice AX' (s.length+1) cX')).alloc o2).grownBy w6 (Value.slice AY s.length cY).ownBlock)
  (hat2:(Value.slice AY' (s.length+1) cY').ownBlock=(Value.slice AY s.length cY).ownBlock∨(Value.slice AY' (s.length+1) cY').ownBlock=some ((w4.setCell ⟨bx,0,none⟩ (.slice AX' (s.length+1) cX')).alloc o2).heap.size) :
  WatchI bx by' (fun k=>M k∨w.heap.size<=k/\k<(w6.setCell ⟨by',0,none⟩ (.slice AY' (s.length+1) cY')).heap.size) (fun k=>C k∨a<=k/\k<w1.heap.size) (s++[(v,t)]) (w6.setCell ⟨by',0,none⟩ (.slice AY' (s.length+1) cY')) AX' cX' AY' cY' (hs++[v']) /\
   Agr M w (w6.setCell ⟨by',0,none⟩ (.slice AY' (s.length+1) cY')):=by
 have hl:(s++[(v,t)]).length=s.length+1:=by simp
 have b1:=h.box1.lt;have b2:=h.box2.lt;have hlt:=h.lt;have hz1:=hb1.size
 -- what changes
 have G1:Agr (fun k=>k=bx∨k=by'∨ob AX s.length cX=some k∨ob AY s.length cY=some k) w1 w4:=(Agr.alloc _ w1 o1).trans (Agr.grownV hgr1 fun k hk => .inr (.inr (.inl hk.symm)))
 have G2:=G1.trans (Agr.setCell (E:=fun k=>k=bx∨k=by'∨ob AX s.length cX=some k∨ob AY s.length cY=some k) w4 ⟨bx,0,none⟩ (.slice AX' (s.length+1) cX') (.inl rfl))
 have G3:=G2.trans (Agr.alloc _ _ o2);have G4:=G3.trans (Agr.grownV (E:=fun k=>k=bx∨k=by'∨ob AX s.length cX=some k∨ob AY s.length cY=some k) hgr2 fun k hk => .inr (.inr (.inr hk.symm)))
 have G5:=G4.trans (Agr.setCell (E:=fun k=>k=bx∨k=by'∨ob AX s.length cX=some k∨ob AY s.length cY=some k) w6 ⟨by',0,none⟩ (.slice AY' (s.length+1) cY') (.inr (.inl rfl)))
 have H5:=(Agr.of_belM (M:=fun k=>k=bx∨k=by'∨ob AX s.length cX=some k∨ob AY s.length cY=some k) hb1).trans G5
 have hE:∀ k,(k=bx∨k=by'∨ob AX s.length cX=some k∨ob AY s.length cY=some k)->M k:=fun k hk=>h.in1 k (by
  rcases hk with e | e | e | e
  .exact .inl e
  .exact .inr (.inl e)
  .exact .inr (.inr (.inl e))
  .exact .inr (.inr (.inr (.inl e))))
 have hElt:∀ k,(k=bx∨k=by'∨ob AX s.length cX=some k∨ob AY s.length cY=some k)->k<w.heap.size:=fun k hk=>h.dom k (hE k hk)
 -- the two old rows
 have nXY:∀ k,ob AY s.length cY=some k->ob AX s.length cX≠some k:=fun k hk hk2=>by
  rcases aEs h.row1 h.row2 (by decide) with e | e
  .exact absurd (hk.symm.trans e) (by simp)
  .exact e (hk.trans hk2.symm)
 have hs1:(w1.alloc o1).heap.size=w1.heap.size+1:=by simp
 have hs2:((w4.setCell ⟨bx,0,none⟩ (.slice AX' (s.length+1) cX')).alloc o2).heap.size=w4.heap.size+1:=by simp
 have hs7:(w6.setCell ⟨by',0,none⟩ (.slice AY' (s.length+1) cY')).heap.size=w6.heap.size:=by simp
 have hz4:=G1.size;have hz6:w4.heap.size+1<=w6.heap.size:=by have:=hgr2.size;omega
 -- the first row behind all
 have R5:((w4.setCell ⟨bx,0,none⟩ (.slice AX' (s.length+1) cX')).alloc o2).ownsRow (by'+1) 30 1 (.slice AX' (s.length+1) cX') (s.length+1) (hs++[v']):=(aDi hown1 (by show bx<by'+1;omega) _).alloc o2
 have Y5:((w4.setCell ⟨bx,0,none⟩ (.slice AX' (s.length+1) cX')).alloc o2).ownsRow (by'+1) 36 5 (.slice AY s.length cY) s.length (s.flatMap aIw):=by
  have g1:Agr (fun k=>k=bx∨ob AX s.length cX=some k) w ((w4.setCell ⟨bx,0,none⟩ (.slice AX' (s.length+1) cX')).alloc o2) :=
   ((((Agr.of_belM hb1).trans (Agr.alloc _ w1 o1)).trans (Agr.grownV hgr1 fun k hk => .inr hk.symm)).trans (Agr.setCell _ _ _ (.inl rfl))).trans (Agr.alloc _ _ o2)
  refine aCc h.row2 g1 fun k hk e=>?_
  rcases e with e | e
  .have:=(aCx h.row2 hk).1;omega
  .exact nXY k hk e
 have n5:∀ k,ob AX' (s.length+1) cX'=some k->ob AY s.length cY≠some k:=fun k hk hk2=>by
  rcases aEs R5 Y5 (by decide) with e | e
  .exact absurd (hk2.symm.trans e) (by simp)
  .exact e (hk2.trans hk.symm)
 have R6:w6.ownsRow (by'+1) 30 1 (.slice AX' (s.length+1) cX') (s.length+1) (hs++[v']):=aCc (E:=fun k=>ob AY s.length cY=some k) R5 (Agr.grownV hgr2 fun k hk=>hk.symm) fun k hk e=>n5 k hk e
 have R7:=aDi R6 (a:=⟨by',0,none⟩) (by show by' < by'+1;omega) (.slice AY' (s.length+1) cY')
 have Y7:=aDi hown2 (a:=⟨by',0,none⟩) (by show by' < by'+1;omega) (.slice AY' (s.length+1) cY')
 have hx:∀ k,ob AX' (s.length+1) cX'=some k->ob AX s.length cX=some k∨k=w1.heap.size+1:=fun k hk=>by
  rcases hat1 with e | e
  .exact .inl (e.symm.trans hk)
  .right;have:=hk.symm.trans e;rw [hs1] at this;simpa using this
 have hy:∀ k,ob AY' (s.length+1) cY'=some k->ob AY s.length cY=some k∨k=w4.heap.size+1:=fun k hk=>by
  rcases hat2 with e | e
  .exact .inl (e.symm.trans hk)
  .right;have:=hk.symm.trans e;rw [hs2] at this;simpa using this
 have hhs:hs.length=s.length:=by have:=h.row1.1;omega
 refine ⟨⟨?_,?_,?_,?_,?_,?_,?_,hlt,?_⟩,H5.mono hE⟩
 .-- the first box
  have q4:Boxed w4 bx 51 (.slice AX s.length cX):=by
   have g:Agr (fun k=>ob AX s.length cX=some k) w w4:=((Agr.of_belM hb1).trans (Agr.alloc _ w1 o1)).trans (Agr.grownV hgr1 fun k hk=>hk.symm);exact g.boxed h.box1 fun e=>by have:=(aCx h.row1 e).1;omega
  have q5:=q4.set (.slice AX' (s.length+1) cX');have q6:Boxed w6 bx 51 (.slice AX' (s.length+1) cX'):=(Agr.grownV (E:=fun k=>ob AY s.length cY=some k) hgr2 fun k hk=>hk.symm).boxed (q5.alloc o2) fun e=>by have:=(aCx h.row2 e).1;omega
  rw [hl];exact (Below.heap_setCell _ _ _ _ (by show bx≠by';omega)).trans q6
 .have g:Agr (fun k=>k=bx∨ob AX s.length cX=some k∨ob AY s.length cY=some k) w w6 :=
   (((((Agr.of_belM hb1).trans (Agr.alloc _ w1 o1)).trans (Agr.grownV hgr1 fun k hk => .inr (.inl hk.symm))).trans (Agr.setCell _ _ _ (.inl rfl))).trans (Agr.alloc _ _ o2)).trans (Agr.grownV hgr2 fun k hk => .inr (.inr hk.symm))
  have q6:=g.boxed h.box2 (fun e=>by
   rcases e with e | e | e
   .omega
   .have:=(aCx h.row1 e).1;omega
   .have:=(aCx h.row2 e).1;omega)
  rw [hl];exact q6.set _
 .rw [hl];exact R7
 .rw [hl,List.flatMap_append]
  simpa using Y7
 .intro k hk
  rw [hl] at hk
  rcases hk with e | e | e | e | e | e
  .exact .inl (h.in1 k (.inl e))
  .exact .inl (h.in1 k (.inr (.inl e)))
  .rcases hx k e with q | q
   .exact .inl (h.in1 k (.inr (.inr (.inl q))))
   .right
    have:=(aCx R7 e).2;exact ⟨by omega,this⟩
  .rcases hy k e with q | q
   .exact .inl (h.in1 k (.inr (.inr (.inr (.inl q)))))
   .right
    have:=(aCx Y7 e).2;exact ⟨by omega,this⟩
  .exact .inl (h.in1 k (.inr (.inr (.inr (.inr e)))))
  .right;exact ⟨by omega,by omega⟩
 .intro k hk
  rw [hl]
  rcases hk with e | e
  .have hk2:=h.dom k (h.in1 k (.inr (.inr (.inr (.inr e)))))
   obtain ⟨a1,a2,a3,a4⟩:=h.off k e;refine ⟨a1,a2,fun q=>?_,fun q=>?_⟩
   .rcases hx k q with q | q
    .exact a3 q
    .omega
   .rcases hy k q with q | q
    .exact a4 q
    .omega
  .refine ⟨by omega,by omega,fun q=>?_,fun q=>?_⟩
   .rcases hx k q with q | q
    .have:=(aCx h.row1 q).2;omega
    .omega
   .rcases hy k q with q | q
    .have:=(aCx h.row2 q).2;omega
    .omega
 .rintro k (e | e)
  .have:=h.dom k e;omega
  .exact e.2
 .intro u x hx'
  by_cases hu:u<s.length
  .rw [List.getElem?_append_left hu] at hx'
   obtain ⟨vu,q1,q2⟩:=h.rows u x hx';refine ⟨vu,by rw [List.getElem?_append_left (by omega)];exact q1,fun V hV hk=>q2 V (Nat.le_trans H5.size hV) fun k hc=>(hk k (.inl hc)).trans (H5.block k (h.dom k (h.in1 k (.inr (.inr (.inr (.inr hc)))))) fun e=>?_)⟩
   obtain ⟨a1,a2,a3,a4⟩:=h.off k hc
   rcases e with e | e | e | e
   .exact a1 e
   .exact a2 e
   .exact a3 e
   .exact a4 e
  .have hul:u=s.length:=by
    have:=(List.getElem?_eq_some_iff.1 hx').1;rw [hl] at this;omega
   subst hul;rw [List.getElem?_append_right (Nat.le_refl _)] at hx';obtain rfl:(v,t)=x:=by simpa using hx'
   refine ⟨v',by rw [List.getElem?_append_right (by omega),hhs];simp,fun V hV hk=>hv V ⟨Nat.le_trans G5.size hV,fun k ha' hk1=>(hk k (.inr ⟨ha',hk1⟩)).trans (G5.block k hk1 fun e=>by have:=hElt k e;omega)⟩⟩
end
theorem aOj:(prog.info? 30).map (fun i=>(i.zero,i.size,i.bytes))=some (some (.slice none 0 0),1,24):=by kernel_rfl
theorem aTv:(prog.info? 36).map (fun i=>(i.zero,i.size,i.bytes))=some (some (.agg #[.int .i64 0,.int .i64 0,.int .i64 0,.int .i64 0,.int .u32 0]),5,40):=by kernel_rfl
theorem aFi (a b c d:Int) (e:Int):∀ u∈(#[Value.int .i64 a,Value.int .i64 b,Value.int .i64 c,Value.int .i64 d,Value.int .u32 e]:Array Value).toList,u.oneCell'=true:=by simp [Value.oneCell']
theorem aW1 (bx by':Nat) (M C:Nat->Prop) (s:List (Value × Trc)) (AX:Option Addr) (cX:Nat) (AY:Option Addr) (cY:Nat) (hs:List Value) (v:Value) (t:Trc) (E:Nat) (w:World) (h:WatchI bx by' M C s w AX cX AY cY hs) (hn:s.length<=300) (hC:aAy w v t.last) (hL:aBl t.last=true) :
  Calls prog 50 #[v,.int .u32 (E:Int),aIs t.count,.pointer (some ⟨bx,0,none⟩),.pointer (some ⟨by',0,none⟩)] w fun e w' =>
   (∃ x,e = .returned x)/\∃ M' C' AX' cX' AY' cY' hs',WatchI bx by' M' C' (s++[(v,t)]) w' AX' cX' AY' cY' hs'/\Agr M w w'/\(∀ k,M k->M' k)/\∀ k,M' k->M k∨w.heap.size<=k:=by
 have HC:=aA0 (fun w' (k:Bel w w')=>hC.keep k);obtain ⟨A5,k5,rfl,_,_,_⟩:=hC;have HI:=aA0 h;have HL:=aA0 hL;have HB0:Hid (Blk (w.alloc (.cells (aC9 t.count) 36)) w.heap.size (aC9 t.count) 36):=Blk.new _ _ _;have HE:Hid (Bel w (w.alloc (.cells (aC9 t.count) 36))):=(Bel.refl w).alloc _;obtain ⟨i0,hi0,hz0,hz1,hz2⟩:=info_parts aOj;obtain ⟨j0,hj0,hy0,hy1,hy2⟩:=info_parts aTv;have hb1:=h.box1.lt;have hb2:=h.box2.lt;have hlt:=h.lt;have hcr:aIw (.slice A5 t.last.length k5,t)=(aC9 t.count).toList:=rfl;have HCR:=aA0 hcr;clear h hL hcr;unfold aC9 at HB0 HE HCR;unfold aIs;go_enter func50,ntmps50
 go_wp2_with fail
 generalize w.alloc (.cells #[.int .i64 t.count.steps,.int .i64 t.count.moves,.int .i64 t.count.rounds,.int .i64 t.count.begun,.int .u32 (t.count.pending:Int)] 36)=W at *;have HIW:=aA0 (HI.out.bel HE.out);have c0:=HIW.out.box1.cell;have l0:=HIW.out.box1.lt;refine aA6.start (fun w'=>w'.cell? ⟨bx,0,none⟩=some (.slice AX s.length cX)/\bx<w'.heap.size) 5 (by kernel_rfl) ?_
 have hHeld:W.drew.cell? ⟨bx,0,none⟩=some (.slice AX s.length cX)/\bx<W.drew.heap.size:=⟨c0,l0⟩
 (refine aA6.t (v:=?_) 0 8 rfl rfl (by kernel_rfl) (fun _ _ _ h=>h) hHeld (Or.inl ⟨by rfl,?_⟩) ?_;rotate_left 1;focus (intro w' hSw;(try dsimp only at hSw);go_simp;(try with_reducible rfl);done))
 (refine aA6.t (v:=?_) 1 9 rfl rfl (by kernel_rfl) (fun _ _ _ h=>h) hHeld (Or.inl ⟨by rfl,?_⟩) ?_;rotate_left 1;focus (intro w' hSw;(try dsimp only at hSw);go_simp;(try with_reducible rfl);done))
 refine aA6.one (i:=2) (by kernel_rfl) rfl (fun K hK=>?_)
 go_simp
 go_at_call 51
 refine (aI1 _ t.last _ (HC.out _ HE.out.drew) HL.out).mono ?_
 rintro e w1 ⟨g,cap,hs',rfl,hO,hsn,hb⟩
 (try go_simp)
 have HO:=aA0 hO;have HSN:=aA0 hsn;have HB1:=aA0 (HE.out.drew.trans hb);have HI1:=aA0 (HI.out.bel HB1.out);have HB01:Hid (Blk w1 w.heap.size #[.int .i64 t.count.steps,.int .i64 t.count.moves,.int .i64 t.count.rounds,.int .i64 t.count.begun,.int .u32 (t.count.pending:Int)] 36):=HB0.out.keep ((Bel.refl W).drew.trans hb);have ha:Hid (w.heap.size<=W.drew.heap.size):=HE.out.size;clear hO hsn hb c0 l0;have c0:=HI1.out.box1.cell;have l0:=HI1.out.box1.lt;refine hK.out _ _ (fun _=>⟨c0,l0⟩) ?_
 clear hK K hHeld;have hHeld:w1.cell? ⟨bx,0,none⟩=some (.slice AX s.length cX)/\bx<w1.heap.size:=⟨c0,l0⟩
 (try simp only [Act.put,List.setIfInBounds_toArray,List.set_cons_zero,List.set_cons_succ])
 refine aA6.one (i:=3) (by kernel_rfl) rfl (fun K hK=>?_)
 go_simp
 refine hK.out _ _ (fun _=>?_) ?_
 .refine ⟨?_,?_⟩ <;> go_simp
 clear hK K hHeld
 (try simp only [Act.put,List.setIfInBounds_toArray,List.set_cons_zero,List.set_cons_succ])
 refine aA6.one (i:=4) (by kernel_rfl) rfl (fun K hK=>?_)
 have hbw:=HB1.out.size;refine aAh _ rfl (.tmp 8) (.tmp 11) 51 rfl (by'+1) 30 i0 (.slice none 0 0) 1 24 underlying51 hi0 hz0 hz1 hz2 rfl (by decide) AX s.length cX hs (by simp [Act.eval]) (HI1.out.row1.alloc _) w1.heap.size #[.slice (some ⟨g,0,none⟩) t.last.length cap] 30 (0,0) (by simp [Act.eval]) (aEn _ _) rfl (aEr _ _ _) (by unfold maxLen;omega) (by omega) (by simp;omega) ?_
 intro AX' cX' w4 hown1 hgr1 hat1
 have HAG:Hid (Agr (fun k=>k=bx∨ob AX s.length cX=some k) w w4):=((Agr.of_belM HB1.out).trans (Agr.alloc _ w1 _)).trans (Agr.grownV hgr1 fun k hk => .inr hk.symm);have HX4:Hid (Boxed w4 bx 51 (.slice AX s.length cX)):=Agr.boxed (E:=fun k=>ob AX s.length cX=some k) (((Agr.of_belM HB1.out).trans (Agr.alloc _ w1 _)).trans (Agr.grownV hgr1 fun k hk=>hk.symm)) HI.out.box1 fun e=>by have:=(aCx HI.out.row1 e).1;omega
 have HG1:=aA0 hgr1;have HO1:=aA0 hown1;have HAT1:=aA0 hat1;obtain ⟨c4,f4,l4⟩:=aBb HX4.out;refine hK.out _ _ (fun _=>⟨c4,l4⟩) ?_
 clear hK K hown1 hgr1 hat1
 (try simp only [Act.put,List.setIfInBounds_toArray,List.set_cons_zero,List.set_cons_succ])
 (refine aA6.one (i:=5) (by kernel_rfl) rfl (fun K hK=>?_));go_simp;refine hK.out _ _ (fun h=>absurd rfl h) ?_;clear hK K;refine aA6.done (by kernel_rfl) ?_ _;(try simp only [Act.put,List.setIfInBounds_toArray,List.set_cons_zero,List.set_cons_succ])
 clear c4 f4 l4 c0 l0;have HA5:Hid (Agr (fun k=>k=bx∨ob AX s.length cX=some k) w (w4.setCell ⟨bx,0,none⟩ (.slice AX' (s.length+1) cX'))):=HAG.out.trans (Agr.setCell _ _ _ (.inl rfl))
 have HY5:Hid ((w4.setCell ⟨bx,0,none⟩ (.slice AX' (s.length+1) cX')).ownsRow (by'+1) 36 5 (.slice AY s.length cY) s.length (s.flatMap aIw)):=aCc HI.out.row2 HA5.out fun k hk e=>by
  rcases e with e | e
  .have:=(aCx HI.out.row2 hk).1;omega
  .rcases aEs HI.out.row1 HI.out.row2 (by decide) with q | q
   .exact absurd (hk.symm.trans q) (by simp)
   .exact q (hk.trans e.symm)
 have HBY:Hid (Boxed (w4.setCell ⟨bx,0,none⟩ (.slice AX' (s.length+1) cX')) by' 52 (.slice AY s.length cY)):=HA5.out.boxed HI.out.box2 fun e=>by
  rcases e with e | e
  .omega
  .have:=(aCx HI.out.row1 e).1;omega
 have HK5:Hid (Blk (w4.setCell ⟨bx,0,none⟩ (.slice AX' (s.length+1) cX')) w.heap.size #[.int .i64 t.count.steps,.int .i64 t.count.moves,.int .i64 t.count.rounds,.int .i64 t.count.begun,.int .u32 (t.count.pending:Int)] 36) :=
  Agr.blk (E:=fun k=>k=bx∨ob AX s.length cX=some k) (((Agr.alloc _ w1 _).trans (Agr.grownV HG1.out fun k hk => .inr hk.symm)).trans (Agr.setCell _ ⟨bx,0,none⟩ _ (.inl rfl))) HB01.out fun e=>by
   rcases e with e | e
   .omega
   .have:=(aCx HI.out.row1 e).2;omega
 have hz5:w.heap.size<=(w4.setCell ⟨bx,0,none⟩ (.slice AX' (s.length+1) cX')).heap.size:=HA5.out.size
 have HN:Hid (∀ (w6:World) (AY':Option Addr) (cY':Nat) (o2:Obj),w6.ownsRow (by'+1) 36 5 (.slice AY' (s.length+1) cY') (s.length+1) (s.flatMap aIw++[.int .i64 t.count.steps,.int .i64 t.count.moves,.int .i64 t.count.rounds,.int .i64 t.count.begun,.int .u32 (t.count.pending:Int)]) ->
   ((w4.setCell ⟨bx,0,none⟩ (.slice AX' (s.length+1) cX')).alloc o2).grownBy w6 (Value.slice AY s.length cY).ownBlock->((Value.slice AY' (s.length+1) cY').ownBlock=(Value.slice AY s.length cY).ownBlock∨(Value.slice AY' (s.length+1) cY').ownBlock=some ((w4.setCell ⟨bx,0,none⟩ (.slice AX' (s.length+1) cX')).alloc o2).heap.size) ->
   ∃ M' C' AX' cX' AY'' cY'' hs',WatchI bx by' M' C' (s++[(.slice A5 t.last.length k5,t)]) (w6.setCell ⟨by',0,none⟩ (.slice AY' (s.length+1) cY')) AX' cX' AY'' cY'' hs'/\Agr M w (w6.setCell ⟨by',0,none⟩ (.slice AY' (s.length+1) cY'))/\(∀ k,M k->M' k)/\∀ k,M' k->M k∨w.heap.size<=k):=fun w6 AY' cY' o2 q1 q2 q3=>by
  obtain ⟨n1,n2⟩:=HI.out.next (t:=t) (v := .slice A5 t.last.length k5) HB1.out ha.out (fun V hV=>HO.out.newC HSN.out hV) HO1.out HG1.out HAT1.out q1 q2 q3;exact ⟨_,_,_,_,_,_,_,n1,n2,fun k hk => .inl hk,fun k hk=>hk.imp id fun e=>e.1⟩
 clear HA5 HAG HX4 HG1 HO1 HAT1 HB01 HB1 HI1 HIW HO HSN HCR ha;generalize w4.setCell ⟨bx,0,none⟩ (.slice AX' (s.length+1) cX')=W5 at *;obtain ⟨y0,y1,y2⟩:=aBb HBY.out;have k0:=HK5.out.cell 0 (v := .int .i64 t.count.steps) rfl;have k1:=HK5.out.cell 1 (v := .int .i64 t.count.moves) rfl;have k2:=HK5.out.cell 2 (v := .int .i64 t.count.rounds) rfl;have k3:=HK5.out.cell 3 (v := .int .i64 t.count.begun) rfl;have k4:=HK5.out.cell 4 (v := .int .u32 (t.count.pending:Int)) rfl;have kl:=HK5.out.lt
 go_wp2_with (at_builtin;go_must (refine aDr _ rfl (.tmp 13) (.tmp 15) 52 rfl (by'+1) 36 j0 (.agg #[.int .i64 0,.int .i64 0,.int .i64 0,.int .i64 0,.int .u32 0]) 5 40 underlying52 hj0 hy0 hy1 hy2 rfl (by decide) AY s.length cY (s.flatMap aIw) rfl (HY5.out.alloc _) W5.heap.size #[.int .i64 t.count.steps,.int .i64 t.count.moves,.int .i64 t.count.rounds,.int .i64 t.count.begun,.int .u32 (t.count.pending:Int)] 36 (0,0) rfl (aEn _ _) rfl (aFi _ _ _ _ _) (by unfold maxLen;omega) (by omega) (by simp;omega) ?_);intro AY' cY' w6 hown2 hgr2 hat2;have HX6:Hid (Boxed w6 by' 52 (.slice AY s.length cY)):=(Agr.grownV (E:=fun k=>ob AY s.length cY=some k) hgr2 fun k hk=>hk.symm).boxed (HBY.out.alloc _) (fun e=>by have:=(aCx HI.out.row2 e).1;omega);have HF:=aA0 (HN.out w6 AY' cY' _ hown2 hgr2 hat2);clear hown2 hgr2 hat2 y0 y1 y2;obtain ⟨y0,y1,y2⟩:=aBb HX6.out)
 go_end0
 exact ⟨⟨_,rfl⟩,HF.out⟩
theorem aP9 (bx by' N0:Nat) (p:Prg) (g:Graph) (hL:aAw p=true) :
  Seer prog N0 50 #[.pointer (some ⟨bx,0,none⟩),.pointer (some ⟨by',0,none⟩)] aIs (fun t=>aAj p g t.last) (fun t=>OkT p g t) (fun M s w=>∃ C AX cX AY cY hs,WatchI bx by' M C s w AX cX AY cY hs) where
 enter:=fun a b d w=>by kernel_rfl
 dom:=fun M s w ⟨_,_,_,_,_,_,h⟩=>h.dom
 keep:=fun M s w W ⟨C,AX,cX,AY,cY,hs,h⟩ hz hk=>⟨C,AX,cX,AY,cY,hs,h.keep hz fun k hm=>hk k (.inl hm)⟩
 grow:=fun M M' s w ⟨C,AX,cX,AY,cY,hs,h⟩ hg hd=>⟨C,AX,cX,AY,cY,hs,h.grow hg hd⟩
 call:=fun M s w v t hn ⟨C,AX,cX,AY,cY,hs,h⟩ hC hok=>(aW1 bx by' M C s AX cX AY cY hs v t _ w h hn hC (aDs hok.mem hL)).mono fun e w' ⟨h1,M',C',AX',cX',AY',cY',hs',h2,h3,h4,h5⟩=>⟨h1,M',⟨C',AX',cX',AY',cY',hs',h2⟩,h3,h4,h5⟩
open Go.ChangeShapes Go.WideShapes Go.ChangeAt Go.WideMaps Go.WideElems Go.RowKit Go.Deep
abbrev jc0 (P:Program) (f:FuncId) (fn:Func) (s:ChangeSpec) (c:OpenClaim):Bool:=c.wf (OpenSpec.ofChange s)
abbrev jc1 (P:Program) (f:FuncId) (fn:Func) (s:ChangeSpec) (c:OpenClaim):Bool:=laidOutB P
abbrev jc2 (P:Program) (f:FuncId) (fn:Func) (s:ChangeSpec) (c:OpenClaim):Bool:=mapsRowed P
abbrev jc3 (P:Program) (f:FuncId) (fn:Func) (s:ChangeSpec) (c:OpenClaim):Bool:=fn.params.all (P.readableRec ·)
abbrev jc4 (P:Program) (f:FuncId) (fn:Func) (s:ChangeSpec) (c:OpenClaim):Bool:=namedTie P c.named s.vars
abbrev jc5 (P:Program) (f:FuncId) (fn:Func) (s:ChangeSpec) (c:OpenClaim):Bool:=(c.stops==[])
abbrev jc6 (P:Program) (f:FuncId) (fn:Func) (s:ChangeSpec) (c:OpenClaim):Bool:=(P.stops==[])
abbrev jc7 (P:Program) (f:FuncId) (fn:Func) (s:ChangeSpec) (c:OpenClaim):Bool:=(c.knobs==[])
abbrev jc8 (P:Program) (f:FuncId) (fn:Func) (s:ChangeSpec) (c:OpenClaim):Bool:=(P.stopKnobs==[])
abbrev jc9 (P:Program) (f:FuncId) (fn:Func) (s:ChangeSpec) (c:OpenClaim):Bool:=(c.inPlace==P.inPlace f)
abbrev jc10 (P:Program) (f:FuncId) (fn:Func) (s:ChangeSpec) (c:OpenClaim):Bool:=(c.unfollowed==P.unfollowed f)
abbrev jc11 (P:Program) (f:FuncId) (fn:Func) (s:ChangeSpec) (c:OpenClaim):Bool:=(c.recurses==P.recurses f)
abbrev jc12 (P:Program) (f:FuncId) (fn:Func) (s:ChangeSpec) (c:OpenClaim):Bool:=(c.named==P.varsNamed f)
abbrev jc13 (P:Program) (f:FuncId) (fn:Func) (s:ChangeSpec) (c:OpenClaim):Bool:=(c.maps==(fn.params.toList++s.plain.varTypes P).any (P.mapsRec ·))
abbrev jc14 (P:Program) (f:FuncId) (fn:Func) (s:ChangeSpec) (c:OpenClaim):Bool:=(c.ifaces==(fn.params.toList++s.plain.varTypes P).any (P.ifacesRec ·))
abbrev jc15 (P:Program) (f:FuncId) (fn:Func) (s:ChangeSpec) (c:OpenClaim):Bool:=(c.mapsOut==P.mapsAmong fn.resultTypes.toList)
abbrev jc16 (P:Program) (f:FuncId) (fn:Func) (s:ChangeSpec) (c:OpenClaim):Bool:=(c.loops==(fn.params.toList++s.plain.varTypes P).any (P.loopsFrom ·))
abbrev jc17 (P:Program) (f:FuncId) (fn:Func) (s:ChangeSpec) (c:OpenClaim):Bool:=(c.wideKeys==(fn.params.toList++s.plain.varTypes P++fn.resultTypes.toList).any (P.wideKeysFrom ·))
abbrev jc18 (P:Program) (f:FuncId) (fn:Func) (s:ChangeSpec) (c:OpenClaim):Bool:=s.vars.all (P.varReadable ·)
abbrev jc19 (P:Program) (f:FuncId) (fn:Func) (s:ChangeSpec) (c:OpenClaim):Bool:=fn.resultTypes.all (fun t=>P.readableRec t&&decide (t<P.types.size))
abbrev jc20 (P:Program) (f:FuncId) (fn:Func) (s:ChangeSpec) (c:OpenClaim):Bool:=(c.ifacesOut==fn.resultTypes.toList.any (P.ifacesRec ·))
abbrev jc21 (P:Program) (f:FuncId) (fn:Func) (s:ChangeSpec) (c:OpenClaim):Bool:=(c.loopsOut==fn.resultTypes.toList.any (P.loopsFrom ·))
abbrev jc22 (P:Program) (f:FuncId) (fn:Func) (s:ChangeSpec) (c:OpenClaim):Bool:=(c.plainKeys==P.plainKeys)
abbrev jc23 (P:Program) (f:FuncId) (fn:Func) (s:ChangeSpec) (c:OpenClaim):Bool:=c.shortTexts.isNone
abbrev jc24 (P:Program) (f:FuncId) (fn:Func) (s:ChangeSpec) (c:OpenClaim):Bool:=P.stopsHeard
abbrev jc25 (P:Program) (f:FuncId) (fn:Func) (s:ChangeSpec) (c:OpenClaim):Bool:=P.mayEnter
abbrev jc26 (P:Program) (f:FuncId) (fn:Func) (s:ChangeSpec) (c:OpenClaim):Bool:=(c.lifted==P.liftsFinal)
abbrev jc27 (P:Program) (f:FuncId) (fn:Func) (s:ChangeSpec) (c:OpenClaim):Bool:=(P.make==some c.make)
abbrev jc28 (P:Program) (f:FuncId) (fn:Func) (s:ChangeSpec) (c:OpenClaim):Bool:=(c.kinds==(if c.domain.isEmpty then [] else fn.params.toList.map fun t=>match P.underlying t with | some (.int k)=>some k | _=>none))
abbrev jc29 (P:Program) (f:FuncId) (fn:Func) (s:ChangeSpec) (c:OpenClaim):Bool:=(c.pinned==c.pinnedBy)
abbrev jc30 (P:Program) (f:FuncId) (fn:Func) (s:ChangeSpec) (c:OpenClaim):Bool:=(c.veiled==(fn.params.toList++s.plain.varTypes P++fn.resultTypes.toList).any (P.veiledRec ·))
abbrev jc31 (P:Program) (f:FuncId) (fn:Func) (s:ChangeSpec) (c:OpenClaim):Bool:=c.veiledFits P fn.params.toList (fn.params.toList++s.plain.varTypes P++fn.resultTypes.toList)
theorem aJa {a b:Bool} (h:a=true) (k:b=true):(a&&b)=true:=by rw [h,k];rfl
theorem jp1:jc1 prog 6 Tryz.f6 Rows.runAllowsWeakerDaemonsSpec Rows.runAllowsWeakerDaemonsRow=true:=by kernel_rfl
theorem jp2:jc2 prog 6 Tryz.f6 Rows.runAllowsWeakerDaemonsSpec Rows.runAllowsWeakerDaemonsRow=true:=by kernel_rfl
theorem jp6:jc6 prog 6 Tryz.f6 Rows.runAllowsWeakerDaemonsSpec Rows.runAllowsWeakerDaemonsRow=true:=by kernel_rfl
theorem jp8:jc8 prog 6 Tryz.f6 Rows.runAllowsWeakerDaemonsSpec Rows.runAllowsWeakerDaemonsRow=true:=by kernel_rfl
theorem jp22:jc22 prog 6 Tryz.f6 Rows.runAllowsWeakerDaemonsSpec Rows.runAllowsWeakerDaemonsRow=true:=by kernel_rfl
theorem jp24:jc24 prog 6 Tryz.f6 Rows.runAllowsWeakerDaemonsSpec Rows.runAllowsWeakerDaemonsRow=true:=by kernel_rfl
theorem jp25:jc25 prog 6 Tryz.f6 Rows.runAllowsWeakerDaemonsSpec Rows.runAllowsWeakerDaemonsRow=true:=by kernel_rfl
theorem jp26:jc26 prog 6 Tryz.f6 Rows.runAllowsWeakerDaemonsSpec Rows.runAllowsWeakerDaemonsRow=true:=by kernel_rfl
theorem jp27:jc27 prog 6 Tryz.f6 Rows.runAllowsWeakerDaemonsSpec Rows.runAllowsWeakerDaemonsRow=true:=by kernel_rfl
theorem jmain:prog.mainIs=some (Rows.runAllowsWeakerDaemonsCard.stood.harness.1,Rows.runAllowsWeakerDaemonsCard.stood.harness.2.toList):=by kernel_rfl
theorem jlook:false=prog.looks []:=by kernel_rfl
end Go.Proofs.YtdcjnhoabbdanaaGreatDoor

