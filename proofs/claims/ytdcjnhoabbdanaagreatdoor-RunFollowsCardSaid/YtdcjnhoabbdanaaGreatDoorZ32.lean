/- Merged. -/
import Derived.Test.YtdcjnhoabbdanaaGreatDoorZ31
import Derived.Test.YtdcjnhoabbdanaaGreatDoorZ30
set_option linter.unusedSimpArgs false
set_option linter.unnecessarySimpa false
set_option linter.unusedVariables false
set_option maxRecDepth 100000
set_option maxHeartbeats 4000000
open Go.Proofs.Tryz

namespace Go.Proofs.YtdcjnhoabbdanaaGreatDoor
open Go.RowKit
theorem Agr.of_belM {M:Nat->Prop} {a b:World} (h:Bel a b):Agr M a b:=⟨h.os,h.tape,h.output,h.size,fun k hk _=>h.block k hk⟩
def Rb (M:Nat->Prop) (R:World->Prop) (w:World):Prop:=∀ W,Agr M w W->R W
theorem Rb.here {M:Nat->Prop} {R:World->Prop} {w:World} (h:Rb M R w):R w:=h w (Agr.refl _ _)
theorem Rb.go {M:Nat->Prop} {R:World->Prop} {w W:World} (h:Rb M R w) (k:Agr M w W):Rb M R W:=fun V hV=>h V (k.trans hV)
theorem Rb.bel {M:Nat->Prop} {R:World->Prop} {w W:World} (h:Rb M R w) (k:Bel w W):Rb M R W:=h.go (Agr.of_belM k)
theorem Rb.more {M M':Nat->Prop} {R:World->Prop} {w:World} (h:Rb M R w) (hM:∀ k,M' k->M k∨w.heap.size<=k):Rb M' R w :=
 fun W hW=>h W ⟨hW.os,hW.tape,hW.output,hW.size,fun k hk hn=>hW.block k hk (fun e=>(hM k e).elim hn (fun h=>by omega))⟩
theorem Rb.and {M:Nat->Prop} {R S:World->Prop} {w:World} (h:Rb M R w) (k:Rb M S w):Rb M (fun W=>R W/\S W) w:=fun W hW=>⟨h W hW,k W hW⟩
theorem Rb.imp {M:Nat->Prop} {R S:World->Prop} {w:World} (h:Rb M R w) (k:∀ W,R W->S W):Rb M S w:=fun W hW=>k W (h W hW)
theorem Rb.sub {M M':Nat->Prop} {R:World->Prop} {w:World} (h:Rb M R w) (hM:∀ k,M' k->M k):Rb M' R w:=fun W hW=>h W (hW.mono hM)
theorem Rb.new {M:Nat->Prop} {N:Nat} {R:World->Prop} {w:World} (h:∀ W,aAv N w W->R W) (hM:∀ k,M k->k<N):Rb M R w :=
 fun W hW=>h W ⟨hW.size,fun k hN hk=>hW.block k hk (fun e=>by have:=hM k e;omega)⟩
theorem Rb.old {M:Nat->Prop} {R:World->Prop} {w0 w:World} (h:∀ W,Bel w0 W->R W) (hb:Bel w0 w) (hM:∀ k,M k->w0.heap.size<=k):Rb M R w :=
 fun W hW=>h W (Agr.belE hb hW hM)
theorem Rb.box {M:Nat->Prop} {B:Nat} {t:TypeId} {v:Value} {w:World} (h:Boxed w B t v) (hB:¬ M B):Rb M (fun W=>Boxed W B t v) w:=fun _ hW=>hW.boxed h hB
structure Seer (P:Program) (N0:Nat) (f:FuncId) (caps:Array Value) (cv:Cnt->Value) (en:Trc->Nat) (ok:Trc->Prop) (Inv:(Nat->Prop)->List (Value × Trc)->World->Prop):Prop where
 enter:∀ a b d w,(callFunc f (#[a,b,d]++caps)).run P w = .ok (.enter f (#[a,b,d]++caps)) w
 dom:∀ M s w,Inv M s w->∀ k,M k->k<w.heap.size
 keep:∀ M s w W,Inv M s w->w.heap.size<=W.heap.size->(∀ k,M k∨k<N0->W.heap[k]?=w.heap[k]?)->Inv M s W
 grow:∀ (M M':Nat->Prop) s w,Inv M s w->(∀ k,M k->M' k)->(∀ k,M' k->k<w.heap.size)->Inv M' s w
 call:∀ M s w v t,s.length<=300->Inv M s w->aAy w v t.last->ok t->Calls P f (#[v,.int .u32 (en t:Int),cv t.count]++caps) w fun e w' =>
  (∃ x,e = .returned x)/\∃ M',Inv M' (s++[(v,t)]) w'/\Agr M w w'/\(∀ k,M k->M' k)/\∀ k,M' k->M k∨w.heap.size<=k
def aIs (k:Cnt):Value := .agg #[.int .i64 k.steps,.int .i64 k.moves,.int .i64 k.rounds,.int .i64 k.begun,.int .u32 (k.pending:Int)]
theorem aTt {E:Nat} (h:E<16777216):bits .and .u32 (E:Int) 16777215=(E:Int):=by
 rw [show (16777215:Int)=((16777215:Nat):Int) from rfl,aCs (by omega) (by decide),bAg h]
theorem aPf {S:Nat} (h:S<16777216):bits .andNot .u32 (S:Int) 16777215=0:=by
 rw [show (16777215:Int)=((16777215:Nat):Int) from rfl,aEc,aYu h];rfl
theorem aHf (A:Option Addr) (c:Nat) (l:List Nat) (w:World) (h:aAd w A l.length l) (hl:∀ s∈l,s<16777216) (hn:l.length<=8) :
  Calls prog 112 #[.slice A l.length c] w fun e w'=>e = .returned (.bool true)/\Bel w w':=by
 have H:=aA0 (fun w' (k:Bel w w')=>aAd.keep h k);clear h;have HL:=aA0 hl;clear hl;go_enter func112,ntmps112
 go_wp2_with fail
 go_loopg [4,7] l.length (fun q _x z wr=>∃ j:Nat,j<=l.length/\q=l.length-j/\z = .int .i64 j/\Bel w wr)
 case atStart=>exact ⟨0,by omega,rfl,rfl,Bel.refl w⟩
 case round =>
  obtain ⟨j,hj,rfl,rfl,HB⟩:=hrel
  by_cases hlt:j<l.length
  .have hd0:decide (j<l.length)=true:=by simpa using hlt
   obtain ⟨b,o,rfl,hb,hc⟩:=(H.out _ HB).at_ j hlt;have hs:=HL.out _ (List.getElem_mem hlt);generalize l[j]=S at *;have hz:=aPf hs
   go_wp2_with fail
   go_roundg (l.length-(j+1))
   case rel=>exact ⟨j+1,by omega,rfl,by go_num,HB⟩
   case measure=>omega
  .have hd0:decide (j<l.length)=false:=by simpa using hlt
   go_wp2_with fail
   go_ret;exact ⟨rfl,HB⟩
theorem aPc (E:Nat) (w:World) (hE:E<16777216) :
  Calls prog 86 #[.int .u32 (E:Int)] w fun e w'=>e = .returned (aIs (aHh E))/\Bel w w':=by
 have hb:=aTt hE;have HB:Hid (∀ cs,Bel w (w.alloc (.cells cs 36))):=fun cs=>(Bel.refl w).alloc _;go_enter func86,ntmps86
 go_wp2_with fail
 refine bodyPost_ret (v:=aIs (aHh E)) (by simp [results,Tryz.results86,go_sem];try go_simp;try rfl) rfl ?_
 exact ⟨rfl,HB.out _⟩
theorem aVm {w:World} {B S A:Nat} {t:TypeId} (h:Blk w B #[.int .u32 (S:Int),.int .u32 (A:Int)] t):aAd w (some ⟨B,0,none⟩) 2 [S,A]:=by
 refine ⟨rfl,fun i x hx=>⟨B,0,rfl,h.lt,?_⟩⟩
 match i,hx with
 | 0, hx => obtain rfl : S = x := by simpa using hx
            exact h.cell 0 rfl
 | 1, hx => obtain rfl : A = x := by simpa using hx
            exact h.cell 1 rfl
 | i+2,hx=>simp at hx
theorem aXm {w:World} {B S:Nat} {t:TypeId} (h:Blk w B #[.int .u32 (S:Int)] t):aAd w (some ⟨B,0,none⟩) 1 [S]:=by
 refine ⟨rfl,fun i x hx=>⟨B,0,rfl,h.lt,?_⟩⟩
 match i,hx with
 | 0, hx => obtain rfl : S = x := by simpa using hx
            exact h.cell 0 rfl
 | i+1,hx=>simp at hx
theorem aVi {w:World} {B S:Nat} {t:TypeId} (h:w.heap.size=B):aAd (w.alloc (.cells #[.int .u32 (S:Int)] t)) (some ⟨B,0,none⟩) [S].length [S]:=by
 subst h;exact aXm (Blk.new w _ _)
theorem aTi {w:World} {B S A:Nat} {t:TypeId} (h:w.heap.size=B):aAd (w.alloc (.cells #[.int .u32 (S:Int),.int .u32 (A:Int)] t)) (some ⟨B,0,none⟩) [S,A].length [S,A]:=by
 subst h;exact aVm (Blk.new w _ _)
theorem aPd (k:Cnt) (n:Nat) (w:World) (h:OkK k n) (hn:n<=120) :
  Calls prog 111 #[aIs k] w fun e w'=>e = .returned (.bool true)/\Bel w w':=by
 obtain ⟨st,mv,ro,be,pe⟩:=k;obtain ⟨h1,h2,h3,h4,h5,h6,h7,h8⟩:=h;dsimp only at h1 h2 h3 h4 h5 h6 h7 h8;have s0:0<=st:=by omega
 have s1:st<=120:=by omega
 have d1:decide (st<0)=false:=by simp;omega
 have d2:decide (4096<st)=false:=by simp;omega
 have d3:decide (ro<0)=false:=by simp;omega
 have d4:decide (be<ro)=false:=by simp;omega
 have d5:decide (st<be)=false:=by simp;omega
 have d6:decide (ro+1<be)=false:=by simp;omega
 have d7:decide (st<=mv)=true:=by simp;omega
 have d8:decide (mv<=24*st)=true:=by simp;omega
 have r1:ro<=120:=by omega
 have HP:Hid (∀ s∈[pe],s<16777216):=fun s hs=>(List.mem_singleton.1 hs) ▸ h8;clear h5 h6 h7 h8 h2 h3 h1;have HW:=aA0 (Bel.refl (w.alloc (.cells #[.int .i64 st,.int .i64 mv,.int .i64 ro,.int .i64 be,.int .u32 (pe:Int)] 36)));unfold aIs;dsimp only;go_enter func111,ntmps111
 go_wp2_with (go_at_call 112;refine (aHf _ _ [pe] _ (aVi (by simp)) HP.out (by simp)).mono ?_;rintro e w' ⟨rfl,hb⟩)
 go_ret;exact ⟨rfl,aA4 (((HW.out.alloc _)).trans hb)⟩
theorem aSj (k:Cnt) (n S A:Nat) (w:World) (h:OkK k n) (hn:n<=120) (h0:S≠0) (hS:S<16777216) (hA:A<16777216) :
  Calls prog 89 #[aIs k,.int .u32 (S:Int),.int .u32 (A:Int)] w fun e w'=>e = .returned (.tuple #[aIs (aO0 k S A),.int .i64 0])/\Bel w w':=by
 have HK:=aA0 h;have HP:Hid (∀ s∈[S,A],s<16777216):=fun s hs=>(List.mem_cons.1 hs).elim (fun e=>e ▸ hS) fun e=>(List.mem_singleton.1 e) ▸ hA;obtain ⟨st,mv,ro,be,pe⟩:=k;obtain ⟨h1,h2,h3,h4,h5,h6,h7,h8⟩:=h;dsimp only at h1 h2 h3 h4 h5 h6 h7 h8;have z0:((S:Int)==0)=false:=by simp;omega
 have z0':(S==0)=false:=by simp;omega
 have d1:(st==4096)=false:=by simp;omega
 have hel:=aMn (S:=S) (n:=24) (by decide) hS
 have HF:Hid (aO0 ⟨st,mv,ro,be,pe⟩ S A=if aF0 pe S&&&A=0 then ⟨st+1,mv+(aAe S).length,ro+1,ro+1,A⟩ else ⟨st+1,mv+(aAe S).length,ro,ro+1,aF0 pe S&&&A⟩):=rfl
 have HS32:Hid (S<4294967296):=by show _<_;omega
 have hbn:=aEc pe S;have hba:=aCs (S:=aF0 pe S) (T:=A) (aM3 _ _) (by omega)
 generalize aF0 pe S=D at *;have HB0:Hid (Blk ((w.alloc (.cells #[.int .i64 st,.int .i64 mv,.int .i64 ro,.int .i64 be,.int .u32 (pe:Int)] 36)).alloc (.cells #[.int .i64 0,.int .i64 0,.int .i64 0,.int .i64 0,.int .u32 0] 36)) w.heap.size #[.int .i64 st,.int .i64 mv,.int .i64 ro,.int .i64 be,.int .u32 (pe:Int)] 36):=(Blk.new _ _ _).alloc _
 have HB1:Hid (Blk ((w.alloc (.cells #[.int .i64 st,.int .i64 mv,.int .i64 ro,.int .i64 be,.int .u32 (pe:Int)] 36)).alloc (.cells #[.int .i64 0,.int .i64 0,.int .i64 0,.int .i64 0,.int .u32 0] 36)) (w.heap.size+1) #[.int .i64 0,.int .i64 0,.int .i64 0,.int .i64 0,.int .u32 0] 36):=by
  have:=Blk.new (w.alloc (.cells #[.int .i64 st,.int .i64 mv,.int .i64 ro,.int .i64 be,.int .u32 (pe:Int)] 36)) #[.int .i64 0,.int .i64 0,.int .i64 0,.int .i64 0,.int .u32 0] 36;rw [World.size_alloc] at this;exact this
 have HW:=Bel.refl ((w.alloc (.cells #[.int .i64 st,.int .i64 mv,.int .i64 ro,.int .i64 be,.int .u32 (pe:Int)] 36)).alloc (.cells #[.int .i64 0,.int .i64 0,.int .i64 0,.int .i64 0,.int .u32 0] 36));have HE:Hid (Bel w ((w.alloc (.cells #[.int .i64 st,.int .i64 mv,.int .i64 ro,.int .i64 be,.int .u32 (pe:Int)] 36)).alloc (.cells #[.int .i64 0,.int .i64 0,.int .i64 0,.int .i64 0,.int .u32 0] 36))):=((Bel.refl w).alloc _).alloc _;have s0:0<=st:=by omega
 have s1:st<=120:=by omega
 have m1:0<=mv:=by omega
 have m2:mv<=3000:=by omega
 have r1:ro<=120:=by omega
 clear h0 hS hA h8 h1 h2 h3 h5 h6 h7;unfold aIs;dsimp only;go_enter func89,ntmps89
 go_wp2_with (first
  | (go_at_call 111;refine (aPd ⟨st,mv,ro,be,pe⟩ n _ HK.out hn).mono ?_;rintro e w1 ⟨rfl,hb1⟩;replace HW:=HW.trans hb1)
  | (go_at_call 112;refine (aHf _ _ [S,A] _ (aTi (by simp)) HP.out (by simp)).mono ?_;rintro e w2 ⟨rfl,hb2⟩;replace HW:=(HW.alloc _).trans hb2;replace HB0:=aA0 (Blk.keep HB0.out HW);replace HB1:=aA0 (Blk.keep HB1.out HW);have c0:=HB0.out.cell 0 (v := .int .i64 st) rfl;have c1:=HB0.out.cell 1 (v := .int .i64 mv) rfl;have c2:=HB0.out.cell 2 (v := .int .i64 ro) rfl;have c3:=HB0.out.cell 3 (v := .int .i64 be) rfl;have c4:=HB0.out.cell 4 (v := .int .u32 (pe:Int)) rfl;have f0:=HB0.out.frozen 0;have lb:=HB0.out.lt))
 have HA:Hid (Blk (w2.setCell ⟨w.heap.size,0,none⟩ (.int .i64 (st+1))) w.heap.size #[.int .i64 (st+1),.int .i64 mv,.int .i64 ro,.int .i64 be,.int .u32 (pe:Int)] 36):=HB0.out.set 0 _;have HZ:Hid (Blk (w2.setCell ⟨w.heap.size,0,none⟩ (.int .i64 (st+1))) (w.heap.size+1) #[.int .i64 0,.int .i64 0,.int .i64 0,.int .i64 0,.int .u32 0] 36):=HB1.out.other (by simp) _
 have HL:Hid (Bel w (w2.setCell ⟨w.heap.size,0,none⟩ (.int .i64 (st+1)))):=(HE.out.trans HW).setCell (Nat.le_refl _) _;clear c0 c1 c2 c3 c4 f0 lb HB0 HB1;generalize w2.setCell ⟨w.heap.size,0,none⟩ (.int .i64 (st+1))=W at *;refine aA6.start (fun w'=>w'.cell? ⟨w.heap.size,1,none⟩=some (.int .i64 mv)/\w.heap.size<w'.heap.size) 6 (by kernel_rfl) ?_
 have hHeld:W.drew.cell? ⟨w.heap.size,1,none⟩=some (.int .i64 mv)/\w.heap.size<W.drew.heap.size:=⟨HA.out.cell 1 rfl,HA.out.lt⟩
 (refine aA6.t (v:=?_) 0 30 rfl rfl (by kernel_rfl) (fun _ _ _ h=>h) hHeld (Or.inl ⟨by rfl,?_⟩) ?_;rotate_left 1;focus (intro w' hSw;(try dsimp only at hSw);go_simp;(try with_reducible rfl);done))
 (refine aA6.t (v:=?_) 1 31 rfl rfl (by kernel_rfl) (fun _ _ _ h=>h) hHeld (Or.inl ⟨by rfl,?_⟩) ?_;rotate_left 1;focus (intro w' hSw;(try dsimp only at hSw);go_simp;(try with_reducible rfl);done))
 (refine aA6.t (v:=?_) 2 32 rfl rfl (by kernel_rfl) (fun _ _ _ h=>h) hHeld (Or.inl ⟨by rfl,?_⟩) ?_;rotate_left 1;focus (intro w' hSw;(try dsimp only at hSw);go_simp;(try with_reducible rfl);done))
 refine aA6.one (i:=3) (by kernel_rfl) rfl (fun K hK=>?_)
 go_simp
 go_at_call 113
 refine (aZm S _ HS32.out).mono ?_
 rintro e w3 ⟨rfl,hb3⟩
 (try go_simp)
 have hb3':Bel W w3:=(Bel.refl W).drew.trans hb3;replace HA:=aA0 (HA.out.keep hb3');replace HZ:=aA0 (HZ.out.keep hb3');replace HL:=aA0 (HL.out.trans hb3');refine hK.out _ _ (fun _=>⟨HA.out.cell 1 rfl,HA.out.lt⟩) ?_
 clear hK K hHeld hb3 hb3';have hHeld:w3.cell? ⟨w.heap.size,1,none⟩=some (.int .i64 mv)/\w.heap.size<w3.heap.size:=⟨HA.out.cell 1 rfl,HA.out.lt⟩
 (try simp only [Act.put,List.setIfInBounds_toArray,List.set_cons_zero,List.set_cons_succ])
 (refine aA6.t (v:=?_) 4 34 rfl rfl (by kernel_rfl) (fun _ _ _ h=>h) hHeld (Or.inl ⟨by rfl,?_⟩) ?_;rotate_left 1;focus (intro w' hSw;(try dsimp only at hSw);go_simp;(try with_reducible rfl);done))
 (refine aA6.t (v:=?_) 5 35 rfl rfl (by kernel_rfl) (fun _ _ _ h=>h) hHeld (Or.inl ⟨by rfl,?_⟩) ?_;rotate_left 1;focus (intro w' hSw;(try dsimp only at hSw);go_simp;(try with_reducible rfl);done))
 have f1:=HA.out.frozen 1;have lb:=HA.out.lt;have e6:IntKind.i64.wrap (mv+((aAe S).length:Int))=mv+((aAe S).length:Int):=IntWalk.i64_in _ ⟨by omega,by omega⟩
 (refine aA6.one (i:=6) (by kernel_rfl) rfl (fun K hK=>?_));go_simp;refine hK.out _ _ (fun h=>absurd rfl h) ?_;clear hK K;refine aA6.done (by kernel_rfl) ?_ _;(try simp only [Act.put,List.setIfInBounds_toArray,List.set_cons_zero,List.set_cons_succ])
 clear f1 lb hHeld e6;replace HA:Hid (Blk (w3.setCell ⟨w.heap.size,1,none⟩ (.int .i64 (mv+((aAe S).length:Int)))) w.heap.size #[.int .i64 (st+1),.int .i64 (mv+((aAe S).length:Int)),.int .i64 ro,.int .i64 be,.int .u32 (pe:Int)] 36):=HA.out.set 1 _;replace HZ:Hid (Blk (w3.setCell ⟨w.heap.size,1,none⟩ (.int .i64 (mv+((aAe S).length:Int)))) (w.heap.size+1) #[.int .i64 0,.int .i64 0,.int .i64 0,.int .i64 0,.int .u32 0] 36):=HZ.out.other (by simp) _
 replace HL:Hid (Bel w (w3.setCell ⟨w.heap.size,1,none⟩ (.int .i64 (mv+((aAe S).length:Int))))):=HL.out.setCell (Nat.le_refl _) _;generalize w3.setCell ⟨w.heap.size,1,none⟩ (.int .i64 (mv+((aAe S).length:Int)))=W4 at *;generalize mv+((aAe S).length:Int)=mn at *
 by_cases hz:D&&&A=0
 .rw [if_pos hz] at HF
  rw [hz] at hba;clear hz;have c0:=HA.out.cell 0 (v := .int .i64 (st+1)) rfl;have c1:=HA.out.cell 1 (v := .int .i64 mn) rfl;have c2:=HA.out.cell 2 (v := .int .i64 ro) rfl;have c3:=HA.out.cell 3 (v := .int .i64 be) rfl;have c4:=HA.out.cell 4 (v := .int .u32 (pe:Int)) rfl;have f3:=HA.out.frozen 3;have f4:=HA.out.frozen 4;have lb:=HA.out.lt
  go_upto_region 12 with fail
  clear c0 c1 c2 c3 c4 f3 f4 lb;replace HA:Hid (Blk ((W4.setCell ⟨w.heap.size,3,none⟩ (.int .i64 (ro+1))).setCell ⟨w.heap.size,4,none⟩ (.int .u32 0)) w.heap.size #[.int .i64 (st+1),.int .i64 mn,.int .i64 ro,.int .i64 (ro+1),.int .u32 0] 36):=((HA.out.set 3 _).set 4 _);replace HZ:Hid (Blk ((W4.setCell ⟨w.heap.size,3,none⟩ (.int .i64 (ro+1))).setCell ⟨w.heap.size,4,none⟩ (.int .u32 0)) (w.heap.size+1) #[.int .i64 0,.int .i64 0,.int .i64 0,.int .i64 0,.int .u32 0] 36):=((HZ.out.other (by simp) _).other (by simp) _)
  replace HL:Hid (Bel w ((W4.setCell ⟨w.heap.size,3,none⟩ (.int .i64 (ro+1))).setCell ⟨w.heap.size,4,none⟩ (.int .u32 0))):=((HL.out.setCell (Nat.le_refl _) _).setCell (Nat.le_refl _) _);generalize (W4.setCell ⟨w.heap.size,3,none⟩ (.int .i64 (ro+1))).setCell ⟨w.heap.size,4,none⟩ (.int .u32 0)=W5 at *;have c0:=HA.out.cell 0 (v := .int .i64 (st+1)) rfl;have c1:=HA.out.cell 1 (v := .int .i64 mn) rfl;have c2:=HA.out.cell 2 (v := .int .i64 ro) rfl;have c3:=HA.out.cell 3 (v := .int .i64 (ro+1)) rfl;have c4:=HA.out.cell 4 (v := .int .u32 0) rfl;have f2:=HA.out.frozen 2;have f4:=HA.out.frozen 4;have lb:=HA.out.lt
  go_upto_region 14 with fail
  clear c0 c1 c2 c3 c4 f2 f4 lb;replace HA:Hid (Blk ((W5.setCell ⟨w.heap.size,2,none⟩ (.int .i64 (ro+1))).setCell ⟨w.heap.size,4,none⟩ (.int .u32 (A:Int))) w.heap.size #[.int .i64 (st+1),.int .i64 mn,.int .i64 (ro+1),.int .i64 (ro+1),.int .u32 (A:Int)] 36):=((HA.out.set 2 _).set 4 _);replace HZ:Hid (Blk ((W5.setCell ⟨w.heap.size,2,none⟩ (.int .i64 (ro+1))).setCell ⟨w.heap.size,4,none⟩ (.int .u32 (A:Int))) (w.heap.size+1) #[.int .i64 0,.int .i64 0,.int .i64 0,.int .i64 0,.int .u32 0] 36):=((HZ.out.other (by simp) _).other (by simp) _)
  replace HL:Hid (Bel w ((W5.setCell ⟨w.heap.size,2,none⟩ (.int .i64 (ro+1))).setCell ⟨w.heap.size,4,none⟩ (.int .u32 (A:Int)))):=((HL.out.setCell (Nat.le_refl _) _).setCell (Nat.le_refl _) _);generalize (W5.setCell ⟨w.heap.size,2,none⟩ (.int .i64 (ro+1))).setCell ⟨w.heap.size,4,none⟩ (.int .u32 (A:Int))=W6 at *;have c0:=HA.out.cell 0 (v := .int .i64 (st+1)) rfl;have c1:=HA.out.cell 1 (v := .int .i64 mn) rfl;have c2:=HA.out.cell 2 (v := .int .i64 (ro+1)) rfl;have c3:=HA.out.cell 3 (v := .int .i64 (ro+1)) rfl;have c4:=HA.out.cell 4 (v := .int .u32 (A:Int)) rfl;have lb:=HA.out.lt;have z1:=HZ.out.cell 0 (v := .int .i64 0) rfl;have g0:=HZ.out.frozen 0;have z2:=HZ.out.cell 1 (v := .int .i64 0) rfl;have g1:=HZ.out.frozen 1;have z3:=HZ.out.cell 2 (v := .int .i64 0) rfl;have g2:=HZ.out.frozen 2;have z4:=HZ.out.cell 3 (v := .int .i64 0) rfl;have g3:=HZ.out.frozen 3;have z5:=HZ.out.cell 4 (v := .int .u32 0) rfl;have g4:=HZ.out.frozen 4;have gl:=HZ.out.lt;clear hba
  go_wp2_with fail
  have HZ2:Blk (((((W6.setCell ⟨w.heap.size+1,0,none⟩ (.int .i64 (st+1))).setCell ⟨w.heap.size+1,1,none⟩ (.int .i64 mn)).setCell ⟨w.heap.size+1,2,none⟩ (.int .i64 (ro+1))).setCell ⟨w.heap.size+1,3,none⟩ (.int .i64 (ro+1))).setCell ⟨w.heap.size+1,4,none⟩ (.int .u32 (A:Int))) (w.heap.size+1) #[.int .i64 (st+1),.int .i64 mn,.int .i64 (ro+1),.int .i64 (ro+1),.int .u32 (A:Int)] 36:=(((((HZ.out.set 0 _).set 1 _).set 2 _).set 3 _).set 4 _);have y0:=HZ2.cell 0 (v := .int .i64 (st+1)) rfl;have y1:=HZ2.cell 1 (v := .int .i64 mn) rfl;have y2:=HZ2.cell 2 (v := .int .i64 (ro+1)) rfl;have y3:=HZ2.cell 3 (v := .int .i64 (ro+1)) rfl;have y4:=HZ2.cell 4 (v := .int .u32 (A:Int)) rfl;refine bodyPost_ret (v := .tuple #[aIs ⟨st+1,mn,ro+1,ro+1,A⟩,.int .i64 0]) (by simp [results,Tryz.results89,go_sem,y0,y1,y2,y3,y4,aIs];try go_simp) rfl ?_
  rw [HF.out];exact ⟨rfl,(((((HL.out.setCell (by simp) _).setCell (by simp) _).setCell (by simp) _).setCell (by simp) _).setCell (by simp) _)⟩
 .rw [if_neg hz] at HF
  have hzb:(((D&&&A:Nat):Int)==0)=false:=by simpa using hz
  have hzb':(D&&&A==0)=false:=by simpa using hz
  generalize D&&&A=P at *;clear hz;have c0:=HA.out.cell 0 (v := .int .i64 (st+1)) rfl;have c1:=HA.out.cell 1 (v := .int .i64 mn) rfl;have c2:=HA.out.cell 2 (v := .int .i64 ro) rfl;have c3:=HA.out.cell 3 (v := .int .i64 be) rfl;have c4:=HA.out.cell 4 (v := .int .u32 (pe:Int)) rfl;have f3:=HA.out.frozen 3;have f4:=HA.out.frozen 4;have lb:=HA.out.lt
  go_upto_region 14 with fail
  clear c0 c1 c2 c3 c4 f3 f4 lb;replace HA:Hid (Blk ((W4.setCell ⟨w.heap.size,3,none⟩ (.int .i64 (ro+1))).setCell ⟨w.heap.size,4,none⟩ (.int .u32 (P:Int))) w.heap.size #[.int .i64 (st+1),.int .i64 mn,.int .i64 ro,.int .i64 (ro+1),.int .u32 (P:Int)] 36):=((HA.out.set 3 _).set 4 _);replace HZ:Hid (Blk ((W4.setCell ⟨w.heap.size,3,none⟩ (.int .i64 (ro+1))).setCell ⟨w.heap.size,4,none⟩ (.int .u32 (P:Int))) (w.heap.size+1) #[.int .i64 0,.int .i64 0,.int .i64 0,.int .i64 0,.int .u32 0] 36):=((HZ.out.other (by simp) _).other (by simp) _)
  replace HL:Hid (Bel w ((W4.setCell ⟨w.heap.size,3,none⟩ (.int .i64 (ro+1))).setCell ⟨w.heap.size,4,none⟩ (.int .u32 (P:Int)))):=((HL.out.setCell (Nat.le_refl _) _).setCell (Nat.le_refl _) _);generalize (W4.setCell ⟨w.heap.size,3,none⟩ (.int .i64 (ro+1))).setCell ⟨w.heap.size,4,none⟩ (.int .u32 (P:Int))=W6 at *;have c0:=HA.out.cell 0 (v := .int .i64 (st+1)) rfl;have c1:=HA.out.cell 1 (v := .int .i64 mn) rfl;have c2:=HA.out.cell 2 (v := .int .i64 ro) rfl;have c3:=HA.out.cell 3 (v := .int .i64 (ro+1)) rfl;have c4:=HA.out.cell 4 (v := .int .u32 (P:Int)) rfl;have lb:=HA.out.lt;have z1:=HZ.out.cell 0 (v := .int .i64 0) rfl;have g0:=HZ.out.frozen 0;have z2:=HZ.out.cell 1 (v := .int .i64 0) rfl;have g1:=HZ.out.frozen 1;have z3:=HZ.out.cell 2 (v := .int .i64 0) rfl;have g2:=HZ.out.frozen 2;have z4:=HZ.out.cell 3 (v := .int .i64 0) rfl;have g3:=HZ.out.frozen 3;have z5:=HZ.out.cell 4 (v := .int .u32 0) rfl;have g4:=HZ.out.frozen 4;have gl:=HZ.out.lt;clear hba
  go_wp2_with fail
  have HZ2:Blk (((((W6.setCell ⟨w.heap.size+1,0,none⟩ (.int .i64 (st+1))).setCell ⟨w.heap.size+1,1,none⟩ (.int .i64 mn)).setCell ⟨w.heap.size+1,2,none⟩ (.int .i64 ro)).setCell ⟨w.heap.size+1,3,none⟩ (.int .i64 (ro+1))).setCell ⟨w.heap.size+1,4,none⟩ (.int .u32 (P:Int))) (w.heap.size+1) #[.int .i64 (st+1),.int .i64 mn,.int .i64 ro,.int .i64 (ro+1),.int .u32 (P:Int)] 36:=(((((HZ.out.set 0 _).set 1 _).set 2 _).set 3 _).set 4 _);have y0:=HZ2.cell 0 (v := .int .i64 (st+1)) rfl;have y1:=HZ2.cell 1 (v := .int .i64 mn) rfl;have y2:=HZ2.cell 2 (v := .int .i64 ro) rfl;have y3:=HZ2.cell 3 (v := .int .i64 (ro+1)) rfl;have y4:=HZ2.cell 4 (v := .int .u32 (P:Int)) rfl;refine bodyPost_ret (v := .tuple #[aIs ⟨st+1,mn,ro,ro+1,P⟩,.int .i64 0]) (by simp [results,Tryz.results89,go_sem,y0,y1,y2,y3,y4,aIs];try go_simp) rfl ?_
  rw [HF.out];exact ⟨rfl,(((((HL.out.setCell (by simp) _).setCell (by simp) _).setCell (by simp) _).setCell (by simp) _).setCell (by simp) _)⟩
def aC9 (k:Cnt):Array Value:=#[.int .i64 k.steps,.int .i64 k.moves,.int .i64 k.rounds,.int .i64 k.begun,.int .u32 (k.pending:Int)]
def aDq (v1 v2:Value):Array Value:=#[v1,v2,.slice none 0 0,.int .i64 0,.int .i64 0,.int .i64 0,.int .i64 0,.int .u32 0]
def ob (A:Option Addr) (n k:Nat):Option Nat:=(Value.slice A n k).ownBlock
section
variable {P:Program} {N0:Nat} {f:FuncId} {caps:Array Value} {cv:Cnt->Value} {en:Trc->Nat} {ok:Trc->Prop} {Inv:(Nat->Prop)->List (Value × Trc)->World->Prop}
structure RunI (N0:Nat) (w:World) (M0:Nat->Prop) (rc:Array Value) (cb:Nat) (Rd Ex:World->Prop) (Inv:(Nat->Prop)->List (Value × Trc)->World->Prop) (s0:List (Value × Trc))
  (W:World) (M X:Nat->Prop) (L:List (Value × Trc)) (l1 l2:List Nat) (A1:Option Addr) (k1:Nat) (A2:Option Addr) (k2:Nat) (kc:Cnt):Prop where
 rbox:Blk W w.heap.size rc 69
 rres:Blk W (w.heap.size+1) (aDq (.slice none 0 0) (.slice none 0 0)) 38
 tr:Blk W (w.heap.size+1+1) (aDq (.slice A1 l1.length k1) (.slice A2 l2.length k2)) 38
 cnt:Blk W cb (aC9 kc) 36
 row1:W.ownsRow (w.heap.size+1+1+1) 34 1 (.slice A1 l1.length k1) l1.length (l1.map aBk)
 row2:W.ownsRow (w.heap.size+1+1+1) 34 1 (.slice A2 l2.length k2) l2.length (l2.map aBk)
 far:∀ k,ob A1 l1.length k1=some k->ob A2 l2.length k2≠some k
 off:∀ k,M k->k≠w.heap.size/\k≠w.heap.size+1/\k≠w.heap.size+1+1/\k≠cb/\ob A1 l1.length k1≠some k/\ob A2 l2.length k2≠some k
 cbx:w.heap.size+1+1+1<=cb
 inX:∀ k,M k∨k=w.heap.size+1∨k=w.heap.size+1+1∨k=cb∨ob A1 l1.length k1=some k∨ob A2 l2.length k2=some k->X k
 inv:Inv M (s0++L) W
 rd:Rb X Rd W
 confs:∀ x∈L,Rb (fun k=>X k∨k<w.heap.size) (fun W=>aAy W x.1 x.2.last) W
 ext:Rb (fun k=>X k∨k<w.heap.size) Ex W
 agr:Agr M0 w W
 newM:∀ k,M k->M0 k∨w.heap.size<=k
 low:N0<=w.heap.size
 xlt:∀ k,X k->k<W.heap.size
 sup:∀ k,M0 k->M k
variable {w:World} {M0:Nat->Prop} {rc:Array Value} {cb:Nat} {Rd Ex:World->Prop} {s0:List (Value × Trc)} {W W':World} {M X:Nat->Prop} {L:List (Value × Trc)} {l1 l2:List Nat} {A1:Option Addr} {k1:Nat} {A2:Option Addr} {k2:Nat} {kc:Cnt}
theorem aCx {W:World} {base:Nat} {e:TypeId} {size n c m:Nat} {A:Option Addr} {xs:List Value} (h:W.ownsRow base e size (.slice A n c) m xs) {k:Nat} (hk:ob A n c=some k):base<=k/\k<W.heap.size:=by
 refine ⟨bBe h k hk,?_⟩
 rcases h.2 with ⟨hv,_⟩ | ⟨g,cap,cur,hv,hb,hg,_⟩
 .injection hv with hA hn hc
  subst hA;simp [ob,Value.ownBlock] at hk
 .injection hv with hA hn hc
  subst hA;simp [ob,Value.ownBlock] at hk
  subst hk;exact lt_of_block hg
theorem aQ2 {W:World} {base:Nat} {e t:TypeId} {size n c m B:Nat} {A:Option Addr} {xs:List Value} {cs:Array Value} (h:W.ownsRow base e size (.slice A n c) m xs) (hB:Blk W B cs t) (hne:t≠e):ob A n c≠some B:=fun hk=>by
 rcases h.2 with ⟨hv,_⟩ | ⟨g,cap,cur,hv,hb,hg,_⟩
 .injection hv with hA hn hc
  subst hA;simp [ob,Value.ownBlock] at hk
 .injection hv with hA hn hc
  subst hA;simp [ob,Value.ownBlock] at hk
  subst hk;unfold Blk at hB;rw [hB] at hg;injection hg with hg
  injection hg with _ ht
  exact hne ht
theorem RunI.bel (hS:Seer P N0 f caps cv en ok Inv) (h:RunI N0 w M0 rc cb Rd Ex Inv s0 W M X L l1 l2 A1 k1 A2 k2 kc) (k:Bel W W'):RunI N0 w M0 rc cb Rd Ex Inv s0 W' M X L l1 l2 A1 k1 A2 k2 kc where
 rbox:=h.rbox.keep k
 rres:=h.rres.keep k
 tr:=h.tr.keep k
 cnt:=h.cnt.keep k
 row1:=k.owns h.row1
 row2:=k.owns h.row2
 far:=h.far
 off:=h.off
 cbx:=h.cbx
 inX:=h.inX
 inv:=hS.keep _ _ _ _ h.inv k.size fun q hq=>k.block q (hq.elim (fun hq=>hS.dom _ _ _ h.inv q hq) fun hq=>by have:=h.low;have:=h.agr.size;omega)
 rd:=h.rd.bel k
 confs:=fun x hx=>(h.confs x hx).bel k
 ext:=h.ext.bel k
 agr:=h.agr.trans (Agr.of_belM k)
 newM:=h.newM
 low:=h.low
 xlt:=fun q hq=>Nat.lt_of_lt_of_le (h.xlt q hq) k.size
 sup:=h.sup
theorem RunI.see {M':Nat->Prop} {v:Value} {t:Trc} (hS:Seer P N0 f caps cv en ok Inv) (h:RunI N0 w M0 rc cb Rd Ex Inv s0 W M X L l1 l2 A1 k1 A2 k2 kc) (hA:Agr M W W') (hG:∀ k,M k->M' k) (hM:∀ k,M' k->M k∨W.heap.size<=k) (hI:Inv M' (s0++L++[(v,t)]) W')
  (hc:Rb (fun k=>X k∨k<w.heap.size) (fun W=>aAy W v t.last) W):RunI N0 w M0 rc cb Rd Ex Inv s0 W' M' (fun k=>X k∨M' k) (L++[(v,t)]) l1 l2 A1 k1 A2 k2 kc:=by
 have up:∀ R:World->Prop,Rb X R W->Rb (fun k=>X k∨M' k) R W':=fun R hR=>(hR.more (M':=fun k=>X k∨M' k) fun k hk=>hk.elim .inl fun e=>(hM k e).imp (fun e=>h.inX k (.inl e)) id).go (hA.mono fun k hk => .inl (h.inX k (.inl hk)))
 have up2:∀ R:World->Prop,Rb (fun k=>X k∨k<w.heap.size) R W->Rb (fun k=>(X k∨M' k)∨k<w.heap.size) R W':=fun R hR=>(hR.more (M':=fun k=>(X k∨M' k)∨k<w.heap.size) fun k hk=>by
  rcases hk with (e | e) | e
  .exact .inl (.inl e)
  .exact (hM k e).imp (fun e => .inl (h.inX k (.inl e))) id
  .exact .inl (.inr e)).go (hA.mono fun k hk => .inl (.inl (h.inX k (.inl hk))))
 refine ⟨hA.blk h.rbox fun e=>(h.off _ e).1 rfl,hA.blk h.rres fun e=>(h.off _ e).2.1 rfl,hA.blk h.tr fun e=>(h.off _ e).2.2.1 rfl,hA.blk h.cnt fun e=>(h.off _ e).2.2.2.1 rfl,?_,?_,h.far,?_,h.cbx,?_,?_,up _ h.rd,?_,up2 _ h.ext,?_,?_,h.low,fun k hk=>hk.elim (fun e=>Nat.lt_of_lt_of_le (h.xlt k e) hA.size) fun e=>hS.dom _ _ _ hI k e,fun k hk=>hG k (h.sup k hk)⟩
 .exact aCc h.row1 hA fun k hk e=>(h.off _ e).2.2.2.2.1 hk
 .exact aCc h.row2 hA fun k hk e=>(h.off _ e).2.2.2.2.2 hk
 .intro k hk
  rcases hM k hk with e | e
  .exact h.off k e
  .have q0:=h.rbox.lt
   have q1:=h.rres.lt;have q2:=h.tr.lt;have q3:=h.cnt.lt;exact ⟨by omega,by omega,by omega,by omega,fun e'=>by have:=(aCx h.row1 e').2;omega,fun e'=>by have:=(aCx h.row2 e').2;omega⟩
 .rintro k (e | e)
  .exact .inr e
  .exact .inl (h.inX k (.inr e))
 .rw [<- List.append_assoc];exact hI
 .intro x hx
  rcases List.mem_append.1 hx with hx | hx
  .exact up2 _ (h.confs x hx)
  .obtain rfl:x=(v,t):=by simpa using hx
   exact up2 _ hc
 .exact ⟨hA.os.trans h.agr.os,hA.tape.trans h.agr.tape,hA.output.trans h.agr.output,Nat.le_trans h.agr.size hA.size,fun k hk hn=>(hA.block k (Nat.lt_of_lt_of_le hk h.agr.size) (fun e=>(h.newM k e).elim hn (fun e=>by omega))).trans (h.agr.block k hk hn)⟩
 .intro k hk
  rcases hM k hk with e | e
  .exact h.newM k e
  .right;have:=h.agr.size;omega
theorem RunI.turn {E X':Nat->Prop} {A1':Option Addr} {k1':Nat} {A2':Option Addr} {k2':Nat} {l1' l2':List Nat} {kc':Cnt} (hS:Seer P N0 f caps cv en ok Inv) (h:RunI N0 w M0 rc cb Rd Ex Inv s0 W M X L l1 l2 A1 k1 A2 k2 kc) (hA:Agr E W W')
  (hE:∀ k,E k->k=w.heap.size+1+1∨k=cb∨ob A1 l1.length k1=some k∨ob A2 l2.length k2=some k)
  (tr:Blk W' (w.heap.size+1+1) (aDq (.slice A1' l1'.length k1') (.slice A2' l2'.length k2')) 38) (cnt:Blk W' cb (aC9 kc') 36)
  (row1:W'.ownsRow (w.heap.size+1+1+1) 34 1 (.slice A1' l1'.length k1') l1'.length (l1'.map aBk)) (row2:W'.ownsRow (w.heap.size+1+1+1) 34 1 (.slice A2' l2'.length k2') l2'.length (l2'.map aBk))
  (far:∀ k,ob A1' l1'.length k1'=some k->ob A2' l2'.length k2'≠some k)
  (n1:ob A1' l1'.length k1'=ob A1 l1.length k1∨∃ k,ob A1' l1'.length k1'=some k/\W.heap.size<=k) (n2:ob A2' l2'.length k2'=ob A2 l2.length k2∨∃ k,ob A2' l2'.length k2'=some k/\W.heap.size<=k)
  (hX:X'=fun k=>X k∨ob A1' l1'.length k1'=some k∨ob A2' l2'.length k2'=some k) :
  RunI N0 w M0 rc cb Rd Ex Inv s0 W' M X' L l1' l2' A1' k1' A2' k2' kc':=by
 subst hX;have dm:=hS.dom _ _ _ h.inv
 have nE:∀ k,M k->¬ E k:=fun k hk e=>by
  obtain ⟨a1,a2,a3,a4,a5,a6⟩:=h.off k hk
  rcases hE k e with e | e | e | e
  .exact a3 e
  .exact a4 e
  .exact a5 e
  .exact a6 e
 have up:∀ R:World->Prop,Rb X R W->Rb (fun k=>X k∨ob A1' l1'.length k1'=some k∨ob A2' l2'.length k2'=some k) R W':=fun R hR=>by
  refine (hR.more fun k hk=>?_).go (hA.mono fun k hk => .inl (h.inX k (.inr (.inr (hE k hk)))))
  rcases hk with e | e | e
  .exact .inl e
  .rcases n1 with q | ⟨j,q,q2⟩
   .exact .inl (h.inX k (.inr (.inr (.inr (.inr (.inl (q ▸ e)))))))
   .rw [e] at q;cases q;exact .inr q2
  .rcases n2 with q | ⟨j,q,q2⟩
   .exact .inl (h.inX k (.inr (.inr (.inr (.inr (.inr (q ▸ e)))))))
   .rw [e] at q;cases q;exact .inr q2
 have up2:∀ R:World->Prop,Rb (fun k=>X k∨k<w.heap.size) R W->Rb (fun k=>(X k∨ob A1' l1'.length k1'=some k∨ob A2' l2'.length k2'=some k)∨k<w.heap.size) R W':=fun R hR=>by
  refine (hR.more fun k hk=>?_).go (hA.mono fun k hk => .inl (.inl (h.inX k (.inr (.inr (hE k hk))))))
  rcases hk with (e | e | e) | e
  .exact .inl (.inl e)
  .rcases n1 with q | ⟨j,q,q2⟩
   .exact .inl (.inl (h.inX k (.inr (.inr (.inr (.inr (.inl (q ▸ e))))))))
   .rw [e] at q;cases q;exact .inr q2
  .rcases n2 with q | ⟨j,q,q2⟩
   .exact .inl (.inl (h.inX k (.inr (.inr (.inr (.inr (.inr (q ▸ e))))))))
   .rw [e] at q;cases q;exact .inr q2
  .exact .inl (.inr e)
 have low:∀ k,E k->w.heap.size+1+1<=k:=fun k e=>by
  have:=h.cbx
  rcases hE k e with q | q | q | q
  .omega
  .omega
  .have:=(aCx h.row1 q).1;omega
  .have:=(aCx h.row2 q).1;omega
 refine ⟨hA.blk h.rbox fun e=>by have:=low _ e;omega,hA.blk h.rres fun e=>by have:=low _ e;omega,tr,cnt,row1,row2,far,?_,h.cbx,?_,?_,up _ h.rd,fun x hx=>up2 _ (h.confs x hx),up2 _ h.ext,?_,h.newM,h.low,fun k hk=>hk.elim (fun e=>Nat.lt_of_lt_of_le (h.xlt k e) hA.size) fun e=>e.elim (fun e=>(aCx row1 e).2) fun e=>(aCx row2 e).2,h.sup⟩
 .intro k hk
  obtain ⟨a1,a2,a3,a4,a5,a6⟩:=h.off k hk;have hk2:=dm k hk;refine ⟨a1,a2,a3,a4,fun e=>?_,fun e=>?_⟩
  .rcases n1 with q | ⟨j,q,q2⟩
   .exact a5 (q ▸ e)
   .rw [e] at q;cases q;omega
  .rcases n2 with q | ⟨j,q,q2⟩
   .exact a6 (q ▸ e)
   .rw [e] at q;cases q;omega
 .rintro k (e | e | e | e | e | e)
  .exact .inl (h.inX k (.inl e))
  .exact .inl (h.inX k (.inr (.inl e)))
  .exact .inl (h.inX k (.inr (.inr (.inl e))))
  .exact .inl (h.inX k (.inr (.inr (.inr (.inl e)))))
  .exact .inr (.inl e)
  .exact .inr (.inr e)
 .exact hS.keep _ _ _ _ h.inv hA.size fun k hk=>hk.elim (fun hk=>hA.block k (dm k hk) (nE k hk)) fun hk=>hA.block k (by have:=h.low;have:=h.agr.size;omega) fun e=>by have:=low k e;have:=h.low;omega
 .exact ⟨hA.os.trans h.agr.os,hA.tape.trans h.agr.tape,hA.output.trans h.agr.output,Nat.le_trans h.agr.size hA.size,fun k hk hn=>(hA.block k (Nat.lt_of_lt_of_le hk h.agr.size) (fun e=>by have:=low k e;omega)).trans (h.agr.block k hk hn)⟩
theorem RunI.count {kc':Cnt} (hS:Seer P N0 f caps cv en ok Inv) (h:RunI N0 w M0 rc cb Rd Ex Inv s0 W M X L l1 l2 A1 k1 A2 k2 kc) :
  ∃ X',RunI N0 w M0 rc cb Rd Ex Inv s0 (((((W.setCell ⟨cb,0,none⟩ (.int .i64 kc'.steps)).setCell ⟨cb,1,none⟩ (.int .i64 kc'.moves)).setCell ⟨cb,2,none⟩ (.int .i64 kc'.rounds)).setCell ⟨cb,3,none⟩ (.int .i64 kc'.begun)).setCell ⟨cb,4,none⟩ (.int .u32 (kc'.pending:Int))) M X' L l1 l2 A1 k1 A2 k2 kc':=by
 have hcb:=h.cbx
 have hA:Agr (fun k=>k=cb) W (((((W.setCell ⟨cb,0,none⟩ (.int .i64 kc'.steps)).setCell ⟨cb,1,none⟩ (.int .i64 kc'.moves)).setCell ⟨cb,2,none⟩ (.int .i64 kc'.rounds)).setCell ⟨cb,3,none⟩ (.int .i64 kc'.begun)).setCell ⟨cb,4,none⟩ (.int .u32 (kc'.pending:Int))) :=
  ((((Agr.setCell (E:=fun k=>k=cb) W ⟨cb,0,none⟩ _ rfl).trans (Agr.setCell _ ⟨cb,1,none⟩ _ rfl)).trans (Agr.setCell _ ⟨cb,2,none⟩ _ rfl)).trans (Agr.setCell _ ⟨cb,3,none⟩ _ rfl)).trans (Agr.setCell _ ⟨cb,4,none⟩ _ rfl)
 have t1:=aQ2 h.row1 h.cnt (by decide)
 have t2:=aQ2 h.row2 h.cnt (by decide)
 refine ⟨_,h.turn hS hA (fun k e => .inr (.inl e)) (hA.blk h.tr (fun e=>by omega)) ?_ (aCc h.row1 hA fun k hk e=>t1 (e ▸ hk)) (aCc h.row2 hA fun k hk e=>t2 (e ▸ hk)) h.far (.inl rfl) (.inl rfl) rfl⟩
 exact ((((h.cnt.set 0 _).set 1 _).set 2 _).set 3 _).set 4 _
theorem RunI.push1 {S:Nat} {w4:World} {A':Option Addr} {k':Nat} (hS:Seer P N0 f caps cv en ok Inv) (h:RunI N0 w M0 rc cb Rd Ex Inv s0 W M X L l1 l2 A1 k1 A2 k2 kc) {o:Obj}
  (hown:w4.ownsRow (w.heap.size+1+1+1) 34 1 (.slice A' (l1.length+1) k') (l1.length+1) (l1.map aBk++[aBk S])) (hgr:(W.alloc o).grownBy w4 (Value.slice A1 l1.length k1).ownBlock)
  (hat:(Value.slice A' (l1.length+1) k').ownBlock=(Value.slice A1 l1.length k1).ownBlock∨(Value.slice A' (l1.length+1) k').ownBlock=some (W.alloc o).heap.size) :
  ∃ X',RunI N0 w M0 rc cb Rd Ex Inv s0 (w4.setCell ⟨w.heap.size+1+1,0,none⟩ (.slice A' (l1.length+1) k')) M X' L (l1++[S]) l2 A' k' A2 k2 kc:=by
 have hcb:=h.cbx;have hl:(l1++[S]).length=l1.length+1:=by simp
 have hA:Agr (fun k=>k=w.heap.size+1+1∨ob A1 l1.length k1=some k) W (w4.setCell ⟨w.heap.size+1+1,0,none⟩ (.slice A' (l1.length+1) k')) :=
  ((Agr.alloc _ W o).trans (Agr.grownV hgr fun k hk => .inr hk.symm)).trans (Agr.setCell _ _ _ (.inl rfl))
 have nt1:ob A1 l1.length k1≠some (w.heap.size+1+1):=fun e=>by have:=(aCx h.row1 e).1;omega
 have nt2:ob A2 l2.length k2≠some (w.heap.size+1+1):=fun e=>by have:=(aCx h.row2 e).1;omega
 have tr4:Blk w4 (w.heap.size+1+1) (aDq (.slice A1 l1.length k1) (.slice A2 l2.length k2)) 38:=(h.tr.alloc o).grown hgr (fun e=>nt1 e.symm);have t1:=aQ2 h.row1 h.cnt (by decide)
 have hsz:(W.alloc o).heap.size=W.heap.size+1:=by simp
 have n1:ob A' (l1++[S]).length k'=ob A1 l1.length k1∨∃ k,ob A' (l1++[S]).length k'=some k/\W.heap.size<=k:=by
  rw [hl]
  rcases hat with e | e
  .exact .inl e
  .exact .inr ⟨_,e,by omega⟩
 have hrow:(w4.setCell ⟨w.heap.size+1+1,0,none⟩ (.slice A' (l1.length+1) k')).ownsRow (w.heap.size+1+1+1) 34 1 (.slice A' (l1++[S]).length k') (l1++[S]).length ((l1++[S]).map aBk):=by
  have:=aDi hown (a:=⟨w.heap.size+1+1,0,none⟩) (by simp) (.slice A' (l1.length+1) k')
  simpa using this
 refine ⟨_,h.turn hS hA (fun k e=>e.elim .inl fun e => .inr (.inr (.inl e))) ?_ (hA.blk h.cnt (fun e=>by
   rcases e with e | e
   .omega
   .exact t1 e)) hrow (aCc h.row2 hA fun k hk e=>by
   rcases e with e | e
   .exact nt2 (e ▸ hk)
   .exact h.far k e hk) (fun k hk hk2=>?_) n1 (.inl rfl) rfl⟩
 .have:=tr4.set 0 (.slice A' (l1.length+1) k')
  rw [hl];exact this
 .rcases n1 with e | ⟨j,e,hj⟩
  .exact h.far k (e ▸ hk) hk2
  .rw [hk] at e;cases e
   have:=(aCx h.row2 hk2).2;omega
theorem RunI.push2 {S:Nat} {w4:World} {A':Option Addr} {k':Nat} (hS:Seer P N0 f caps cv en ok Inv) (h:RunI N0 w M0 rc cb Rd Ex Inv s0 W M X L l1 l2 A1 k1 A2 k2 kc) {o:Obj}
  (hown:w4.ownsRow (w.heap.size+1+1+1) 34 1 (.slice A' (l2.length+1) k') (l2.length+1) (l2.map aBk++[aBk S])) (hgr:(W.alloc o).grownBy w4 (Value.slice A2 l2.length k2).ownBlock)
  (hat:(Value.slice A' (l2.length+1) k').ownBlock=(Value.slice A2 l2.length k2).ownBlock∨(Value.slice A' (l2.length+1) k').ownBlock=some (W.alloc o).heap.size) :
  ∃ X',RunI N0 w M0 rc cb Rd Ex Inv s0 (w4.setCell ⟨w.heap.size+1+1,1,none⟩ (.slice A' (l2.length+1) k')) M X' L l1 (l2++[S]) A1 k1 A' k' kc:=by
 have hcb:=h.cbx;have hl:(l2++[S]).length=l2.length+1:=by simp
 have hA:Agr (fun k=>k=w.heap.size+1+1∨ob A2 l2.length k2=some k) W (w4.setCell ⟨w.heap.size+1+1,1,none⟩ (.slice A' (l2.length+1) k')) :=
  ((Agr.alloc _ W o).trans (Agr.grownV hgr fun k hk => .inr hk.symm)).trans (Agr.setCell _ _ _ (.inl rfl))
 have nt1:ob A1 l1.length k1≠some (w.heap.size+1+1):=fun e=>by have:=(aCx h.row1 e).1;omega
 have nt2:ob A2 l2.length k2≠some (w.heap.size+1+1):=fun e=>by have:=(aCx h.row2 e).1;omega
 have tr4:Blk w4 (w.heap.size+1+1) (aDq (.slice A1 l1.length k1) (.slice A2 l2.length k2)) 38:=(h.tr.alloc o).grown hgr (fun e=>nt2 e.symm);have t2:=aQ2 h.row2 h.cnt (by decide)
 have hsz:(W.alloc o).heap.size=W.heap.size+1:=by simp
 have n2:ob A' (l2++[S]).length k'=ob A2 l2.length k2∨∃ k,ob A' (l2++[S]).length k'=some k/\W.heap.size<=k:=by
  rw [hl]
  rcases hat with e | e
  .exact .inl e
  .exact .inr ⟨_,e,by omega⟩
 have hrow:(w4.setCell ⟨w.heap.size+1+1,1,none⟩ (.slice A' (l2.length+1) k')).ownsRow (w.heap.size+1+1+1) 34 1 (.slice A' (l2++[S]).length k') (l2++[S]).length ((l2++[S]).map aBk):=by
  have:=aDi hown (a:=⟨w.heap.size+1+1,1,none⟩) (by simp) (.slice A' (l2.length+1) k')
  simpa using this
 refine ⟨_,h.turn hS hA (fun k e=>e.elim .inl fun e => .inr (.inr (.inr e))) ?_ (hA.blk h.cnt (fun e=>by
   rcases e with e | e
   .omega
   .exact t2 e)) (aCc h.row1 hA fun k hk e=>by
   rcases e with e | e
   .exact nt1 (e ▸ hk)
   .exact h.far k hk e) hrow (fun k hk hk2=>?_) (.inl rfl) n2 rfl⟩
 .have:=tr4.set 1 (.slice A' (l2.length+1) k')
  rw [hl];exact this
 .rcases n2 with e | ⟨j,e,hj⟩
  .exact h.far k hk (e ▸ hk2)
  .rw [hk2] at e;cases e
   have:=(aCx h.row1 hk).2;omega
theorem RunI.mid1 {w4:World} (h:RunI N0 w M0 rc cb Rd Ex Inv s0 W M X L l1 l2 A1 k1 A2 k2 kc) {o:Obj} (hgr:(W.alloc o).grownBy w4 (Value.slice A1 l1.length k1).ownBlock):Blk w4 (w.heap.size+1+1) (aDq (.slice A1 l1.length k1) (.slice A2 l2.length k2)) 38 :=
 (h.tr.alloc o).grown hgr fun e=>by have:=(aCx h.row1 e.symm).1;omega
theorem RunI.mid2 {w4:World} (h:RunI N0 w M0 rc cb Rd Ex Inv s0 W M X L l1 l2 A1 k1 A2 k2 kc) {o:Obj} (hgr:(W.alloc o).grownBy w4 (Value.slice A2 l2.length k2).ownBlock):Blk w4 (w.heap.size+1+1) (aDq (.slice A1 l1.length k1) (.slice A2 l2.length k2)) 38 :=
 (h.tr.alloc o).grown hgr fun e=>by have:=(aCx h.row2 e.symm).1;omega
theorem Rb.grow {M0:Nat->Prop} {t b:Nat} {R:World->Prop} {w:World} (h:Rb (fun k=>(M0 k∨k=t)∨k<b) R w):Rb (fun k=>(M0 k∨k=t∨k=w.heap.size)∨k<b) R w :=
 h.more fun k hk=>by
  rcases hk with (e | e | e) | e
  .exact .inl (.inl (.inl e))
  .exact .inl (.inl (.inr e))
  .right;omega
  .exact .inl (.inr e)
theorem RunI.start (hS:Seer P N0 f caps cv en ok Inv) (hI:Inv M0 s0 w) (hN:N0<=w.heap.size) (hR:Rb M0 Rd w) (x0:Blk W w.heap.size rc 69) (x1:Blk W (w.heap.size+1) (aDq (.slice none 0 0) (.slice none 0 0)) 38)
  (x2:Blk W (w.heap.size+1+1) (aDq (.slice none 0 0) (.slice none 0 0)) 38) (hb:Bel w W) (kc:Cnt) :
  RunI N0 w M0 rc W.heap.size Rd (fun _=>True) Inv s0 (W.alloc (.cells (aC9 kc) 36)) M0 (fun k=>(M0 k∨k=w.heap.size+1)∨k=w.heap.size+1+1∨k=W.heap.size) [] [] [] none 0 none 0 kc:=by
 have hz:=x2.lt;have hb2:Bel w (W.alloc (.cells (aC9 kc) 36)):=hb.alloc _;have dm:=hS.dom _ _ _ hI;refine ⟨x0.alloc _,x1.alloc _,x2.alloc _,Blk.new _ _ _,World.ownsRow_nil _ _ _ _,World.ownsRow_nil _ _ _ _,(fun k hk=>by cases hk),fun k hk=>?_,(by omega),fun k hk=>?_,?_,?_,(fun x hx=>by cases hx),(fun _ _=>trivial),Agr.of_belM hb2,fun k hk => .inl hk,hN,fun k hk=>?_,fun k hk=>hk⟩
 .have:=dm k hk
  exact ⟨(by omega),(by omega),(by omega),(by omega),(fun e=>by cases e),(fun e=>by cases e)⟩
 .rcases hk with e | e | e | e | e | e
  .exact .inl (.inl e)
  .exact .inl (.inr e)
  .exact .inr (.inl e)
  .exact .inr (.inr e)
  .cases e
  .cases e
 .rw [List.append_nil]
  exact hS.keep _ _ _ _ hI hb2.size fun k hk=>hb2.block k (hk.elim (dm k) fun h=>by omega)
 .refine (hR.more fun k hk=>?_).bel hb2
  rcases hk with (e | e) | e | e
  .exact .inl e
  .right;omega
  .right;omega
  .right;omega
 .have:=dm k
  rw [World.size_alloc]
  rcases hk with (e | e) | e | e
  .have:=dm k e;omega
  .omega
  .omega
  .omega
theorem RunI.newR {R:World->Prop} {N:Nat} (_:RunI N0 w M0 rc cb Rd Ex Inv s0 W M X L l1 l2 A1 k1 A2 k2 kc) (hN:∀ k,X k->k<N) (hw:w.heap.size<=N) (hR:∀ V,aAv N W V->R V):Rb (fun k=>X k∨k<w.heap.size) R W :=
 Rb.new hR fun k hk=>hk.elim (hN k) fun h=>Nat.lt_of_lt_of_le h hw
theorem RunI.more {R:World->Prop} (h:RunI N0 w M0 rc cb Rd Ex Inv s0 W M X L l1 l2 A1 k1 A2 k2 kc) (hR:Rb (fun k=>X k∨k<w.heap.size) R W):RunI N0 w M0 rc cb Rd R Inv s0 W M X L l1 l2 A1 k1 A2 k2 kc :=
 { h with ext:=hR }
theorem RunI.less (h:RunI N0 w M0 rc cb Rd Ex Inv s0 W M X L l1 l2 A1 k1 A2 k2 kc):RunI N0 w M0 rc cb Rd (fun _=>True) Inv s0 W M X L l1 l2 A1 k1 A2 k2 kc :=
 { h with ext:=fun _ _=>trivial }
theorem RunI.finish (hS:Seer P N0 f caps cv en ok Inv) (h:RunI N0 w M0 rc cb Rd Ex Inv s0 W M X L l1 l2 A1 k1 A2 k2 kc) (hA:Agr (fun k=>k=w.heap.size+1∨k=w.heap.size+1+1) W W') :
  Inv M (s0++L) W'/\(∀ x∈L,Rb (fun k=>M k∨k<w.heap.size) (fun W=>aAy W x.1 x.2.last) W')/\Rb (fun k=>M k∨k<w.heap.size) (fun W=>aAd W A1 l1.length l1) W'/\Rb (fun k=>M k∨k<w.heap.size) (fun W=>aAd W A2 l2.length l2) W'/\Agr M0 w W'/\l1.length<=k1/\k1<=maxLen/\l2.length<=k2/\k2<=maxLen:=by
 have hAX:Agr X W W':=hA.mono fun k hk=>h.inX k (hk.elim (fun e => .inr (.inl e)) fun e => .inr (.inr (.inl e)));have dm:=hS.dom _ _ _ h.inv;obtain ⟨c1,c2⟩:=aE3 h.row1;obtain ⟨c3,c4⟩:=aE3 h.row2
 refine ⟨hS.keep _ _ _ _ h.inv hA.size fun k hk=>hk.elim (fun hk=>hA.block k (dm k hk) fun e=>?_) (fun hk=>hA.block k (by have:=h.low;have:=h.agr.size;omega) fun e=>by have:=h.low;omega),fun x hx=>((h.confs x hx).go (hAX.mono fun k hk => .inl hk)).sub fun k hk=>hk.elim (fun hk => .inl (h.inX k (.inl hk))) .inr,
  fun V hV=>aRm (aCc (aCc h.row1 hA fun k hk e=>?_) hV fun k hk e=>e.elim (fun e=>(h.off k e).2.2.2.2.1 hk) fun e=>by have:=(aCx h.row1 hk).1;omega),fun V hV=>aRm (aCc (aCc h.row2 hA fun k hk e=>?_) hV fun k hk e=>e.elim (fun e=>(h.off k e).2.2.2.2.2 hk) fun e=>by have:=(aCx h.row2 hk).1;omega),?_,c1,c2,c3,c4⟩
 .obtain ⟨a1,a2,a3,_⟩:=h.off k hk
  exact e.elim a2 a3
 .have:=(aCx h.row1 hk).1;omega
 .have:=(aCx h.row2 hk).1;omega
 .exact ⟨hA.os.trans h.agr.os,hA.tape.trans h.agr.tape,hA.output.trans h.agr.output,Nat.le_trans h.agr.size hA.size,fun k hk hn=>(hA.block k (Nat.lt_of_lt_of_le hk h.agr.size) (fun e=>by omega)).trans (h.agr.block k hk hn)⟩
end
end Go.Proofs.YtdcjnhoabbdanaaGreatDoor

