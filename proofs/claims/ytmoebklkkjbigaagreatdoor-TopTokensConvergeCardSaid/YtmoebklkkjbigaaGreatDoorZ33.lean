/- Merged. -/
import Derived.Test.YtmoebklkkjbigaaGreatDoorZ26
set_option linter.unusedSimpArgs false
set_option linter.unnecessarySimpa false
set_option linter.unusedVariables false
set_option maxRecDepth 100000
set_option maxHeartbeats 40000000
open Go.Proofs.Tryz

namespace Go.Proofs.YtmoebklkkjbigaaGreatDoor
open Go.RowKit
def bGm (x:Wd):Value := .string (ba x)
def vC (x:Var):List Value:=[.string x.name,.int .i64 x.kind,.int .i64 x.lo,.int .i64 x.hi,.int .i64 x.perNode,.int .i64 x.perID]
def aS3 (w:World) (N:Nat) (v:Value) (L:List Wd):Prop:=∃ A c,v = .slice A L.length c/\w.ownsRow N 9 1 v L.length (L.map bGm)
def aOq (w:World) (N:Nat) (v:Value) (V:List Var):Prop:=∃ A c,v = .slice A V.length c/\w.ownsRow N 132 6 v V.length (V.flatMap vC)
abbrev Fw (B n:Nat) (w w':World):Prop:=Agr (fun q=>q=B∨n<=q) w w'
theorem Fw.of_but {B n:Nat} {w w':World} (h:But B w w'):Fw B n w w':=h.mono fun _ e => .inl e
theorem Fw.of_bel {B n:Nat} {w w':World} (h:Bel w w'):Fw B n w w':=Fw.of_but (But.of_bel h)
theorem aH9 {B N:Nat} {w w':World} {e:TypeId} {size n:Nat} {v:Value} {xs:List Value} (h:w.ownsRow N e size v n xs) (hB:B<N) (k:Fw B w.heap.size w w'):w'.ownsRow N e size v n xs:=by
 refine ⟨h.1,?_⟩
 rcases h.2 with hn | ⟨g,cap,cur,hv,hb,hg,hr⟩
 .exact .inl hn
 .refine .inr ⟨g,cap,cur,hv,hb,?_,hr⟩
  have:=lt_of_block hg;rw [k.block g this (by omega)];exact hg
theorem aS3.fw {B:Nat} {w w':World} {v:Value} {L:List Wd} (h:aS3 w (B+1) v L) (k:Fw B w.heap.size w w'):aS3 w' (B+1) v L:=by
 obtain ⟨A,c,e,h⟩:=h;exact ⟨A,c,e,aH9 h (by omega) k⟩
theorem aOq.fw {B:Nat} {w w':World} {v:Value} {L:List Var} (h:aOq w (B+1) v L) (k:Fw B w.heap.size w w'):aOq w' (B+1) v L:=by
 obtain ⟨A,c,e,h⟩:=h;exact ⟨A,c,e,aH9 h (by omega) k⟩
theorem aVb {B:Nat} {w:World} {A:Option Addr} {n c:Nat} {L:List Wd} (h:w.ownsRow (B+1) 9 1 (.slice A n c) n (L.map bGm)):aAc 1 (bBy B) w A n L:=by
 refine ⟨by have:=h.1;simpa using this,fun i x hx=>?_⟩
 obtain ⟨g,e1,e2,e3,e4,_⟩:=aAj h (j:=i) (u:=bGm x) (by simp [hx])
 refine ⟨g,0,e1,e3,by omega,?_⟩
 rw [show 0+i*1=i by omega];exact e4
theorem aS3.names {B:Nat} {w:World} {v:Value} {L:List Wd} (h:aS3 w (B+1) v L):NmR B w v L:=by
 obtain ⟨A,c,e,h⟩:=h;rw [e] at h;exact ⟨A,c,e,aVb h⟩
theorem aPx:(prog.info? 9).map (fun i=>(i.zero,i.size,i.bytes))=some (some (.string ⟨#[]⟩),1,16):=by kernel_rfl
theorem aS0:(prog.info? 132).map (fun i=>(i.zero,i.size,i.bytes))=some (some (.agg #[.string ⟨#[]⟩,.int .i64 0,.int .i64 0,.int .i64 0,.int .i64 0,.int .i64 0]),6,56):=by kernel_rfl
theorem aV9 (x:ByteArray):∀ u∈(#[Value.string x]:Array Value).toList,u.oneCell'=true:=by simp [Value.oneCell']
theorem bH2 {E:Nat->Prop} {A B:World} (h:Bel A B):Agr E A B:=⟨h.os,h.tape,h.output,h.size,fun k hk _=>h.block k hk⟩
theorem aVs (s:ByteArray) (a b c d e:Int):∀ u∈(#[Value.string s,.int .i64 a,.int .i64 b,.int .i64 c,.int .i64 d,.int .i64 e]:Array Value).toList,u.oneCell'=true:=by simp [Value.oneCell']
theorem Agr.of_grown {w w':World} {row:Option Nat} (h:w.grownBy w' row):Agr (fun q=>row=some q) w w':=⟨h.os,h.tape,h.output,h.size,fun k hk hn=>h.block k hk (fun e=>hn e.symm)⟩
theorem Rd.grown {w w':World} {B:Nat} {T:ByteArray} {A:Option Addr} {c:Nat} {ts:List Tok} {v2 v3 v4 v5 v6:Value} (h:Rd w B T A c ts v2 v3 v4 v5 v6) {e:TypeId} {size n:Nat} {v:Value} {xs:List Value} (ho:w.ownsRow (B+1) e size v n xs) (hne:81≠e) (hg:w.grownBy w' v.ownBlock):Rd w' B T A c ts v2 v3 v4 v5 v6 :=
 ⟨h.blk.grown hg (h.blk.apart ho hne),h.tok.agr (Agr.of_grown hg) (fun q hq=>by have:=(ho.lt q hq).1;omega),h.cap,h.few,h.ok,h.big⟩
theorem Rd.put {w:World} {B:Nat} {T:ByteArray} {A:Option Addr} {c:Nat} {ts:List Tok} {v2 v3 v4 v5 v6:Value} (h:Rd w B T A c ts v2 v3 v4 v5 v6) (i:Nat) (u:Value) {u2 u3 u4 u5 u6:Value} (hc:(#[Value.string T,.slice A ts.length c,v2,v3,v4,v5,v6]:Array Value).setIfInBounds i u=#[.string T,.slice A ts.length c,u2,u3,u4,u5,u6]):Rd (w.setCell ⟨B,i,none⟩ u) B T A c ts u2 u3 u4 u5 u6:=by
 have hb:=h.blk.set i u;rw [hc] at hb;exact ⟨hb,h.tok.agr (Agr.setCell (E:=fun q=>q=B) w ⟨B,i,none⟩ u rfl) (fun q e=>by omega),h.cap,h.few,h.ok,h.big⟩
theorem aDm {w:World} {B N:Nat} {e:TypeId} {size n:Nat} {v:Value} {xs:List Value} (h:w.ownsRow N e size v n xs) (hB:B<N) (i:Nat) (u:Value):(w.setCell ⟨B,i,none⟩ u).ownsRow N e size v n xs:=aLn h (Agr.setCell (E:=fun q=>q=B) w ⟨B,i,none⟩ u rfl) hB
def Nw (n0:Nat) (v:Value):Prop:=∀ k,v.ownBlock=some k->n0<=k
theorem Nw.push {n0 n:Nat} {u v:Value} (h:Nw n0 u) (hat:v.ownBlock=u.ownBlock∨v.ownBlock=some n) (hn:n0<=n):Nw n0 v:=fun k hk=>by
 rcases hat with e | e
 .rw [e] at hk;exact h k hk
 .rw [e] at hk;injection hk with hk;omega
theorem bBs {T:Wd} {ts r:List Tok} {k:Int × Int × Int} (h:bOr T ts=some (k,r)) :
  (aAg T [98,111,111,108] ts=some r/\k=(2,0,0))∨(aAg T [98,111,111,108] ts=none/\aAg T [112,111,114,116] ts=some r/\k=(3,0,0)) ∨
  (aAg T [98,111,111,108] ts=none/\aAg T [112,111,114,116] ts=none/\∃ lo t1 t2,aV4 0 4096 ts=some (lo,t1)/\aAg T [46,46] t1=some t2/\aIw t2≠2/\aAg T [110] t2=some r/\aAg T [43] r=none/\aAg T [45] r=none/\k=(1,(lo:Int),1)):=by
 unfold bOr at h;cases h1:aAg T [98,111,111,108] ts with
 | some t1 =>
  rw [h1] at h;injection h with h;injection h with h2 h3
  exact .inl ⟨by rw [h3],h2.symm⟩
 | none =>
  rw [h1] at h;dsimp only at h;cases h2:aAg T [112,111,114,116] ts with
  | some t1 =>
   rw [h2] at h;injection h with h;injection h with h3 h4
   exact .inr (.inl ⟨rfl,by rw [h4],h3.symm⟩)
  | none =>
   rw [h2] at h;dsimp only at h;rw [Option.bind_eq_some_iff] at h;obtain ⟨⟨lo,t1⟩,h3,h⟩:=h;dsimp only at h;rw [Option.bind_eq_some_iff] at h;obtain ⟨t2,h4,h⟩:=h;split at h
   .cases h
   .rename_i h5
    rw [Option.bind_eq_some_iff] at h;obtain ⟨t3,h6,h⟩:=h;split at h
    .cases h
    .rename_i h7
     injection h with h;injection h with h8 h9
     subst h9;refine .inr (.inr ⟨rfl,rfl,lo,t1,t2,h3,h4,h5,h6,?_,?_,h8.symm⟩)
     .unfold aAg;rw [if_neg (fun e=>h7 (.inl e))]
     .unfold aAg;rw [if_neg (fun e=>h7 (.inr e))]
theorem aVg {w:World} {B:Nat} {T:ByteArray} {ts r:List Tok} {v2 v3 v4 v5 v6:Value} {N:List Wd} {V:List Var} {x:Wd} {y:Var} (h:RdX w B T ts v2 v3 v4 v5 v6) (hN:aS3 w (B+1) v2 N) (hV:aOq w (B+1) v4 V) (hNl:N.length<=100) (hVl:V.length<=100) {n0:Nat} (hn0:n0<=w.heap.size) (hw2:Nw n0 v2) (hw4:Nw n0 v4) (hv:varL (aA5 T) N ts=some ((x,y),r)) :
  Calls prog 59 #[.pointer (some ⟨B,0,none⟩)] w fun e w'=>(∃ x,e = .returned x)/\Agr (fun q=>q=B∨n0<=q) w w'/\∃ v2' v4',RdX w' B T r v2' v3 v4' v5 v6/\aS3 w' (B+1) v2' (N++[x])/\aOq w' (B+1) v4' (V++[y])/\Nw n0 v2'/\Nw n0 v4':=by
 have hB:B<w.heap.size:=by obtain ⟨_,_,h⟩:=h;exact h.lt
 unfold varL at hv;rw [Option.bind_eq_some_iff] at hv;obtain ⟨⟨x0,t1⟩,hn,hv⟩:=hv;dsimp only at hv;rw [Option.bind_eq_some_iff] at hv;obtain ⟨t2,hc,hv⟩:=hv;rw [Option.bind_eq_some_iff] at hv;obtain ⟨⟨k,t3⟩,hk,hv⟩:=hv;dsimp only at hv;rw [Option.bind_eq_some_iff] at hv;obtain ⟨t4,hs,hv⟩:=hv;injection hv with hv
 injection hv with hv hr
 injection hv with hv1 hv2
 subst hv1;subst hv2;subst hr;obtain ⟨AN,cN,rfl,hNo⟩:=hN;obtain ⟨AV,cV,rfl,hVo⟩:=hV;have HW2:=aA0 hw2;have HW4:=aA0 hw4;clear hw2 hw4;have HNR:=aA0 (aVb hNo);have HNO:=aA0 hNo;have HVO:=aA0 hVo;have HNM:=aA0 hn;have HH:=aA0 h;have C1:=aA0 (fun (w0:World) (hx:RdX w0 B T t1 (.slice AN N.length cN) v3 (.slice AV V.length cV) v5 v6)=>aC7 hx { data:=#[58] } (by decide) hc)
 have C2:=aA0 (fun (w0:World) (hx:RdX w0 B T t3 (.slice AN N.length cN) v3 (.slice AV V.length cV) v5 v6)=>aC7 hx { data:=#[59] } (by decide) hs)
 obtain ⟨A1,k1,hr1⟩:=id h;obtain ⟨y0,y1,y2,_⟩:=hr1.cells;have yl:=hr1.lt;clear h hn hc hs hr1 hNo hVo y0 y1
 rcases bBs hk with ⟨ha,rfl⟩ | ⟨ha,hb,rfl⟩ | ⟨ha,hb,lo,u1,u2,q1,q2,q3,q4,q5,q6,rfl⟩
 .have C3:=aA0 (fun (w0:World) (hx:RdX w0 B T t2 (.slice AN N.length cN) v3 (.slice AV V.length cV) v5 v6)=>aC0 hx { data:=#[98,111,111,108] } (by decide) ha)
  clear ha hk;go_enter func59,ntmps59
  go_upto_region 10 with (first
   | (go_at_call 57;refine (aJp HH.out HNR.out (by omega) HNM.out).mono ?_;rintro e w1 ⟨rfl,hb,hx⟩;have HX1:=aA0 (hx.bel ((Bel.refl w1).alloc (.cells #[.string (ba x0),.int .i64 0,.int .i64 0,.int .i64 0,.int .i64 0,.int .i64 0] 132)));have HB1:=aA0 ((Fw.of_but (n:=w.heap.size) hb).trans (Fw.of_bel ((Bel.refl w1).alloc (.cells #[.string (ba x0),.int .i64 0,.int .i64 0,.int .i64 0,.int .i64 0,.int .i64 0] 132))));have HZ1:=aA0 (Blk.new w1 #[.string (ba x0),.int .i64 0,.int .i64 0,.int .i64 0,.int .i64 0,.int .i64 0] 132);have hws:=hb.size;clear hb hx)
   | (go_at_call 56;(with_reducible refine (C1.out _ HX1.out).mono ?_);rintro e w2 ⟨⟨u,rfl⟩,hb,hx⟩;have HX2:=aA0 hx;have HB2:=aA0 (HB1.out.trans (Fw.of_but hb));have HZ2:=aA0 (HZ1.out.but hb (by omega));clear hb hx)
   | (go_at_call 103;(with_reducible refine (C3.out _ HX2.out).mono ?_);rintro e w3 ⟨rfl,hb,hx⟩;have HX3:=aA0 hx;have HB3:=aA0 (HB2.out.trans (Fw.of_but hb));have HZ3:=aA0 (HZ2.out.but hb (by omega));have f1:=HZ3.out.frozen 1;have c1:=HZ3.out.cell 1 (v := .int .i64 0) rfl;have l1:=HZ3.out.lt;clear hb hx))
  have HXF:=aA0 (HX3.out.agrX (Agr.setCell (E:=fun q=>q=w1.heap.size) w3 ⟨w1.heap.size,1,none⟩ (.int .i64 2) rfl) (by omega))
  have HBF:=aA0 (HB3.out.trans (Agr.setCell (E:=fun q=>q=B∨w.heap.size<=q) w3 ⟨w1.heap.size,1,none⟩ (.int .i64 2) (.inr hws)));have HZF:=aA0 (show Blk (w3.setCell ⟨w1.heap.size,1,none⟩ (.int .i64 2)) w1.heap.size #[.string (ba x0),.int .i64 2,.int .i64 0,.int .i64 0,.int .i64 0,.int .i64 0] _ from HZ3.out.set 1 (.int .i64 2))
  obtain ⟨wk,hwk⟩:∃ wk,w3.setCell ⟨w1.heap.size,1,none⟩ (.int .i64 2)=wk:=⟨_,rfl⟩;rw [hwk] at HXF HBF HZF;rw [hwk];clear hwk f1 c1 l1;have hXB:B<w1.heap.size:=by omega
  obtain ⟨X,hX⟩:∃ X,w1.heap.size=X:=⟨_,rfl⟩;rw [hX] at HZF hXB hws ⊢;clear hX
  go_upto_region 11 with (go_at_call 56;(with_reducible refine (C2.out _ HXF.out).mono ?_);rintro e wm ⟨⟨um,rfl⟩,hb,hx⟩;have HXM:=aA0 hx;have HBM:=aA0 (HBF.out.trans (Fw.of_but hb));have HZM:=aA0 (HZF.out.but hb (by omega));clear hb hx)
  obtain ⟨AT,cT,hRD⟩:=HXM.out;have HRD:=aA0 hRD;clear hRD;have hNOm:=aH9 HNO.out (by omega) HBM.out
  have hVOm:=aH9 HVO.out (by omega) HBM.out
  have HNOm:=aA0 hNOm;have HVOm:=aA0 hVOm;clear hNOm hVOm;have hsz:=HBM.out.size;have HUP:Hid (Agr (fun q=>q=B∨n0<=q) w wm):=HBM.out.mono (fun q e=>e.elim .inl (fun e => .inr (by omega)))
  obtain ⟨i0,hi0,hi1,hi2,hi3⟩:=aBq aPx;obtain ⟨j0,hj0,hj1,hj2,hj3⟩:=aBq aS0
  have hcell:Hid (∀ w',Bel wm w'->w'.cell? ⟨B,2,none⟩=some (.slice AN N.length cN)/\w'.cell? ⟨X,0,none⟩=some (.string (ba x0))/\B<w'.heap.size/\X<w'.heap.size):=fun w' k =>
   ⟨(HRD.out.blk.keep k).cell 2 rfl,(HZM.out.keep k).cell 0 rfl,(HRD.out.blk.keep k).lt,(HZM.out.keep k).lt⟩
  refine aA4.start (fun w'=>w'.cell? ⟨B,2,none⟩=some (.slice AN N.length cN)/\w'.cell? ⟨X,0,none⟩=some (.string (ba x0))/\B<w'.heap.size/\X<w'.heap.size) 13 (by kernel_rfl) ?_
  have HB:=(Bel.refl wm).drew;have hHeld:=hcell.out _ HB
  (refine aA4.u (v:=?_) 0 41 rfl hHeld ?_ ?_;rotate_left 1;focus (intro w' hSw;(try dsimp only at hSw);go_simp;(try with_reducible rfl);done));(refine aA4.u (v:=?_) 1 42 rfl hHeld ?_ ?_;rotate_left 1;focus (intro w' hSw;(try dsimp only at hSw);go_simp;(try with_reducible rfl);done));(refine aA4.u (v:=?_) 2 43 rfl hHeld ?_ ?_;rotate_left 1;focus (intro w' hSw;(try dsimp only at hSw);go_simp;(try with_reducible rfl);done));(refine aA4.u (v:=?_) 3 44 rfl hHeld ?_ ?_;rotate_left 1;focus (intro w' hSw;(try dsimp only at hSw);go_simp;(try with_reducible rfl);done));(refine aA4.u (v:=?_) 4 45 rfl hHeld ?_ ?_;rotate_left 1;focus (intro w' hSw;(try dsimp only at hSw);go_simp;(try with_reducible rfl);done));(refine aA4.u (v:=?_) 5 46 rfl hHeld ?_ ?_;rotate_left 1;focus (intro w' hSw;(try dsimp only at hSw);go_simp;(try with_reducible rfl);done));(refine aA4.u (v:=?_) 6 47 rfl hHeld ?_ ?_;rotate_left 1;focus (intro w' hSw;(try dsimp only at hSw);go_simp;(try with_reducible rfl);done));(refine aA4.u (v:=?_) 7 48 rfl hHeld ?_ ?_;rotate_left 1;focus (intro w' hSw;(try dsimp only at hSw);go_simp;(try with_reducible rfl);done))
  have HNOa:=aA0 ((show wm.drew.ownsRow (B+1) 9 1 (.slice AN N.length cN) N.length (N.map bGm) from HNOm.out).alloc (.cells #[.string (ba x0)] 9))
  have HBa:=HB.alloc (.cells #[.string (ba x0)] 9);have HNEW:=aA0 (aAx wm.drew (.cells #[.string (ba x0)] 9));refine aA4.one (i:=8) (by kernel_rfl) rfl (fun K hK=>?_)
  go_simp
  refine hK.out _ _ (fun _=>hcell.out _ HBa) ?_
  clear hK K hHeld
  (try simp only [Act.put,List.setIfInBounds_toArray,List.set_cons_zero,List.set_cons_succ])
  refine aA4.one (i:=9) (by kernel_rfl) rfl (fun K hK=>?_)
  refine aCn _ rfl (.tmp 46) (.tmp 49) 77 rfl (B+1) 9 i0 (.string ⟨#[]⟩) 1 16 underlying77 hi0 hi1 hi2 hi3 rfl (by decide) AN N.length cN (N.map bGm) (by simp [Act.eval]) HNOa.out wm.heap.size #[.string (ba x0)] 9 (0,0) (by simp [Act.eval]) HNEW.out rfl (aV9 _) (by unfold maxLen;omega) (by omega) (by simp;omega) ?_
  intro A2 c2 w4 hown hgr hat
  have HR4:=aA0 ((HRD.out.bel HBa).grown HNOa.out (by decide) hgr)
  have HZ4:=aA0 ((HZM.out.keep HBa).grown hgr ((HZM.out.keep HBa).apart HNOa.out (by decide)))
  have HV4:=aA0 (World.ownsRow.kept (HBa.owns HVOm.out) hgr (aAn HNOa.out (HBa.owns HVOm.out) (by decide)))
  have HN4:=aA0 hown;have HU4:=aA0 ((HUP.out.trans (bH2 HBa)).trans ((Agr.of_grown hgr).mono (fun q hq => .inr (HW2.out q hq))));have HNW2:=aA0 (HW2.out.push hat (by have e9:wm.drew.heap.size=wm.heap.size:=rfl;simp;omega))
  have hz2:=HR4.out.blk.cell 2 (v := .slice AN N.length cN) rfl;have hf2:=HR4.out.blk.frozen 2;have hl2:=HR4.out.blk.lt;refine hK.out _ _ (fun _=>⟨hz2,HZ4.out.cell 0 rfl,hl2,HZ4.out.lt⟩) ?_
  clear hK K hown hgr hat
  (try simp only [Act.put,List.setIfInBounds_toArray,List.set_cons_zero,List.set_cons_succ])
  have hHeld:w4.cell? ⟨B,2,none⟩=some (.slice AN N.length cN)/\w4.cell? ⟨X,0,none⟩=some (.string (ba x0))/\B<w4.heap.size/\X<w4.heap.size:=⟨hz2,HZ4.out.cell 0 rfl,hl2,HZ4.out.lt⟩
  (refine aA4.u (v:=?_) 10 51 rfl hHeld ?_ ?_;rotate_left 1;focus (intro w' hSw;(try dsimp only at hSw);go_simp;(try with_reducible rfl);done));(refine aA4.u (v:=?_) 11 52 rfl hHeld ?_ ?_;rotate_left 1;focus (intro w' hSw;(try dsimp only at hSw);go_simp;(try with_reducible rfl);done));(refine aA4.u (v:=?_) 12 53 rfl hHeld ?_ ?_;rotate_left 1;focus (intro w' hSw;(try dsimp only at hSw);go_simp;(try with_reducible rfl);done))
  (refine aA4.one (i:=13) (by kernel_rfl) rfl (fun K hK=>?_));go_simp;refine hK.out _ _ (fun h=>absurd rfl h) ?_;clear hK K;refine aA4.done (by kernel_rfl) ?_ _;(try simp only [Act.put,List.setIfInBounds_toArray,List.set_cons_zero,List.set_cons_succ])
  clear hHeld hz2 hf2 hl2;have HR5:=aA0 (HR4.out.put 2 (.slice A2 (N.length+1) c2) (u2 := .slice A2 (N.length+1) c2) (u3:=v3) (u4 := .slice AV V.length cV) (u5:=v5) (u6:=v6) rfl);have HZ5:=aA0 (HZ4.out.other (a:=⟨B,2,none⟩) (by dsimp only;omega) (.slice A2 (N.length+1) c2))
  have HV5:=aA0 (aDm HV4.out (Nat.lt_succ_self B) 2 (.slice A2 (N.length+1) c2));have HN5:=aA0 (aDm HN4.out (Nat.lt_succ_self B) 2 (.slice A2 (N.length+1) c2));have HU5:=aA0 (HU4.out.trans (Agr.setCell (E:=fun q=>q=B∨n0<=q) w4 ⟨B,2,none⟩ (.slice A2 (N.length+1) c2) (.inl rfl)));clear HR4 HZ4 HV4 HN4 HU4 HNOa HNOm HVOm HRD HZM hcell HB HBa HNEW;generalize w4.setCell ⟨B,2,none⟩ (.slice A2 (N.length+1) c2)=w5 at *;have hsz5:=HU5.out.size
  go_wp2_with fail
  have hcell:Hid (∀ w',Bel w5 w'->w'.cell? ⟨B,4,none⟩=some (.slice AV V.length cV)/\(w'.cell? ⟨X,0,none⟩=some (.string (ba x0))/\w'.cell? ⟨X,1,none⟩=some (.int .i64 2)/\w'.cell? ⟨X,2,none⟩=some (.int .i64 0)/\w'.cell? ⟨X,3,none⟩=some (.int .i64 0)/\w'.cell? ⟨X,4,none⟩=some (.int .i64 0)/\w'.cell? ⟨X,5,none⟩=some (.int .i64 0))/\B<w'.heap.size/\X<w'.heap.size):=fun w' k =>
   ⟨(HR5.out.blk.keep k).cell 4 rfl,⟨(HZ5.out.keep k).cell 0 rfl,(HZ5.out.keep k).cell 1 rfl,(HZ5.out.keep k).cell 2 rfl,(HZ5.out.keep k).cell 3 rfl,(HZ5.out.keep k).cell 4 rfl,(HZ5.out.keep k).cell 5 rfl⟩,(HR5.out.blk.keep k).lt,(HZ5.out.keep k).lt⟩
  refine aA4.start (fun w'=>w'.cell? ⟨B,4,none⟩=some (.slice AV V.length cV)/\(w'.cell? ⟨X,0,none⟩=some (.string (ba x0))/\w'.cell? ⟨X,1,none⟩=some (.int .i64 2)/\w'.cell? ⟨X,2,none⟩=some (.int .i64 0)/\w'.cell? ⟨X,3,none⟩=some (.int .i64 0)/\w'.cell? ⟨X,4,none⟩=some (.int .i64 0)/\w'.cell? ⟨X,5,none⟩=some (.int .i64 0))/\B<w'.heap.size/\X<w'.heap.size) 12 (by kernel_rfl) ?_
  have HB:=(Bel.refl w5).drew;have hHeld:=hcell.out _ HB
  (refine aA4.u (v:=?_) 0 54 rfl hHeld ?_ ?_;rotate_left 1;focus (intro w' hSw;(try dsimp only at hSw);go_simp;(try with_reducible rfl);done));(refine aA4.u (v:=?_) 1 55 rfl hHeld ?_ ?_;rotate_left 1;focus (intro w' hSw;(try dsimp only at hSw);go_simp;(try with_reducible rfl);done));(refine aA4.u (v:=?_) 2 56 rfl hHeld ?_ ?_;rotate_left 1;focus (intro w' hSw;(try dsimp only at hSw);go_simp;(try with_reducible rfl);done));(refine aA4.u (v:=?_) 3 57 rfl hHeld ?_ ?_;rotate_left 1;focus (intro w' hSw;(try dsimp only at hSw);go_simp;(try with_reducible rfl);done));(refine aA4.u (v:=?_) 4 58 rfl hHeld ?_ ?_;rotate_left 1;focus (intro w' hSw;(try dsimp only at hSw);go_simp;(try with_reducible rfl);done));(refine aA4.u (v:=?_) 5 59 rfl hHeld ?_ ?_;rotate_left 1;focus (intro w' hSw;(try dsimp only at hSw);go_simp;(try with_reducible rfl);done));(refine aA4.u (v:=?_) 6 60 rfl hHeld ?_ ?_;rotate_left 1;focus (intro w' hSw;(try dsimp only at hSw);go_simp;(try with_reducible rfl);done))
  have HVa:=aA0 ((show w5.drew.ownsRow (B+1) 132 6 (.slice AV V.length cV) V.length (V.flatMap vC) from HV5.out).alloc (.cells #[.string (ba x0),.int .i64 2,.int .i64 0,.int .i64 0,.int .i64 0,.int .i64 0] 132))
  have HBa:=HB.alloc (.cells #[.string (ba x0),.int .i64 2,.int .i64 0,.int .i64 0,.int .i64 0,.int .i64 0] 132);have HNEW:=aA0 (aAx w5.drew (.cells #[.string (ba x0),.int .i64 2,.int .i64 0,.int .i64 0,.int .i64 0,.int .i64 0] 132));refine aA4.one (i:=7) (by kernel_rfl) rfl (fun K hK=>?_)
  go_simp
  refine hK.out _ _ (fun _=>hcell.out _ HBa) ?_
  clear hK K hHeld
  (try simp only [Act.put,List.setIfInBounds_toArray,List.set_cons_zero,List.set_cons_succ])
  refine aA4.one (i:=8) (by kernel_rfl) rfl (fun K hK=>?_)
  refine aCn _ rfl (.tmp 59) (.tmp 61) 28 rfl (B+1) 132 j0 (.agg #[.string ⟨#[]⟩,.int .i64 0,.int .i64 0,.int .i64 0,.int .i64 0,.int .i64 0]) 6 56 underlying28 hj0 hj1 hj2 hj3 rfl (by decide) AV V.length cV (V.flatMap vC) (by simp [Act.eval]) HVa.out w5.heap.size #[.string (ba x0),.int .i64 2,.int .i64 0,.int .i64 0,.int .i64 0,.int .i64 0] 132 (0,0) (by simp [Act.eval]) HNEW.out rfl (aVs _ _ _ _ _ _) (by unfold maxLen;omega) (by omega) (by simp;omega) ?_
  intro A6 c6 w6 hown hgr hat
  have HR6:=aA0 ((HR5.out.bel HBa).grown HVa.out (by decide) hgr)
  have HN6:=aA0 (World.ownsRow.kept (HBa.owns HN5.out) hgr (aAn HVa.out (HBa.owns HN5.out) (by decide)))
  have HV6:=aA0 hown;have HU6:=aA0 ((HU5.out.trans (bH2 HBa)).trans ((Agr.of_grown hgr).mono (fun q hq => .inr (HW4.out q hq))));have HNW4:=aA0 (HW4.out.push hat (by have e9:w5.drew.heap.size=w5.heap.size:=rfl;simp;omega))
  have hz4:=HR6.out.blk.cell 4 (v := .slice AV V.length cV) rfl;have hf4:=HR6.out.blk.frozen 4;have hl4:=HR6.out.blk.lt;have HZ6:=aA0 ((HZ5.out.keep HBa).grown hgr (fun e=>by have:=(HVO.out.lt X e.symm).2;omega))
  have hHeld:w6.cell? ⟨B,4,none⟩=some (.slice AV V.length cV)/\(w6.cell? ⟨X,0,none⟩=some (.string (ba x0))/\w6.cell? ⟨X,1,none⟩=some (.int .i64 2)/\w6.cell? ⟨X,2,none⟩=some (.int .i64 0)/\w6.cell? ⟨X,3,none⟩=some (.int .i64 0)/\w6.cell? ⟨X,4,none⟩=some (.int .i64 0)/\w6.cell? ⟨X,5,none⟩=some (.int .i64 0))/\B<w6.heap.size/\X<w6.heap.size:=⟨hz4,⟨HZ6.out.cell 0 rfl,HZ6.out.cell 1 rfl,HZ6.out.cell 2 rfl,HZ6.out.cell 3 rfl,HZ6.out.cell 4 rfl,HZ6.out.cell 5 rfl⟩,hl4,HZ6.out.lt⟩;refine hK.out _ _ (fun _=>hHeld) ?_
  clear hK K hown hgr hat
  (try simp only [Act.put,List.setIfInBounds_toArray,List.set_cons_zero,List.set_cons_succ])
  (refine aA4.u (v:=?_) 9 63 rfl hHeld ?_ ?_;rotate_left 1;focus (intro w' hSw;(try dsimp only at hSw);go_simp;(try with_reducible rfl);done));(refine aA4.u (v:=?_) 10 64 rfl hHeld ?_ ?_;rotate_left 1;focus (intro w' hSw;(try dsimp only at hSw);go_simp;(try with_reducible rfl);done));(refine aA4.u (v:=?_) 11 65 rfl hHeld ?_ ?_;rotate_left 1;focus (intro w' hSw;(try dsimp only at hSw);go_simp;(try with_reducible rfl);done))
  (refine aA4.one (i:=12) (by kernel_rfl) rfl (fun K hK=>?_));go_simp;refine hK.out _ _ (fun h=>absurd rfl h) ?_;clear hK K;refine aA4.done (by kernel_rfl) ?_ _;(try simp only [Act.put,List.setIfInBounds_toArray,List.set_cons_zero,List.set_cons_succ])
  clear hHeld;have HR7:=aA0 (HR6.out.put 4 (.slice A6 (V.length+1) c6) (u2 := .slice A2 (N.length+1) c2) (u3:=v3) (u4 := .slice A6 (V.length+1) c6) (u5:=v5) (u6:=v6) rfl);have HV7:=aA0 (aDm HV6.out (Nat.lt_succ_self B) 4 (.slice A6 (V.length+1) c6));have HN7:=aA0 (aDm HN6.out (Nat.lt_succ_self B) 4 (.slice A6 (V.length+1) c6));have HU7:=aA0 (HU6.out.trans (Agr.setCell (E:=fun q=>q=B∨n0<=q) w6 ⟨B,4,none⟩ (.slice A6 (V.length+1) c6) (.inl rfl)));clear hz4 hf4 hl4;generalize w6.setCell ⟨B,4,none⟩ (.slice A6 (V.length+1) c6)=w7 at *;go_wp2
  go_end0
  refine ⟨⟨_,rfl⟩,HU7.out,_,_,⟨AT,cT,HR7.out⟩,⟨A2,c2,by simp,?_⟩,⟨A6,c6,by simp,?_⟩,HNW2.out,HNW4.out⟩
  .have:=HN7.out
   rw [List.length_append,List.map_append];exact this
  .have:=HV7.out
   rw [List.length_append,List.flatMap_append];exact this
 .have C3:=aA0 (fun (w0:World) (hx:RdX w0 B T t2 (.slice AN N.length cN) v3 (.slice AV V.length cV) v5 v6)=>aBp hx { data:=#[98,111,111,108] } ha)
  have C4:=aA0 (fun (w0:World) (hx:RdX w0 B T t2 (.slice AN N.length cN) v3 (.slice AV V.length cV) v5 v6)=>aC0 hx { data:=#[112,111,114,116] } (by decide) hb)
  clear ha hb hk;go_enter func59,ntmps59
  go_upto_region 10 with (first
   | (go_at_call 57;refine (aJp HH.out HNR.out (by omega) HNM.out).mono ?_;rintro e w1 ⟨rfl,hb,hx⟩;have HX1:=aA0 (hx.bel ((Bel.refl w1).alloc (.cells #[.string (ba x0),.int .i64 0,.int .i64 0,.int .i64 0,.int .i64 0,.int .i64 0] 132)));have HB1:=aA0 ((Fw.of_but (n:=w.heap.size) hb).trans (Fw.of_bel ((Bel.refl w1).alloc (.cells #[.string (ba x0),.int .i64 0,.int .i64 0,.int .i64 0,.int .i64 0,.int .i64 0] 132))));have HZ1:=aA0 (Blk.new w1 #[.string (ba x0),.int .i64 0,.int .i64 0,.int .i64 0,.int .i64 0,.int .i64 0] 132);have hws:=hb.size;clear hb hx)
   | (go_at_call 56;(with_reducible refine (C1.out _ HX1.out).mono ?_);rintro e w2 ⟨⟨u,rfl⟩,hb,hx⟩;have HX2:=aA0 hx;have HB2:=aA0 (HB1.out.trans (Fw.of_but hb));have HZ2:=aA0 (HZ1.out.but hb (by omega));clear hb hx)
   | (go_at_call 103;(with_reducible refine (C3.out _ HX2.out).mono ?_);rintro e w3 ⟨rfl,hb,hx⟩;have HX3:=aA0 hx;have HB3:=aA0 (HB2.out.trans (Fw.of_but hb));have HZ3:=aA0 (HZ2.out.but hb (by omega));clear hb hx)
   | (go_at_call 103;(with_reducible refine (C4.out _ HX3.out).mono ?_);rintro e w4 ⟨rfl,hb,hx⟩;have HX4:=aA0 hx;have HB4:=aA0 (HB3.out.trans (Fw.of_but hb));have HZ4:=aA0 (HZ3.out.but hb (by omega));have f1:=HZ4.out.frozen 1;have c1:=HZ4.out.cell 1 (v := .int .i64 0) rfl;have l1:=HZ4.out.lt;clear hb hx))
  have HXF:=aA0 (HX4.out.agrX (Agr.setCell (E:=fun q=>q=w1.heap.size) w4 ⟨w1.heap.size,1,none⟩ (.int .i64 3) rfl) (by omega))
  have HBF:=aA0 (HB4.out.trans (Agr.setCell (E:=fun q=>q=B∨w.heap.size<=q) w4 ⟨w1.heap.size,1,none⟩ (.int .i64 3) (.inr hws)));have HZF:=aA0 (show Blk (w4.setCell ⟨w1.heap.size,1,none⟩ (.int .i64 3)) w1.heap.size #[.string (ba x0),.int .i64 3,.int .i64 0,.int .i64 0,.int .i64 0,.int .i64 0] _ from HZ4.out.set 1 (.int .i64 3))
  obtain ⟨wk,hwk⟩:∃ wk,w4.setCell ⟨w1.heap.size,1,none⟩ (.int .i64 3)=wk:=⟨_,rfl⟩;rw [hwk] at HXF HBF HZF;rw [hwk];clear hwk f1 c1 l1;have hXB:B<w1.heap.size:=by omega
  obtain ⟨X,hX⟩:∃ X,w1.heap.size=X:=⟨_,rfl⟩;rw [hX] at HZF hXB hws ⊢;clear hX
  go_upto_region 11 with (go_at_call 56;(with_reducible refine (C2.out _ HXF.out).mono ?_);rintro e wm ⟨⟨um,rfl⟩,hb,hx⟩;have HXM:=aA0 hx;have HBM:=aA0 (HBF.out.trans (Fw.of_but hb));have HZM:=aA0 (HZF.out.but hb (by omega));clear hb hx)
  obtain ⟨AT,cT,hRD⟩:=HXM.out;have HRD:=aA0 hRD;clear hRD;have hNOm:=aH9 HNO.out (by omega) HBM.out
  have hVOm:=aH9 HVO.out (by omega) HBM.out
  have HNOm:=aA0 hNOm;have HVOm:=aA0 hVOm;clear hNOm hVOm;have hsz:=HBM.out.size;have HUP:Hid (Agr (fun q=>q=B∨n0<=q) w wm):=HBM.out.mono (fun q e=>e.elim .inl (fun e => .inr (by omega)))
  obtain ⟨i0,hi0,hi1,hi2,hi3⟩:=aBq aPx;obtain ⟨j0,hj0,hj1,hj2,hj3⟩:=aBq aS0
  have hcell:Hid (∀ w',Bel wm w'->w'.cell? ⟨B,2,none⟩=some (.slice AN N.length cN)/\w'.cell? ⟨X,0,none⟩=some (.string (ba x0))/\B<w'.heap.size/\X<w'.heap.size):=fun w' k =>
   ⟨(HRD.out.blk.keep k).cell 2 rfl,(HZM.out.keep k).cell 0 rfl,(HRD.out.blk.keep k).lt,(HZM.out.keep k).lt⟩
  refine aA4.start (fun w'=>w'.cell? ⟨B,2,none⟩=some (.slice AN N.length cN)/\w'.cell? ⟨X,0,none⟩=some (.string (ba x0))/\B<w'.heap.size/\X<w'.heap.size) 13 (by kernel_rfl) ?_
  have HB:=(Bel.refl wm).drew;have hHeld:=hcell.out _ HB
  (refine aA4.u (v:=?_) 0 41 rfl hHeld ?_ ?_;rotate_left 1;focus (intro w' hSw;(try dsimp only at hSw);go_simp;(try with_reducible rfl);done));(refine aA4.u (v:=?_) 1 42 rfl hHeld ?_ ?_;rotate_left 1;focus (intro w' hSw;(try dsimp only at hSw);go_simp;(try with_reducible rfl);done));(refine aA4.u (v:=?_) 2 43 rfl hHeld ?_ ?_;rotate_left 1;focus (intro w' hSw;(try dsimp only at hSw);go_simp;(try with_reducible rfl);done));(refine aA4.u (v:=?_) 3 44 rfl hHeld ?_ ?_;rotate_left 1;focus (intro w' hSw;(try dsimp only at hSw);go_simp;(try with_reducible rfl);done));(refine aA4.u (v:=?_) 4 45 rfl hHeld ?_ ?_;rotate_left 1;focus (intro w' hSw;(try dsimp only at hSw);go_simp;(try with_reducible rfl);done));(refine aA4.u (v:=?_) 5 46 rfl hHeld ?_ ?_;rotate_left 1;focus (intro w' hSw;(try dsimp only at hSw);go_simp;(try with_reducible rfl);done));(refine aA4.u (v:=?_) 6 47 rfl hHeld ?_ ?_;rotate_left 1;focus (intro w' hSw;(try dsimp only at hSw);go_simp;(try with_reducible rfl);done));(refine aA4.u (v:=?_) 7 48 rfl hHeld ?_ ?_;rotate_left 1;focus (intro w' hSw;(try dsimp only at hSw);go_simp;(try with_reducible rfl);done))
  have HNOa:=aA0 ((show wm.drew.ownsRow (B+1) 9 1 (.slice AN N.length cN) N.length (N.map bGm) from HNOm.out).alloc (.cells #[.string (ba x0)] 9))
  have HBa:=HB.alloc (.cells #[.string (ba x0)] 9);have HNEW:=aA0 (aAx wm.drew (.cells #[.string (ba x0)] 9));refine aA4.one (i:=8) (by kernel_rfl) rfl (fun K hK=>?_)
  go_simp
  refine hK.out _ _ (fun _=>hcell.out _ HBa) ?_
  clear hK K hHeld
  (try simp only [Act.put,List.setIfInBounds_toArray,List.set_cons_zero,List.set_cons_succ])
  refine aA4.one (i:=9) (by kernel_rfl) rfl (fun K hK=>?_)
  refine aCn _ rfl (.tmp 46) (.tmp 49) 77 rfl (B+1) 9 i0 (.string ⟨#[]⟩) 1 16 underlying77 hi0 hi1 hi2 hi3 rfl (by decide) AN N.length cN (N.map bGm) (by simp [Act.eval]) HNOa.out wm.heap.size #[.string (ba x0)] 9 (0,0) (by simp [Act.eval]) HNEW.out rfl (aV9 _) (by unfold maxLen;omega) (by omega) (by simp;omega) ?_
  intro A2 c2 w4 hown hgr hat
  have HR4:=aA0 ((HRD.out.bel HBa).grown HNOa.out (by decide) hgr)
  have HZ4:=aA0 ((HZM.out.keep HBa).grown hgr ((HZM.out.keep HBa).apart HNOa.out (by decide)))
  have HV4:=aA0 (World.ownsRow.kept (HBa.owns HVOm.out) hgr (aAn HNOa.out (HBa.owns HVOm.out) (by decide)))
  have HN4:=aA0 hown;have HU4:=aA0 ((HUP.out.trans (bH2 HBa)).trans ((Agr.of_grown hgr).mono (fun q hq => .inr (HW2.out q hq))));have HNW2:=aA0 (HW2.out.push hat (by have e9:wm.drew.heap.size=wm.heap.size:=rfl;simp;omega))
  have hz2:=HR4.out.blk.cell 2 (v := .slice AN N.length cN) rfl;have hf2:=HR4.out.blk.frozen 2;have hl2:=HR4.out.blk.lt;refine hK.out _ _ (fun _=>⟨hz2,HZ4.out.cell 0 rfl,hl2,HZ4.out.lt⟩) ?_
  clear hK K hown hgr hat
  (try simp only [Act.put,List.setIfInBounds_toArray,List.set_cons_zero,List.set_cons_succ])
  have hHeld:w4.cell? ⟨B,2,none⟩=some (.slice AN N.length cN)/\w4.cell? ⟨X,0,none⟩=some (.string (ba x0))/\B<w4.heap.size/\X<w4.heap.size:=⟨hz2,HZ4.out.cell 0 rfl,hl2,HZ4.out.lt⟩
  (refine aA4.u (v:=?_) 10 51 rfl hHeld ?_ ?_;rotate_left 1;focus (intro w' hSw;(try dsimp only at hSw);go_simp;(try with_reducible rfl);done));(refine aA4.u (v:=?_) 11 52 rfl hHeld ?_ ?_;rotate_left 1;focus (intro w' hSw;(try dsimp only at hSw);go_simp;(try with_reducible rfl);done));(refine aA4.u (v:=?_) 12 53 rfl hHeld ?_ ?_;rotate_left 1;focus (intro w' hSw;(try dsimp only at hSw);go_simp;(try with_reducible rfl);done))
  (refine aA4.one (i:=13) (by kernel_rfl) rfl (fun K hK=>?_));go_simp;refine hK.out _ _ (fun h=>absurd rfl h) ?_;clear hK K;refine aA4.done (by kernel_rfl) ?_ _;(try simp only [Act.put,List.setIfInBounds_toArray,List.set_cons_zero,List.set_cons_succ])
  clear hHeld hz2 hf2 hl2;have HR5:=aA0 (HR4.out.put 2 (.slice A2 (N.length+1) c2) (u2 := .slice A2 (N.length+1) c2) (u3:=v3) (u4 := .slice AV V.length cV) (u5:=v5) (u6:=v6) rfl);have HZ5:=aA0 (HZ4.out.other (a:=⟨B,2,none⟩) (by dsimp only;omega) (.slice A2 (N.length+1) c2))
  have HV5:=aA0 (aDm HV4.out (Nat.lt_succ_self B) 2 (.slice A2 (N.length+1) c2));have HN5:=aA0 (aDm HN4.out (Nat.lt_succ_self B) 2 (.slice A2 (N.length+1) c2));have HU5:=aA0 (HU4.out.trans (Agr.setCell (E:=fun q=>q=B∨n0<=q) w4 ⟨B,2,none⟩ (.slice A2 (N.length+1) c2) (.inl rfl)));clear HR4 HZ4 HV4 HN4 HU4 HNOa HNOm HVOm HRD HZM hcell HB HBa HNEW;generalize w4.setCell ⟨B,2,none⟩ (.slice A2 (N.length+1) c2)=w5 at *;have hsz5:=HU5.out.size
  go_wp2_with fail
  have hcell:Hid (∀ w',Bel w5 w'->w'.cell? ⟨B,4,none⟩=some (.slice AV V.length cV)/\(w'.cell? ⟨X,0,none⟩=some (.string (ba x0))/\w'.cell? ⟨X,1,none⟩=some (.int .i64 3)/\w'.cell? ⟨X,2,none⟩=some (.int .i64 0)/\w'.cell? ⟨X,3,none⟩=some (.int .i64 0)/\w'.cell? ⟨X,4,none⟩=some (.int .i64 0)/\w'.cell? ⟨X,5,none⟩=some (.int .i64 0))/\B<w'.heap.size/\X<w'.heap.size):=fun w' k =>
   ⟨(HR5.out.blk.keep k).cell 4 rfl,⟨(HZ5.out.keep k).cell 0 rfl,(HZ5.out.keep k).cell 1 rfl,(HZ5.out.keep k).cell 2 rfl,(HZ5.out.keep k).cell 3 rfl,(HZ5.out.keep k).cell 4 rfl,(HZ5.out.keep k).cell 5 rfl⟩,(HR5.out.blk.keep k).lt,(HZ5.out.keep k).lt⟩
  refine aA4.start (fun w'=>w'.cell? ⟨B,4,none⟩=some (.slice AV V.length cV)/\(w'.cell? ⟨X,0,none⟩=some (.string (ba x0))/\w'.cell? ⟨X,1,none⟩=some (.int .i64 3)/\w'.cell? ⟨X,2,none⟩=some (.int .i64 0)/\w'.cell? ⟨X,3,none⟩=some (.int .i64 0)/\w'.cell? ⟨X,4,none⟩=some (.int .i64 0)/\w'.cell? ⟨X,5,none⟩=some (.int .i64 0))/\B<w'.heap.size/\X<w'.heap.size) 12 (by kernel_rfl) ?_
  have HB:=(Bel.refl w5).drew;have hHeld:=hcell.out _ HB
  (refine aA4.u (v:=?_) 0 54 rfl hHeld ?_ ?_;rotate_left 1;focus (intro w' hSw;(try dsimp only at hSw);go_simp;(try with_reducible rfl);done));(refine aA4.u (v:=?_) 1 55 rfl hHeld ?_ ?_;rotate_left 1;focus (intro w' hSw;(try dsimp only at hSw);go_simp;(try with_reducible rfl);done));(refine aA4.u (v:=?_) 2 56 rfl hHeld ?_ ?_;rotate_left 1;focus (intro w' hSw;(try dsimp only at hSw);go_simp;(try with_reducible rfl);done));(refine aA4.u (v:=?_) 3 57 rfl hHeld ?_ ?_;rotate_left 1;focus (intro w' hSw;(try dsimp only at hSw);go_simp;(try with_reducible rfl);done));(refine aA4.u (v:=?_) 4 58 rfl hHeld ?_ ?_;rotate_left 1;focus (intro w' hSw;(try dsimp only at hSw);go_simp;(try with_reducible rfl);done));(refine aA4.u (v:=?_) 5 59 rfl hHeld ?_ ?_;rotate_left 1;focus (intro w' hSw;(try dsimp only at hSw);go_simp;(try with_reducible rfl);done));(refine aA4.u (v:=?_) 6 60 rfl hHeld ?_ ?_;rotate_left 1;focus (intro w' hSw;(try dsimp only at hSw);go_simp;(try with_reducible rfl);done))
  have HVa:=aA0 ((show w5.drew.ownsRow (B+1) 132 6 (.slice AV V.length cV) V.length (V.flatMap vC) from HV5.out).alloc (.cells #[.string (ba x0),.int .i64 3,.int .i64 0,.int .i64 0,.int .i64 0,.int .i64 0] 132))
  have HBa:=HB.alloc (.cells #[.string (ba x0),.int .i64 3,.int .i64 0,.int .i64 0,.int .i64 0,.int .i64 0] 132);have HNEW:=aA0 (aAx w5.drew (.cells #[.string (ba x0),.int .i64 3,.int .i64 0,.int .i64 0,.int .i64 0,.int .i64 0] 132));refine aA4.one (i:=7) (by kernel_rfl) rfl (fun K hK=>?_)
  go_simp
  refine hK.out _ _ (fun _=>hcell.out _ HBa) ?_
  clear hK K hHeld
  (try simp only [Act.put,List.setIfInBounds_toArray,List.set_cons_zero,List.set_cons_succ])
  refine aA4.one (i:=8) (by kernel_rfl) rfl (fun K hK=>?_)
  refine aCn _ rfl (.tmp 59) (.tmp 61) 28 rfl (B+1) 132 j0 (.agg #[.string ⟨#[]⟩,.int .i64 0,.int .i64 0,.int .i64 0,.int .i64 0,.int .i64 0]) 6 56 underlying28 hj0 hj1 hj2 hj3 rfl (by decide) AV V.length cV (V.flatMap vC) (by simp [Act.eval]) HVa.out w5.heap.size #[.string (ba x0),.int .i64 3,.int .i64 0,.int .i64 0,.int .i64 0,.int .i64 0] 132 (0,0) (by simp [Act.eval]) HNEW.out rfl (aVs _ _ _ _ _ _) (by unfold maxLen;omega) (by omega) (by simp;omega) ?_
  intro A6 c6 w6 hown hgr hat
  have HR6:=aA0 ((HR5.out.bel HBa).grown HVa.out (by decide) hgr)
  have HN6:=aA0 (World.ownsRow.kept (HBa.owns HN5.out) hgr (aAn HVa.out (HBa.owns HN5.out) (by decide)))
  have HV6:=aA0 hown;have HU6:=aA0 ((HU5.out.trans (bH2 HBa)).trans ((Agr.of_grown hgr).mono (fun q hq => .inr (HW4.out q hq))));have HNW4:=aA0 (HW4.out.push hat (by have e9:w5.drew.heap.size=w5.heap.size:=rfl;simp;omega))
  have hz4:=HR6.out.blk.cell 4 (v := .slice AV V.length cV) rfl;have hf4:=HR6.out.blk.frozen 4;have hl4:=HR6.out.blk.lt;have HZ6:=aA0 ((HZ5.out.keep HBa).grown hgr (fun e=>by have:=(HVO.out.lt X e.symm).2;omega))
  have hHeld:w6.cell? ⟨B,4,none⟩=some (.slice AV V.length cV)/\(w6.cell? ⟨X,0,none⟩=some (.string (ba x0))/\w6.cell? ⟨X,1,none⟩=some (.int .i64 3)/\w6.cell? ⟨X,2,none⟩=some (.int .i64 0)/\w6.cell? ⟨X,3,none⟩=some (.int .i64 0)/\w6.cell? ⟨X,4,none⟩=some (.int .i64 0)/\w6.cell? ⟨X,5,none⟩=some (.int .i64 0))/\B<w6.heap.size/\X<w6.heap.size:=⟨hz4,⟨HZ6.out.cell 0 rfl,HZ6.out.cell 1 rfl,HZ6.out.cell 2 rfl,HZ6.out.cell 3 rfl,HZ6.out.cell 4 rfl,HZ6.out.cell 5 rfl⟩,hl4,HZ6.out.lt⟩;refine hK.out _ _ (fun _=>hHeld) ?_
  clear hK K hown hgr hat
  (try simp only [Act.put,List.setIfInBounds_toArray,List.set_cons_zero,List.set_cons_succ])
  (refine aA4.u (v:=?_) 9 63 rfl hHeld ?_ ?_;rotate_left 1;focus (intro w' hSw;(try dsimp only at hSw);go_simp;(try with_reducible rfl);done));(refine aA4.u (v:=?_) 10 64 rfl hHeld ?_ ?_;rotate_left 1;focus (intro w' hSw;(try dsimp only at hSw);go_simp;(try with_reducible rfl);done));(refine aA4.u (v:=?_) 11 65 rfl hHeld ?_ ?_;rotate_left 1;focus (intro w' hSw;(try dsimp only at hSw);go_simp;(try with_reducible rfl);done))
  (refine aA4.one (i:=12) (by kernel_rfl) rfl (fun K hK=>?_));go_simp;refine hK.out _ _ (fun h=>absurd rfl h) ?_;clear hK K;refine aA4.done (by kernel_rfl) ?_ _;(try simp only [Act.put,List.setIfInBounds_toArray,List.set_cons_zero,List.set_cons_succ])
  clear hHeld;have HR7:=aA0 (HR6.out.put 4 (.slice A6 (V.length+1) c6) (u2 := .slice A2 (N.length+1) c2) (u3:=v3) (u4 := .slice A6 (V.length+1) c6) (u5:=v5) (u6:=v6) rfl);have HV7:=aA0 (aDm HV6.out (Nat.lt_succ_self B) 4 (.slice A6 (V.length+1) c6));have HN7:=aA0 (aDm HN6.out (Nat.lt_succ_self B) 4 (.slice A6 (V.length+1) c6));have HU7:=aA0 (HU6.out.trans (Agr.setCell (E:=fun q=>q=B∨n0<=q) w6 ⟨B,4,none⟩ (.slice A6 (V.length+1) c6) (.inl rfl)));clear hz4 hf4 hl4;generalize w6.setCell ⟨B,4,none⟩ (.slice A6 (V.length+1) c6)=w7 at *;go_wp2
  go_end0
  refine ⟨⟨_,rfl⟩,HU7.out,_,_,⟨AT,cT,HR7.out⟩,⟨A2,c2,by simp,?_⟩,⟨A6,c6,by simp,?_⟩,HNW2.out,HNW4.out⟩
  .have:=HN7.out
   rw [List.length_append,List.map_append];exact this
  .have:=HV7.out
   rw [List.length_append,List.flatMap_append];exact this
 .have C3:=aA0 (fun (w0:World) (hx:RdX w0 B T t2 (.slice AN N.length cN) v3 (.slice AV V.length cV) v5 v6)=>aBp hx { data:=#[98,111,111,108] } ha)
  have C4:=aA0 (fun (w0:World) (hx:RdX w0 B T t2 (.slice AN N.length cN) v3 (.slice AV V.length cV) v5 v6)=>aBp hx { data:=#[112,111,114,116] } hb);have C5:=aA0 (fun (w0:World) (hx:RdX w0 B T t2 (.slice AN N.length cN) v3 (.slice AV V.length cV) v5 v6)=>bB9 hx q1);have C6:=aA0 (fun (w0:World) (hx:RdX w0 B T u1 (.slice AN N.length cN) v3 (.slice AV V.length cV) v5 v6)=>aC7 hx { data:=#[46,46] } (by decide) q2)
  have C7:=aA0 (fun (w0:World) (hx:RdX w0 B T u2 (.slice AN N.length cN) v3 (.slice AV V.length cV) v5 v6) (XX:Nat) (hz:Blk w0 XX (vrC x0 1 lo 0) 132) (hBX:B<XX)=>bH9 hx hz hBX q3 q4 q5 q6);clear ha hb hk q1 q2 q3 q4 q5 q6;go_enter func59,ntmps59
  go_upto_region 10 with (first
   | (go_at_call 57;refine (aJp HH.out HNR.out (by omega) HNM.out).mono ?_;rintro e w1 ⟨rfl,hb,hx⟩;have HX1:=aA0 (hx.bel ((Bel.refl w1).alloc (.cells #[.string (ba x0),.int .i64 0,.int .i64 0,.int .i64 0,.int .i64 0,.int .i64 0] 132)));have HB1:=aA0 ((Fw.of_but (n:=w.heap.size) hb).trans (Fw.of_bel ((Bel.refl w1).alloc (.cells #[.string (ba x0),.int .i64 0,.int .i64 0,.int .i64 0,.int .i64 0,.int .i64 0] 132))));have HZ1:=aA0 (Blk.new w1 #[.string (ba x0),.int .i64 0,.int .i64 0,.int .i64 0,.int .i64 0,.int .i64 0] 132);have hws:=hb.size;clear hb hx)
   | (go_at_call 56;(with_reducible refine (C1.out _ HX1.out).mono ?_);rintro e w2 ⟨⟨u,rfl⟩,hb,hx⟩;have HX2:=aA0 hx;have HB2:=aA0 (HB1.out.trans (Fw.of_but hb));have HZ2:=aA0 (HZ1.out.but hb (by omega));clear hb hx)
   | (go_at_call 103;(with_reducible refine (C3.out _ HX2.out).mono ?_);rintro e w3 ⟨rfl,hb,hx⟩;have HX3:=aA0 hx;have HB3:=aA0 (HB2.out.trans (Fw.of_but hb));have HZ3:=aA0 (HZ2.out.but hb (by omega));clear hb hx)
   | (go_at_call 103;(with_reducible refine (C4.out _ HX3.out).mono ?_);rintro e w4 ⟨rfl,hb,hx⟩;have HX4:=aA0 hx;have HB4:=aA0 (HB3.out.trans (Fw.of_but hb));have HZ4:=aA0 (HZ3.out.but hb (by omega));have f1:=HZ4.out.frozen 1;have c1:=HZ4.out.cell 1 (v := .int .i64 0) rfl;have l1:=HZ4.out.lt;have HX5:=aA0 (HX4.out.agrX (Agr.setCell (E:=fun q=>q=w1.heap.size) w4 ⟨w1.heap.size,1,none⟩ (.int .i64 1) rfl) (by omega));have HB5:=aA0 (HB4.out.trans (Agr.setCell (E:=fun q=>q=B∨w.heap.size<=q) w4 ⟨w1.heap.size,1,none⟩ (.int .i64 1) (.inr hws)));have HZ5:=aA0 (show Blk (w4.setCell ⟨w1.heap.size,1,none⟩ (.int .i64 1)) w1.heap.size #[.string (ba x0),.int .i64 1,.int .i64 0,.int .i64 0,.int .i64 0,.int .i64 0] _ from HZ4.out.set 1 (.int .i64 1));clear hb hx)
   | (go_at_call 108;(with_reducible refine (C5.out _ HX5.out).mono ?_);rintro e w6 ⟨rfl,hb,hx⟩;have HZ6:=aA0 (HZ5.out.but hb (by omega));have f2:=HZ6.out.frozen 2;have c2:=HZ6.out.cell 2 (v := .int .i64 0) rfl;have l2:=HZ6.out.lt;have HX7:=aA0 (hx.agrX (Agr.setCell (E:=fun q=>q=w1.heap.size) w6 ⟨w1.heap.size,2,none⟩ (.int .i64 lo) rfl) (by omega));have HB7:=aA0 ((HB5.out.trans (Fw.of_but hb)).trans (Agr.setCell (E:=fun q=>q=B∨w.heap.size<=q) w6 ⟨w1.heap.size,2,none⟩ (.int .i64 lo) (.inr hws)));have HZ7:=aA0 (show Blk (w6.setCell ⟨w1.heap.size,2,none⟩ (.int .i64 lo)) w1.heap.size #[.string (ba x0),.int .i64 1,.int .i64 lo,.int .i64 0,.int .i64 0,.int .i64 0] _ from HZ6.out.set 2 (.int .i64 lo));clear hb hx)
   | (go_at_call 56;(with_reducible refine (C6.out _ HX7.out).mono ?_);rintro e w8 ⟨⟨u8,rfl⟩,hb,hx⟩;have HX8:=aA0 hx;have HB8:=aA0 (HB7.out.trans (Fw.of_but hb));have HZ8:=aA0 (show Blk w8 w1.heap.size (vrC x0 1 lo 0) _ from HZ7.out.but hb (by omega));clear hb hx)
   | (go_at_call 109;(with_reducible refine (C7.out _ HX8.out _ HZ8.out (by omega)).mono ?_);rintro e w9 ⟨⟨u9,rfl⟩,hb,hx,hz⟩;have HXF:=aA0 hx;have HBF:=aA0 (HB8.out.trans (hb.mono (fun q e=>by rcases e with e | e <;> omega)));have HZF:=aA0 (show Blk w9 w1.heap.size #[.string (ba x0),.int .i64 1,.int .i64 lo,.int .i64 0,.int .i64 1,.int .i64 0] _ from hz);clear hb hx hz))
  (try clear f1 c1 l1 f2 c2 l2)
  have hXB:B<w1.heap.size:=by omega
  obtain ⟨X,hX⟩:∃ X,w1.heap.size=X:=⟨_,rfl⟩;rw [hX] at HZF hXB hws ⊢;clear hX
  go_upto_region 11 with (go_at_call 56;(with_reducible refine (C2.out _ HXF.out).mono ?_);rintro e wm ⟨⟨um,rfl⟩,hb,hx⟩;have HXM:=aA0 hx;have HBM:=aA0 (HBF.out.trans (Fw.of_but hb));have HZM:=aA0 (HZF.out.but hb (by omega));clear hb hx)
  obtain ⟨AT,cT,hRD⟩:=HXM.out;have HRD:=aA0 hRD;clear hRD;have hNOm:=aH9 HNO.out (by omega) HBM.out
  have hVOm:=aH9 HVO.out (by omega) HBM.out
  have HNOm:=aA0 hNOm;have HVOm:=aA0 hVOm;clear hNOm hVOm;have hsz:=HBM.out.size;have HUP:Hid (Agr (fun q=>q=B∨n0<=q) w wm):=HBM.out.mono (fun q e=>e.elim .inl (fun e => .inr (by omega)))
  obtain ⟨i0,hi0,hi1,hi2,hi3⟩:=aBq aPx;obtain ⟨j0,hj0,hj1,hj2,hj3⟩:=aBq aS0
  have hcell:Hid (∀ w',Bel wm w'->w'.cell? ⟨B,2,none⟩=some (.slice AN N.length cN)/\w'.cell? ⟨X,0,none⟩=some (.string (ba x0))/\B<w'.heap.size/\X<w'.heap.size):=fun w' k =>
   ⟨(HRD.out.blk.keep k).cell 2 rfl,(HZM.out.keep k).cell 0 rfl,(HRD.out.blk.keep k).lt,(HZM.out.keep k).lt⟩
  refine aA4.start (fun w'=>w'.cell? ⟨B,2,none⟩=some (.slice AN N.length cN)/\w'.cell? ⟨X,0,none⟩=some (.string (ba x0))/\B<w'.heap.size/\X<w'.heap.size) 13 (by kernel_rfl) ?_
  have HB:=(Bel.refl wm).drew;have hHeld:=hcell.out _ HB
  (refine aA4.u (v:=?_) 0 41 rfl hHeld ?_ ?_;rotate_left 1;focus (intro w' hSw;(try dsimp only at hSw);go_simp;(try with_reducible rfl);done));(refine aA4.u (v:=?_) 1 42 rfl hHeld ?_ ?_;rotate_left 1;focus (intro w' hSw;(try dsimp only at hSw);go_simp;(try with_reducible rfl);done));(refine aA4.u (v:=?_) 2 43 rfl hHeld ?_ ?_;rotate_left 1;focus (intro w' hSw;(try dsimp only at hSw);go_simp;(try with_reducible rfl);done));(refine aA4.u (v:=?_) 3 44 rfl hHeld ?_ ?_;rotate_left 1;focus (intro w' hSw;(try dsimp only at hSw);go_simp;(try with_reducible rfl);done));(refine aA4.u (v:=?_) 4 45 rfl hHeld ?_ ?_;rotate_left 1;focus (intro w' hSw;(try dsimp only at hSw);go_simp;(try with_reducible rfl);done));(refine aA4.u (v:=?_) 5 46 rfl hHeld ?_ ?_;rotate_left 1;focus (intro w' hSw;(try dsimp only at hSw);go_simp;(try with_reducible rfl);done));(refine aA4.u (v:=?_) 6 47 rfl hHeld ?_ ?_;rotate_left 1;focus (intro w' hSw;(try dsimp only at hSw);go_simp;(try with_reducible rfl);done));(refine aA4.u (v:=?_) 7 48 rfl hHeld ?_ ?_;rotate_left 1;focus (intro w' hSw;(try dsimp only at hSw);go_simp;(try with_reducible rfl);done))
  have HNOa:=aA0 ((show wm.drew.ownsRow (B+1) 9 1 (.slice AN N.length cN) N.length (N.map bGm) from HNOm.out).alloc (.cells #[.string (ba x0)] 9))
  have HBa:=HB.alloc (.cells #[.string (ba x0)] 9);have HNEW:=aA0 (aAx wm.drew (.cells #[.string (ba x0)] 9));refine aA4.one (i:=8) (by kernel_rfl) rfl (fun K hK=>?_)
  go_simp
  refine hK.out _ _ (fun _=>hcell.out _ HBa) ?_
  clear hK K hHeld
  (try simp only [Act.put,List.setIfInBounds_toArray,List.set_cons_zero,List.set_cons_succ])
  refine aA4.one (i:=9) (by kernel_rfl) rfl (fun K hK=>?_)
  refine aCn _ rfl (.tmp 46) (.tmp 49) 77 rfl (B+1) 9 i0 (.string ⟨#[]⟩) 1 16 underlying77 hi0 hi1 hi2 hi3 rfl (by decide) AN N.length cN (N.map bGm) (by simp [Act.eval]) HNOa.out wm.heap.size #[.string (ba x0)] 9 (0,0) (by simp [Act.eval]) HNEW.out rfl (aV9 _) (by unfold maxLen;omega) (by omega) (by simp;omega) ?_
  intro A2 c2 w4 hown hgr hat
  have HR4:=aA0 ((HRD.out.bel HBa).grown HNOa.out (by decide) hgr)
  have HZ4:=aA0 ((HZM.out.keep HBa).grown hgr ((HZM.out.keep HBa).apart HNOa.out (by decide)))
  have HV4:=aA0 (World.ownsRow.kept (HBa.owns HVOm.out) hgr (aAn HNOa.out (HBa.owns HVOm.out) (by decide)))
  have HN4:=aA0 hown;have HU4:=aA0 ((HUP.out.trans (bH2 HBa)).trans ((Agr.of_grown hgr).mono (fun q hq => .inr (HW2.out q hq))));have HNW2:=aA0 (HW2.out.push hat (by have e9:wm.drew.heap.size=wm.heap.size:=rfl;simp;omega))
  have hz2:=HR4.out.blk.cell 2 (v := .slice AN N.length cN) rfl;have hf2:=HR4.out.blk.frozen 2;have hl2:=HR4.out.blk.lt;refine hK.out _ _ (fun _=>⟨hz2,HZ4.out.cell 0 rfl,hl2,HZ4.out.lt⟩) ?_
  clear hK K hown hgr hat
  (try simp only [Act.put,List.setIfInBounds_toArray,List.set_cons_zero,List.set_cons_succ])
  have hHeld:w4.cell? ⟨B,2,none⟩=some (.slice AN N.length cN)/\w4.cell? ⟨X,0,none⟩=some (.string (ba x0))/\B<w4.heap.size/\X<w4.heap.size:=⟨hz2,HZ4.out.cell 0 rfl,hl2,HZ4.out.lt⟩
  (refine aA4.u (v:=?_) 10 51 rfl hHeld ?_ ?_;rotate_left 1;focus (intro w' hSw;(try dsimp only at hSw);go_simp;(try with_reducible rfl);done));(refine aA4.u (v:=?_) 11 52 rfl hHeld ?_ ?_;rotate_left 1;focus (intro w' hSw;(try dsimp only at hSw);go_simp;(try with_reducible rfl);done));(refine aA4.u (v:=?_) 12 53 rfl hHeld ?_ ?_;rotate_left 1;focus (intro w' hSw;(try dsimp only at hSw);go_simp;(try with_reducible rfl);done))
  (refine aA4.one (i:=13) (by kernel_rfl) rfl (fun K hK=>?_));go_simp;refine hK.out _ _ (fun h=>absurd rfl h) ?_;clear hK K;refine aA4.done (by kernel_rfl) ?_ _;(try simp only [Act.put,List.setIfInBounds_toArray,List.set_cons_zero,List.set_cons_succ])
  clear hHeld hz2 hf2 hl2;have HR5:=aA0 (HR4.out.put 2 (.slice A2 (N.length+1) c2) (u2 := .slice A2 (N.length+1) c2) (u3:=v3) (u4 := .slice AV V.length cV) (u5:=v5) (u6:=v6) rfl);have HZ5:=aA0 (HZ4.out.other (a:=⟨B,2,none⟩) (by dsimp only;omega) (.slice A2 (N.length+1) c2))
  have HV5:=aA0 (aDm HV4.out (Nat.lt_succ_self B) 2 (.slice A2 (N.length+1) c2));have HN5:=aA0 (aDm HN4.out (Nat.lt_succ_self B) 2 (.slice A2 (N.length+1) c2));have HU5:=aA0 (HU4.out.trans (Agr.setCell (E:=fun q=>q=B∨n0<=q) w4 ⟨B,2,none⟩ (.slice A2 (N.length+1) c2) (.inl rfl)));clear HR4 HZ4 HV4 HN4 HU4 HNOa HNOm HVOm HRD HZM hcell HB HBa HNEW;generalize w4.setCell ⟨B,2,none⟩ (.slice A2 (N.length+1) c2)=w5 at *;have hsz5:=HU5.out.size
  go_wp2_with fail
  have hcell:Hid (∀ w',Bel w5 w'->w'.cell? ⟨B,4,none⟩=some (.slice AV V.length cV)/\(w'.cell? ⟨X,0,none⟩=some (.string (ba x0))/\w'.cell? ⟨X,1,none⟩=some (.int .i64 1)/\w'.cell? ⟨X,2,none⟩=some (.int .i64 lo)/\w'.cell? ⟨X,3,none⟩=some (.int .i64 0)/\w'.cell? ⟨X,4,none⟩=some (.int .i64 1)/\w'.cell? ⟨X,5,none⟩=some (.int .i64 0))/\B<w'.heap.size/\X<w'.heap.size):=fun w' k =>
   ⟨(HR5.out.blk.keep k).cell 4 rfl,⟨(HZ5.out.keep k).cell 0 rfl,(HZ5.out.keep k).cell 1 rfl,(HZ5.out.keep k).cell 2 rfl,(HZ5.out.keep k).cell 3 rfl,(HZ5.out.keep k).cell 4 rfl,(HZ5.out.keep k).cell 5 rfl⟩,(HR5.out.blk.keep k).lt,(HZ5.out.keep k).lt⟩
  refine aA4.start (fun w'=>w'.cell? ⟨B,4,none⟩=some (.slice AV V.length cV)/\(w'.cell? ⟨X,0,none⟩=some (.string (ba x0))/\w'.cell? ⟨X,1,none⟩=some (.int .i64 1)/\w'.cell? ⟨X,2,none⟩=some (.int .i64 lo)/\w'.cell? ⟨X,3,none⟩=some (.int .i64 0)/\w'.cell? ⟨X,4,none⟩=some (.int .i64 1)/\w'.cell? ⟨X,5,none⟩=some (.int .i64 0))/\B<w'.heap.size/\X<w'.heap.size) 12 (by kernel_rfl) ?_
  have HB:=(Bel.refl w5).drew;have hHeld:=hcell.out _ HB
  (refine aA4.u (v:=?_) 0 54 rfl hHeld ?_ ?_;rotate_left 1;focus (intro w' hSw;(try dsimp only at hSw);go_simp;(try with_reducible rfl);done));(refine aA4.u (v:=?_) 1 55 rfl hHeld ?_ ?_;rotate_left 1;focus (intro w' hSw;(try dsimp only at hSw);go_simp;(try with_reducible rfl);done));(refine aA4.u (v:=?_) 2 56 rfl hHeld ?_ ?_;rotate_left 1;focus (intro w' hSw;(try dsimp only at hSw);go_simp;(try with_reducible rfl);done));(refine aA4.u (v:=?_) 3 57 rfl hHeld ?_ ?_;rotate_left 1;focus (intro w' hSw;(try dsimp only at hSw);go_simp;(try with_reducible rfl);done));(refine aA4.u (v:=?_) 4 58 rfl hHeld ?_ ?_;rotate_left 1;focus (intro w' hSw;(try dsimp only at hSw);go_simp;(try with_reducible rfl);done));(refine aA4.u (v:=?_) 5 59 rfl hHeld ?_ ?_;rotate_left 1;focus (intro w' hSw;(try dsimp only at hSw);go_simp;(try with_reducible rfl);done));(refine aA4.u (v:=?_) 6 60 rfl hHeld ?_ ?_;rotate_left 1;focus (intro w' hSw;(try dsimp only at hSw);go_simp;(try with_reducible rfl);done))
  have HVa:=aA0 ((show w5.drew.ownsRow (B+1) 132 6 (.slice AV V.length cV) V.length (V.flatMap vC) from HV5.out).alloc (.cells #[.string (ba x0),.int .i64 1,.int .i64 lo,.int .i64 0,.int .i64 1,.int .i64 0] 132))
  have HBa:=HB.alloc (.cells #[.string (ba x0),.int .i64 1,.int .i64 lo,.int .i64 0,.int .i64 1,.int .i64 0] 132);have HNEW:=aA0 (aAx w5.drew (.cells #[.string (ba x0),.int .i64 1,.int .i64 lo,.int .i64 0,.int .i64 1,.int .i64 0] 132));refine aA4.one (i:=7) (by kernel_rfl) rfl (fun K hK=>?_)
  go_simp
  refine hK.out _ _ (fun _=>hcell.out _ HBa) ?_
  clear hK K hHeld
  (try simp only [Act.put,List.setIfInBounds_toArray,List.set_cons_zero,List.set_cons_succ])
  refine aA4.one (i:=8) (by kernel_rfl) rfl (fun K hK=>?_)
  refine aCn _ rfl (.tmp 59) (.tmp 61) 28 rfl (B+1) 132 j0 (.agg #[.string ⟨#[]⟩,.int .i64 0,.int .i64 0,.int .i64 0,.int .i64 0,.int .i64 0]) 6 56 underlying28 hj0 hj1 hj2 hj3 rfl (by decide) AV V.length cV (V.flatMap vC) (by simp [Act.eval]) HVa.out w5.heap.size #[.string (ba x0),.int .i64 1,.int .i64 lo,.int .i64 0,.int .i64 1,.int .i64 0] 132 (0,0) (by simp [Act.eval]) HNEW.out rfl (aVs _ _ _ _ _ _) (by unfold maxLen;omega) (by omega) (by simp;omega) ?_
  intro A6 c6 w6 hown hgr hat
  have HR6:=aA0 ((HR5.out.bel HBa).grown HVa.out (by decide) hgr)
  have HN6:=aA0 (World.ownsRow.kept (HBa.owns HN5.out) hgr (aAn HVa.out (HBa.owns HN5.out) (by decide)))
  have HV6:=aA0 hown;have HU6:=aA0 ((HU5.out.trans (bH2 HBa)).trans ((Agr.of_grown hgr).mono (fun q hq => .inr (HW4.out q hq))));have HNW4:=aA0 (HW4.out.push hat (by have e9:w5.drew.heap.size=w5.heap.size:=rfl;simp;omega))
  have hz4:=HR6.out.blk.cell 4 (v := .slice AV V.length cV) rfl;have hf4:=HR6.out.blk.frozen 4;have hl4:=HR6.out.blk.lt;have HZ6:=aA0 ((HZ5.out.keep HBa).grown hgr (fun e=>by have:=(HVO.out.lt X e.symm).2;omega))
  have hHeld:w6.cell? ⟨B,4,none⟩=some (.slice AV V.length cV)/\(w6.cell? ⟨X,0,none⟩=some (.string (ba x0))/\w6.cell? ⟨X,1,none⟩=some (.int .i64 1)/\w6.cell? ⟨X,2,none⟩=some (.int .i64 lo)/\w6.cell? ⟨X,3,none⟩=some (.int .i64 0)/\w6.cell? ⟨X,4,none⟩=some (.int .i64 1)/\w6.cell? ⟨X,5,none⟩=some (.int .i64 0))/\B<w6.heap.size/\X<w6.heap.size:=⟨hz4,⟨HZ6.out.cell 0 rfl,HZ6.out.cell 1 rfl,HZ6.out.cell 2 rfl,HZ6.out.cell 3 rfl,HZ6.out.cell 4 rfl,HZ6.out.cell 5 rfl⟩,hl4,HZ6.out.lt⟩;refine hK.out _ _ (fun _=>hHeld) ?_
  clear hK K hown hgr hat
  (try simp only [Act.put,List.setIfInBounds_toArray,List.set_cons_zero,List.set_cons_succ])
  (refine aA4.u (v:=?_) 9 63 rfl hHeld ?_ ?_;rotate_left 1;focus (intro w' hSw;(try dsimp only at hSw);go_simp;(try with_reducible rfl);done));(refine aA4.u (v:=?_) 10 64 rfl hHeld ?_ ?_;rotate_left 1;focus (intro w' hSw;(try dsimp only at hSw);go_simp;(try with_reducible rfl);done));(refine aA4.u (v:=?_) 11 65 rfl hHeld ?_ ?_;rotate_left 1;focus (intro w' hSw;(try dsimp only at hSw);go_simp;(try with_reducible rfl);done))
  (refine aA4.one (i:=12) (by kernel_rfl) rfl (fun K hK=>?_));go_simp;refine hK.out _ _ (fun h=>absurd rfl h) ?_;clear hK K;refine aA4.done (by kernel_rfl) ?_ _;(try simp only [Act.put,List.setIfInBounds_toArray,List.set_cons_zero,List.set_cons_succ])
  clear hHeld;have HR7:=aA0 (HR6.out.put 4 (.slice A6 (V.length+1) c6) (u2 := .slice A2 (N.length+1) c2) (u3:=v3) (u4 := .slice A6 (V.length+1) c6) (u5:=v5) (u6:=v6) rfl);have HV7:=aA0 (aDm HV6.out (Nat.lt_succ_self B) 4 (.slice A6 (V.length+1) c6));have HN7:=aA0 (aDm HN6.out (Nat.lt_succ_self B) 4 (.slice A6 (V.length+1) c6));have HU7:=aA0 (HU6.out.trans (Agr.setCell (E:=fun q=>q=B∨n0<=q) w6 ⟨B,4,none⟩ (.slice A6 (V.length+1) c6) (.inl rfl)));clear hz4 hf4 hl4;generalize w6.setCell ⟨B,4,none⟩ (.slice A6 (V.length+1) c6)=w7 at *;go_wp2
  go_end0
  refine ⟨⟨_,rfl⟩,HU7.out,_,_,⟨AT,cT,HR7.out⟩,⟨A2,c2,by simp,?_⟩,⟨A6,c6,by simp,?_⟩,HNW2.out,HNW4.out⟩
  .have:=HN7.out
   rw [List.length_append,List.map_append];exact this
  .have:=HV7.out
   rw [List.length_append,List.flatMap_append];exact this
abbrev FR (B:Nat) (row:Option Nat) (n:Nat) (w w':World):Prop:=Agr (fun q=>q=B∨row=some q∨n<=q) w w'
theorem FR.of_but {B n:Nat} {row:Option Nat} {w w':World} (h:But B w w'):FR B row n w w':=h.mono fun _ e => .inl e
theorem FR.of_bel {B n:Nat} {row:Option Nat} {w w':World} (h:Bel w w'):FR B row n w w':=FR.of_but (But.of_bel h)
theorem aRd {B:Nat} {row:Option Nat} {w w':World} {e:TypeId} {size n:Nat} {v:Value} {xs:List Value} (h:w.ownsRow (B+1) e size v n xs) (hr:v.ownBlock=none∨v.ownBlock≠row) (k:FR B row w.heap.size w w'):w'.ownsRow (B+1) e size v n xs :=
 aBi h k (fun q hq hE=>by
  obtain ⟨h1,h2⟩:=h.lt q hq
  rcases hE with e | e | e
  .omega
  .rcases hr with h3 | h3
   .rw [hq] at h3;cases h3
   .rw [hq] at h3;exact h3 e.symm
  .omega)
def bOx (t:SetT) (A:Option Addr) (c:Nat):List Value:=[.int .i64 t.var,.slice A t.value.length c]
def aP8 (w:World) (N:Nat) (ss:List Value) (L:List SetT):Prop :=
 ss.length=L.length*2/\∀ i t,L[i]?=some t->∃ A c,ss[i*2]?=some (.int .i64 t.var)/\ss[i*2+1]?=some (.slice A t.value.length c)/\w.ownsRow N 235 2 (.slice A t.value.length c) t.value.length (tmC t.value)
theorem aP8.nil (w:World) (N:Nat):aP8 w N [] []:=⟨rfl,fun i t h=>by simp at h⟩
theorem aP8.keep {w w':World} {N:Nat} {ss:List Value} {L:List SetT} (h:aP8 w N ss L) (hk:∀ {A:Option Addr} {c:Nat} {t:List Term},w.ownsRow N 235 2 (.slice A t.length c) t.length (tmC t)->w'.ownsRow N 235 2 (.slice A t.length c) t.length (tmC t)):aP8 w' N ss L :=
 ⟨h.1,fun i t ht=>by obtain ⟨A,c,h1,h2,h3⟩:=h.2 i t ht;exact ⟨A,c,h1,h2,hk h3⟩⟩
theorem aP8.push {w:World} {N:Nat} {ss:List Value} {L:List SetT} (h:aP8 w N ss L) {t:SetT} {A:Option Addr} {c:Nat} (ho:w.ownsRow N 235 2 (.slice A t.value.length c) t.value.length (tmC t.value)):aP8 w N (ss++bOx t A c) (L++[t]):=by
 have h1:=h.1;refine ⟨by simp [h1,bOx];omega,fun i u hu=>?_⟩
 by_cases hi:i<L.length
 .rw [List.getElem?_append_left hi] at hu
  obtain ⟨A',c',e1,e2,e3⟩:=h.2 i u hu;exact ⟨A',c',by rw [List.getElem?_append_left (by omega)];exact e1,by rw [List.getElem?_append_left (by omega)];exact e2,e3⟩
 .have hlt:=(List.getElem?_eq_some_iff.1 hu).1
  simp at hlt
  obtain rfl:i=L.length:=by omega
  simp at hu
  subst hu;refine ⟨A,c,?_,?_,ho⟩
  .rw [List.getElem?_append_right (by omega),show L.length*2-ss.length=0 by omega];rfl
  .rw [List.getElem?_append_right (by omega),show L.length*2+1-ss.length=1 by omega];rfl
structure RuleP (w:World) (N:Nat) (r:Rule) (G:Option Addr) (gc:Nat) (S:Option Addr) (sc:Nat) (ss:List Value):Prop where
 guard:w.ownsRow N 235 2 (.slice G r.guard.length gc) r.guard.length (tmC r.guard)
 sets:w.ownsRow N 197 2 (.slice S r.sets.length sc) r.sets.length ss
 vals:aP8 w N ss r.sets
def bPv (r:Rule) (G:Option Addr) (gc:Nat) (S:Option Addr) (sc:Nat):List Value:=[.string r.name,.slice G r.guard.length gc,.slice S r.sets.length sc]
def aJ6 (w:World) (N:Nat) (hs:List Value) (R:List Rule):Prop :=
 hs.length=R.length*3/\∀ i r,R[i]?=some r->∃ G gc S sc ss,hs[i*3]?=some (.string r.name)/\hs[i*3+1]?=some (.slice G r.guard.length gc)/\hs[i*3+2]?=some (.slice S r.sets.length sc)/\RuleP w N r G gc S sc ss
theorem aJ6.nil (w:World) (N:Nat):aJ6 w N [] []:=⟨rfl,fun i t h=>by simp at h⟩
def aEk (N:Nat) (w w':World):Prop:=∀ {e:TypeId} {size n:Nat} {v:Value} {xs:List Value},(e=235∨e=197)->w.ownsRow N e size v n xs->w'.ownsRow N e size v n xs
theorem aJ6.keep {w w':World} {N:Nat} {hs:List Value} {R:List Rule} (h:aJ6 w N hs R) (hk:aEk N w w'):aJ6 w' N hs R :=
 ⟨h.1,fun i r hr=>by
  obtain ⟨G,gc,S,sc,ss,h1,h2,h3,h4⟩:=h.2 i r hr;exact ⟨G,gc,S,sc,ss,h1,h2,h3,hk (.inl rfl) h4.guard,hk (.inr rfl) h4.sets,h4.vals.keep (fun h=>hk (.inl rfl) h)⟩⟩
theorem aJ6.push {w:World} {N:Nat} {hs:List Value} {R:List Rule} (h:aJ6 w N hs R) {r:Rule} {G:Option Addr} {gc:Nat} {S:Option Addr} {sc:Nat} {ss:List Value} (hr:RuleP w N r G gc S sc ss):aJ6 w N (hs++bPv r G gc S sc) (R++[r]):=by
 have h1:=h.1;refine ⟨by simp [h1,bPv];omega,fun i u hu=>?_⟩
 by_cases hi:i<R.length
 .rw [List.getElem?_append_left hi] at hu
  obtain ⟨G',gc',S',sc',ss',e1,e2,e3,e4⟩:=h.2 i u hu;exact ⟨G',gc',S',sc',ss',by rw [List.getElem?_append_left (by omega)];exact e1,by rw [List.getElem?_append_left (by omega)];exact e2,by rw [List.getElem?_append_left (by omega)];exact e3,e4⟩
 .have hlt:=(List.getElem?_eq_some_iff.1 hu).1
  simp at hlt
  obtain rfl:i=R.length:=by omega
  simp at hu
  subst hu;refine ⟨G,gc,S,sc,ss,?_,?_,?_,hr⟩
  .rw [List.getElem?_append_right (by omega),show R.length*3-hs.length=0 by omega];rfl
  .rw [List.getElem?_append_right (by omega),show R.length*3+1-hs.length=1 by omega];rfl
  .rw [List.getElem?_append_right (by omega),show R.length*3+2-hs.length=2 by omega];rfl
theorem aEk.of_bel {N:Nat} {w w':World} (h:Bel w w'):aEk N w w':=fun _ ho=>h.owns ho
theorem aEk.of_FR {B:Nat} {row:Option Nat} {w w':World} {size n:Nat} {v:Value} {xs:List Value} (h:FR B row w.heap.size w w') (ho:w.ownsRow (B+1) 9 size v n xs) (hr:v.ownBlock=row):aEk (B+1) w w':=fun he hx =>
 aRd hx (by rw [<- hr];exact aAn ho hx (by rcases he with rfl | rfl <;> decide)) h
theorem aEk.grown {B:Nat} {w w':World} {e:TypeId} {size n:Nat} {v:Value} {xs:List Value} (ho:w.ownsRow (B+1) e size v n xs) (h1:e≠235) (h2:e≠197) (hg:w.grownBy w' v.ownBlock):aEk (B+1) w w':=fun he hx =>
 World.ownsRow.kept hx hg (aAn ho hx (by rcases he with rfl | rfl;exact h1;exact h2))
theorem aEk.put {B:Nat} {w:World} (i:Nat) (u:Value):aEk (B+1) w (w.setCell ⟨B,i,none⟩ u):=fun _ hx=>aDm hx (Nat.lt_succ_self B) i u
def aQ2 (w:World) (N:Nat) (v:Value) (R:List Rule):Prop:=∃ A c hs,v = .slice A R.length c/\w.ownsRow N 137 3 v R.length hs/\aJ6 w N hs R
theorem bFx:(prog.info? 137).map (fun i=>(i.zero,i.size,i.bytes))=some (some (.agg #[.string ⟨#[]⟩,.slice none 0 0,.slice none 0 0]),3,64):=by kernel_rfl
theorem bJo:(prog.info? 197).map (fun i=>(i.zero,i.size,i.bytes))=some (some (.agg #[.int .i64 0,.slice none 0 0]),2,32):=by kernel_rfl
def aZk (u v:Value):Prop:=u.ownBlock=none∨u.ownBlock≠v.ownBlock
theorem aDa {w:World} {X N:Nat} {t e:TypeId} {cs:Array Value} {size n:Nat} {v:Value} {xs:List Value} (h:w.ownsRow N e size v n xs) (hb:Blk w X cs t) (hne:t≠e) (i:Nat) (u:Value):(w.setCell ⟨X,i,none⟩ u).ownsRow N e size v n xs :=
 aBi h (Agr.setCell (E:=fun q=>q=X) w ⟨X,i,none⟩ u rfl) (fun k hk e=>hb.apart h hne (by rw [hk,e]))
theorem aTb {T:Wd} {N:List Wd}:∀ {n:Nat} {L L':List SetT} {ts r:List Tok},aVr T N n L ts=some (L',r)->∃ M,L'=L++M
 | 0,L,L',ts,r,h=>by simp [aVr] at h
 | n+1,L,L',ts,r,h=>by
  rw [aVr,Option.bind_eq_some_iff] at h;obtain ⟨⟨x,t1⟩,_,h⟩:=h;dsimp only at h;rw [Option.bind_eq_some_iff] at h;obtain ⟨t2,_,h⟩:=h;rw [Option.bind_eq_some_iff] at h;obtain ⟨⟨e,t3⟩,_,h⟩:=h;dsimp only at h;cases hc:aAg T [44] t3 with
  | none =>
   rw [hc] at h;injection h with h;injection h with h1 _
   exact ⟨_,h1.symm⟩
  | some t4 =>
   rw [hc] at h;obtain ⟨M,hM⟩:=aTb h;exact ⟨_,by rw [hM,List.append_assoc]⟩
theorem bG1 (T : Wd) (N : List Wd) (n : Nat) (L : List SetT) (ts : List Tok) : aVr T N (n + 1) L ts = (aFb T N ts).bind fun (x, t1) => (aAg T [58, 61] t1).bind fun t2 => (aC9 T N 100 .choice t2).bind fun (e, t3) =>
      match aAg T [44] t3 with
      | some t4=>aVr T N n (L++[⟨(x:Int),e⟩]) t4
      | none=>some (L++[⟨(x:Int),e⟩],t3):=rfl
theorem bJi (s:ByteArray) (a c:Option Addr) (b d e f:Nat):∀ u∈(#[Value.string s,.slice a b d,.slice c e f]:Array Value).toList,u.oneCell'=true:=by simp [Value.oneCell']
theorem bDg (i:Int) (a:Option Addr) (b d:Nat):∀ u∈(#[Value.int .i64 i,.slice a b d]:Array Value).toList,u.oneCell'=true:=by simp [Value.oneCell']
structure RlS (w0:World) (B X:Nat) (row:Option Nat) (vK:Value) (KL:List Wd) (x0:Wd) (Ag:Option Addr) (cg:Nat) (gd:List Term) (SA:Option Addr) (sc:Nat) (ss:List Value) (L:List SetT) (wr:World):Prop where
 blk:Blk wr X #[.string (ba x0),.slice Ag gd.length cg,.slice SA L.length sc] 137
 gd:wr.ownsRow (B+1) 235 2 (.slice Ag gd.length cg) gd.length (tmC gd)
 st:wr.ownsRow w0.heap.size 197 2 (.slice SA L.length sc) L.length ss
 sp:aP8 wr (B+1) ss L
 fr:FR B row w0.heap.size w0 wr
 kk:wr.ownsRow (B+1) 9 1 vK KL.length (KL.map bGm)
theorem RlS.far {w0:World} {B X:Nat} {row:Option Nat} {vK:Value} {KL:List Wd} {x0:Wd} {Ag:Option Addr} {cg:Nat} {gd:List Term} {SA:Option Addr} {sc:Nat} {ss:List Value} {L:List SetT} {wr w':World} (h:RlS w0 B X row vK KL x0 Ag cg gd SA sc ss L wr) (hB:B<w0.heap.size) (hX:B<X) (k:Fw B wr.heap.size wr w'):RlS w0 B X row vK KL x0 Ag cg gd SA sc ss L w':=by
 refine ⟨?_,aH9 h.gd (Nat.lt_succ_self B) k,aH9 h.st hB k,h.sp.keep (fun ho=>aH9 ho (Nat.lt_succ_self B) k),h.fr.trans (k.mono fun q e=>?_),aH9 h.kk (Nat.lt_succ_self B) k⟩
 .have hb:=h.blk
  have hl:=hb.lt;unfold Blk at hb ⊢;rw [k.block X hl (by omega)];exact hb
 .have:=h.fr.size
  rcases e with e | e
  .exact .inl e
  .exact .inr (.inr (by omega))
theorem RlS.push {w0:World} {B X:Nat} {row:Option Nat} {vK:Value} {KL:List Wd} {x0:Wd} {Ag:Option Addr} {cg:Nat} {gd:List Term} {SA:Option Addr} {sc:Nat} {ss:List Value} {L:List SetT} {ws wz:World} (h:RlS w0 B X row vK KL x0 Ag cg gd SA sc ss L ws) (hB:B<w0.heap.size) (hX:w0.heap.size<=X) {t:SetT} {Ae:Option Addr} {ce:Nat} (hv:ws.ownsRow (B+1) 235 2 (.slice Ae t.value.length ce) t.value.length (tmC t.value)) {o:Obj} {SA':Option Addr} {sc':Nat}
  (hown:wz.ownsRow w0.heap.size 197 2 (.slice SA' (L.length+1) sc') (L.length+1) (ss++bOx t Ae ce)) (hgr:(ws.alloc o).grownBy wz (Value.slice SA L.length sc).ownBlock):RlS w0 B X row vK KL x0 Ag cg gd SA' sc' (ss++bOx t Ae ce) (L++[t]) (wz.setCell ⟨X,2,none⟩ (.slice SA' (L.length+1) sc')):=by
 have hb:Bel ws (ws.alloc o):=(Bel.refl ws).alloc o;have hst:(ws.alloc o).ownsRow w0.heap.size 197 2 (.slice SA L.length sc) L.length ss:=h.st.alloc o;have hst2:=aAu hst (show B+1<=w0.heap.size from hB)
 have hz:Blk wz X _ _:=(h.blk.keep hb).grown hgr ((h.blk.keep hb).apart hst2 (by decide))
 have kT:∀ {A:Option Addr} {c:Nat} {l:List Term},ws.ownsRow (B+1) 235 2 (.slice A l.length c) l.length (tmC l)->(wz.setCell ⟨X,2,none⟩ (.slice SA' (L.length+1) sc')).ownsRow (B+1) 235 2 (.slice A l.length c) l.length (tmC l):=fun ho =>
  aDa (World.ownsRow.kept (hb.owns ho) hgr (aAn hst2 (hb.owns ho) (by decide))) hz (by decide) 2 _
 have hl:(L++[t]).length=L.length+1:=by simp
 refine ⟨?_,kT h.gd,?_,((h.sp.push hv).keep kT),?_,aDa (World.ownsRow.kept (hb.owns h.kk) hgr (aAn hst2 (hb.owns h.kk) (by decide))) hz (by decide) 2 _⟩
 .rw [hl];exact hz.set 2 _
 .rw [hl];exact aDa hown hz (by decide) 2 _
 .exact ((h.fr.trans (bH2 hb)).trans ((Agr.of_grown hgr).mono fun q hq => .inr (.inr (hst.lt q hq).1))).trans (Agr.setCell wz ⟨X,2,none⟩ _ (.inr (.inr hX)))
theorem bJ7 {w:World} {B:Nat} {T:ByteArray} {ts r:List Tok} {v2 v3 v4 v5 v6:Value} {N K:List Wd} {V:List Var} {R:List Rule} {x:Wd} {y:Rule} (h:RdX w B T ts v2 v3 v4 v5 v6) (hN:aS3 w (B+1) v2 N) (hV:aOq w (B+1) v4 V) (hK:aS3 w (B+1) v6 K) (hR:aQ2 w (B+1) v5 R) (hap:aZk v2 v6) (hNl:N.length<=100) (hKl:K.length<=100) (hRl:R.length<=100) (hv:bMj (aA5 T) N K ts=some ((x,y),r)) {n0:Nat} (hn0:n0<=w.heap.size) (hw5:Nw n0 v5) (hw6:Nw n0 v6) (hg:y.guard.length<=1000) (hsv:∀ s∈y.sets,s.value.length<=1000) :
  Calls prog 60 #[.pointer (some ⟨B,0,none⟩)] w fun e w'=>(∃ x,e = .returned x)/\Agr (fun q=>q=B∨n0<=q) w w'/\∃ v5' v6',RdX w' B T r v2 v3 v4 v5' v6'/\aS3 w' (B+1) v2 N/\aOq w' (B+1) v4 V/\aS3 w' (B+1) v6' (K++[x])/\aQ2 w' (B+1) v5' (R++[y])/\aZk v2 v6'/\Nw n0 v5'/\Nw n0 v6':=by
 have hB:B<w.heap.size:=by obtain ⟨_,_,h⟩:=h;exact h.lt
 unfold bMj at hv;rw [Option.bind_eq_some_iff] at hv;obtain ⟨⟨x0,t1⟩,hn,hv⟩:=hv;dsimp only at hv;rw [Option.bind_eq_some_iff] at hv;obtain ⟨t2,hc,hv⟩:=hv;rw [Option.bind_eq_some_iff] at hv;obtain ⟨⟨gd,t3⟩,hgd,hv⟩:=hv;dsimp only at hv;rw [Option.bind_eq_some_iff] at hv;obtain ⟨t4,har,hv⟩:=hv;rw [Option.bind_eq_some_iff] at hv;obtain ⟨⟨SL,t5⟩,hsl,hv⟩:=hv;dsimp only at hv;rw [Option.bind_eq_some_iff] at hv;obtain ⟨t6,hse,hv⟩:=hv;injection hv with hv
 injection hv with hv hr
 injection hv with hv1 hv2
 subst hv1;subst hv2;subst hr;dsimp only at hg hsv;obtain ⟨AN,cN,rfl,hNo⟩:=hN;obtain ⟨AV,cV,rfl,hVo⟩:=hV;obtain ⟨AK,cK,rfl,hKo⟩:=hK;obtain ⟨AR,cR,hs,rfl,hRo,hRP⟩:=hR;have HW5:=aA0 hw5;have HW6:=aA0 hw6;clear hw5 hw6;have HNO:=aA0 hNo;have HVO:=aA0 hVo;have HKO:=aA0 hKo;have HRO:=aA0 hRo;have HRP:=aA0 hRP;have HAP:=aA0 hap;have HNM:=aA0 hn;have HH:=aA0 h;have HGD:=aA0 hgd;have HSL:=aA0 hsl;have HSV:=aA0 hsv;have HKR:=aA0 (aVb hKo);have HRA:=aA0 (bMb T N (by omega) 100)
 have C1:=aA0 (fun (w0:World) (u6:Value) (hx:RdX w0 B T t1 (.slice AN N.length cN) v3 (.slice AV V.length cV) (.slice AR R.length cR) u6)=>aC7 hx { data:=#[58] } (by decide) hc)
 have C2:=aA0 (fun (w0:World) (u6:Value) (hx:RdX w0 B T t3 (.slice AN N.length cN) v3 (.slice AV V.length cV) (.slice AR R.length cR) u6)=>aC7 hx { data:=#[45,62] } (by decide) har)
 have C3:=aA0 (fun (w0:World) (u6:Value) (hx:RdX w0 B T t5 (.slice AN N.length cN) v3 (.slice AV V.length cV) (.slice AR R.length cR) u6)=>aC7 hx { data:=#[59] } (by decide) hse)
 obtain ⟨A1,k1,hr1⟩:=id h;have y6:=hr1.blk.cell 6 (v := .slice AK K.length cK) rfl;have yl:=hr1.lt;clear h hn hc hgd har hsl hse hr1 hNo hVo hKo hRo hRP hap hsv;obtain ⟨i0,hi0,hi1,hi2,hi3⟩:=aBq aPx;obtain ⟨j0,hj0,hj1,hj2,hj3⟩:=aBq bFx;obtain ⟨l0,hl0,hl1,hl2,hl3⟩:=aBq bJo;go_enter func60,ntmps60
 go_upto_region 1 with (go_at_call 57;refine (aJp HH.out HKR.out (by omega) HNM.out).mono ?_;rintro e w1 ⟨rfl,hb,hx⟩;have HXM:=aA0 (hx.bel ((Bel.refl w1).alloc (.cells #[.string (ba x0),.slice none 0 0,.slice none 0 0] 137)));have HFM:=aA0 ((FR.of_but (n:=w.heap.size) (row:=(Value.slice AK K.length cK).ownBlock) hb).trans (FR.of_bel ((Bel.refl w1).alloc (.cells #[.string (ba x0),.slice none 0 0,.slice none 0 0] 137))));have HZM:=aA0 (Blk.new w1 #[.string (ba x0),.slice none 0 0,.slice none 0 0] 137);have HKM:=aA0 ((aLn HKO.out hb (Nat.lt_succ_self B)).alloc (.cells #[.string (ba x0),.slice none 0 0,.slice none 0 0] 137));have hws:=hb.size;have hwsM:w.heap.size<=(w1.alloc (.cells #[.string (ba x0),.slice none 0 0,.slice none 0 0] 137)).heap.size:=(by rw [World.size_alloc];omega);clear hb hx)
 generalize w1.alloc (.cells #[.string (ba x0),.slice none 0 0,.slice none 0 0] 137)=wm at *;obtain ⟨X,hX⟩:∃ X,w1.heap.size=X:=⟨_,rfl⟩;rw [hX] at HZM hws;rw [hX];clear hX;obtain ⟨AT,cT,hRD⟩:=HXM.out;have HRD:=aA0 hRD;clear hRD
 have hcell:Hid (∀ w',Bel wm w'->w'.cell? ⟨B,6,none⟩=some (.slice AK K.length cK)/\w'.cell? ⟨X,0,none⟩=some (.string (ba x0))/\B<w'.heap.size/\X<w'.heap.size):=fun w' k =>
  ⟨(HRD.out.blk.keep k).cell 6 rfl,(HZM.out.keep k).cell 0 rfl,(HRD.out.blk.keep k).lt,(HZM.out.keep k).lt⟩
 refine aA4.start (fun w'=>w'.cell? ⟨B,6,none⟩=some (.slice AK K.length cK)/\w'.cell? ⟨X,0,none⟩=some (.string (ba x0))/\B<w'.heap.size/\X<w'.heap.size) 11 (by kernel_rfl) ?_
 have HB:=(Bel.refl wm).drew;have hHeld:=hcell.out _ HB
 (refine aA4.u (v:=?_) 0 11 rfl hHeld ?_ ?_;rotate_left 1;focus (intro w' hSw;(try dsimp only at hSw);go_simp;(try with_reducible rfl);done));(refine aA4.u (v:=?_) 1 12 rfl hHeld ?_ ?_;rotate_left 1;focus (intro w' hSw;(try dsimp only at hSw);go_simp;(try with_reducible rfl);done));(refine aA4.u (v:=?_) 2 13 rfl hHeld ?_ ?_;rotate_left 1;focus (intro w' hSw;(try dsimp only at hSw);go_simp;(try with_reducible rfl);done));(refine aA4.u (v:=?_) 3 14 rfl hHeld ?_ ?_;rotate_left 1;focus (intro w' hSw;(try dsimp only at hSw);go_simp;(try with_reducible rfl);done));(refine aA4.u (v:=?_) 4 15 rfl hHeld ?_ ?_;rotate_left 1;focus (intro w' hSw;(try dsimp only at hSw);go_simp;(try with_reducible rfl);done));(refine aA4.u (v:=?_) 5 16 rfl hHeld ?_ ?_;rotate_left 1;focus (intro w' hSw;(try dsimp only at hSw);go_simp;(try with_reducible rfl);done));(refine aA4.u (v:=?_) 6 17 rfl hHeld ?_ ?_;rotate_left 1;focus (intro w' hSw;(try dsimp only at hSw);go_simp;(try with_reducible rfl);done))
 have HKa:=aA0 ((show wm.drew.ownsRow (B+1) 9 1 (.slice AK K.length cK) K.length (K.map bGm) from HKM.out).alloc (.cells #[.string (ba x0)] 9))
 have HBa:=HB.alloc (.cells #[.string (ba x0)] 9);have HNEW:=aA0 (aAx wm.drew (.cells #[.string (ba x0)] 9));refine aA4.one (i:=7) (by kernel_rfl) rfl (fun K hK=>?_)
 go_simp
 refine hK.out _ _ (fun _=>hcell.out _ HBa) ?_
 clear hK;clear K;clear hHeld
 (try simp only [Act.put,List.setIfInBounds_toArray,List.set_cons_zero,List.set_cons_succ])
 refine aA4.one (i:=8) (by kernel_rfl) rfl (fun KK hK=>?_)
 refine aCn _ rfl (.tmp 15) (.tmp 18) 77 rfl (B+1) 9 i0 (.string ⟨#[]⟩) 1 16 underlying77 hi0 hi1 hi2 hi3 rfl (by decide) AK K.length cK (K.map bGm) (by simp [Act.eval]) HKa.out wm.heap.size #[.string (ba x0)] 9 (0,0) (by simp [Act.eval]) HNEW.out rfl (aV9 _) (by unfold maxLen;omega) (by omega) (by simp;omega) ?_
 intro A2 c2 w4 hown hgr hat
 have HR4:=aA0 ((HRD.out.bel HBa).grown HKa.out (by decide) hgr)
 have HZ4:=aA0 ((HZM.out.keep HBa).grown hgr ((HZM.out.keep HBa).apart HKa.out (by decide)))
 have HK4:=aA0 hown;have HF4:=aA0 ((HFM.out.trans (bH2 HBa)).trans ((Agr.of_grown hgr).mono (fun q hq => .inr (.inl hq))))
 have HAP4:Hid (aZk (.slice AN N.length cN) (.slice A2 (K.length+1) c2)):=by
  have h1:=HAP.out;show _∨_
  rcases hat with e | e
  .rw [e];exact h1
  .rw [e]
   cases ho:(Value.slice AN N.length cN).ownBlock with
   | none=>exact .inl rfl
   | some q =>
    right
    intro e2
    injection e2 with e2
    have:=(HNO.out.lt q ho).2;have e9:wm.drew.heap.size=wm.heap.size:=rfl;simp at e2
    omega
 have HNW6:=aA0 (HW6.out.push hat (by have e9:wm.drew.heap.size=wm.heap.size:=rfl;simp;omega))
 have hz2:=HR4.out.blk.cell 6 (v := .slice AK K.length cK) rfl;have hf2:=HR4.out.blk.frozen 6;have hl2:=HR4.out.blk.lt;have hHeld:w4.cell? ⟨B,6,none⟩=some (.slice AK K.length cK)/\w4.cell? ⟨X,0,none⟩=some (.string (ba x0))/\B<w4.heap.size/\X<w4.heap.size:=⟨hz2,HZ4.out.cell 0 rfl,hl2,HZ4.out.lt⟩;refine hK.out _ _ (fun _=>hHeld) ?_
 clear hK KK hown hgr hat
 (try simp only [Act.put,List.setIfInBounds_toArray,List.set_cons_zero,List.set_cons_succ])
 (refine aA4.u (v:=?_) 9 20 rfl hHeld ?_ ?_;rotate_left 1;focus (intro w' hSw;(try dsimp only at hSw);go_simp;(try with_reducible rfl);done));(refine aA4.u (v:=?_) 10 21 rfl hHeld ?_ ?_;rotate_left 1;focus (intro w' hSw;(try dsimp only at hSw);go_simp;(try with_reducible rfl);done))
 (refine aA4.one (i:=11) (by kernel_rfl) rfl (fun K hK=>?_));go_simp;refine hK.out _ _ (fun h=>absurd rfl h) ?_;clear hK K;refine aA4.done (by kernel_rfl) ?_ _;(try simp only [Act.put,List.setIfInBounds_toArray,List.set_cons_zero,List.set_cons_succ])
 clear hHeld hz2 hf2 hl2;have HX5:Hid (RdX (w4.setCell ⟨B,6,none⟩ (.slice A2 (K.length+1) c2)) B T t1 (.slice AN N.length cN) v3 (.slice AV V.length cV) (.slice AR R.length cR) (.slice A2 (K.length+1) c2)):=⟨AT,cT,HR4.out.put 6 (.slice A2 (K.length+1) c2) rfl⟩;have HZ5:=aA0 (HZ4.out.other (a:=⟨B,6,none⟩) (by dsimp only;omega) (.slice A2 (K.length+1) c2))
 have HK5:=aA0 (aDm HK4.out (Nat.lt_succ_self B) 6 (.slice A2 (K.length+1) c2));have HF5:=aA0 (HF4.out.trans (Agr.setCell w4 ⟨B,6,none⟩ (.slice A2 (K.length+1) c2) (.inl rfl)));clear HR4 HZ4 HK4 HF4 HKa HKM HRD HZM hcell HB HBa HNEW HXM HFM;generalize w4.setCell ⟨B,6,none⟩ (.slice A2 (K.length+1) c2)=w5 at *;have hXB:B<X:=by omega
 go_wp2_with (first
  | (go_at_call 56;(with_reducible refine (C1.out _ _ HX5.out).mono ?_);rintro e w6 ⟨⟨u6,rfl⟩,hb,hx⟩;have HX6:=aA0 hx;have HF6:=aA0 (HF5.out.trans (FR.of_but hb));have HZ6:=aA0 (HZ5.out.but hb (by omega));have HK6:=aA0 (aLn HK5.out hb (Nat.lt_succ_self B));have HN6:=aA0 (aS3.names ⟨AN,cN,rfl,aRd HNO.out HAP.out HF6.out⟩);clear hb hx)
  | (go_at_call 110;refine (HRA.out.choice HX6.out HN6.out HGD.out hg).mono ?_;rintro e w7 ⟨⟨_,rfl,Ag,cg,rfl,hv⟩,hb,hx⟩;have HX7:=aA0 hx;have HF7:=aA0 (HF6.out.trans (FR.of_but hb));have HZ7:=aA0 (HZ6.out.but hb (by omega));have HK7:=aA0 (aLn HK6.out hb (Nat.lt_succ_self B));have HG7:=aA0 (aAu hv (base':=B+1) (by have:=HF6.out.size;omega));have c1:=HZ7.out.cell 1 (v := .slice none 0 0) rfl;have f1:=HZ7.out.frozen 1;have lX:=HZ7.out.lt;have HX8:=aA0 (HX7.out.agrX (Agr.setCell (E:=fun q=>q=X) w7 ⟨X,1,none⟩ (.slice Ag gd.length cg) rfl) hXB);have HF8:=aA0 (HF7.out.trans (Agr.setCell w7 ⟨X,1,none⟩ (.slice Ag gd.length cg) (.inr (.inr hws))));have HZ8:=aA0 (show Blk (w7.setCell ⟨X,1,none⟩ (.slice Ag gd.length cg)) X #[.string (ba x0),.slice Ag gd.length cg,.slice none 0 0] _ from HZ7.out.set 1 (.slice Ag gd.length cg));have HK8:=aA0 (aDa HK7.out HZ7.out (by decide) 1 (.slice Ag gd.length cg));have HG8:=aA0 (aDa HG7.out HZ7.out (by decide) 1 (.slice Ag gd.length cg));clear hb hx hv)
  | (go_at_call 56;(with_reducible refine (C2.out _ _ HX8.out).mono ?_);rintro e w9 ⟨⟨u9,rfl⟩,hb,hx⟩;have HX9:=aA0 hx;have HF9:=aA0 (HF8.out.trans (FR.of_but hb));have HZ9:=aA0 (HZ8.out.but hb (by omega));have HK9:=aA0 (aLn HK8.out hb (Nat.lt_succ_self B));have HG9:=aA0 (aLn HG8.out hb (Nat.lt_succ_self B));clear hb hx))
 go_loopg [3] 10 (fun m _s wr=>∃ (n:Nat) (L:List SetT) (SA:Option Addr) (sc:Nat) (ss:List Value) (tk:List Tok),m=n/\Hid (aVr (aA5 T) N n L tk=some (SL,t5))/\L.length+n<=10/\Hid (RdX wr B T tk (.slice AN N.length cN) v3 (.slice AV V.length cV) (.slice AR R.length cR) (.slice A2 (K.length+1) c2))/\Hid (RlS w B X (Value.slice AK K.length cK).ownBlock (.slice A2 (K.length+1) c2) (K++[x0]) x0 Ag cg gd SA sc ss L wr))
 case atStart =>
  refine ⟨10,[],none,0,[],t4,rfl,HSL.out,by simp,HX9.out,⟨HZ9.out,HG9.out,World.ownsRow_nil _ _ _ _,aP8.nil _ _,HF9.out,?_⟩⟩
  have:=HK9.out;rw [List.length_append,List.map_append];exact this
 case round =>
  obtain ⟨n,L,SA,sc,ss,tk,rfl,HSk,hLn,HXk,HRk⟩:=hrel
  obtain ⟨n,rfl⟩:∃ m,gk=m+1:=by
   match gk,HSk.out with
   | 0,h=>simp [aVr] at h
   | m+1,_=>exact ⟨m,rfl⟩
  have hss:=HSk.out;rw [bG1,Option.bind_eq_some_iff] at hss;obtain ⟨⟨xv,u1⟩,q1,hss⟩:=hss;dsimp only at hss;rw [Option.bind_eq_some_iff] at hss;obtain ⟨u2,q2,hss⟩:=hss;rw [Option.bind_eq_some_iff] at hss;obtain ⟨⟨ev,u3⟩,q3,hss⟩:=hss;dsimp only at hss;clear HSk
  have hel:ev.length<=1000:=by
   have hm:(⟨(xv:Int),ev⟩:SetT)∈SL:=by
    cases hcm:aAg (aA5 T) [44] u3 with
    | none =>
     rw [hcm] at hss;injection hss with hss;injection hss with h1 _
     rw [<- h1];simp
    | some u4 =>
     rw [hcm] at hss;obtain ⟨M,hM⟩:=aTb hss;rw [hM];simp
   exact HSV.out _ hm
  have HQ1:=aA0 q1;have HQ3:=aA0 q3;have HNk:=aA0 (aS3.names ⟨AN,cN,rfl,aRd HNO.out HAP.out HRk.out.fr⟩);have D1:=aA0 (fun (w0:World) (hx:RdX w0 B T u1 (.slice AN N.length cN) v3 (.slice AV V.length cV) (.slice AR R.length cR) (.slice A2 (K.length+1) c2))=>aC7 hx { data:=#[58,61] } (by decide) q2)
  clear q1 q2 q3;have hXr:=HRk.out.blk.lt;have hBr:B<wr.heap.size:=by omega
  go_upto_region 8 with (first
   | (go_at_call 111;refine (aK2 HXk.out HNk.out (by omega) HQ1.out).mono ?_;rintro e wv ⟨rfl,hb,hx⟩;have hXa:=aA0 (hx.bel ((Bel.refl wv).alloc (.cells #[.int .i64 (xv:Int),.slice none 0 0] 197)));have hFa:=aA0 ((Fw.of_but (n:=wr.heap.size) hb).trans (Fw.of_bel ((Bel.refl wv).alloc (.cells #[.int .i64 (xv:Int),.slice none 0 0] 197))));have hSa:=aA0 (Blk.new wv #[.int .i64 (xv:Int),.slice none 0 0] 197);have hvs:=hb.size;clear hb hx)
   | (go_at_call 56;(with_reducible refine (D1.out _ hXa.out).mono ?_);rintro e wx ⟨⟨ux,rfl⟩,hb,hx⟩;have hXb:=aA0 hx;have hFb:=aA0 (hFa.out.trans (Fw.of_but hb));have hSb:=aA0 (hSa.out.but hb (by omega));clear hb hx)
   | (go_at_call 110;refine (HRA.out.choice hXb.out (aS3.names ⟨AN,cN,rfl,aRd HNO.out HAP.out (HRk.out.far hB hXB hFb.out).fr⟩) HQ3.out hel).mono ?_;rintro e wy ⟨⟨_,rfl,Ae,ce,rfl,hv⟩,hb,hx⟩;have hXc:=aA0 hx;have hFc:=aA0 (hFb.out.trans (Fw.of_but hb));have hSc:=aA0 (hSb.out.but hb (by omega));have hVc:=aA0 (aAu hv (base':=B+1) (by have:=hFb.out.size;omega));have s1:=hSc.out.cell 1 (v := .slice none 0 0) rfl;have g1:=hSc.out.frozen 1;have lS:=hSc.out.lt;clear hb hx hv))
  have hBY:B<wv.heap.size:=by omega
  have HXd:=aA0 (hXc.out.agrX (Agr.setCell (E:=fun q=>q=wv.heap.size) wy ⟨wv.heap.size,1,none⟩ (.slice Ae ev.length ce) rfl) hBY);have HFd:=aA0 (hFc.out.trans (Agr.setCell (E:=fun q=>q=B∨wr.heap.size<=q) wy ⟨wv.heap.size,1,none⟩ (.slice Ae ev.length ce) (.inr hvs)));have HSd:=aA0 (show Blk (wy.setCell ⟨wv.heap.size,1,none⟩ (.slice Ae ev.length ce)) wv.heap.size #[.int .i64 (xv:Int),.slice Ae ev.length ce] _ from hSc.out.set 1 (.slice Ae ev.length ce))
  have HVd:=aA0 (aDa hVc.out hSc.out (by decide) 1 (.slice Ae ev.length ce))
  have HRd:=aA0 (HRk.out.far hB hXB HFd.out);clear s1 g1 lS hXa hXb hXc hFa hFb hFc hSa hSb hSc hVc;generalize wy.setCell ⟨wv.heap.size,1,none⟩ (.slice Ae ev.length ce)=ws at *;generalize wv.heap.size=Y at *;obtain ⟨AT2,cT2,hRT⟩:=HXd.out;have HRT:=aA0 hRT;clear hRT;have x2:=HRd.out.blk.cell 2 (v := .slice SA L.length sc) rfl;have xl:=HRd.out.blk.lt;have sd0:=HSd.out.cell 0 (v := .int .i64 (xv:Int)) rfl;have sd1:=HSd.out.cell 1 (v := .slice Ae ev.length ce) rfl;have sdl:=HSd.out.lt;have hsz:=HRd.out.fr.size
  go_upto_region 9 with (at_builtin;refine aBr _ rfl (.tmp 50) (.tmp 52) 135 rfl w.heap.size 197 l0 (.agg #[.int .i64 0,.slice none 0 0]) 2 32 underlying135 hl0 hl1 hl2 hl3 rfl (by decide) SA L.length sc ss (by simp [Act.eval]) (HRd.out.st.alloc _) ws.heap.size #[.int .i64 (xv:Int),.slice Ae ev.length ce] 197 (0,0) (by simp [Act.eval]) (aAx _ _) rfl (bDg _ _ _ _) (by unfold maxLen;omega) (by omega) (by simp;omega) ?_;intro SA' sc' wz hown hgr hat;have HRe:=aA0 (HRd.out.push hB hws (t:=⟨(xv:Int),ev⟩) HVd.out (o:=(.cells #[.int .i64 (xv:Int),.slice Ae ev.length ce] 197)) hown hgr);have hblz:=((HRd.out.blk.alloc (.cells #[.int .i64 (xv:Int),.slice Ae ev.length ce] 197)).grown hgr ((HRd.out.blk.alloc (.cells #[.int .i64 (xv:Int),.slice Ae ev.length ce] 197)).apart (HRd.out.st.alloc (.cells #[.int .i64 (xv:Int),.slice Ae ev.length ce] 197)) (by decide)));have xz:=hblz.cell 2 (v := .slice SA L.length sc) rfl;have xf:=hblz.frozen 2;have xzl:=hblz.lt;have HXe:=aA0 (RdX.agrX ⟨AT2,cT2,(HRT.out.bel ((Bel.refl ws).alloc (.cells #[.int .i64 (xv:Int),.slice Ae ev.length ce] 197))).grown (aAu (HRd.out.st.alloc (.cells #[.int .i64 (xv:Int),.slice Ae ev.length ce] 197)) (show B+1<=w.heap.size from hB)) (by decide) hgr⟩ (Agr.setCell (E:=fun q=>q=X) wz ⟨X,2,none⟩ (.slice SA' (L.length+1) sc') rfl) hXB);clear hown hgr hat hblz)
  generalize wz.setCell ⟨X,2,none⟩ (.slice SA' (L.length+1) sc')=we at *;cases hcm:aAg (aA5 T) [44] u3 with
  | none =>
   rw [hcm] at hss;injection hss with hss;injection hss with hs1 hs2
   subst hs2;have HS1:=aA0 hs1;clear hs1;have D2:=aA0 (fun (w0:World) (hx:RdX w0 B T u3 (.slice AN N.length cN) v3 (.slice AV V.length cV) (.slice AR R.length cR) (.slice A2 (K.length+1) c2))=>aBp hx { data:=#[44] } hcm);clear hcm
   go_upto_region 11 with (first
    | (go_at_call 103;(with_reducible refine (D2.out _ HXe.out).mono ?_);rintro e wA ⟨rfl,hb,hx⟩;have HXf:=aA0 hx;have HRf:=aA0 (HRe.out.far hB hXB (Fw.of_but hb));clear hb hx)
    | (go_at_call 56;(with_reducible refine (C3.out _ _ HXf.out).mono ?_);rintro e wB ⟨⟨uB,rfl⟩,hb,hx⟩;have HXg:=aA0 hx;have HRg:=aA0 (HRf.out.far hB hXB (Fw.of_but hb));clear hb hx))
   have HRh:=HRg.out;have hs1':=HS1.out;obtain ⟨sl,hsl⟩:∃ sl,ss++bOx (⟨(xv:Int),ev⟩:SetT) Ae ce=sl:=⟨_,rfl⟩;rw [hs1',hsl] at HRh;have hlen:L.length+1=SL.length:=by rw [<- hs1'];simp
   have HRH:=aA0 HRh;obtain ⟨AT3,cT3,hRT3⟩:=HXg.out;have HRT3:=aA0 hRT3;have HRr:=aA0 (aRd HRO.out (aAn HKO.out HRO.out (by decide)) HRh.fr)
   have HDp:=aA0 (HRP.out.keep (aEk.of_FR HRh.fr HKO.out rfl));have HNf:=aA0 (aRd HNO.out HAP.out HRh.fr);have HVf:=aA0 (aRd HVO.out (aAn HKO.out HVO.out (by decide)) HRh.fr)
   have HFf:=aA0 HRh.fr;have hszB:=HRh.fr.size;clear hRT3 HRh hs1' hsl HXe HRe HXf HRf HRg HS1
   have hcell:Hid (∀ w',Bel wB w'->w'.cell? ⟨B,5,none⟩=some (.slice AR R.length cR)/\(w'.cell? ⟨X,0,none⟩=some (.string (ba x0))/\w'.cell? ⟨X,1,none⟩=some (.slice Ag gd.length cg)/\w'.cell? ⟨X,2,none⟩=some (.slice SA' SL.length sc'))/\B<w'.heap.size/\X<w'.heap.size):=fun w' k =>
    ⟨(HRT3.out.blk.keep k).cell 5 rfl,⟨(HRH.out.blk.keep k).cell 0 rfl,(HRH.out.blk.keep k).cell 1 rfl,(HRH.out.blk.keep k).cell 2 rfl⟩,(HRT3.out.blk.keep k).lt,(HRH.out.blk.keep k).lt⟩
   refine aA4.start (fun w'=>w'.cell? ⟨B,5,none⟩=some (.slice AR R.length cR)/\(w'.cell? ⟨X,0,none⟩=some (.string (ba x0))/\w'.cell? ⟨X,1,none⟩=some (.slice Ag gd.length cg)/\w'.cell? ⟨X,2,none⟩=some (.slice SA' SL.length sc'))/\B<w'.heap.size/\X<w'.heap.size) 12 (by kernel_rfl) ?_
   have HB:=(Bel.refl wB).drew;have hHeld:=hcell.out _ HB
   (refine aA4.u (v:=?_) 0 64 rfl hHeld ?_ ?_;rotate_left 1;focus (intro w' hSw;(try dsimp only at hSw);go_simp;(try with_reducible rfl);done));(refine aA4.u (v:=?_) 1 65 rfl hHeld ?_ ?_;rotate_left 1;focus (intro w' hSw;(try dsimp only at hSw);go_simp;(try with_reducible rfl);done));(refine aA4.u (v:=?_) 2 66 rfl hHeld ?_ ?_;rotate_left 1;focus (intro w' hSw;(try dsimp only at hSw);go_simp;(try with_reducible rfl);done));(refine aA4.u (v:=?_) 3 67 rfl hHeld ?_ ?_;rotate_left 1;focus (intro w' hSw;(try dsimp only at hSw);go_simp;(try with_reducible rfl);done));(refine aA4.u (v:=?_) 4 68 rfl hHeld ?_ ?_;rotate_left 1;focus (intro w' hSw;(try dsimp only at hSw);go_simp;(try with_reducible rfl);done));(refine aA4.u (v:=?_) 5 69 rfl hHeld ?_ ?_;rotate_left 1;focus (intro w' hSw;(try dsimp only at hSw);go_simp;(try with_reducible rfl);done));(refine aA4.u (v:=?_) 6 70 rfl hHeld ?_ ?_;rotate_left 1;focus (intro w' hSw;(try dsimp only at hSw);go_simp;(try with_reducible rfl);done))
   have HRa:=aA0 ((show wB.drew.ownsRow (B+1) 137 3 (.slice AR R.length cR) R.length hs from HRr.out).alloc (.cells #[.string (ba x0),.slice Ag gd.length cg,.slice SA' SL.length sc'] 137))
   have HBa:=HB.alloc (.cells #[.string (ba x0),.slice Ag gd.length cg,.slice SA' SL.length sc'] 137);have HNEW:=aA0 (aAx wB.drew (.cells #[.string (ba x0),.slice Ag gd.length cg,.slice SA' SL.length sc'] 137));refine aA4.one (i:=7) (by kernel_rfl) rfl (fun KK hK=>?_)
   go_simp
   refine hK.out _ _ (fun _=>hcell.out _ HBa) ?_
   clear hK KK hHeld
   (try simp only [Act.put,List.setIfInBounds_toArray,List.set_cons_zero,List.set_cons_succ])
   refine aA4.one (i:=8) (by kernel_rfl) rfl (fun KK hK=>?_)
   refine aCn _ rfl (.tmp 69) (.tmp 71) 29 rfl (B+1) 137 j0 (.agg #[.string ⟨#[]⟩,.slice none 0 0,.slice none 0 0]) 3 64 underlying29 hj0 hj1 hj2 hj3 rfl (by decide) AR R.length cR hs (by simp [Act.eval]) HRa.out wB.heap.size #[.string (ba x0),.slice Ag gd.length cg,.slice SA' SL.length sc'] 137 (0,0) (by simp [Act.eval]) HNEW.out rfl (bJi _ _ _ _ _ _ _) (by unfold maxLen;omega) (by omega) (by simp;omega) ?_
   intro A8 c8 w8 hown hgr hat
   have HR8:=aA0 ((HRT3.out.bel HBa).grown HRa.out (by decide) hgr)
   have HZ8:=aA0 ((HRH.out.blk.keep HBa).grown hgr (fun e=>by have:=(HRO.out.lt X e.symm).2;omega))
   have HN8:=aA0 (World.ownsRow.kept (HBa.owns HNf.out) hgr (aAn HRa.out (HBa.owns HNf.out) (by decide)))
   have HV8:=aA0 (World.ownsRow.kept (HBa.owns HVf.out) hgr (aAn HRa.out (HBa.owns HVf.out) (by decide)))
   have HK8:=aA0 (World.ownsRow.kept (HBa.owns HRH.out.kk) hgr (aAn HRa.out (HBa.owns HRH.out.kk) (by decide)))
   have HO8:=aA0 hown;have HD8:=aA0 (((HDp.out.push (r:=⟨ba x0,gd,SL⟩) ⟨HRH.out.gd,aAu HRH.out.st (show B+1<=w.heap.size from hB),HRH.out.sp⟩).keep (aEk.of_bel HBa)).keep (aEk.grown HRa.out (by decide) (by decide) hgr))
   have HU8:=aA0 (((HFf.out.mono (fun q e=>by
    show q=B∨n0<=q
    rcases e with e | e | e
    .exact .inl e
    .exact .inr (HW6.out q e)
    .exact .inr (by omega))).trans (bH2 (E:=fun q=>q=B∨n0<=q) HBa)).trans ((Agr.of_grown hgr).mono (fun q hq => .inr (HW5.out q hq))))
   have HNW5:=aA0 (HW5.out.push hat (by have e9:wB.drew.heap.size=wB.heap.size:=rfl;simp;omega))
   have hz5:=HR8.out.blk.cell 5 (v := .slice AR R.length cR) rfl;have hf5:=HR8.out.blk.frozen 5;have hl5:=HR8.out.blk.lt;have hHeld:w8.cell? ⟨B,5,none⟩=some (.slice AR R.length cR)/\(w8.cell? ⟨X,0,none⟩=some (.string (ba x0))/\w8.cell? ⟨X,1,none⟩=some (.slice Ag gd.length cg)/\w8.cell? ⟨X,2,none⟩=some (.slice SA' SL.length sc'))/\B<w8.heap.size/\X<w8.heap.size:=⟨hz5,⟨HZ8.out.cell 0 rfl,HZ8.out.cell 1 rfl,HZ8.out.cell 2 rfl⟩,hl5,HZ8.out.lt⟩;refine hK.out _ _ (fun _=>hHeld) ?_
   clear hK KK hown hgr hat
   (try simp only [Act.put,List.setIfInBounds_toArray,List.set_cons_zero,List.set_cons_succ])
   (refine aA4.u (v:=?_) 9 73 rfl hHeld ?_ ?_;rotate_left 1;focus (intro w' hSw;(try dsimp only at hSw);go_simp;(try with_reducible rfl);done));(refine aA4.u (v:=?_) 10 74 rfl hHeld ?_ ?_;rotate_left 1;focus (intro w' hSw;(try dsimp only at hSw);go_simp;(try with_reducible rfl);done));(refine aA4.u (v:=?_) 11 75 rfl hHeld ?_ ?_;rotate_left 1;focus (intro w' hSw;(try dsimp only at hSw);go_simp;(try with_reducible rfl);done))
   (refine aA4.one (i:=12) (by kernel_rfl) rfl (fun K hK=>?_));go_simp;refine hK.out _ _ (fun h=>absurd rfl h) ?_;clear hK K;refine aA4.done (by kernel_rfl) ?_ _;(try simp only [Act.put,List.setIfInBounds_toArray,List.set_cons_zero,List.set_cons_succ])
   clear hHeld;have HR9:=aA0 (HR8.out.put 5 (.slice A8 (R.length+1) c8) (u2 := .slice AN N.length cN) (u3:=v3) (u4 := .slice AV V.length cV) (u5 := .slice A8 (R.length+1) c8) (u6 := .slice A2 (K.length+1) c2) rfl);have HO9:=aA0 (aDm HO8.out (Nat.lt_succ_self B) 5 (.slice A8 (R.length+1) c8));have HN9:=aA0 (aDm HN8.out (Nat.lt_succ_self B) 5 (.slice A8 (R.length+1) c8));have HV9:=aA0 (aDm HV8.out (Nat.lt_succ_self B) 5 (.slice A8 (R.length+1) c8));have HK9':=aA0 (aDm HK8.out (Nat.lt_succ_self B) 5 (.slice A8 (R.length+1) c8));have HD9:=aA0 (HD8.out.keep (aEk.put 5 (.slice A8 (R.length+1) c8)));have HU9:=aA0 (HU8.out.trans (Agr.setCell (E:=fun q=>q=B∨n0<=q) w8 ⟨B,5,none⟩ (.slice A8 (R.length+1) c8) (.inl rfl)));clear hz5 hf5 hl5;generalize w8.setCell ⟨B,5,none⟩ (.slice A8 (R.length+1) c8)=w9 at *;go_wp2
   go_end0
   refine ⟨⟨_,rfl⟩,HU9.out,_,_,⟨AT3,cT3,HR9.out⟩,⟨AN,cN,rfl,HN9.out⟩,⟨AV,cV,rfl,HV9.out⟩,⟨A2,c2,by simp,by simpa using HK9'.out⟩,⟨A8,c8,_,by simp,?_,HD9.out⟩,HAP4.out,HNW5.out,HNW6.out⟩
   rw [List.length_append];exact HO9.out
  | some u4 =>
   rw [hcm] at hss;dsimp only at hss;have HSS:=aA0 hss;clear hss;have D2:=aA0 (fun (w0:World) (hx:RdX w0 B T u3 (.slice AN N.length cN) v3 (.slice AV V.length cV) (.slice AR R.length cR) (.slice A2 (K.length+1) c2))=>aC0 hx { data:=#[44] } (by decide) hcm)
   clear hcm
   go_wp2_with (first
    | (at_builtin;refine aBr _ rfl (.tmp 50) (.tmp 52) 135 rfl w.heap.size 197 l0 (.agg #[.int .i64 0,.slice none 0 0]) 2 32 underlying135 hl0 hl1 hl2 hl3 rfl (by decide) SA L.length sc ss (by simp [Act.eval]) (HRd.out.st.alloc _) ws.heap.size #[.int .i64 (xv:Int),.slice Ae ev.length ce] 197 (0,0) (by simp [Act.eval]) (aAx _ _) rfl (bDg _ _ _ _) (by unfold maxLen;omega) (by omega) (by simp;omega) ?_;intro SA' sc' wz hown hgr hat;have HRe:=aA0 (HRd.out.push hB hws (t:=⟨(xv:Int),ev⟩) HVd.out hown hgr);have hblz:=((HRd.out.blk.alloc (.cells #[.int .i64 (xv:Int),.slice Ae ev.length ce] 197)).grown hgr ((HRd.out.blk.alloc _).apart (HRd.out.st.alloc _) (by decide)));have xz:=hblz.cell 2 (v := .slice SA L.length sc) rfl;have xf:=hblz.frozen 2;have xzl:=hblz.lt;have HXe:=aA0 (RdX.agrX ⟨AT2,cT2,(HRT.out.bel ((Bel.refl ws).alloc _)).grown (aAu (HRd.out.st.alloc _) (show B+1<=w.heap.size from hB)) (by decide) hgr⟩ (Agr.setCell (E:=fun q=>q=X) wz ⟨X,2,none⟩ (.slice SA' (L.length+1) sc') rfl) hXB);clear hown hgr hat hblz)
    | (go_at_call 103;(with_reducible refine (D2.out _ HXe.out).mono ?_);rintro e wA ⟨rfl,hb,hx⟩;have HXf:=aA0 hx;have HRf:=aA0 (HRe.out.far hB hXB (Fw.of_but hb));clear hb hx))
   go_roundg n
   case rel=>exact ⟨n,L++[(⟨(xv:Int),ev⟩:SetT)],SA',sc',ss++bOx (⟨(xv:Int),ev⟩:SetT) Ae ce,u4,rfl,HSS.out,by simp;omega,HXf.out,HRf.out⟩
   case measure=>omega
end Go.Proofs.YtmoebklkkjbigaaGreatDoor

