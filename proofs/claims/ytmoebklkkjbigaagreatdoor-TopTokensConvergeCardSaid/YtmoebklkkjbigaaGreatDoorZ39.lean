/- Merged. -/
import Derived.Test.YtmoebklkkjbigaaGreatDoorZ35
import Derived.Test.YtmoebklkkjbigaaGreatDoorZ34
set_option linter.unusedSimpArgs false
set_option linter.unnecessarySimpa false
set_option linter.unusedVariables false
set_option maxRecDepth 100000
set_option maxHeartbeats 4000000
open Go.Proofs.Tryz

namespace Go.Proofs.YtmoebklkkjbigaaGreatDoor
open Go.RowKit
theorem bC4 {E:Nat} {n:Int}:∀ {b:Nat} {l:List (Nat × Int)},aKp E n b l=true->∀ x∈l,0<=x.2/\x.2<n
 | _,[],_,x,hx=>by cases hx
 | b,y :: l,h,x,hx=>by
  unfold aKp at h;simp only [Bool.and_eq_true,decide_eq_true_eq] at h
  rcases List.mem_cons.1 hx with rfl | hx
  .exact ⟨h.1.1.2,h.1.2⟩
  .exact bC4 h.2 x hx
theorem aBv {s:Spc} (h:aCf s=true):s.arcs.length=s.enabled.length/\∀ k,k<s.enabled.length->aBu (s.enabled.getD k 0) s.enabled.length (s.arcs.getD k [])=true:=by
 unfold aCf at h;simp only [Bool.and_eq_true,decide_eq_true_eq,List.all_eq_true,List.mem_range] at h
 exact ⟨h.1.2,h.2⟩
theorem aKo {s:Spc} (h:aCf s=true):∀ k,∀ x∈aA7 s.arcs k,0<=x.2/\x.2<(s.arcs.length:Int):=by
 obtain ⟨h1,h2⟩:=aBv h;intro k x hx
 by_cases hk:k<s.enabled.length
 .have:=h2 k hk
  unfold aBu at this;rw [Bool.and_eq_true] at this;rw [h1];exact bC4 this.2 x hx
 .have:aA7 s.arcs k=[]:=by unfold aA7;rw [List.getD_eq_getElem?_getD,List.getElem?_eq_none (by omega)];rfl
  rw [this] at hx;cases hx
theorem aTq (v:Value) (s:Spc) (A:Option Addr) (kc:Nat) (set:List Bool) (w:World) (h:aBk w v s) (hB:aEw w A s.arcs.length set) (hl:aCy s=true) (hwf:wfS s) (hv:aCf s=true) (hall:∀ o,OrdP s.arcs set s.arcs.length o->s.arcs.length<=o.length) :
  Calls prog 72 #[v,.slice A s.arcs.length kc] w fun e w'=>∃ o Ao co,e = .returned (.tuple #[.slice Ao o.length co,.int .i64 0])/\OrdP s.arcs set s.arcs.length o/\w'.ownsRow (w.heap.size+1) 3 1 (.slice Ao o.length co) o.length (o.map aPq)/\Bel w w':=by
 have HS:=aA0 (fun w' (k:Bel w w')=>h.keep k);obtain ⟨AE,cE,AA,cA,rfl,hE,hA,_,_,_,_⟩:=h;have HSET:=aA0 (fun w' (k:Bel w w')=>hB.keep k);have HTO:=aA0 (aKo hv);have HN:=aA0 (aBv hv).1;have HL:=aA0 hl;have HWF:=aA0 hwf;have HV:=aA0 hv;have HALL:=aA0 hall;clear hl hE hA hB hwf hv hall;obtain ⟨W0,hW0⟩:∃ W:World,W=w.alloc (.cells #[.slice AE s.enabled.length cE,.slice AA s.arcs.length cA] 42):=⟨_,rfl⟩;have e0:W0.heap.size=w.heap.size+1:=by rw [hW0];exact World.size_alloc _ _
 have HW0:Hid (Bel w W0):=by rw [hW0];exact (Bel.refl w).alloc _
 have HBX:Hid (Blk W0 w.heap.size #[.slice AE s.enabled.length cE,.slice AA s.arcs.length cA] 42):=by rw [hW0];exact Blk.new w _ _
 go_enter func72,ntmps72
 go_wp2_with (first
  | (rw [<- hW0];refine (aNi _ s _ _ _ _ (HS.out _ HW0.out) HWF.out HL.out HV.out HN.out).mono ?_;rintro e w1 ⟨rfl,hb⟩;have HB1:=aA0 hb;have x0:=(HBX.out.keep hb).cell 0 (v := .slice AE s.enabled.length cE) rfl;have x1:=(HBX.out.keep hb).cell 1 (v := .slice AA s.arcs.length cA) rfl;have xl:=(HBX.out.keep hb).lt;clear hb)
  | (refine (aSr _ s _ _ set _ (HS.out _ (HW0.out.trans HB1.out)) (HSET.out _ (HW0.out.trans HB1.out)) HL.out HTO.out).mono ?_;rintro e w2 ⟨o,Ao,co,rfl,ho,hown,hb⟩;have HO:=aA0 ho;have HOW:=aA0 hown;have HB2:=aA0 hb;have hnl:decide (o.length<s.arcs.length)=false:=(by have:=HALL.out o ho;simp;omega);clear ho hown hb))
 refine bodyPost_ret (v := .tuple #[.slice Ao o.length co,.int .i64 0]) (by simp [results,Tryz.results72]) rfl ?_
 exact ⟨o,Ao,co,rfl,HO.out,aAu HOW.out (by have:=HB1.out.size;omega),HW0.out.trans (HB1.out.trans HB2.out)⟩
structure GtI (W0 wm:World) (n gr:Nat) (f:Nat->Int) (r:List Int) (wr:World):Prop where
 bel:Bel W0 wr
 agr:Agr (fun q=>q=gr∨wm.heap.size<=q) wm wr
 res:wr.ownsRow W0.heap.size 3 1 (.slice (some ⟨gr,0,none⟩) n n) n (r.map (Value.int .i64))
 len:r.length=n
 bnd:∀ k,k<n->0<=r.getD k 0/\r.getD k 0<=f k
theorem GtI.keep {W0 wm:World} {n gr:Nat} {f:Nat->Int} {r:List Int} {wr w':World} (h:GtI W0 wm n gr f r wr) (hb:Bel wr w'):GtI W0 wm n gr f r w' :=
 ⟨h.bel.trans hb,h.agr.trans (Agr.bel' hb),hb.owns h.res,h.len,h.bnd⟩
theorem GtI.put {W0 wm:World} {n gr:Nat} {f:Nat->Int} {r:List Int} {wr:World} (h:GtI W0 wm n gr f r wr) {k:Nat} {x:Int} (hk:k<n) (h0:0<=x) (h1:x<=f k):GtI W0 wm n gr f (r.set k x) (wr.setCell ⟨gr,k,none⟩ (.int .i64 x)):=by
 have hb:=aAa h.res;refine ⟨h.bel.setCell hb.1 _,h.agr.trans (Agr.setCell _ _ _ (.inl rfl)),?_,by rw [List.length_set];exact h.len,fun j hj=>?_⟩
 .have:=(h.res.stored k (.int .i64 x)).1
  rw [List.map_set];exact this
 .by_cases e:k=j
  .subst e
   have:(r.set k x).getD k 0=x:=by simp [List.getD_eq_getElem?_getD,h.len,hk]
   rw [this];exact ⟨h0,h1⟩
  .have:(r.set k x).getD j 0=r.getD j 0:=by simp [List.getD_eq_getElem?_getD,List.getElem?_set_ne e]
   rw [this];exact h.bnd j hj
theorem GtI.at_ {W0 wm:World} {n gr:Nat} {f:Nat->Int} {r:List Int} {wr:World} (h:GtI W0 wm n gr f r wr) {k:Nat} (hk:k<n):wr.cell? ⟨gr,k,none⟩=some (.int .i64 (r.getD k 0))/\wr.frozen? ⟨gr,k,none⟩=false/\gr<wr.heap.size:=by
 obtain ⟨g,e,_,h1,h2,h3⟩:=aAj h.res (j:=k) (u := .int .i64 (r.getD k 0)) (by simp [List.getD_eq_getElem?_getD,h.len,hk])
 obtain rfl:gr=g:=by simpa using e
 exact ⟨h2,h3,h1⟩
theorem aI3 (fn:FuncId) (cost:Nat × Int->Int) (hfn:∀ (x:Nat × Int) (w:World),x.1<4294967296->Calls prog fn #[.agg #[.int .u32 (x.1:Int),.int .i64 x.2]] w fun e w'=>e = .returned (.int .i64 (cost x))/\Bel w w')
  (hcall:∀ (a:Value) (w:World),(callFunc fn #[a]).run prog w = .ok (.enter fn #[a]) w)
  (v:Value) (s:Spc) (A:Option Addr) (kc:Nat) (set:List Bool) (w:World) (h:aBk w v s) (hB:aEw w A s.arcs.length set) (hl:aCy s=true) (hwf:wfS s) (hv:aCf s=true) (hall:∀ o,OrdP s.arcs set s.arcs.length o->s.arcs.length<=o.length)
  (f:Nat->Int) (hf:CostP s.arcs set s.arcs.length cost f) :
  Calls prog 70 #[v,.slice A s.arcs.length kc,.func (.func fn) #[] #[]] w fun e w'=>∃ (r:List Int) (Ao:Option Addr) (co:Nat),e = .returned (.tuple #[.slice Ao s.arcs.length co,.int .i64 0])/\r.length=s.arcs.length/\(∀ k,k<s.arcs.length->0<=r.getD k 0/\r.getD k 0<=f k)/\w'.ownsRow (w.heap.size+1) 3 1 (.slice Ao s.arcs.length co) s.arcs.length (r.map (Value.int .i64))/\Bel w w':=by
 have HS:=aA0 (fun w' (k:Bel w w')=>h.keep k);obtain ⟨_,hle,h70⟩:=aB5 hl;obtain ⟨AE,cE,AA,cA,rfl,hE,hA,_,_,_,_⟩:=h;have HA:=aA0 (fun w' (k:Bel w w')=>hA.keep k);have HSET:=aA0 (fun w' (k:Bel w w')=>hB.keep k);have hsl:set.length=s.arcs.length:=hB.1;have HTO:=aA0 (aKo hv);have HL:=aA0 hl;have HWF:=aA0 hwf;have HV:=aA0 hv;have HALL:=aA0 hall;have HF:=aA0 hf;have HFN:=aA0 hfn
 have H70:Hid (∀ k,(aA7 s.arcs k).length<=70):=fun k=>by
  unfold aA7;rw [List.getD_eq_getElem?_getD];cases hx:s.arcs[k]? with
  | none=>simp
  | some l=>exact h70 l (List.mem_of_getElem? hx)
 have HW32:Hid (∀ k,∀ x∈aA7 s.arcs k,x.1<4294967296):=fun k x hx=>by
  unfold aA7 at hx;rw [List.getD_eq_getElem?_getD] at hx;cases hk:s.arcs[k]? with
  | none=>rw [hk] at hx;cases hx
  | some l=>rw [hk] at hx;exact hwf.2 l (List.mem_of_getElem? hk) x hx
 clear hl hE hA hB hwf hv hall hf hfn h70;obtain ⟨j0,hj0,hj1,hj2,hj3⟩:=aBq aJg;obtain ⟨W0,hW0⟩:∃ W:World,W=w.alloc (.cells #[.slice AE s.enabled.length cE,.slice AA s.arcs.length cA] 42):=⟨_,rfl⟩;have e0:W0.heap.size=w.heap.size+1:=by rw [hW0];exact World.size_alloc _ _
 have HW0:Hid (Bel w W0):=by rw [hW0];exact (Bel.refl w).alloc _
 have HBX:Hid (Blk W0 w.heap.size #[.slice AE s.enabled.length cE,.slice AA s.arcs.length cA] 42):=by rw [hW0];exact Blk.new w _ _
 go_enter func70,ntmps70
 go_wp2_with (first
  | (rw [<- hW0];refine (aTq _ s _ _ set _ (HS.out _ HW0.out) (HSET.out _ HW0.out) HL.out HWF.out HV.out HALL.out).mono ?_;rintro e w1 ⟨o,Ao,co,rfl,ho,hown,hb⟩;have HO:=aA0 ho;have HOW:=aA0 hown;have HB1:=aA0 hb;clear ho hown hb)
  | (at_make;refine aB7 _ rfl 22 (.tmp 25) (.tmp 25) rfl w1.heap.size 3 j0 (.int .i64 0) 1 underlying22 hj0 hj1 hj2 .i64 .i64 s.arcs.length rfl rfl (by rw [hj3];omega) (by unfold maxLen;omega) (Nat.le_refl _) ?_;intro gr wm hown hb;rw [aB3 _ rfl] at hown;have HR:=aA0 hown;have HBm:=aA0 hb;clear hown hb))
 have hW01:=HB1.out.size;have hgr:=aAa HR.out
 have hI:GtI W0 wm s.arcs.length gr f (List.replicate s.arcs.length 0) wm:=by
  refine ⟨HB1.out.trans HBm.out,Agr.refl _ _,aAu (by rw [List.map_replicate];exact HR.out) hW01,by simp,fun k hk=>?_⟩
  have:(List.replicate s.arcs.length (0:Int)).getD k 0=0:=by simp [List.getD_eq_getElem?_getD,hk]
  rw [this];exact ⟨by omega,(HF.out.pos k hk).1⟩
 have HOm:=aA0 (HBm.out.owns HOW.out)
 have HOl:Hid (∀ q,(Value.slice Ao o.length co).ownBlock=some q->q≠gr/\q<wm.heap.size):=fun q hq=>by
  have h1:=(HOW.out.lt q hq).2;have h2:=(HOm.out.lt q hq).2;exact ⟨by omega,h2⟩
 have hol:=HO.out.len;clear HR HOW
 go_loopg [12,29] o.length (fun m _x z wr=>∃ (i:Nat) (r:List Int),i<=o.length/\m=o.length-i/\z = .int .i64 (i:Int)/\Hid (GtI W0 wm s.arcs.length gr f r wr))
 case atStart=>exact ⟨0,_,by omega,rfl,rfl,hI⟩
 case round =>
  clear hI;obtain ⟨wo,rfl⟩:∃ wo:World,wo=wr:=⟨_,rfl⟩;obtain ⟨i,r,hi,rfl,rfl,HI⟩:=hrel
  by_cases hlt:i<o.length
  .have hd0:decide (i<o.length)=true:=by simpa using hlt
   have hkn:o[i]<s.arcs.length:=HO.out.lt _ (List.getElem_mem hlt);have hag:=HI.out.agr.size;obtain ⟨g0,rfl,_,l0,c0,_⟩:=aAj (aBi HOm.out HI.out.agr (fun q hq e=>by have:=HOl.out q hq;omega)) (j:=i) (u:=aPq o[i]) (by simp [hlt])
   unfold aPq at c0;obtain ⟨k,hk⟩:∃ k,k=o[i]:=⟨_,rfl⟩;rw [<- hk] at c0 hkn;clear hk;have hkd:decide (k<s.arcs.length)=true:=by simpa using hkn
   obtain ⟨bA,oA,rfl,hbA,x1⟩:=(HSET.out _ (HW0.out.trans HI.out.bel)).at_ k (by rw [hsl];exact hkn)
   have hgs:set[k]'(by rw [hsl];exact hkn)=set.getD k false:=by simp [List.getD_eq_getElem?_getD,hsl,hkn]
   rw [hgs] at x1;cases hc:set.getD k false with
   | true =>
    rw [hc] at x1
    go_wp2_with fail
    go_roundg (o.length-(i+1))
    case rel=>exact ⟨i+1,r,by omega,rfl,by go_num,HI.out⟩
    case measure=>omega
   | false =>
    rw [hc] at x1;obtain ⟨bB,oB,R,rc,rfl,hbB,x20,hR,_,_⟩:=(HA.out _ HW0.out).at_ k hkn;have hark:s.arcs[k]=aA7 s.arcs k:=by simp [aA7,hkn]
    rw [hark] at x20 hR;have x2:=(HI.out.bel.cell hbB).trans x20;have hbB2:=Nat.lt_of_lt_of_le hbB HI.out.bel.size;have HRR:=aA0 (fun w' (kk:Bel W0 w')=>hR.keep kk);have y1:=(HBX.out.keep HI.out.bel).cell 1 (v := .slice (some ⟨bB,oB,none⟩) s.arcs.length cA) rfl;have yl:=(HBX.out.keep HI.out.bel).lt;have hJ:=H70.out k;have HGO:=aA0 (HF.out.go k hkn hc);have hfk:=(HF.out.pos k hkn).2;clear hR x20 hbB
    go_wp2_with fail
    clear c0 x1 x2 y1 yl
    go_loopg [14,43] (aA7 s.arcs k).length (fun m _y z wr=>∃ (j:Nat) (r:List Int),j<=(aA7 s.arcs k).length/\m=(aA7 s.arcs k).length-j/\z = .int .i64 (j:Int)/\Hid (GtI W0 wm s.arcs.length gr f r wr))
    case atStart=>exact ⟨0,r,by omega,rfl,rfl,HI.out⟩
    case round =>
     clear HI;obtain ⟨j,r,hj,rfl,rfl,HI⟩:=hrel
     by_cases hlt2:j<(aA7 s.arcs k).length
     .have hd1:decide (j<(aA7 s.arcs k).length)=true:=by simpa using hlt2
      obtain ⟨b2,o2,rfl,hb2,c0,c1⟩:=aAc.at_ (HRR.out _ HI.out.bel) j hlt2;have hmem:=List.getElem_mem hlt2;obtain ⟨hx1,hx2⟩:=HTO.out k _ hmem;have hx3:=HW32.out k _ hmem;obtain ⟨hx4,hx5⟩:=HGO.out _ hmem;generalize (aA7 s.arcs k)[j]=x at *;clear hmem;have htK:x.2=((toK x:Nat):Int):=by unfold toK;omega
      have htl:toK x<s.arcs.length:=by unfold toK;omega
      have HFX:Hid (∀ w,Calls prog fn #[.agg #[.int .u32 (x.1:Int),.int .i64 ((toK x:Nat):Int)]] w fun e w'=>e = .returned (.int .i64 (cost x))/\Bel w w'):=fun w=>by rw [<- htK];exact HFN.out x w hx3
      rw [htK] at c1;obtain ⟨hb0,hb1⟩:=HI.out.bnd (toK x) htl;obtain ⟨hb3,hb4⟩:=HI.out.bnd k hkn;clear htK hx1 hx2 hx3;generalize toK x=t at *;generalize x.1=S at *;generalize cost x=cx at *;have htd:decide (t<s.arcs.length)=true:=by simpa using htl
      go_wp2_with fail
      have HBX2:=aA0 (Blk.new wr #[.int .u32 (S:Int),.int .i64 (t:Int)] 108);have HIx:=aA0 (HI.out.keep ((Bel.refl wr).alloc (.cells #[.int .u32 (S:Int),.int .i64 (t:Int)] 108)));clear c0 c1 HI;generalize wr.alloc (.cells #[.int .u32 (S:Int),.int .i64 (t:Int)] 108)=wx at *;generalize wr.heap.size=bx at *;obtain ⟨rk,hrk⟩:∃ z,z=r.getD k 0:=⟨_,rfl⟩;obtain ⟨rt,hrt⟩:∃ z,z=r.getD t 0:=⟨_,rfl⟩
      have hcell:Hid (∀ w',Bel wx w'->w'.cell? ⟨gr,k,none⟩=some (.int .i64 rk)/\w'.cell? ⟨gr,t,none⟩=some (.int .i64 rt)/\w'.cell? ⟨bx,0,none⟩=some (.int .u32 (S:Int))/\w'.cell? ⟨bx,1,none⟩=some (.int .i64 (t:Int))/\bx<w'.heap.size/\gr<w'.heap.size):=fun w' kk=>by
       have h1:=(HIx.out.keep kk).at_ hkn;have h2:=(HIx.out.keep kk).at_ htl;rw [<- hrk] at h1;rw [<- hrt] at h2;exact ⟨h1.1,h2.1,(HBX2.out.keep kk).cell 0 rfl,(HBX2.out.keep kk).cell 1 rfl,(HBX2.out.keep kk).lt,h1.2.2⟩
      rw [<- hrt] at hb0 hb1;rw [<- hrk] at hb3 hb4;have HRK:=aA0 hrk;clear hrk hrt;have e1:IntKind.i64.wrap (cx+rt)=cx+rt:=IntWalk.i64_in _ (by omega)
      refine aA4.start (fun w'=>w'.cell? ⟨gr,k,none⟩=some (.int .i64 rk)/\w'.cell? ⟨gr,t,none⟩=some (.int .i64 rt)/\w'.cell? ⟨bx,0,none⟩=some (.int .u32 (S:Int))/\w'.cell? ⟨bx,1,none⟩=some (.int .i64 (t:Int))/\bx<w'.heap.size/\gr<w'.heap.size) 17 (by kernel_rfl) ?_
      have HB:=(Bel.refl wx).drew;have hHeld:=hcell.out _ HB
      (refine aA4.u (v:=?_) 0 47 rfl hHeld ?_ ?_;rotate_left 1;focus (intro w' hSw;(try dsimp only at hSw);go_simp;(try with_reducible rfl);done));(refine aA4.u (v:=?_) 1 48 rfl hHeld ?_ ?_;rotate_left 1;focus (intro w' hSw;(try dsimp only at hSw);go_simp;(try with_reducible rfl);done));(refine aA4.u (v:=?_) 2 49 rfl hHeld ?_ ?_;rotate_left 1;focus (intro w' hSw;(try dsimp only at hSw);go_simp;(try with_reducible rfl);done));(refine aA4.u (v:=?_) 3 50 rfl hHeld ?_ ?_;rotate_left 1;focus (intro w' hSw;(try dsimp only at hSw);go_simp;(try with_reducible rfl);done));(refine aA4.u (v:=?_) 4 51 rfl hHeld ?_ ?_;rotate_left 1;focus (intro w' hSw;(try dsimp only at hSw);go_simp;(try with_reducible rfl);done));(refine aA4.u (v:=?_) 5 52 rfl hHeld ?_ ?_;rotate_left 1;focus (intro w' hSw;(try dsimp only at hSw);go_simp;(try with_reducible rfl);done));(refine aA4.u (v:=?_) 6 53 rfl hHeld ?_ ?_;rotate_left 1;focus (intro w' hSw;(try dsimp only at hSw);go_simp;(try with_reducible rfl);done));(refine aA4.u (v:=?_) 7 54 rfl hHeld ?_ ?_;rotate_left 1;focus (intro w' hSw;(try dsimp only at hSw);go_simp;(try with_reducible rfl);done))
      (refine aA4.u (v:=?_) 9 56 rfl hHeld ?_ ?_;rotate_left 1;focus (intro w' hSw;(try dsimp only at hSw);go_simp;(try with_reducible rfl);done));(refine aA4.u (v:=?_) 10 57 rfl hHeld ?_ ?_;rotate_left 1;focus (intro w' hSw;(try dsimp only at hSw);go_simp;(try with_reducible rfl);done));(refine aA4.u (v:=?_) 11 58 rfl hHeld ?_ ?_;rotate_left 1;focus (intro w' hSw;(try dsimp only at hSw);go_simp;(try with_reducible rfl);done));(refine aA4.u (v:=?_) 12 59 rfl hHeld ?_ ?_;rotate_left 1;focus (intro w' hSw;(try dsimp only at hSw);go_simp;(try with_reducible rfl);done));(refine aA4.u (v:=?_) 13 60 rfl hHeld ?_ ?_;rotate_left 1;focus (intro w' hSw;(try dsimp only at hSw);go_simp;(try with_reducible rfl);done))
      clear hHeld;refine aA4.one (i:=8) (by kernel_rfl) rfl (fun K hK=>?_)
      go_simp
      refine (HFX.out _).mono ?_
      rintro e w4 ⟨rfl,hbl⟩;have HB4:=HB.trans hbl
      (try go_simp)
      refine hK.out _ _ (fun _=>hcell.out _ HB4) ?_
      clear hK K
      (try simp only [Act.put,List.setIfInBounds_toArray,List.set_cons_zero,List.set_cons_succ])
      have hHeld:=hcell.out _ HB4;have hI4:=(HIx.out.keep HB4).at_ hkn;obtain ⟨q1,q2,q3⟩:=hI4
      (refine aA4.u (v:=?_) 14 61 rfl hHeld ?_ ?_;rotate_left 1;focus (intro w' hSw;(try dsimp only at hSw);go_simp;(try with_reducible rfl);done));(refine aA4.u (v:=?_) 15 62 rfl hHeld ?_ ?_;rotate_left 1;focus (intro w' hSw;(try dsimp only at hSw);go_simp;(try with_reducible rfl);done));(refine aA4.u (v:=?_) 16 63 rfl hHeld ?_ ?_;rotate_left 1;focus (intro w' hSw;(try dsimp only at hSw);go_simp;(try with_reducible rfl);done))
      (refine aA4.one (i:=17) (by kernel_rfl) rfl (fun K hK=>?_));go_simp;refine hK.out _ _ (fun h=>absurd rfl h) ?_;clear hK K;refine aA4.done (by kernel_rfl) ?_ _;(try simp only [Act.put,List.setIfInBounds_toArray,List.set_cons_zero,List.set_cons_succ])
      clear hHeld q1 q2 q3
      go_wp2_with fail
      go_roundg ((aA7 s.arcs k).length-(j+1))
      case rel=>exact ⟨j+1,r.set k (max rk (cx+rt)),by omega,rfl,by go_num,(HIx.out.keep HB4).put hkn (by omega) (by omega)⟩
      case measure=>omega
     .obtain rfl:j=(aA7 s.arcs k).length:=by omega
      have hd1:decide ((aA7 s.arcs k).length<(aA7 s.arcs k).length)=false:=by simp
      go_wp2_with fail
      go_roundg (o.length-(i+1))
      case rel=>exact ⟨i+1,r,by omega,rfl,by go_num,HI.out⟩
      case measure=>omega
  .obtain rfl:i=o.length:=by omega
   have hd0:decide (o.length<o.length)=false:=by simp
   go_wp2_with fail
   refine bodyPost_ret (v := .tuple #[.slice (some ⟨gr,0,none⟩) s.arcs.length s.arcs.length,.int .i64 0]) (by simp [results,Tryz.results70]) rfl ?_
   exact ⟨r,_,_,rfl,HI.out.len,HI.out.bnd,by rw [<- e0];exact HI.out.res,HW0.out.trans HI.out.bel⟩
theorem aUx (x:Nat × Int) (w:World) (hx:x.1<4294967296):Calls prog 71 #[.agg #[.int .u32 (x.1:Int),.int .i64 x.2]] w fun e w'=>e = .returned (.int .i64 ((aAd x.1).length:Int))/\Bel w w':=by
 have hb0:=aA0 ((Bel.refl w).alloc (.cells #[.int .u32 (x.1:Int),.int .i64 x.2] 108));go_enter func71,ntmps71
 go_wp2_with (refine (aPt x.1 _ hx).mono ?_;rintro e w1 ⟨rfl,hb⟩;have HB1:=aA0 (hb0.out.trans hb);clear hb)
 refine bodyPost_ret (v := .int .i64 ((aAd x.1).length:Int)) (by simp [results,Tryz.results71]) rfl ⟨rfl,HB1.out⟩
theorem aLc (v:Value) (s:Spc) (A:Option Addr) (kc:Nat) (set:List Bool) (w:World) (h:aBk w v s) (hB:aEw w A s.arcs.length set) (hl:aCy s=true) (hwf:wfS s) (hv:aCf s=true) (hall:∀ o,OrdP s.arcs set s.arcs.length o->s.arcs.length<=o.length)
  (f:Nat->Int) (hf:CostP s.arcs set s.arcs.length (fun x=>((aAd x.1).length:Int)) f) :
  Calls prog 31 #[v,.slice A s.arcs.length kc] w fun e w'=>∃ (r:List Int) (Ao:Option Addr) (co:Nat),e = .returned (.tuple #[.slice Ao s.arcs.length co,.int .i64 0])/\r.length=s.arcs.length/\(∀ k,k<s.arcs.length->0<=r.getD k 0/\r.getD k 0<=f k)/\w'.ownsRow (w.heap.size+1) 3 1 (.slice Ao s.arcs.length co) s.arcs.length (r.map (Value.int .i64))/\Bel w w':=by
 have HS:=aA0 (fun w' (k:Bel w w')=>h.keep k);obtain ⟨AE,cE,AA,cA,rfl,hE,hA,_,_,_,_⟩:=h;have HSET:=aA0 (fun w' (k:Bel w w')=>hB.keep k);have HL:=aA0 hl;have HWF:=aA0 hwf;have HV:=aA0 hv;have HALL:=aA0 hall;have HF:=aA0 hf;clear hl hE hA hB hwf hv hall hf;have hb0:=aA0 ((Bel.refl w).alloc (.cells #[.slice AE s.enabled.length cE,.slice AA s.arcs.length cA] 42));have hle:w.heap.size+1<=(w.alloc (.cells #[.slice AE s.enabled.length cE,.slice AA s.arcs.length cA] 42)).heap.size+1:=by simp
 go_enter func31,ntmps31
 go_wp2_with (refine (aI3 71 (fun x=>((aAd x.1).length:Int)) (fun x w hx=>aUx x w hx) (fun a w=>by kernel_rfl) _ s _ _ set _ (HS.out _ hb0.out) (HSET.out _ hb0.out) HL.out HWF.out HV.out HALL.out f HF.out).mono ?_;rintro e w1 ⟨r,Ao,co,rfl,hr,hbn,hown,hb⟩;have HB1:=aA0 (hb0.out.trans hb);have HR:=aA0 hown;have HBN:=aA0 hbn;clear hown hb hbn)
 refine bodyPost_ret (v := .tuple #[.slice Ao s.arcs.length co,.int .i64 0]) (by simp [results,Tryz.results31]) rfl ?_
 exact ⟨r,Ao,co,rfl,hr,HBN.out,aAu HR.out hle,HB1.out⟩
theorem aVy (x:Nat × Int) (w:World):Calls prog 90 #[.agg #[.int .u32 (x.1:Int),.int .i64 x.2]] w fun e w'=>e = .returned (.int .i64 1)/\Bel w w':=by
 have hb0:=aA0 ((Bel.refl w).alloc (.cells #[.int .u32 (x.1:Int),.int .i64 x.2] 108));go_enter func90,ntmps90
 go_wp2_with fail
 refine bodyPost_ret (v := .int .i64 1) (by simp [results,Tryz.results90]) rfl ⟨rfl,hb0.out⟩
theorem aSk (v:Value) (s:Spc) (A:Option Addr) (kc:Nat) (set:List Bool) (w:World) (h:aBk w v s) (hB:aEw w A s.arcs.length set) (hl:aCy s=true) (hwf:wfS s) (hv:aCf s=true) (hall:∀ o,OrdP s.arcs set s.arcs.length o->s.arcs.length<=o.length)
  (f:Nat->Int) (hf:CostP s.arcs set s.arcs.length (fun _=>1) f) :
  Calls prog 45 #[v,.slice A s.arcs.length kc] w fun e w'=>∃ (r:List Int) (Ao:Option Addr) (co:Nat),e = .returned (.tuple #[.slice Ao s.arcs.length co,.int .i64 0])/\r.length=s.arcs.length/\(∀ k,k<s.arcs.length->0<=r.getD k 0/\r.getD k 0<=f k)/\w'.ownsRow (w.heap.size+1) 3 1 (.slice Ao s.arcs.length co) s.arcs.length (r.map (Value.int .i64))/\Bel w w':=by
 have HS:=aA0 (fun w' (k:Bel w w')=>h.keep k);obtain ⟨AE,cE,AA,cA,rfl,hE,hA,_,_,_,_⟩:=h;have HSET:=aA0 (fun w' (k:Bel w w')=>hB.keep k);have HL:=aA0 hl;have HWF:=aA0 hwf;have HV:=aA0 hv;have HALL:=aA0 hall;have HF:=aA0 hf;clear hl hE hA hB hwf hv hall hf;have hb0:=aA0 ((Bel.refl w).alloc (.cells #[.slice AE s.enabled.length cE,.slice AA s.arcs.length cA] 42));have hle:w.heap.size+1<=(w.alloc (.cells #[.slice AE s.enabled.length cE,.slice AA s.arcs.length cA] 42)).heap.size+1:=by simp
 go_enter func45,ntmps45
 go_wp2_with (refine (aI3 90 (fun _=>1) (fun x w hx=>aVy x w) (fun a w=>by kernel_rfl) _ s _ _ set _ (HS.out _ hb0.out) (HSET.out _ hb0.out) HL.out HWF.out HV.out HALL.out f HF.out).mono ?_;rintro e w1 ⟨r,Ao,co,rfl,hr,hbn,hown,hb⟩;have HB1:=aA0 (hb0.out.trans hb);have HR:=aA0 hown;have HBN:=aA0 hbn;clear hown hb hbn)
 refine bodyPost_ret (v := .tuple #[.slice Ao s.arcs.length co,.int .i64 0]) (by simp [results,Tryz.results45]) rfl ?_
 exact ⟨r,Ao,co,rfl,hr,HBN.out,aAu HR.out hle,HB1.out⟩
theorem aQ9 (v:Value) (s:Spc) (k S T t:Nat) (w:World) (h:aBk w v s) (hwf:wfS s) (hS:S<4294967296) (hT:T<4294967296) (ht:t<s.enabled.length) :
  Calls prog 74 #[v,pv (k,S),.agg #[.int .u32 (T:Int),.int .i64 (t:Int)]] w fun e w'=>e = .returned (.tuple #[pv (t,aEp S T (s.enabled.getD t 0)),.bool (aS8 S T (s.enabled.getD t 0))])/\Bel w w':=by
 obtain ⟨AE,cE,AA,cA,rfl,hE,hA,_,_,_,_⟩:=h;obtain ⟨bE,oE,rfl,hbE0,e0⟩:=hE.at_ t ht;clear hE hA
 have hEl:s.enabled.getD t 0<4294967296:=by
  rw [List.getD_eq_getElem?_getD,List.getElem?_eq_getElem ht];exact hwf.1 _ (List.getElem_mem ht)
 have hgd:s.enabled[t]=s.enabled.getD t 0:=by simp [List.getD_eq_getElem?_getD,ht]
 unfold pv;dsimp only;obtain ⟨W,hW⟩:∃ W:World,W=(((w.alloc (.cells #[.slice (some ⟨bE,oE,none⟩) s.enabled.length cE,.slice AA s.arcs.length cA] 42)).alloc (.cells #[.int .i64 (k:Int),.int .u32 (S:Int)] 150)).alloc (.cells #[.int .u32 (T:Int),.int .i64 (t:Int)] 108)).alloc (.cells #[.int .i64 0,.int .u32 0] 150):=⟨_,rfl⟩;have HB:Hid (Bel w W):=by rw [hW];exact ((((Bel.refl w).alloc _).alloc _).alloc _).alloc _
 have h1:Hid (Blk W w.heap.size #[.slice (some ⟨bE,oE,none⟩) s.enabled.length cE,.slice AA s.arcs.length cA] 42):=by rw [hW];exact (((Blk.new w _ _).alloc _).alloc _).alloc _
 have h2:Hid (Blk W (w.heap.size+1) #[.int .i64 (k:Int),.int .u32 (S:Int)] 150):=by rw [hW];have:=Blk.new (w.alloc (.cells #[.slice (some ⟨bE,oE,none⟩) s.enabled.length cE,.slice AA s.arcs.length cA] 42)) #[.int .i64 (k:Int),.int .u32 (S:Int)] 150;rw [World.size_alloc] at this;exact (this.alloc _).alloc _
 have h3:Hid (Blk W (w.heap.size+1+1) #[.int .u32 (T:Int),.int .i64 (t:Int)] 108):=by rw [hW];have:=Blk.new ((w.alloc (.cells #[.slice (some ⟨bE,oE,none⟩) s.enabled.length cE,.slice AA s.arcs.length cA] 42)).alloc (.cells #[.int .i64 (k:Int),.int .u32 (S:Int)] 150)) #[.int .u32 (T:Int),.int .i64 (t:Int)] 108;rw [World.size_alloc,World.size_alloc] at this;exact this.alloc _
 have h4:Hid (Blk W (w.heap.size+1+1+1) #[.int .i64 0,.int .u32 0] 150):=by rw [hW];have:=Blk.new (((w.alloc (.cells #[.slice (some ⟨bE,oE,none⟩) s.enabled.length cE,.slice AA s.arcs.length cA] 42)).alloc (.cells #[.int .i64 (k:Int),.int .u32 (S:Int)] 150)).alloc (.cells #[.int .u32 (T:Int),.int .i64 (t:Int)] 108)) #[.int .i64 0,.int .u32 0] 150;rw [World.size_alloc,World.size_alloc,World.size_alloc] at this;exact this
 go_enter func74,ntmps74
 go_upto_region 1 with fail
 rw [<- hW];clear hW;have hBS:=HB.out.size;have e1:=(HB.out.cell hbE0).trans e0;have hbE:bE<W.heap.size:=by omega
 clear e0 hBS;generalize hBw:w.heap.size=B at *;have x0:=h1.out.cell 0 (v := .slice (some ⟨bE,oE,none⟩) s.enabled.length cE) rfl;have xl:=h1.out.lt;have y1:=h2.out.cell 1 (v := .int .u32 (S:Int)) rfl;have yl:=h2.out.lt;have z0:=h3.out.cell 0 (v := .int .u32 (T:Int)) rfl;have z1:=h3.out.cell 1 (v := .int .i64 (t:Int)) rfl;have zl:=h3.out.lt;rw [hgd] at e1;generalize hEE:s.enabled.getD t 0=E at *;have htd:decide (t<s.enabled.length)=true:=by simpa using ht
 have hbn:=aEl S T;have hba:bits .and .u32 ((aCg S T:Nat):Int) (E:Int)=((aCg S T&&&E:Nat):Int):=aCs (aPm S T) hEl;have hDl:aCg S T&&&E<4294967296:=Nat.lt_of_le_of_lt Nat.and_le_right hEl;have hAF:Hid (aEp S T E=if aCg S T&&&E=0 then E else aCg S T&&&E):=rfl
 have hFU:Hid (aS8 S T E=decide (aCg S T&&&E=0)):=rfl
 go_quiet (fail)
 have HBd:=aA0 (HB.out.trans ((Bel.refl W).drewN nq));have k1:=aA0 (h1.out.keep ((Bel.refl W).drewN nq));have k3:=aA0 (h3.out.keep ((Bel.refl W).drewN nq));have k4:=aA0 (h4.out.keep ((Bel.refl W).drewN nq));have kE:Hid ((W.drewN nq).cell? ⟨bE,oE+t,none⟩=some (.int .u32 (E:Int))/\bE<(W.drewN nq).heap.size):=⟨e1,hbE⟩;clear x0 xl y1 yl z0 z1 zl e1 hbE h1 h2 h3 h4 HB hbn hba;generalize W.drewN nq=V at *;generalize aCg S T&&&E=D at *;obtain ⟨e1,hbE⟩:=kE.out;have x0:=k1.out.cell 0 (v := .slice (some ⟨bE,oE,none⟩) s.enabled.length cE) rfl;have xl:=k1.out.lt;have z1:=k3.out.cell 1 (v := .int .i64 (t:Int)) rfl;have zl:=k3.out.lt;have r0:=k4.out.cell 0 (v := .int .i64 0) rfl;have r1:=k4.out.cell 1 (v := .int .u32 0) rfl;have q0:=k4.out.frozen 0;have q1:=k4.out.frozen 1;have rl:=k4.out.lt
 by_cases hD:D=0
 .subst hD
  go_wp2_with fail
  have hHeld0:=aA0 (show (fun w':World=>w'.cell? ⟨bE,oE+t,none⟩=some (.int .u32 (E:Int))/\w'.cell? ⟨B,0,none⟩=some (.slice (some ⟨bE,oE,none⟩) s.enabled.length cE)/\w'.cell? ⟨B+1+1,1,none⟩=some (.int .i64 (t:Int))/\bE<w'.heap.size/\B<w'.heap.size/\B+1+1<w'.heap.size) V.drew from ⟨e1,x0,z1,hbE,xl,zl⟩)
  refine aA4.start (fun w':World=>w'.cell? ⟨bE,oE+t,none⟩=some (.int .u32 (E:Int))/\w'.cell? ⟨B,0,none⟩=some (.slice (some ⟨bE,oE,none⟩) s.enabled.length cE)/\w'.cell? ⟨B+1+1,1,none⟩=some (.int .i64 (t:Int))/\bE<w'.heap.size/\B<w'.heap.size/\B+1+1<w'.heap.size) 10 (by kernel_rfl) ?_
  have hHeld:=hHeld0.out;dsimp only at hHeld
  (refine aA4.u (v:=?_) 0 23 rfl hHeld ?_ ?_;rotate_left 1;focus (intro w' hSw;(try dsimp only at hSw);go_simp;(try with_reducible rfl);done));(refine aA4.u (v:=?_) 1 24 rfl hHeld ?_ ?_;rotate_left 1;focus (intro w' hSw;(try dsimp only at hSw);go_simp;(try with_reducible rfl);done));(refine aA4.u (v:=?_) 2 25 rfl hHeld ?_ ?_;rotate_left 1;focus (intro w' hSw;(try dsimp only at hSw);go_simp;(try with_reducible rfl);done));(refine aA4.u (v:=?_) 3 26 rfl hHeld ?_ ?_;rotate_left 1;focus (intro w' hSw;(try dsimp only at hSw);go_simp;(try with_reducible rfl);done));(refine aA4.u (v:=?_) 4 27 rfl hHeld ?_ ?_;rotate_left 1;focus (intro w' hSw;(try dsimp only at hSw);go_simp;(try with_reducible rfl);done));(refine aA4.u (v:=?_) 5 28 rfl hHeld ?_ ?_;rotate_left 1;focus (intro w' hSw;(try dsimp only at hSw);go_simp;(try with_reducible rfl);done));(refine aA4.u (v:=?_) 6 29 rfl hHeld ?_ ?_;rotate_left 1;focus (intro w' hSw;(try dsimp only at hSw);go_simp;(try with_reducible rfl);done));(refine aA4.u (v:=?_) 7 30 rfl hHeld ?_ ?_;rotate_left 1;focus (intro w' hSw;(try dsimp only at hSw);go_simp;(try with_reducible rfl);done));(refine aA4.u (v:=?_) 8 31 rfl hHeld ?_ ?_;rotate_left 1;focus (intro w' hSw;(try dsimp only at hSw);go_simp;(try with_reducible rfl);done))
  clear hHeld;have a1:=Agr.setCell (E:=fun q=>q=B+1+1+1) V ⟨B+1+1+1,0,none⟩ (.int .i64 (t:Int)) rfl;have a2:=(a1.trans (Agr.setCell (E:=fun q=>q=B+1+1+1) (V.setCell ⟨B+1+1+1,0,none⟩ (.int .i64 (t:Int))) ⟨B+1+1+1,1,none⟩ (.int .u32 (E:Int)) rfl)).drew;have c1:=(a2.cell (k:=bE) (o:=oE+t) hbE (by omega)).trans e1
  have c2:=(a2.cell (k:=B) (o:=0) xl (by omega)).trans x0
  have c3:=(a2.cell (k:=B+1+1) (o:=1) zl (by omega)).trans z1
  have hsz:=a2.size;have HM:=aA0 (((k4.out.set 0 (.int .i64 (t:Int))).set 1 (.int .u32 (E:Int))).drew);have HBF:=aA0 ((((HBd.out).setCell (p:=⟨B+1+1+1,0,none⟩) (by dsimp only;omega) (.int .i64 (t:Int))).setCell (p:=⟨B+1+1+1,1,none⟩) (by dsimp only;omega) (.int .u32 (E:Int))).drew)
  clear a1 a2;refine aA4.one (i:=9) (by kernel_rfl) rfl (fun K hK=>?_)
  go_simp
  refine hK.out _ _ (fun _=>⟨c1,c2,c3,by omega,by omega,by omega⟩) ?_
  clear hK K
  (try simp only [Act.put,List.setIfInBounds_toArray,List.set_cons_zero,List.set_cons_succ])
  generalize ((V.setCell ⟨B+1+1+1,0,none⟩ (.int .i64 (t:Int))).setCell ⟨B+1+1+1,1,none⟩ (.int .u32 (E:Int))).drew=V2 at *;refine aA4.one (i:=10) (by kernel_rfl) rfl (fun K hK=>?_)
  go_simp
  refine hK.out _ _ (fun h=>absurd rfl h) ?_
  clear hK K;refine aA4.done (by kernel_rfl) ?_ _
  (try simp only [Act.put,List.setIfInBounds_toArray,List.set_cons_zero,List.set_cons_succ])
  go_wp2_with fail
  have m0:=HM.out.cell 0 (v := .int .i64 (t:Int)) rfl;have m1:=HM.out.cell 1 (v := .int .u32 (E:Int)) rfl;refine bodyPost_ret (v := .tuple #[.agg #[.int .i64 (t:Int),.int .u32 (E:Int)],.bool true]) (by simp [results,Tryz.results74,go_sem,m0,m1]) rfl ⟨?_,HBF.out⟩
  (try rw [hEE]);rw [hAF.out,hFU.out];simp
 .have hD0:((D:Int)==0)=false:=by rw [beq_eq_false_iff_ne];omega
  go_wp2_with fail
  have M:=k4.out.set 0 (.int .i64 (t:Int)) |>.set 1 (.int .u32 (D:Int));have m0:=M.cell 0 (v := .int .i64 (t:Int)) rfl;have m1:=M.cell 1 (v := .int .u32 (D:Int)) rfl;refine bodyPost_ret (v := .tuple #[.agg #[.int .i64 (t:Int),.int .u32 (D:Int)],.bool false]) (by simp [results,Tryz.results74,go_sem,m0,m1]) rfl ⟨?_,(HBd.out.setCell (by dsimp only;omega) _).setCell (by dsimp only;omega) _⟩
  (try rw [hEE]);rw [hAF.out,hFU.out];simp [hD]
open Go.RowKit Go.Maps
theorem bI9 {H:Type} {w:World} {P:Program} {k:TypeId} {R:Value->Option (DataW H × List MemPlace)} {b n:Nat} {D:DataW H} (h:w.ownsMap P k R b n D) {N e size m:Nat} {v:Value} {xs:List Value} (ho:w.ownsRow N e size v m xs):v.ownBlock=none∨v.ownBlock≠some b:=by
 obtain ⟨es,clock,hb,_⟩:=h
 rcases ho.2 with ⟨hv,_⟩ | ⟨g,cap,cur,hv,_,hg,_⟩
 .left;rw [hv];rfl
 .right;rw [hv]
  intro e
  have:g=b:=by simpa [Value.ownBlock] using e
  subst this;rw [hg] at hb;cases hb
theorem aM0.off {P:Program} {k e:TypeId} {w:World} {b n:Nat} {ks:List Lit} (h:aM0 P k e w b n ks) {N e' size m:Nat} {v:Value} {xs:List Value} (ho:w.ownsRow N e' size v m xs):v.ownBlock=none∨v.ownBlock≠some b:=by
 obtain ⟨D,h1,_⟩:=h;exact bI9 h1 ho
theorem aM0.blk {P:Program} {k e:TypeId} {w:World} {b n:Nat} {ks:List Lit} (h:aM0 P k e w b n ks) {q:Nat} {cs:Array Value} {t:TypeId} (hb:Blk w q cs t):q≠b:=by
 obtain ⟨D,⟨es,clock,h1,_⟩,_⟩:=h;rintro rfl;rw [hb] at h1;cases h1
theorem aM0.setCell {P:Program} {k e:TypeId} {w:World} {b n:Nat} {ks:List Lit} (h:aM0 P k e w b n ks) {a:Addr} (ha:b≠a.block) (u:Value):aM0 P k e (w.setCell a u) b n ks:=by
 obtain ⟨D,h1,h2⟩:=h;exact ⟨D,h1.setCell ha u,h2⟩
def pc (x:Nat × Nat):List Value:=[.int .i64 (x.1:Int),.int .u32 (x.2:Int)]
def aKs (N:Nat) (w w':World):Prop:=∀ {e size n:Nat} {v:Value} {xs:List Value},(e=39∨e=46)->w.ownsRow N e size v n xs->w'.ownsRow N e size v n xs
theorem aKs.of_bel {N:Nat} {w w':World} (h:Bel w w'):aKs N w w':=fun _ ho=>h.owns ho
theorem aKs.trans {N:Nat} {a b c:World} (h:aKs N a b) (k:aKs N b c):aKs N a c:=fun he ho=>k he (h he ho)
structure AddI (W0:World) (b3 b6 b7 bm:Nat) (A:Option Addr) (kc n:Nat) (set:List Bool) (G:Nat->Nat->Prop) (Q:List (Nat × Nat)) (w:World):Prop where
 bel:Bel W0 w
 lo:W0.heap.size<=b3/\W0.heap.size<=b6/\W0.heap.size<=b7/\W0.heap.size<=bm
 ne:b3≠b7/\b6≠b7
 leg:Blk w b3 #[.slice A n kc] 45
 mbx:Blk w b6 #[.map (some bm)] 204
 que:∃ Aq cq,Blk w b7 #[.slice Aq Q.length cq] 205/\w.ownsRow W0.heap.size 150 2 (.slice Aq Q.length cq) Q.length (Q.flatMap pc)
 map:∃ ks nm,aM0 prog 150 4 w bm nm ks/\nm<=Q.length/\∀ x,okP x->(sk x∈ks↔x∈Q)
 qup:QuP set n G Q
theorem AddI.keep {W0:World} {b3 b6 b7 bm:Nat} {A:Option Addr} {kc n:Nat} {set:List Bool} {G:Nat->Nat->Prop} {Q:List (Nat × Nat)} {w w':World} (h:AddI W0 b3 b6 b7 bm A kc n set G Q w) (k:Bel w w'):AddI W0 b3 b6 b7 bm A kc n set G Q w':=by
 obtain ⟨Aq,cq,h1,h2⟩:=h.que;obtain ⟨ks,nm,h3,h4,h5⟩:=h.map;exact ⟨h.bel.trans k,h.lo,h.ne,h.leg.keep k,h.mbx.keep k,⟨Aq,cq,h1.keep k,k.owns h2⟩,⟨ks,nm,h3.keep k,h4,h5⟩,h.qup⟩
def bMw (w:World) (b7 X:Nat):Prop:=∀ v,w.cell? ⟨b7,0,none⟩=some v->v.ownBlock≠some X
theorem bMw.keep {w w':World} {b7 X:Nat} (h:bMw w b7 X) (k:Bel w w') (hb:b7<w.heap.size):bMw w' b7 X:=fun v hv=>h v (by rw [<- k.cell hb];exact hv)
theorem bFh:(prog.info? 150).map (fun i=>(i.zero,i.size,i.bytes))=some (some (.agg #[.int .i64 0,.int .u32 0]),2,16):=by kernel_rfl
theorem bGv {W0:World} {b3 b6 b7 bm:Nat} {A:Option Addr} {kc n:Nat} {set:List Bool} {G:Nat->Nat->Prop} {Q:List (Nat × Nat)} {w:World} (h:AddI W0 b3 b6 b7 bm A kc n set G Q w) (hB:aEw W0 A n set) (hn:n<=700) (x:Nat × Nat) (hx:x.1<n) (hx2:x.2<16) (hG:set.getD x.1 false=false->G x.1 x.2) :
  Calls prog 117 #[pv x,.pointer (some ⟨b3,0,none⟩),.pointer (some ⟨b6,0,none⟩),.pointer (some ⟨b7,0,none⟩)] w fun e w'=>(∃ u,e = .returned u)/\(∃ Q',Q'.length<=Q.length+1/\(∃ R,Q'=Q++R)/\AddI W0 b3 b6 b7 bm A kc n set G Q' w')/\aKs W0.heap.size w w'/\∀ (X:Nat) (cs:Array Value) (t:TypeId),Blk w X cs t->X≠b7->bMw w b7 X->Blk w' X cs t/\bMw w' b7 X:=by
 obtain ⟨k,S⟩:=x;dsimp only at hx hx2 hG;have hok:okP (k,S):=⟨by show k<1000000;omega,by show S<4294967296;omega⟩
 obtain ⟨i0,hi0,hi1,hi2,hi3⟩:=aBq bFh;have hb0:=aA0 ((Bel.refl w).alloc (.cells #[.int .i64 (k:Int),.int .u32 (S:Int)] 150));have HI:=aA0 (h.keep hb0.out);have HX:=aA0 (Blk.new w #[.int .i64 (k:Int),.int .u32 (S:Int)] 150);obtain ⟨bA,oA,rfl,hbA,c0⟩:=(hB.keep HI.out.bel).at_ k (by rw [hB.1];exact hx)
 have hgs:set[k]'(by rw [hB.1];exact hx)=set.getD k false:=by simp [List.getD_eq_getElem?_getD,hB.1,hx]
 rw [hgs] at c0;have x1:=HI.out.leg.cell 0 (v := .slice (some ⟨bA,oA,none⟩) n kc) rfl;have x2:=HI.out.leg.lt;have y1:=HI.out.mbx.cell 0 (v := .map (some bm)) rfl;have y2:=HI.out.mbx.lt;obtain ⟨ks,nm,hS,hnm,hks⟩:=HI.out.map;obtain ⟨z,hz,hzi⟩:=hS.look aVc underlying204 underlying4 (aPj _) (pairKey.keyOf hok);rw [hks _ hok] at hzi;have HSM:=aA0 hS;have HKS:=aA0 hks;have HZI:=aA0 hzi;have hkd:decide (k<n)=true:=by simpa using hx
 have hH7:b7<w.heap.size:=by obtain ⟨_,_,hq,_⟩:=h.que;exact hq.lt
 have HBB:=aA0 hB;have hql:=HI.out.qup.len;clear h hB hS hks hzi hgs;unfold pv at hz ⊢;dsimp only at hz ⊢;go_enter func117,ntmps117;cases hc:set.getD k false with
 | true =>
  rw [hc] at c0
  go_wp2_with fail
  go_end0
  exact ⟨⟨_,rfl⟩,⟨Q,by omega,⟨[],by simp⟩,HI.out⟩,aKs.of_bel hb0.out,fun X cs t hb _ hq=>⟨hb.keep hb0.out,hq.keep hb0.out hH7⟩⟩
 | false =>
  rw [hc] at c0;cases z with
  | true =>
   go_wp2_with fail
   go_end0
   exact ⟨⟨_,rfl⟩,⟨Q,by omega,⟨[],by simp⟩,HI.out⟩,aKs.of_bel hb0.out,fun X cs t hb _ hq=>⟨hb.keep hb0.out,hq.keep hb0.out hH7⟩⟩
  | false =>
   have hnq:(k,S) ∉ Q:=fun hm=>by have:=HZI.out.2 hm;cases this
   obtain ⟨Aq,cq,hqb,hqo⟩:=HI.out.que;have HQB:=aA0 hqb;have HQO:=aA0 hqo;obtain ⟨l3,l6,l7,lm⟩:=HI.out.lo;obtain ⟨n37,n67⟩:=HI.out.ne;have m7:=HSM.out.blk hqb;have m3:=HSM.out.blk HI.out.leg;have m6:=HSM.out.blk HI.out.mbx;have mX:=HSM.out.blk HX.out;have hws:=HI.out.bel.size;clear hqb hqo
   go_wp2_with (first
    | (at_mapUpdate;refine aGg _ rfl (.tmp 17) (.tmp 18) (.const (.bool true)) 204 rfl 150 4 aVc underlying204 underlying4 bm nm ks rfl HSM.out (by unfold maxLen;omega) (pv (k,S)) (sk (k,S)) rfl rfl (pairKey.keyOf hok) trivial ?_;intro w2 hset hgr;have HST:=aA0 hset;have HGR:=aA0 hgr;have HB2:=aA0 (HI.out.bel.map lm hgr);have HX2:=aA0 (HX.out.grown hgr (by intro e;injection e with e;exact mX e));have HQ2:=aA0 (HQB.out.grown hgr (by intro e;injection e with e;exact m7 e));have HO2:=aA0 (World.ownsRow.kept HQO.out hgr (HSM.out.off HQO.out));have q7:=HQ2.out.cell 0 (v := .slice Aq Q.length cq) rfl;have q7l:=HQ2.out.lt;have p0:=HX2.out.cell 0 (v := .int .i64 (k:Int)) rfl;have p1:=HX2.out.cell 1 (v := .int .u32 (S:Int)) rfl;have pl:=HX2.out.lt;have hw2:=HB2.out.size;clear hset hgr)
    | (at_builtin;refine aBr _ rfl (.tmp 19) (.tmp 21) 205 rfl W0.heap.size 150 i0 (.agg #[.int .i64 0,.int .u32 0]) 2 16 underlying205 hi0 hi1 hi2 hi3 rfl (by decide) Aq Q.length cq (Q.flatMap pc) (by simp [Act.eval]) (HO2.out.alloc _) w2.heap.size #[.int .i64 (k:Int),.int .u32 (S:Int)] 150 (0,0) (by simp [Act.eval]) (aAx _ _) rfl (bDq _ _ _ _) (by unfold maxLen;omega) (by omega) (by simp;omega) ?_;intro Aq' cq' w4 hown hgr2 hat;have HN:=aA0 hown;have HG2:=aA0 hgr2;have HQ4:=aA0 ((HQ2.out.alloc (.cells #[.int .i64 (k:Int),.int .u32 (S:Int)] 150)).grown hgr2 ((HQ2.out.alloc (.cells #[.int .i64 (k:Int),.int .u32 (S:Int)] 150)).apart (HO2.out.alloc _) (by decide)));have r7:=HQ4.out.cell 0 (v := .slice Aq Q.length cq) rfl;have r7f:=HQ4.out.frozen 0;have r7l:=HQ4.out.lt;have HAT:=aA0 hat;clear hown hgr2 hat))
   go_end0
   have hA2:=aA0 ((Bel.refl w2).alloc (.cells #[.int .i64 (k:Int),.int .u32 (S:Int)] 150));have hO3:=aA0 (hA2.out.owns HO2.out)
   have hkb:∀ {q:Nat} {cs:Array Value} {t:TypeId},Blk (w.alloc (.cells #[.int .i64 (k:Int),.int .u32 (S:Int)] 150)) q cs t->q≠bm->t≠150->Blk w4 q cs t:=fun hb hne ht =>
    have b1:=(hb.grown HGR.out (by intro e;injection e with e;exact hne e)).keep hA2.out
    b1.grown HG2.out (b1.apart hO3.out ht)
   refine ⟨⟨_,rfl⟩,⟨Q++[(k,S)],by simp,⟨[(k,S)],rfl⟩,?_⟩,?_,?_⟩
   .refine ⟨((HB2.out.trans hA2.out).push hO3.out HG2.out).setCell l7 _,HI.out.lo,HI.out.ne,?_,?_,?_,?_,?_⟩
    .exact (hkb HI.out.leg m3 (by decide)).other (a:=⟨b7,0,none⟩) n37 _
    .exact (hkb HI.out.mbx m6 (by decide)).other (a:=⟨b7,0,none⟩) n67 _
    .refine ⟨Aq',cq',?_,?_⟩
     .rw [List.length_append];exact HQ4.out.set 0 _
     .rw [List.length_append,List.flatMap_append];exact aDa HN.out HQ4.out (by decide) 0 _
    .have hs3:=HST.out.keep hA2.out
     refine ⟨sk (k,S) :: ks,nm+1,(hs3.kept HG2.out (fun e=>?_)).setCell (fun e=>m7 e.symm) _,by simp;omega,fun y hy=>?_⟩
     .rcases hs3.off hO3.out with h0 | h0
      .rw [h0] at e;cases e
      .exact h0 e.symm
     .rw [List.mem_cons,HKS.out y hy,List.mem_append,List.mem_singleton]
      constructor
      .rintro (e | e)
       .exact .inr (pairKey.inj hy hok e)
       .exact .inl e
      .rintro (e | e)
       .exact .inr e
       .exact .inl (by rw [e])
    .exact HI.out.qup.push hnq hx hx2 hc (hG hc)
   .intro e size m v xs he ho
    have o1:=hb0.out.owns ho;have o2:=hA2.out.owns (World.ownsRow.kept o1 HGR.out (HSM.out.off o1));have o3:=World.ownsRow.kept o2 HG2.out (aAn hO3.out o2 (by rcases he with rfl | rfl <;> decide))
    exact aDa o3 HQ4.out (by rcases he with rfl | rfl <;> decide) 0 _
   .intro X cs t hb hX7 hq
    have hb1:=hb.keep hb0.out;have hXm:=HSM.out.blk hb1;have hq1:=(hq.keep hb0.out hH7) _ (HQB.out.cell 0 (v := .slice Aq Q.length cq) rfl);have b2:=(hb1.grown HGR.out (by intro e;injection e with e;exact hXm e)).keep hA2.out
    have b3':=b2.grown HG2.out (fun e=>hq1 e.symm);refine ⟨b3'.other (a:=⟨b7,0,none⟩) hX7 _,fun v hv=>?_⟩
    have hc:=(HQ4.out.set 0 (.slice Aq' (Q.length+1) cq')).cell 0 (v := .slice Aq' (Q.length+1) cq') rfl;rw [hc] at hv;injection hv with hv;subst hv
    rcases HAT.out with e | e
    .rw [e];exact hq1
    .rw [e]
     intro e'
     injection e' with e'
     have:=b2.lt;omega
def bJl (S:Nat):List Value:=[.int .u32 (S:Int)]
abbrev bOu:=GrR (α:=Nat) 39 46 1 bJl
theorem GrR.keepU {N:Nat} {w w':World} {gb c:Nat} {hs:List Value} {xss:List (List Nat)} (h:bOu N w gb c hs xss) (k:aKs N w w'):bOu N w' gb c hs xss :=
 ⟨k (.inl rfl) h.own,fun i l hl=>by obtain ⟨A,c,e,h2⟩:=h.rows i l hl;exact ⟨A,c,e,k (.inr rfl) h2⟩,h.apart⟩
def bD7 (n:Nat) (Q:List (Nat × Nat)) (i:Nat):List (List Nat):=(List.range n).map fun k=>aJ0 Q i k
theorem aVe (n:Nat) (Q:List (Nat × Nat)) (i:Nat):(bD7 n Q i).length=n:=by simp [bD7]
theorem bJ2 (n:Nat) (Q:List (Nat × Nat)):bD7 n Q 0=List.replicate n []:=by
 apply List.ext_getElem?;intro j
 simp only [bD7,List.getElem?_map,List.getElem?_replicate]
 by_cases h:j<n <;> simp [h,bFl]
theorem aOb {n:Nat} {Q:List (Nat × Nat)} {i k:Nat} (h:k<n):(bD7 n Q i)[k]?=some (aJ0 Q i k):=by simp [bD7,h]
theorem bJ1 {n:Nat} {Q:List (Nat × Nat)} {i k S:Nat} (hi:i<Q.length) (hk:k<n) (hx:Q[i]=(k,S)):(bD7 n Q i).set k (aJ0 Q i k++[S])=bD7 n Q (i+1):=by
 apply List.ext_getElem?;intro j
 by_cases hj:k=j
 .subst hj
  rw [List.getElem?_set_self (by rw [aVe];exact hk),aOb hk,aT2 hi,hx,if_pos rfl]
 .rw [List.getElem?_set_ne hj]
  by_cases h2:j<n
  .rw [aOb h2,aOb h2,aT2 hi,hx,if_neg hj]
  .rw [List.getElem?_eq_none (by rw [aVe];omega),List.getElem?_eq_none (by rw [aVe];omega)]
theorem bJ0 {n:Nat} {Q R:List (Nat × Nat)} {i:Nat} (hi:i<=Q.length):bD7 n (Q++R) i=bD7 n Q i:=by
 apply List.map_congr_left
 intro k _
 unfold aJ0;rw [List.take_append_of_le_length hi]
theorem bF1:(prog.info? 39).map (fun i=>(i.zero,i.size,i.bytes))=some (some (.slice none 0 0),1,24):=by kernel_rfl
theorem bK4:(prog.info? 46).map (fun i=>(i.zero,i.size,i.bytes))=some (some (.int .u32 0),1,4):=by kernel_rfl
theorem Blk.ne {w:World} {X Y:Nat} {cs cs':Array Value} {t t':TypeId} (h:Blk w X cs t) (h':Blk w Y cs' t') (hne:t≠t'):X≠Y:=by
 rintro rfl;have:=h.symm.trans h';injection this with this
 injection this with _ this _
 exact hne this
theorem aM8 {N:Nat} {w w2:World} {X:Nat} {cs:Array Value} {t:TypeId} (h:Blk w X cs t) (h1:t≠46) (h2:t≠39) {v:Value} {size m:Nat} {xs:List Value} (ho:w.ownsRow N 46 size v m xs) (hg:w.grownBy w2 v.ownBlock) {gP c n:Nat} {hs:List Value} (hP:w2.ownsRow N 39 1 (.slice (some ⟨gP,0,none⟩) n c) n hs) (i:Nat) (u:Value):Blk (w2.setCell ⟨gP,i,none⟩ u) X cs t:=by
 have b:=h.grown hg (h.apart ho h1);exact b.other (a:=⟨gP,i,none⟩) (fun e=>b.apart hP h2 (by rw [e];rfl)) u
theorem bM5 {N:Nat} {w w2:World} {e0 size0 m0:Nat} {v0:Value} {xs0:List Value} (h:w.ownsRow N e0 size0 v0 m0 xs0) (h1:46≠e0) (h2:39≠e0) {v:Value} {size m:Nat} {xs:List Value} (ho:w.ownsRow N 46 size v m xs) (hg:w.grownBy w2 v.ownBlock) {gP c n:Nat} {hs:List Value} (hP:w2.ownsRow N 39 1 (.slice (some ⟨gP,0,none⟩) n c) n hs) (i:Nat) (u:Value):(w2.setCell ⟨gP,i,none⟩ u).ownsRow N e0 size0 v0 m0 xs0:=by
 have b:=World.ownsRow.kept h hg (aAn ho h h1)
 exact aBi b (Agr.setCell (E:=fun q=>q=gP) w2 ⟨gP,i,none⟩ u rfl) (fun q hq e=>by
  subst e
  rcases aAn hP b h2 with h0 | h0
  .rw [h0] at hq;cases hq
  .rw [hq] at h0;exact h0 (by simp [Value.ownBlock]))
theorem AddI.turn {W0:World} {b3 b6 b7 bm:Nat} {A:Option Addr} {kc n:Nat} {set:List Bool} {G:Nat->Nat->Prop} {Q:List (Nat × Nat)} {w w2:World} (h:AddI W0 b3 b6 b7 bm A kc n set G Q w) {v:Value} {size m:Nat} {xs:List Value} (ho:w.ownsRow W0.heap.size 46 size v m xs) (hg:w.grownBy w2 v.ownBlock) {gP c n':Nat} {hs:List Value} (hP:w2.ownsRow W0.heap.size 39 1 (.slice (some ⟨gP,0,none⟩) n' c) n' hs) (i:Nat) (u:Value):AddI W0 b3 b6 b7 bm A kc n set G Q (w2.setCell ⟨gP,i,none⟩ u):=by
 obtain ⟨Aq,cq,h1,h2⟩:=h.que;obtain ⟨ks,nm,h3,h4,h5⟩:=h.map
 have hs2:=h3.kept hg (fun e=>by
  rcases h3.off ho with h0 | h0
  .rw [h0] at e;cases e
  .exact h0 e.symm)
 refine ⟨(h.bel.push ho hg).setCell (aAa hP).1 u,h.lo,h.ne,aM8 h.leg (by decide) (by decide) ho hg hP i u,aM8 h.mbx (by decide) (by decide) ho hg hP i u,⟨Aq,cq,aM8 h1 (by decide) (by decide) ho hg hP i u,bM5 h2 (by decide) (by decide) ho hg hP i u⟩,⟨ks,nm,hs2.setCell (fun e=>?_) u,h4,h5⟩,h.qup⟩
 rcases hs2.off hP with h0 | h0
 .simp [Value.ownBlock] at h0
 .exact h0 (by rw [e];simp [Value.ownBlock])
theorem aVi (v:Value) (s:Spc) (A:Option Addr) (kc:Nat) (set:List Bool) (w:World) (h:aBk w v s) (hB:aEw w A s.arcs.length set) (hl:aCy s=true) (hwf:wfS s) (hv:aCf s=true)
  (G:Nat->Nat->Prop) (h16:∀ k,s.enabled.getD k 0<16) (hst:∀ k,k<s.arcs.length->set.getD k false=false->G k (s.enabled.getD k 0))
  (hgo:∀ k S,k<s.arcs.length->S<16->set.getD k false=false->G k S->∀ a∈aA7 s.arcs k,set.getD (toK a) false=false->G (toK a) (aEp S a.1 (s.enabled.getD (toK a) 0))) :
  Calls prog 73 #[v,.slice A s.arcs.length kc] w fun e w'=>∃ (gP:Nat) (hs:List Value) (Q:List (Nat × Nat)),e = .returned (.tuple #[.slice (some ⟨gP,0,none⟩) s.arcs.length s.arcs.length,.int .i64 0])/\QuP set s.arcs.length G Q/\bOu (w.heap.size+1) w' gP s.arcs.length hs (bD7 s.arcs.length Q Q.length)/\Bel w w':=by
 have HS:=aA0 (fun w' (k:Bel w w')=>h.keep k);obtain ⟨_,hle,h70⟩:=aB5 hl;obtain ⟨AE,cE,AA,cA,rfl,hE,hA,_,_,_,_⟩:=h;have HE:=aA0 (fun w' (k:Bel w w')=>hE.keep k);have HA:=aA0 (fun w' (k:Bel w w')=>hA.keep k);have HSET:=aA0 (fun w' (k:Bel w w')=>hB.keep k);have HTO:=aA0 (aKo hv);have HEN:=aA0 (aBv hv).1;have HWF:=aA0 hwf;have H16:=aA0 h16;have HST:=aA0 hst;have HGO:=aA0 hgo
 have H70:Hid (∀ k,(aA7 s.arcs k).length<=70):=fun k=>by
  unfold aA7;rw [List.getD_eq_getElem?_getD];cases hx:s.arcs[k]? with
  | none=>simp
  | some l=>exact h70 l (List.mem_of_getElem? hx)
 have HW32:Hid (∀ k,∀ x∈aA7 s.arcs k,x.1<4294967296):=fun k x hx=>by
  unfold aA7 at hx;rw [List.getD_eq_getElem?_getD] at hx;cases hk:s.arcs[k]? with
  | none=>rw [hk] at hx;cases hx
  | some l=>rw [hk] at hx;exact hwf.2 l (List.mem_of_getElem? hk) x hx
 clear hl hE hA hB hwf hv h16 hst hgo h70;obtain ⟨i0,hi0,hi1,hi2,hi3⟩:=aBq bF1;obtain ⟨j0,hj0,hj1,hj2,hj3⟩:=aBq bK4;obtain ⟨W0,hW0⟩:∃ W:World,W=w.alloc (.cells #[.slice AE s.enabled.length cE,.slice AA s.arcs.length cA] 42):=⟨_,rfl⟩;have e0:W0.heap.size=w.heap.size+1:=by rw [hW0];exact World.size_alloc _ _
 have HW0:Hid (Bel w W0):=by rw [hW0];exact (Bel.refl w).alloc _
 have HBX:Hid (Blk W0 w.heap.size #[.slice AE s.enabled.length cE,.slice AA s.arcs.length cA] 42):=by rw [hW0];exact Blk.new w _ _
 have hmm:=@run_makeMap prog;go_enter func73,ntmps73
 go_wp2_with fail
 rw [<- hW0]
 have hI:AddI W0 (w.heap.size+1) (w.heap.size+1+1+1) (w.heap.size+1+1+1+1) (w.heap.size+1+1) A kc s.arcs.length set G [] ((((W0.alloc (.cells #[.slice A s.arcs.length kc] 45)).alloc (.map #[] 0)).alloc (.cells #[.map (some (w.heap.size+1+1))] 204)).alloc (.cells #[.slice none 0 0] 205)):=by
  have s1:(W0.alloc (.cells #[.slice A s.arcs.length kc] 45)).heap.size=w.heap.size+1+1:=by rw [World.size_alloc,e0]
  have s2:((W0.alloc (.cells #[.slice A s.arcs.length kc] 45)).alloc (.map #[] 0)).heap.size=w.heap.size+1+1+1:=by rw [World.size_alloc,s1]
  have s3:(((W0.alloc (.cells #[.slice A s.arcs.length kc] 45)).alloc (.map #[] 0)).alloc (.cells #[.map (some (w.heap.size+1+1))] 204)).heap.size=w.heap.size+1+1+1+1:=by rw [World.size_alloc,s2]
  have c3:=Blk.new W0 #[.slice A s.arcs.length kc] 45;rw [e0] at c3;have cm:=aM0.made prog 150 4 (W0.alloc (.cells #[.slice A s.arcs.length kc] 45));rw [s1] at cm;have c6:=Blk.new ((W0.alloc (.cells #[.slice A s.arcs.length kc] 45)).alloc (.map #[] 0)) #[.map (some (w.heap.size+1+1))] 204;rw [s2] at c6;have c7:=Blk.new (((W0.alloc (.cells #[.slice A s.arcs.length kc] 45)).alloc (.map #[] 0)).alloc (.cells #[.map (some (w.heap.size+1+1))] 204)) #[.slice none 0 0] 205;rw [s3] at c7;refine ⟨((((Bel.refl W0).alloc _).alloc _).alloc _).alloc _,⟨by omega,by omega,by omega,by omega⟩,⟨by omega,by omega⟩,((c3.alloc _).alloc _).alloc _,c6.alloc _,⟨none,0,c7,World.ownsRow_nil _ _ _ _⟩,⟨[],0,(cm.keep ((Bel.refl _).alloc _)).keep ((Bel.refl _).alloc _),by simp,fun x _=>by simp⟩,QuP.nil _ _ _⟩
 have hI0:∀ w',Bel W0 w'->w.heap.size<w'.heap.size:=fun w' hb=>by have:=hb.size;omega
 have HI0:=aA0 hI0;have HLW:=aA0 (show w.heap.size+1=W0.heap.size from e0.symm)
 clear hI0 hW0 e0;generalize (((W0.alloc (.cells #[.slice A s.arcs.length kc] 45)).alloc (.map #[] 0)).alloc (.cells #[.map (some (w.heap.size+1+1))] 204)).alloc (.cells #[.slice none 0 0] 205)=w1 at *;generalize w.heap.size+1+1+1+1=b7 at *;generalize w.heap.size+1+1+1=b6 at *;generalize w.heap.size+1+1=bm at *;generalize hb3:w.heap.size+1=b3 at *;have hen:s.enabled.length=s.arcs.length:=HEN.out.symm;rw [hen];clear hen
 go_loopg [9,10,23] s.arcs.length (fun m _x _y z wr=>∃ (k:Nat) (Q:List (Nat × Nat)),k<=s.arcs.length/\m=s.arcs.length-k/\z = .int .i64 (k:Int)/\Hid (AddI W0 b3 b6 b7 bm A kc s.arcs.length set G Q wr))
 case atStart=>exact ⟨0,[],by omega,rfl,rfl,hI⟩
 case round =>
  clear hI;obtain ⟨k,Q,hk,rfl,rfl,HI⟩:=hrel
  by_cases hlt:k<s.arcs.length
  .have hd0:decide (k<s.arcs.length)=true:=by simpa using hlt
   obtain ⟨bE,oE,rfl,hbE,e1⟩:=(HE.out _ (HW0.out.trans HI.out.bel)).at_ k (by rw [<- HEN.out];exact hlt)
   have hgs:s.enabled[k]'(by rw [<- HEN.out];exact hlt)=s.enabled.getD k 0:=by have:=HEN.out;simp [List.getD_eq_getElem?_getD,show k<s.enabled.length by omega]
   rw [hgs] at e1
   go_wp2_with (refine (bGv HI.out (HSET.out _ HW0.out) (by omega) (k,s.enabled.getD k 0) hlt (H16.out k) (fun hc=>HST.out k hlt hc)).mono ?_;rintro e w2 ⟨⟨u,rfl⟩,⟨Q2,_,_,hI2⟩,_⟩;have HI2:=aA0 hI2;clear hI2)
   go_roundg (s.arcs.length-(k+1))
   case rel=>exact ⟨k+1,Q2,by omega,rfl,by go_num,HI2.out⟩
   case measure=>omega
  .obtain rfl:k=s.arcs.length:=by omega
   have hd0:decide (s.arcs.length<s.arcs.length)=false:=by simp
   have x1:=HI.out.leg.cell 0 (v := .slice A s.arcs.length kc) rfl;have x2:=HI.out.leg.lt;have HLO:=HI.out.lo
   go_wp2_with (at_make;refine aB7 _ rfl 145 (.tmp 35) (.tmp 35) rfl W0.heap.size 39 i0 (.slice none 0 0) 1 underlying145 hi0 hi1 hi2 .i64 .i64 s.arcs.length rfl rfl (by rw [hi3];omega) (by unfold maxLen;omega) HI.out.bel.size ?_;intro gP w3 hown hb;rw [aB3 _ rfl] at hown;have HOP:=aA0 hown;have HI3:=aA0 (HI.out.keep hb);clear hown hb)
   have hG:bOu W0.heap.size w3 gP s.arcs.length (List.replicate s.arcs.length (.slice none 0 0)) (bD7 s.arcs.length Q 0):=by rw [bJ2];exact GrR.made HOP.out
   clear x1 x2 HI HOP
   go_loopg [12,13,15,16,17] (16*s.arcs.length) (fun m z _a _b _c _d wr=>∃ (i:Nat) (Q:List (Nat × Nat)) (hs:List Value),i<=Q.length/\m=16*s.arcs.length-i/\z = .int .i64 (i:Int)/\Hid (AddI W0 b3 b6 b7 bm A kc s.arcs.length set G Q wr)/\Hid (bOu W0.heap.size wr gP s.arcs.length hs (bD7 s.arcs.length Q i)))
   case atStart=>exact ⟨0,Q,_,by omega,rfl,rfl,HI3.out,hG⟩
   case round =>
    clear hG HI3;obtain ⟨wo,rfl⟩:∃ wo:World,wo=wr:=⟨_,rfl⟩;obtain ⟨i,Q,hs,hi,rfl,rfl,HI,HG⟩:=hrel;obtain ⟨Aq,cq,hqb,hqo⟩:=HI.out.que;have HQO:=aA0 hqo;have q1:=hqb.cell 0 (v := .slice Aq Q.length cq) rfl;have q2:=hqb.lt;have hql:=HI.out.qup.len;have hq0:decide ((262144:Int)<(Q.length:Int))=false:=by simp;omega
    clear hqo
    by_cases hlt:i<Q.length
    .have hd1:decide (i<Q.length)=true:=by simpa using hlt
     obtain ⟨x,hx⟩:∃ x,x=Q[i]:=⟨_,rfl⟩;obtain ⟨k,S⟩:=x;obtain ⟨hkn,hS16,hkc,hGk⟩:=HI.out.qup.lt _ (List.getElem_mem hlt);rw [<- hx] at hkn hS16 hkc hGk;dsimp only at hkn hS16 hkc hGk;have hqi:Q[i]?=some (k,S):=by rw [List.getElem?_eq_getElem hlt,<- hx]
     obtain ⟨gq,rfl,_,gql,k0,_⟩:=aAj HQO.out (aNq (f:=pc) (size:=2) (fun _=>rfl) Q i (k,S) 0 (.int .i64 (k:Int)) hqi rfl);obtain ⟨gq',eq',_,_,k1,_⟩:=aAj HQO.out (aNq (f:=pc) (size:=2) (fun _=>rfl) Q i (k,S) 1 (.int .u32 (S:Int)) hqi rfl);obtain rfl:gq=gq':=by simpa using eq'
     rw [Nat.add_zero] at k0;have HQX:=aA0 hx.symm;have HGk:=aA0 hGk;clear hx hGk hqi eq'
     go_upto_region 16 with fail
     have HIx:=aA0 (HI.out.keep ((Bel.refl wo).alloc (.cells #[.int .i64 (k:Int),.int .u32 (S:Int)] 150)));have HGx:=aA0 (HG.out.keep ((Bel.refl wo).alloc (.cells #[.int .i64 (k:Int),.int .u32 (S:Int)] 150)));have HBX2:=aA0 (Blk.new wo #[.int .i64 (k:Int),.int .u32 (S:Int)] 150)
     have HNQ:Hid (bMw (wo.alloc (.cells #[.int .i64 (k:Int),.int .u32 (S:Int)] 150)) b7 wo.heap.size):=fun v hv=>by
      have hc:=(hqb.keep ((Bel.refl wo).alloc (.cells #[.int .i64 (k:Int),.int .u32 (S:Int)] 150))).cell 0 (v := .slice (some ⟨gq,0,none⟩) Q.length cq) rfl;rw [hc] at hv;injection hv with hv;subst hv
      intro e
      have:=(HQO.out.lt _ e).2;omega
     clear HI HG HQO k0 k1 q1 q2 hqb gql;generalize wo.alloc (.cells #[.int .i64 (k:Int),.int .u32 (S:Int)] 150)=wx at *;generalize wo.heap.size=bx at *;obtain ⟨A1,c1,hc,hf,ho,hhi⟩:=HGx.out.head (aOb hkn);have HO:=aA0 ho;have HH:=aA0 hhi;have hgl:=HGx.out.lt;have hpl:=aYq Q i k
     have hcell:Hid (∀ w',Bel wx w'->w'.cell? ⟨bx,0,none⟩=some (.int .i64 (k:Int))/\w'.cell? ⟨bx,1,none⟩=some (.int .u32 (S:Int))/\w'.cell? ⟨gP,k,none⟩=some (.slice A1 (aJ0 Q i k).length c1)/\bx<w'.heap.size/\gP<w'.heap.size):=fun w' kk =>
      ⟨(HBX2.out.keep kk).cell 0 rfl,(HBX2.out.keep kk).cell 1 rfl,(kk.cell HGx.out.lt.2).trans hc,(HBX2.out.keep kk).lt,Nat.lt_of_lt_of_le HGx.out.lt.2 kk.size⟩
     have hkd:decide (k<s.arcs.length)=true:=by simpa using hkn
     have hwx:=HIx.out.bel.size;clear ho hhi hc hf;have HPE:=aA0 (bJ1 (n:=s.arcs.length) hlt hkn HQX.out);have HPA:=aA0 (aOb (n:=s.arcs.length) (Q:=Q) (i:=i) hkn);generalize aJ0 Q i k=l at *;refine aA4.start (fun w'=>w'.cell? ⟨bx,0,none⟩=some (.int .i64 (k:Int))/\w'.cell? ⟨bx,1,none⟩=some (.int .u32 (S:Int))/\w'.cell? ⟨gP,k,none⟩=some (.slice A1 l.length c1)/\bx<w'.heap.size/\gP<w'.heap.size) 13 (by kernel_rfl) ?_
     have HB:=(Bel.refl wx).drew;have hHeld:=hcell.out _ HB
     (refine aA4.u (v:=?_) 0 50 rfl hHeld ?_ ?_;rotate_left 1;focus (intro w' hSw;(try dsimp only at hSw);go_simp;(try with_reducible rfl);done));(refine aA4.u (v:=?_) 1 51 rfl hHeld ?_ ?_;rotate_left 1;focus (intro w' hSw;(try dsimp only at hSw);go_simp;(try with_reducible rfl);done));(refine aA4.u (v:=?_) 2 52 rfl hHeld ?_ ?_;rotate_left 1;focus (intro w' hSw;(try dsimp only at hSw);go_simp;(try with_reducible rfl);done));(refine aA4.u (v:=?_) 3 53 rfl hHeld ?_ ?_;rotate_left 1;focus (intro w' hSw;(try dsimp only at hSw);go_simp;(try with_reducible rfl);done));(refine aA4.u (v:=?_) 4 54 rfl hHeld ?_ ?_;rotate_left 1;focus (intro w' hSw;(try dsimp only at hSw);go_simp;(try with_reducible rfl);done));(refine aA4.u (v:=?_) 5 55 rfl hHeld ?_ ?_;rotate_left 1;focus (intro w' hSw;(try dsimp only at hSw);go_simp;(try with_reducible rfl);done));(refine aA4.u (v:=?_) 6 56 rfl hHeld ?_ ?_;rotate_left 1;focus (intro w' hSw;(try dsimp only at hSw);go_simp;(try with_reducible rfl);done));(refine aA4.u (v:=?_) 7 57 rfl hHeld ?_ ?_;rotate_left 1;focus (intro w' hSw;(try dsimp only at hSw);go_simp;(try with_reducible rfl);done));(refine aA4.u (v:=?_) 8 58 rfl hHeld ?_ ?_;rotate_left 1;focus (intro w' hSw;(try dsimp only at hSw);go_simp;(try with_reducible rfl);done));(refine aA4.u (v:=?_) 9 59 rfl hHeld ?_ ?_;rotate_left 1;focus (intro w' hSw;(try dsimp only at hSw);go_simp;(try with_reducible rfl);done))
     clear hHeld;have HOa:=aA0 ((show wx.drew.ownsRow W0.heap.size 46 1 (.slice A1 l.length c1) l.length (l.flatMap bJl) from HO.out).alloc (.cells #[.int .u32 (S:Int)] 46))
     have HBa:=HB.alloc (.cells #[.int .u32 (S:Int)] 46);have HNEW:=aA0 (aAx wx.drew (.cells #[.int .u32 (S:Int)] 46));refine aA4.one (i:=10) (by kernel_rfl) rfl (fun K hK=>?_)
     go_simp
     refine hK.out _ _ (fun _=>hcell.out _ HBa) ?_
     clear hK K
     (try simp only [Act.put,List.setIfInBounds_toArray,List.set_cons_zero,List.set_cons_succ])
     refine aA4.one (i:=11) (by kernel_rfl) rfl (fun K hK=>?_)
     refine aCn _ rfl (.tmp 57) (.tmp 60) 39 rfl W0.heap.size 46 j0 (.int .u32 0) 1 4 underlying39 hj0 hj1 hj2 hj3 rfl (by decide) A1 l.length c1 (l.flatMap bJl) (by simp [Act.eval]) HOa.out wx.heap.size #[.int .u32 (S:Int)] 46 (0,0) (by simp [Act.eval]) HNEW.out rfl (aO9 _ _) (by unfold maxLen;omega) (by omega) (by have e9:wx.drew.heap.size=wx.heap.size:=rfl;simp;omega) ?_
     intro A2 c2 w4 hown hgr hat
     have HP:=aA0 (HGx.out.push (by decide) HPA.out HH.out (x:=S) HBa hgr hown hat)
     have HO4:=aA0 (World.ownsRow.kept (HBa.owns HGx.out.own) hgr (aAn HOa.out (HBa.owns HGx.out.own) (by decide)))
     have HI4:=aA0 ((HIx.out.keep HBa).turn HOa.out hgr HO4.out k (.slice A2 (l.length+1) c2));have HX4:=aA0 (aM8 (HBX2.out.keep HBa) (by decide) (by decide) HOa.out hgr HO4.out k (.slice A2 (l.length+1) c2))
     obtain ⟨Aq,cq,hq1,_⟩:=HIx.out.que
     have HNQ4:Hid (bMw (w4.setCell ⟨gP,k,none⟩ (.slice A2 (l.length+1) c2)) b7 bx):=fun v hv=>by
      have b:=aM8 (hq1.keep HBa) (by decide) (by decide) HOa.out hgr HO4.out k (.slice A2 (l.length+1) c2)
      rw [b.cell 0 (v := .slice Aq Q.length cq) rfl] at hv;injection hv with hv;subst hv
      exact HNQ.out _ (hq1.cell 0 rfl)
     obtain ⟨g1,e1,_,hl4,hc4,hf4⟩:=aAj HO4.out HH.out;obtain rfl:gP=g1:=by simpa using e1
     have hX4:=(HBX2.out.keep HBa).grown hgr ((HBX2.out.keep HBa).apart HOa.out (by decide))
     have hz4:=hX4.cell 0 (v := .int .i64 (k:Int)) rfl;have hz5:=hX4.cell 1 (v := .int .u32 (S:Int)) rfl;have hg4:=hX4.lt;refine hK.out _ _ (fun _=>⟨hz4,hz5,hc4,hg4,hl4⟩) ?_
     clear hK K hown hgr hat
     (try simp only [Act.put,List.setIfInBounds_toArray,List.set_cons_zero,List.set_cons_succ])
     have hHeld:w4.cell? ⟨bx,0,none⟩=some (.int .i64 (k:Int))/\w4.cell? ⟨bx,1,none⟩=some (.int .u32 (S:Int))/\w4.cell? ⟨gP,k,none⟩=some (.slice A1 l.length c1)/\bx<w4.heap.size/\gP<w4.heap.size:=⟨hz4,hz5,hc4,hg4,hl4⟩
     (refine aA4.u (v:=?_) 12 62 rfl hHeld ?_ ?_;rotate_left 1;focus (intro w' hSw;(try dsimp only at hSw);go_simp;(try with_reducible rfl);done))
     (refine aA4.one (i:=13) (by kernel_rfl) rfl (fun K hK=>?_));go_simp;refine hK.out _ _ (fun h=>absurd rfl h) ?_;clear hK K;refine aA4.done (by kernel_rfl) ?_ _;(try simp only [Act.put,List.setIfInBounds_toArray,List.set_cons_zero,List.set_cons_succ])
     clear hHeld hz4 hz5 hc4 hg4 hl4 hf4 hX4 hq1 HO4 HB HBa HNEW HOa HO HH HPA;rw [HPE.out] at HP;generalize w4.setCell ⟨gP,k,none⟩ (.slice A2 (l.length+1) c2)=w5 at *;have HPN:=aA0 HP.out;have hbel5:=HI4.out.bel;obtain ⟨bB,oB,R,rc,rfl,hbB,x20,hR,_,_⟩:=(HA.out _ HW0.out).at_ k hkn;have hark:s.arcs[k]=aA7 s.arcs k:=by simp [aA7,hkn]
     rw [hark] at x20 hR;have y2:=(hbel5.cell hbB).trans x20;have hbB2:=Nat.lt_of_lt_of_le hbB hbel5.size;have HRR:=aA0 (fun w' (kk:Bel W0 w')=>hR.keep kk);have y1:=(HBX.out.keep hbel5).cell 1 (v := .slice (some ⟨bB,oB,none⟩) s.arcs.length cA) rfl;have yl:=(HBX.out.keep hbel5).lt;have z0:=HX4.out.cell 0 (v := .int .i64 (k:Int)) rfl;have zl:=HX4.out.lt;have hJ:=H70.out k;clear hR x20 hbB hbel5 HP
     go_wp2_with fail
     clear y1 y2 yl z0 zl hbB2
     go_loopg [15,16,17,70] (aA7 s.arcs k).length (fun m _a _b _c z wr=>∃ (j:Nat) (Q2:List (Nat × Nat)) (hs2:List Value),j<=(aA7 s.arcs k).length/\m=(aA7 s.arcs k).length-j/\z = .int .i64 (j:Int)/\i+1<=Q2.length/\Hid (AddI W0 b3 b6 b7 bm A kc s.arcs.length set G Q2 wr)/\Hid (bOu W0.heap.size wr gP s.arcs.length hs2 (bD7 s.arcs.length Q2 (i+1)))/\Hid (Blk wr bx #[.int .i64 (k:Int),.int .u32 (S:Int)] 150)/\Hid (bMw wr b7 bx))
     case atStart=>exact ⟨0,Q,_,by omega,rfl,rfl,by omega,HI4.out,HPN.out,HX4.out,HNQ4.out⟩
     case round =>
      clear HI4 HPN HX4 HNQ4;obtain ⟨j,Q2,hs2,hj,rfl,rfl,hi2,HI,HG,HX,HN⟩:=hrel
      by_cases hlt2:j<(aA7 s.arcs k).length
      .have hd1:decide (j<(aA7 s.arcs k).length)=true:=by simpa using hlt2
       obtain ⟨b2,o2,rfl,hb2,c0,c1⟩:=aAc.at_ (HRR.out _ HI.out.bel) j hlt2;have hmem:=List.getElem_mem hlt2;obtain ⟨hx1,hx2⟩:=HTO.out k _ hmem;have hx3:=HW32.out k _ hmem;have hx4:=HGO.out k S hkn hS16 hkc HGk.out _ hmem;generalize (aA7 s.arcs k)[j]=x at *;have htK:x.2=((toK x:Nat):Int):=by unfold toK;omega
       have htl:toK x<s.arcs.length:=by unfold toK;omega
       rw [htK] at c1;have HX4:=aA0 hx4;clear htK hx1 hx2 hmem hx4;generalize toK x=t at *;generalize x.1=T at *;have hAE:=aA0 (aWc (S:=S) (T:=T) (H16.out t));have y0:=(HBX.out.keep HI.out.bel).cell 0 (v := .slice AE s.enabled.length cE) rfl;have y1:=(HBX.out.keep HI.out.bel).cell 1 (v := .slice (some ⟨bB,oB,none⟩) s.arcs.length cA) rfl;have yl:=(HBX.out.keep HI.out.bel).lt;have z0:=HX.out.cell 0 (v := .int .i64 (k:Int)) rfl;have z1:=HX.out.cell 1 (v := .int .u32 (S:Int)) rfl;have zl:=HX.out.lt;have h7l:b7<wr.heap.size:=by obtain ⟨_,_,hq,_⟩:=HI.out.que;exact hq.lt
       have hx7:bx≠b7:=by obtain ⟨_,_,hq,_⟩:=HI.out.que;exact HX.out.ne hq (by decide)
       have hDl:aEp S T (s.enabled.getD t 0)<4294967296:=Nat.lt_of_lt_of_le hAE.out (by decide)
       obtain ⟨D,hD⟩:∃ D,D=aEp S T (s.enabled.getD t 0):=⟨_,rfl⟩;rw [<- hD] at hAE HX4 hDl;have HDD:=aA0 hD;clear hD
       go_wp2_with (first
        | (go_at_call 74;refine (aQ9 _ s k S T t _ (HS.out _ (HW0.out.trans (HI.out.bel.alloc _))) HWF.out (by omega) hx3 (by have:=HEN.out;omega)).mono ?_;rintro e w6 ⟨rfl,hb⟩;rw [<- HDD.out];unfold pv;dsimp only;have HBC:=aA0 ((((Bel.refl wr).alloc (.cells #[.int .u32 (T:Int),.int .i64 (t:Int)] 108)).trans hb).alloc (.cells #[.int .i64 (t:Int),.int .u32 (D:Int)] 150));clear hb)
        | (refine (bGv (HI.out.keep HBC.out) (HSET.out _ HW0.out) (by omega) (t,D) htl hAE.out (fun hc=>HX4.out hc)).mono ?_;rintro e w8 ⟨⟨u,rfl⟩,⟨Q3,hQl,⟨R3,rfl⟩,hI8⟩,hku,hfr⟩;have HI8:=aA0 hI8;have HG8:=aA0 ((HG.out.keep HBC.out).keepU hku);have HF8:=aA0 (hfr bx _ _ (HX.out.keep HBC.out) hx7 (HN.out.keep HBC.out h7l));clear hI8 hku hfr))
       go_roundg ((aA7 s.arcs k).length-(j+1))
       case rel=>exact ⟨j+1,Q2++R3,hs2,by omega,rfl,by go_num,by rw [List.length_append];omega,HI8.out,by rw [bJ0 hi2];exact HG8.out,HF8.out.1,HF8.out.2⟩
       case measure=>omega
      .obtain rfl:j=(aA7 s.arcs k).length:=by omega
       have hd1:decide ((aA7 s.arcs k).length<(aA7 s.arcs k).length)=false:=by simp
       go_wp2_with fail
       go_roundg (16*s.arcs.length-(i+1))
       case rel=>exact ⟨i+1,Q2,hs2,hi2,rfl,by go_num,HI.out,HG.out⟩
       case measure=>omega
    .have hie:i=Q.length:=by omega
     have hd1:decide (i<Q.length)=false:=by simp;omega
     go_wp2_with fail
     refine bodyPost_ret (v := .tuple #[.slice (some ⟨gP,0,none⟩) s.arcs.length s.arcs.length,.int .i64 0]) (by simp [results,Tryz.results73]) rfl ?_
     refine ⟨gP,hs,Q,rfl,HI.out.qup,?_,HW0.out.trans HI.out.bel⟩
     rw [hb3,HLW.out,<- hie];exact HG.out
theorem bMn (l:List Nat) (m:Nat) (h:m<l.length):(l.flatMap bJl)[m]?=some (.int .u32 (l[m]:Int)):=by
 have:=aNq (f:=bJl) (size:=1) (fun _=>rfl) l m l[m] 0 (.int .u32 (l[m]:Int)) (List.getElem?_eq_getElem h) rfl
 rwa [Nat.mul_one] at this
theorem aNf.put' {P:Program} {k e:TypeId} (A:KeyP P k) {w':World} {b n:Nat} {M:Nat × Nat->Int} {x:Nat × Nat} {c:Int} (hx:okP x) {D:DataW Unit} (h1:IsMap D) (h2:∀ x,okP x->D.atKey (sk x) (.lit (.int .i64 0)) = .lit (.int .i64 (M x))) (h:w'.ownsMap P k (plainElem P e) b n (D.put (sk x) (.lit (.int .i64 c)))):aNf P k e w' b n (bOf M x c):=aNf.put A hx ⟨h1,h2⟩ h
theorem aUm (w:World):(zeroValue 3).run prog w = .ok (.int .i64 0) w:=by kernel_rfl
def bOt (n:Nat) (set:List Bool) (G:Nat->Nat->Prop) (f:Nat->Nat->Int) (M:Nat × Nat->Int):Prop:=∀ k S,k<n->S<16->set.getD k false=false->G k S->0<=M (k,S)/\M (k,S)<=f k S
theorem bOt.put {n:Nat} {set:List Bool} {G:Nat->Nat->Prop} {f:Nat->Nat->Int} {M:Nat × Nat->Int} (h:bOt n set G f M) {k S:Nat} {c:Int} (h0:0<=c) (h1:c<=f k S):bOt n set G f (bOf M (k,S) c):=by
 intro k' S' a b d e
 unfold bOf;split
 .rename_i he
  injection he with e1 e2
  subst e1;subst e2;exact ⟨h0,h1⟩
 .exact h k' S' a b d e
theorem aNf.setCell {P:Program} {k e:TypeId} {w:World} {b n:Nat} {M:Nat × Nat->Int} (h:aNf P k e w b n M) {a:Addr} (ha:b≠a.block) (u:Value):aNf P k e (w.setCell a u) b n M:=by
 obtain ⟨D,h1,h2⟩:=h;exact ⟨D,h1.setCell ha u,h2⟩
theorem aNf.off {P:Program} {k e:TypeId} {w:World} {b n:Nat} {M:Nat × Nat->Int} (h:aNf P k e w b n M) {N e' size m g c:Nat} {xs:List Value} (ho:w.ownsRow N e' size (.slice (some ⟨g,0,none⟩) m c) m xs):(some g:Option Nat)≠some b:=by
 obtain ⟨D,h1,_⟩:=h
 rcases bI9 h1 ho with h0 | h0
 .simp [Value.ownBlock] at h0
 .intro e;exact h0 (by rw [<- e];simp [Value.ownBlock])
structure RrI (W0:World) (gr n:Nat) (F:Nat->Int) (r:List Int) (wr:World):Prop where
 bel:Bel W0 wr
 res:wr.ownsRow W0.heap.size 3 1 (.slice (some ⟨gr,0,none⟩) n n) n (r.map (Value.int .i64))
 len:r.length=n
 bnd:∀ k,k<n->0<=r.getD k 0/\r.getD k 0<=F k
theorem RrI.put {W0:World} {n gr:Nat} {F:Nat->Int} {r:List Int} {wr:World} (h:RrI W0 gr n F r wr) {k:Nat} {x:Int} (hk:k<n) (h0:0<=x) (h1:x<=F k):RrI W0 gr n F (r.set k x) (wr.setCell ⟨gr,k,none⟩ (.int .i64 x)):=by
 refine ⟨h.bel.setCell (aAa h.res).1 _,?_,by rw [List.length_set];exact h.len,fun j hj=>?_⟩
 .have:=(h.res.stored k (.int .i64 x)).1
  rw [List.map_set];exact this
 .by_cases e:k=j
  .subst e
   have:(r.set k x).getD k 0=x:=by simp [List.getD_eq_getElem?_getD,h.len,hk]
   rw [this];exact ⟨h0,h1⟩
  .have:(r.set k x).getD j 0=r.getD j 0:=by simp [List.getD_eq_getElem?_getD,List.getElem?_set_ne e]
   rw [this];exact h.bnd j hj
theorem RrI.at_ {W0:World} {n gr:Nat} {F:Nat->Int} {r:List Int} {wr:World} (h:RrI W0 gr n F r wr) {k:Nat} (hk:k<n):wr.cell? ⟨gr,k,none⟩=some (.int .i64 (r.getD k 0))/\wr.frozen? ⟨gr,k,none⟩=false/\gr<wr.heap.size:=by
 obtain ⟨g,e,_,h1,h2,h3⟩:=aAj h.res (j:=k) (u := .int .i64 (r.getD k 0)) (by simp [List.getD_eq_getElem?_getD,h.len,hk])
 obtain rfl:gr=g:=by simpa using e
 exact ⟨h2,h3,h1⟩
theorem aT9 (v:Value) (s:Spc) (A:Option Addr) (kc:Nat) (set:List Bool) (w:World) (h:aBk w v s) (hB:aEw w A s.arcs.length set) (hl:aCy s=true) (hwf:wfS s) (hv:aCf s=true) (hall:∀ o,OrdP s.arcs set s.arcs.length o->s.arcs.length<=o.length)
  (G:Nat->Nat->Prop) (f:Nat->Nat->Int) (h16:∀ k,s.enabled.getD k 0<16) (hf:RndP s.arcs s.enabled set s.arcs.length G f) :
  Calls prog 32 #[v,.slice A s.arcs.length kc] w fun e w'=>∃ (r:List Int) (Ao:Option Addr) (co:Nat),e = .returned (.tuple #[.slice Ao s.arcs.length co,.int .i64 0])/\r.length=s.arcs.length/\(∀ k,k<s.arcs.length->0<=r.getD k 0/\r.getD k 0<=if set.getD k false then 0 else f k (s.enabled.getD k 0))/\w'.ownsRow (w.heap.size+1) 3 1 (.slice Ao s.arcs.length co) s.arcs.length (r.map (Value.int .i64))/\Bel w w':=by
 have HS:=aA0 (fun w' (k:Bel w w')=>h.keep k);obtain ⟨_,hle,h70⟩:=aB5 hl;obtain ⟨AE,cE,AA,cA,rfl,hE,hA,_,_,_,_⟩:=h;have HE:=aA0 (fun w' (k:Bel w w')=>hE.keep k);have HA:=aA0 (fun w' (k:Bel w w')=>hA.keep k);have HSET:=aA0 (fun w' (k:Bel w w')=>hB.keep k);have hsl:set.length=s.arcs.length:=hB.1;have HTO:=aA0 (aKo hv);have HEN:=aA0 (aBv hv).1;have HWF:=aA0 hwf;have HL:=aA0 hl;have HV:=aA0 hv;have HALL:=aA0 hall;have H16:=aA0 h16;have HF:=aA0 hf
 have H70:Hid (∀ k,(aA7 s.arcs k).length<=70):=fun k=>by
  unfold aA7;rw [List.getD_eq_getElem?_getD];cases hx:s.arcs[k]? with
  | none=>simp
  | some l=>exact h70 l (List.mem_of_getElem? hx)
 have HW32:Hid (∀ k,∀ x∈aA7 s.arcs k,x.1<4294967296):=fun k x hx=>by
  unfold aA7 at hx;rw [List.getD_eq_getElem?_getD] at hx;cases hk:s.arcs[k]? with
  | none=>rw [hk] at hx;cases hx
  | some l=>rw [hk] at hx;exact hwf.2 l (List.mem_of_getElem? hk) x hx
 clear hl hE hA hB hwf hv h16 hf h70 hall;obtain ⟨j0,hj0,hj1,hj2,hj3⟩:=aBq aJg;obtain ⟨W0,hW0⟩:∃ W:World,W=w.alloc (.cells #[.slice AE s.enabled.length cE,.slice AA s.arcs.length cA] 42):=⟨_,rfl⟩;have e0:W0.heap.size=w.heap.size+1:=by rw [hW0];exact World.size_alloc _ _
 have HW0:Hid (Bel w W0):=by rw [hW0];exact (Bel.refl w).alloc _
 have HBX:Hid (Blk W0 w.heap.size #[.slice AE s.enabled.length cE,.slice AA s.arcs.length cA] 42):=by rw [hW0];exact Blk.new w _ _
 have hmm:=@run_makeMap prog;go_enter func32,ntmps32
 go_wp2_with (first
  | (go_at_call 72;rw [<- hW0];refine (aTq _ s _ _ set _ (HS.out _ HW0.out) (HSET.out _ HW0.out) HL.out HWF.out HV.out HALL.out).mono ?_;rintro e w1 ⟨o,Ao,co,rfl,ho,hown,hb⟩;have HO:=aA0 ho;have HOW:=aA0 hown;have HB1:=aA0 hb;have x0:=(HBX.out.keep hb).cell 0 (v := .slice AE s.enabled.length cE) rfl;have x1:=(HBX.out.keep hb).cell 1 (v := .slice AA s.arcs.length cA) rfl;have xl:=(HBX.out.keep hb).lt;clear ho hown hb)
  | (go_at_call 73;refine (aVi _ s _ _ set _ (HS.out _ (HW0.out.trans HB1.out)) (HSET.out _ (HW0.out.trans HB1.out)) HL.out HWF.out HV.out G H16.out HF.out.start (fun k S a b c d x e g=>(HF.out.go k S a b c d x e g).1)).mono ?_;rintro e w2 ⟨gP,hs,Q,rfl,hq,hp,hb⟩;have HQ:=aA0 hq;have HP:=aA0 hp;have HB2:=aA0 hb;clear hq hp hb))
 clear x0 x1 xl;have hol:=HO.out.len;have hql:=HQ.out.len;have HOm:=aA0 (HB2.out.owns HOW.out);have HBW:=aA0 (HB1.out.trans HB2.out);have hgP:=HP.out.lt;have HM0:∃ (nm:Nat) (M:Nat × Nat->Int),nm=0/\Hid (aNf prog 150 3 (w2.alloc (.map #[] 0)) w2.heap.size nm M)/\Hid (bOt s.arcs.length set G f M):=⟨0,_,rfl,aNf.made _ _ _ w2,fun k S a b c d=>⟨by omega,by have:=(HF.out.pos k S a b c d).1;show (0:Int)<=f k S;omega⟩⟩
 obtain ⟨nm,M,hnm,HM,HBN⟩:=HM0;have HBm:=aA0 ((Bel.refl w2).alloc (.map #[] 0));clear HOW HB1 HB2;generalize w2.alloc (.map #[] 0)=w3 at *;have hw0s:=HBW.out.size
 go_loopg [11,13,14,15,17,18,19,44] o.length (fun m _a _b _c _d _e _f _g z wr=>∃ (i nm:Nat) (M:Nat × Nat->Int),i<=o.length/\m=o.length-i/\z = .int .i64 (i:Int)/\nm<=i*12000/\Hid (aNf prog 150 3 wr w2.heap.size nm M)/\Hid (bOt s.arcs.length set G f M)/\Hid (Bel w2 wr))
 case atStart=>exact ⟨0,nm,M,by omega,rfl,rfl,by omega,HM.out,HBN.out,HBm.out⟩
 case round =>
  clear HM HBN HBm hnm;obtain ⟨wo,rfl⟩:∃ wo:World,wo=wr:=⟨_,rfl⟩;obtain ⟨i,nm,M,hi,rfl,rfl,hnm,HM,HBN,HB⟩:=hrel
  by_cases hlt:i<o.length
  .have hd0:decide (i<o.length)=true:=by simpa using hlt
   have hkn:o[i]<s.arcs.length:=HO.out.lt _ (List.getElem_mem hlt);obtain ⟨g0,rfl,_,l0,c0,_⟩:=aAj (HB.out.owns HOm.out) (j:=i) (u:=aPq o[i]) (by simp [hlt])
   unfold aPq at c0;obtain ⟨k,hk⟩:∃ k,k=o[i]:=⟨_,rfl⟩;rw [<- hk] at c0 hkn;clear hk;have hkd:decide (k<s.arcs.length)=true:=by simpa using hkn
   obtain ⟨A1,c1,hc2,_,ho,_⟩:=HP.out.head (aOb hkn);have hc:=(HB.out.cell hgP.2).trans hc2;have hgl:=Nat.lt_of_lt_of_le hgP.2 HB.out.size;clear hc2;have hpl:=aYq Q Q.length k;have HPQ:Hid (∀ S,S∈aJ0 Q Q.length k->k<s.arcs.length/\S<16/\set.getD k false=false/\G k S):=fun S hS=>HQ.out.pend hS;have HROW:=aA0 (fun w' (kk:Bel w2 w')=>kk.owns ho);clear ho;generalize aJ0 Q Q.length k=l at *
   go_wp2_with fail
   clear c0 hc l0
   go_loopg [13,14,15,17,18,19,53] l.length (fun m _b _c _d _e _f _g z wr=>∃ (j nm:Nat) (M:Nat × Nat->Int),j<=l.length/\m=l.length-j/\z = .int .i64 (j:Int)/\nm<=i*12000+j/\Hid (aNf prog 150 3 wr w2.heap.size nm M)/\Hid (bOt s.arcs.length set G f M)/\Hid (Bel w2 wr))
   case atStart=>exact ⟨0,nm,M,by omega,by omega,rfl,by omega,HM.out,HBN.out,HB.out⟩
   case round =>
    clear HM HBN hnm;obtain ⟨wp,rfl⟩:∃ wp:World,wp=wr:=⟨_,rfl⟩;obtain ⟨j,nm,M,hj,rfl,rfl,hnm,HM,HBN,HBw⟩:=hrel
    by_cases hlt2:j<l.length
    .have hd1:decide (j<l.length)=true:=by simpa using hlt2
     obtain ⟨g1,rfl,_,l1,k1,_⟩:=aAj (HROW.out _ HBw.out) (bMn l j hlt2);obtain ⟨_,hS16,hkc,hGk⟩:=HPQ.out _ (List.getElem_mem hlt2);obtain ⟨S,hS⟩:∃ S,S=l[j]:=⟨_,rfl⟩;rw [<- hS] at k1 hS16 hGk;have HGk:=aA0 hGk;clear hS hGk;have hb0:=aA0 (HBW.out.trans HBw.out);obtain ⟨bB,oB,R,rc,rfl,hbB,x20,hR,_,_⟩:=(HA.out _ HW0.out).at_ k hkn;have hark:s.arcs[k]=aA7 s.arcs k:=by simp [aA7,hkn]
     rw [hark] at x20 hR;have y2:=(hb0.out.cell hbB).trans x20;have hbB2:=Nat.lt_of_lt_of_le hbB hb0.out.size;have HRR:=aA0 (fun w' (kk:Bel W0 w')=>hR.keep kk);have y1:=(HBX.out.keep hb0.out).cell 1 (v := .slice (some ⟨bB,oB,none⟩) s.arcs.length cA) rfl;have yl:=(HBX.out.keep hb0.out).lt;have hJ:=H70.out k;obtain ⟨hp1,hp2⟩:=HF.out.pos k S hkn hS16 hkc HGk.out;clear hR x20 hbB
     go_wp2_with fail
     have HBX2:=aA0 (Blk.new wp #[.int .i64 (k:Int),.int .u32 (S:Int)] 150);have HBq:=aA0 ((Bel.refl wp).alloc (.cells #[.int .i64 (k:Int),.int .u32 (S:Int)] 150));have HMq:=aA0 (HM.out.keep HBq.out);have HBw2:=aA0 (HBw.out.trans HBq.out);clear k1 l1 y2 hbB2 y1 yl hb0 HM HBq HBw;generalize wp.alloc (.cells #[.int .i64 (k:Int),.int .u32 (S:Int)] 150)=wq at *;generalize wp.heap.size=bx at *
     go_loopg [15,17,18,19,66] (aA7 s.arcs k).length (fun m y _a _b _c z wr=>∃ (q:Nat) (most:Int),q<=(aA7 s.arcs k).length/\m=(aA7 s.arcs k).length-q/\y = .int .i64 most/\z = .int .i64 (q:Int)/\1<=most/\most<=f k S/\Hid (Bel wq wr))
     case atStart=>exact ⟨0,1,by omega,by omega,rfl,rfl,by omega,by omega,Bel.refl _⟩
     case round =>
      obtain ⟨q,most,hq,rfl,rfl,rfl,hm1,hm2,HBQ⟩:=hrel;have hbr:=aA0 (HBW.out.trans (HBw2.out.trans HBQ.out))
      by_cases hlt3:q<(aA7 s.arcs k).length
      .have hd2:decide (q<(aA7 s.arcs k).length)=true:=by simpa using hlt3
       obtain ⟨b2,o2,rfl,hb2,c0,c1⟩:=aAc.at_ (HRR.out _ hbr.out) q hlt3;have hmem:=List.getElem_mem hlt3;obtain ⟨hx1,hx2⟩:=HTO.out k _ hmem;have hx3:=HW32.out k _ hmem;have hx4:=HF.out.go k S hkn hS16 hkc HGk.out _ hmem;generalize (aA7 s.arcs k)[q]=x at *;have htK:x.2=((toK x:Nat):Int):=by unfold toK;omega
       have htl:toK x<s.arcs.length:=by unfold toK;omega
       rw [htK] at c1;have HX4:=aA0 hx4;clear htK hx1 hx2 hmem hx4;generalize toK x=t at *;generalize x.1=T at *;obtain ⟨bA,oA,rfl,hbA,a1⟩:=(HSET.out _ (HW0.out.trans hbr.out)).at_ t (by rw [hsl];exact htl)
       have hgs:set[t]'(by rw [hsl];exact htl)=set.getD t false:=by simp [List.getD_eq_getElem?_getD,hsl,htl]
       rw [hgs] at a1;have htd:decide (t<s.arcs.length)=true:=by simpa using htl
       clear hgs;cases hct:set.getD t false with
       | true =>
        rw [hct] at a1
        go_wp2_with fail
        go_roundg ((aA7 s.arcs k).length-(q+1))
        case rel=>exact ⟨q+1,most,by omega,rfl,rfl,by go_num,hm1,hm2,HBQ.out.alloc _⟩
        case measure=>omega
       | false =>
        rw [hct] at a1;have y0:=(HBX.out.keep hbr.out).cell 0 (v := .slice AE s.enabled.length cE) rfl;have y1:=(HBX.out.keep hbr.out).cell 1 (v := .slice (some ⟨bB,oB,none⟩) s.arcs.length cA) rfl;have yl:=(HBX.out.keep hbr.out).lt;have z0:=(HBX2.out.keep HBQ.out).cell 0 (v := .int .i64 (k:Int)) rfl;have z1:=(HBX2.out.keep HBQ.out).cell 1 (v := .int .u32 (S:Int)) rfl;have zl:=(HBX2.out.keep HBQ.out).lt;have hD16:=aWc (S:=S) (T:=T) (H16.out t);obtain ⟨hgt,hc2⟩:=HX4.out hct;obtain ⟨hn0,hn1⟩:=HBN.out t _ htl hD16 hct hgt;have hf9:=(HF.out.pos t _ htl hD16 hct hgt).2;obtain ⟨D,hD⟩:∃ D,D=aEp S T (s.enabled.getD t 0):=⟨_,rfl⟩;rw [<- hD] at hD16 hgt hc2 hn0 hn1 hf9;obtain ⟨mt,hmt⟩:∃ mt,mt=M (t,D):=⟨_,rfl⟩;rw [<- hmt] at hn0 hn1;have HDD:=aA0 hD;have HMT:=aA0 hmt;have hokD:okP (t,D):=⟨by show t<1000000;omega,by show D<4294967296;omega⟩
        clear hD hmt hgt;cases hfu:aS8 S T (s.enabled.getD t 0) with
        | true =>
         rw [hfu] at hc2;rw [if_pos rfl] at hc2;have e1:IntKind.i64.wrap (1+mt)=1+mt:=IntWalk.i64_in _ (by omega)
         go_wp2_with (go_at_call 74;refine (aQ9 _ s k S T t _ (HS.out _ (HW0.out.trans (hbr.out.alloc _))) HWF.out (by omega) hx3 (by have:=HEN.out;omega)).mono ?_;rintro e w6 ⟨rfl,hb⟩;rw [<- HDD.out,hfu];unfold pv;dsimp only;have HBC:=aA0 ((((Bel.refl wr).alloc (.cells #[.int .u32 (T:Int),.int .i64 (t:Int)] 108)).trans hb).alloc (.cells #[.int .i64 (t:Int),.int .u32 (D:Int)] 150));have hlook:=(HMq.out.keep (HBQ.out.trans HBC.out)).look pairKey underlying148 underlying3 (aUm _) (x:=(t,D)) hokD;rw [<- HMT.out] at hlook;unfold pv at hlook;dsimp only at hlook;clear hb)
         go_roundg ((aA7 s.arcs k).length-(q+1))
         case rel=>exact ⟨q+1,max most (1+mt),by omega,rfl,rfl,by go_num,by omega,by omega,HBQ.out.trans HBC.out⟩
         case measure=>omega
        | false =>
         rw [hfu] at hc2;rw [if_neg (by simp)] at hc2
         go_wp2_with (go_at_call 74;refine (aQ9 _ s k S T t _ (HS.out _ (HW0.out.trans (hbr.out.alloc _))) HWF.out (by omega) hx3 (by have:=HEN.out;omega)).mono ?_;rintro e w6 ⟨rfl,hb⟩;rw [<- HDD.out,hfu];unfold pv;dsimp only;have HBC:=aA0 ((((Bel.refl wr).alloc (.cells #[.int .u32 (T:Int),.int .i64 (t:Int)] 108)).trans hb).alloc (.cells #[.int .i64 (t:Int),.int .u32 (D:Int)] 150));have hlook:=(HMq.out.keep (HBQ.out.trans HBC.out)).look pairKey underlying148 underlying3 (aUm _) (x:=(t,D)) hokD;rw [<- HMT.out] at hlook;unfold pv at hlook;dsimp only at hlook;clear hb)
         go_roundg ((aA7 s.arcs k).length-(q+1))
         case rel=>exact ⟨q+1,max most mt,by omega,rfl,rfl,by go_num,by omega,by omega,HBQ.out.trans HBC.out⟩
         case measure=>omega
      .obtain rfl:q=(aA7 s.arcs k).length:=by omega
       have hd2:decide ((aA7 s.arcs k).length<(aA7 s.arcs k).length)=false:=by simp
       obtain ⟨D,hD1,hD2,hD3⟩:=HMq.out.keep HBQ.out;have HD1:=aA0 hD1;have HD2:=aA0 hD2;have HD3:=aA0 hD3;have z0:=(HBX2.out.keep HBQ.out).cell 0 (v := .int .i64 (k:Int)) rfl;have z1:=(HBX2.out.keep HBQ.out).cell 1 (v := .int .u32 (S:Int)) rfl;have zl:=(HBX2.out.keep HBQ.out).lt;have hok:okP (k,S):=⟨by show k<1000000;omega,by show S<4294967296;omega⟩
       clear hD1 hD2 hD3
       go_wp2_with (at_mapUpdate;refine wpList_mapUpdate_own _ rfl (.tmp 95) (.tmp 96) (.tmp 97) 148 rfl 150 3 aVc underlying148 _ w2.heap.size nm D rfl HD1.out (by unfold maxLen;omega) (pv (k,S)) _ _ rfl rfl (pairKey.keyOf hok) _ [] (plainElem_int underlying3 (WalkArith.wf_i64 (by omega))) ?_;intro w9 hown hgr;have HM9:=aA0 (aNf.put' pairKey hok HD2.out HD3.out hown);have HB9:=aA0 ((HBw2.out.trans HBQ.out).map (Nat.le_refl _) hgr);clear hown hgr)
       go_roundg (l.length-(j+1))
       case rel=>exact ⟨j+1,nm+1,bOf M (k,S) most,by omega,rfl,by go_num,by omega,HM9.out,HBN.out.put (by omega) hm2,HB9.out⟩
       case measure=>omega
    .obtain rfl:j=l.length:=by omega
     have hd1:decide (l.length<l.length)=false:=by simp
     go_wp2_with fail
     go_roundg (o.length-(i+1))
     case rel=>exact ⟨i+1,nm,M,by omega,rfl,by go_num,by omega,HM.out,HBN.out,HBw.out⟩
     case measure=>omega
  .obtain rfl:i=o.length:=by omega
   have hd0:decide (o.length<o.length)=false:=by simp
   have hb0:=aA0 (HBW.out.trans HB.out);have y0:=(HBX.out.keep hb0.out).cell 0 (v := .slice AE s.enabled.length cE) rfl;have yl:=(HBX.out.keep hb0.out).lt
   go_wp2_with (at_make;refine aB7 _ rfl 22 (.tmp 101) (.tmp 101) rfl w2.heap.size 3 j0 (.int .i64 0) 1 underlying22 hj0 hj1 hj2 .i64 .i64 s.arcs.length rfl rfl (by rw [hj3];omega) (by unfold maxLen;omega) HB.out.size ?_;intro gr wm hown hb;rw [aB3 _ rfl] at hown;have HR:=aA0 hown;have HBm:=aA0 (HB.out.trans hb);have HMm:=aA0 (HM.out.keep hb);have y0:=(HBX.out.keep (hb0.out.trans hb)).cell 0 (v := .slice AE s.enabled.length cE) rfl;have yl:=(HBX.out.keep (hb0.out.trans hb)).lt;clear hown hb)
   have hI:RrI w2 gr s.arcs.length (fun k=>if set.getD k false then 0 else f k (s.enabled.getD k 0)) (List.replicate s.arcs.length 0) wm:=by
    refine ⟨HBm.out,by rw [List.map_replicate];exact HR.out,by simp,fun k hk=>?_⟩
    have:(List.replicate s.arcs.length (0:Int)).getD k 0=0:=by simp [List.getD_eq_getElem?_getD,hk]
    rw [this];refine ⟨Int.le_refl _,?_⟩
    show (0:Int)<=(if set.getD k false=true then 0 else f k (s.enabled.getD k 0))
    cases hc:set.getD k false with
    | true=>rw [if_pos rfl];exact Int.le_refl _
    | false=>rw [if_neg (by decide)];have:=(HF.out.pos k _ hk (H16.out k) hc (HF.out.start k hk hc)).1;omega
   have hen:s.enabled.length=s.arcs.length:=HEN.out.symm;rw [hen];clear hen HR HBm y0 yl HB HM hb0
   go_loopg [21,22,106] s.arcs.length (fun m _a _b z wr=>∃ (k:Nat) (r:List Int),k<=s.arcs.length/\m=s.arcs.length-k/\z = .int .i64 (k:Int)/\Hid (RrI w2 gr s.arcs.length (fun k=>if set.getD k false then 0 else f k (s.enabled.getD k 0)) r wr)/\Hid (aNf prog 150 3 wr w2.heap.size nm M))
   case atStart=>exact ⟨0,_,by omega,rfl,rfl,hI,HMm.out⟩
   case round =>
    clear hI HMm;obtain ⟨k,r,hk,rfl,rfl,HI,HM⟩:=hrel;have hbr:=aA0 (HBW.out.trans HI.out.bel)
    by_cases hlt:k<s.arcs.length
    .have hd1:decide (k<s.arcs.length)=true:=by simpa using hlt
     obtain ⟨bE,oE,rfl,hbE,e1⟩:=(HE.out _ (HW0.out.trans hbr.out)).at_ k (by rw [<- HEN.out];exact hlt)
     have hgs:s.enabled[k]'(by rw [<- HEN.out];exact hlt)=s.enabled.getD k 0:=by have:=HEN.out;simp [List.getD_eq_getElem?_getD,show k<s.enabled.length by omega]
     rw [hgs] at e1;obtain ⟨bA,oA,rfl,hbA,a1⟩:=(HSET.out _ (HW0.out.trans hbr.out)).at_ k (by rw [hsl];exact hlt)
     have hgs2:set[k]'(by rw [hsl];exact hlt)=set.getD k false:=by simp [List.getD_eq_getElem?_getD,hsl,hlt]
     rw [hgs2] at a1;clear hgs hgs2;have h16k:=H16.out k;obtain ⟨r1,r2,r3⟩:=HI.out.at_ hlt;obtain ⟨Ek,hEk⟩:∃ z,z=s.enabled.getD k 0:=⟨_,rfl⟩;rw [<- hEk] at e1 h16k;have HEK:=aA0 hEk;clear hEk;cases hc:set.getD k false with
     | true =>
      rw [hc] at a1
      go_wp2_with fail
      go_roundg (s.arcs.length-(k+1))
      case rel=>exact ⟨k+1,r,by omega,rfl,by go_num,HI.out,HM.out⟩
      case measure=>omega
     | false =>
      rw [hc] at a1;have hstk:=HF.out.start k hlt hc;rw [<- HEK.out] at hstk;obtain ⟨hn0,hn1⟩:=HBN.out k _ hlt h16k hc hstk;clear hstk;have hok:okP (k,Ek):=⟨by show k<1000000;omega,by show Ek<4294967296;omega⟩
      have hlook:=HM.out.look pairKey underlying148 underlying3 (aUm _) (x:=(k,Ek)) hok;unfold pv at hlook;dsimp only at hlook
      go_wp2_with fail
      go_roundg (s.arcs.length-(k+1))
      case rel=>exact ⟨k+1,r.set k (M (k,Ek)),by omega,rfl,by go_num,HI.out.put hlt hn0 (by show M (k,Ek)<=(if set.getD k false=true then 0 else f k (s.enabled.getD k 0));rw [hc,if_neg (by decide),<- HEK.out];exact hn1),HM.out.setCell (fun e=>HM.out.off HI.out.res (by rw [e])) _⟩
      case measure=>omega
    .obtain rfl:k=s.arcs.length:=by omega
     have hd1:decide (s.arcs.length<s.arcs.length)=false:=by simp
     go_wp2_with fail
     refine bodyPost_ret (v := .tuple #[.slice (some ⟨gr,0,none⟩) s.arcs.length s.arcs.length,.int .i64 0]) (by simp [results,Tryz.results32]) rfl ?_
     exact ⟨r,_,_,rfl,HI.out.len,HI.out.bnd,aAu HI.out.res (by omega),HW0.out.trans hbr.out⟩
theorem aK7:(prog.info? 4).map (fun i=>(i.zero,i.size,i.bytes))=some (some (.bool false),1,1):=by kernel_rfl
theorem aMz {w:World} {base:Nat} {e:TypeId} {n c:Nat} {A:Option Addr} {xs:List Value} (h:w.ownsRow base e 1 (.slice A n c) n xs) {m:Nat} (hm:n=m):w.ownsRow base e 1 (.slice A m c) m xs:=by subst hm;exact h
end Go.Proofs.YtmoebklkkjbigaaGreatDoor

