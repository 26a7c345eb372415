/- Merged. -/
import Derived.Test.YtdcjnhoabbdanaaGreatDoorZ44
set_option linter.unusedSimpArgs false
set_option linter.unnecessarySimpa false
set_option linter.unusedVariables false
set_option maxRecDepth 100000
set_option maxHeartbeats 8000000
open Go.Proofs.Tryz

namespace Go.Proofs.YtdcjnhoabbdanaaGreatDoor
open Go.RowKit
theorem FollowP.eq {p:Prg} {g:Graph} {kind:Int} {c:aA7} {ws:List Nat} {T:Trc} (hg:GOK g) (hk:aFl kind=true) (hm:aCv p g c=0) (h:FollowP p g kind c ws T):aCm p g kind (aA3 p g c) ws=T:=by
 obtain ⟨_,_,_,h3,_⟩:=aIh (p:=p) hg hk ws (aA3 p g c) (OkT.start hm);rw [h.wlast] at h3;exact (Option.some.inj h3).symm
theorem FollowP.step {p:Prg} {g:Graph} {kind:Int} {c:aA7} {ws:List Nat} {T t:Trc} (h:FollowP p g kind c ws T) {i:Nat} (hi:i<T.chosen.length) (ht:(aBw p g kind (aA3 p g c) ws)[i]?=some t):aB9 g kind (aAj p g t.last) T.chosen[i]=true/\(aBw p g kind (aA3 p g c) ws)[i+1]?=some (aAm p g t T.chosen[i]):=by
 have h1:=h.wat i (by omega)
 have h2:=h.wat (i+1) (by omega)
 rw [List.take_succ_eq_append_getElem hi,aLh,h1,ht] at h2;have h3:(if aB9 g kind (aAj p g t.last) T.chosen[i]=true then some (aAm p g t T.chosen[i]) else none)=(aBw p g kind (aA3 p g c) ws)[i+1]?:=h2
 have hl:i+1<(aBw p g kind (aA3 p g c) ws).length:=by have:=h.wlen;omega
 split at h3
 .rename_i hp;exact ⟨hp,h3.symm⟩
 .rw [List.getElem?_eq_getElem hl] at h3;cases h3
theorem aP8 {p:Prg} {g:Graph} {kind:Int} {c:aA7} {ws:List Nat}:(aBw p g kind (aA3 p g c) ws)[0]?=some (aA3 p g c):=by
 cases ws <;> rfl
theorem aNx {p:Prg} {g:Graph} {kind:Int} {c:aA7} {ws:List Nat}:[aA3 p g c]=(aBw p g kind (aA3 p g c) ws).take (0+1):=by
 cases ws <;> rfl
theorem aC8.teS {b:Int} {T:Trc} {w w':World} {e:Ending} (hb:b=0) (h:aC8 b (Option.some T) w e w'):aSg T 0 w e w':=by
 have q:=h.te;rw [show bA8 b (Option.some T)=T by unfold bA8;rw [if_pos hb];rfl,show bA7 b (Option.some T)=0 by unfold bA7;rw [if_pos hb];rfl] at q
 exact q
theorem bAi (s:List Trc):∀ (k:Nat) (x:Trc),s[k]?=some x->∀ i,i<5->(s.flatMap aYh)[k*5+i]?=(aC9 x.count)[i]?:=by
 induction s with
 | nil=>intro k x h;simp at h
 | cons y s ih =>
  intro k x h i hi
  rw [List.flatMap_cons];have hl:(aYh y).length=5:=rfl;cases k with
  | zero =>
   obtain rfl:y=x:=by simpa using h
   rw [Nat.zero_mul,Nat.zero_add,List.getElem?_append_left (by omega)]
   exact Array.getElem?_toList
  | succ k =>
   rw [List.getElem?_append_right (by rw [hl];omega),hl,<- ih k x (by simpa using h) i hi]
   congr 1;omega
theorem WR.ret {bt:Nat} {t:Trc} {C7:Option Addr} {j7:Nat} {C8:Option Addr} {j8:Nat} {C9:Option Addr} {j9:Nat} {ts:List Trc} {AX:Option Addr} {cX:Nat} {AY:Option Addr} {cY:Nat} {hs:List Value} {C:Nat->Prop} {w w':World} (h:WR bt t C7 j7 C8 j8 C9 j9 ts ts AX cX AY cY hs C w') (hb:Bel w w'):RetW ts w (.returned (.tuple #[.slice AX ts.length cX,.slice AY ts.length cY,.int .i64 0])) w':=by
 refine ⟨AX,cX,AY,cY,rfl,fun k t hk=>?_,fun k t hk=>?_,hb⟩
 .obtain ⟨v,r1,r2⟩:=h.rows k t hk
  obtain ⟨g0,e1,_,e3,e4,_⟩:=aCn h.row1 r1;obtain ⟨A,c0,rfl,_,_,_⟩:=r2 w' (Nat.le_refl _) fun _ _=>rfl;exact ⟨g0,0,A,c0,e1,fun W hW=>⟨Nat.lt_of_lt_of_le e3 hW.size,by rw [Nat.zero_add];exact (hW.cell e3).trans e4,r2 W hW.size fun j hj=>hW.block j (h.dom j hj)⟩⟩
 .have hat:=fun i (hi:i<5)=>bAi ts k t hk i hi
  obtain ⟨g0,e1,_,e3,_,_⟩:=aCn h.row2 (j:=k*5+0) (u := .int .i64 t.count.steps) ((hat 0 (by decide)).trans rfl)
  refine ⟨g0,0,e1,fun W hW=>⟨Nat.lt_of_lt_of_le e3 hW.size,fun i v hv=>?_⟩⟩
  have hi:i<5:=by
   rcases Nat.lt_or_ge i 5 with h | h
   .exact h
   .rw [Array.getElem?_eq_none (by exact h)] at hv;cases hv
  obtain ⟨g1,f1,_,f3,f4,_⟩:=aCn h.row2 ((hat i hi).trans hv);obtain rfl:g0=g1:=by rw [e1] at f1;injection f1 with f1;injection f1
  rw [Nat.zero_add];exact (hW.cell e3).trans f4
theorem WR.first {bt gX gY N:Nat} {t:Trc} {C7:Option Addr} {j7:Nat} {C8:Option Addr} {j8:Nat} {C9:Option Addr} {j9:Nat} {w:World} (hb:Blk w bt #[.slice C7 t.chosen.length j7,.slice C8 t.enabled.length j8,.slice C9 t.last.length j9,.int .i64 t.count.steps,.int .i64 t.count.moves,.int .i64 t.count.rounds,.int .i64 t.count.begun,.int .u32 (t.count.pending:Int)] 38)
  (hv:∀ W,w.heap.size<=W.heap.size->(∀ k,N<=k/\k<bt->W.heap[k]?=w.heap[k]?)->aB5 W (.agg #[.slice C7 t.chosen.length j7,.slice C8 t.enabled.length j8,.slice C9 t.last.length j9,.int .i64 t.count.steps,.int .i64 t.count.moves,.int .i64 t.count.rounds,.int .i64 t.count.begun,.int .u32 (t.count.pending:Int)]) t)
  (hX:Blk w gX #[.slice C9 t.last.length j9] 30) (hY:Blk w gY #[.int .i64 t.count.steps,.int .i64 t.count.moves,.int .i64 t.count.rounds,.int .i64 t.count.begun,.int .u32 (t.count.pending:Int)] 36) (h1:bt+1<=gX) (h2:bt+1<=gY) (hN:N<=bt):WR bt t C7 j7 C8 j8 C9 j9 [t] [t] (some ⟨gX,0,none⟩) 1 (some ⟨gY,0,none⟩) 1 [.slice C9 t.last.length j9] (fun k=>N<=k/\k<bt) w where
 box:=hb
 val:=hv
 row1:=aOu hX rfl h1 (show 1<=maxLen by decide)
 row2:=aOu hY rfl h2 (show 1<=maxLen by decide)
 off:=fun k hk=>by
  refine ⟨by omega,fun e=>?_,fun e=>?_⟩
  .have e2:gX=k:=by simpa [ob,Value.ownBlock] using e
   omega
  .have e2:gY=k:=by simpa [ob,Value.ownBlock] using e
   omega
 dom:=fun k hk=>Nat.lt_trans hk.2 hb.lt
 rows:=fun u x hx=>by
  have hu:u=0:=by have:=(List.getElem?_eq_some_iff.1 hx).1;simp at this;exact this
  subst hu;obtain rfl:t=x:=by simpa using hx
  refine ⟨_,rfl,fun W hz hC=>?_⟩
  obtain ⟨_,_,_,_,_,_,e,_,_,_,_,_,_,h7⟩:=hv W hz hC;obtain ⟨_,_,rfl,rfl⟩:(C7=_/\j7=_)/\(C8=_/\j8=_)/\C9=_/\j9=_:=by simpa using e
  exact h7
theorem aOc (v1:Value) (p:Prg) (v2:Value) (g:Graph) (v3:Value) (c:aA7) (kind:Int) (Al:Option Addr) (cl:Nat) (l:List Nat) (w:World) (h:aEm w v1 p) (h2:aAn w v2 g) (h3:aAy w v3 c) (hL:aAw p=true) (hG:aB3 g=true) (hC:aBl c=true) (hM:aAd w Al l.length l) (hl32:∀ y∈l,y<4294967296) (hlen:l.length<=119) (hm:aCv p g c=0) (hk:aFl kind=true) (T:Trc) (hP:FollowP p g kind c l T) :
  Calls prog 25 #[v1,v2,.int .i64 kind,v3,.slice Al l.length cl] w (RetW (aBw p g kind (aA3 p g c) l) w):=by
 have HMK:=aA0 (fun w' (k:Bel w w')=>aAd.keep hM k);have H32:=aA0 hl32;clear hM hl32;have HPV:=aA0 (fun w' (k:Bel w w')=>h.keep k);have HGV:=aA0 (fun w' (k:Bel w w')=>h2.keep k);have HCV:=aA0 (fun w' (k:Bel w w')=>h3.keep k);obtain ⟨A1,k1,A2,k2,rfl,_,_,_,_,_,_⟩:=h;obtain ⟨A3,k3,A4,k4,rfl,_,_,_,_,_,_⟩:=h2;obtain ⟨A5,k5,rfl,_,_,_⟩:=h3;have HW:=Bel.refl ((w.alloc (.cells #[.string p.name,.slice A1 p.vars.length k1,.slice A2 p.rules.length k2] 25)).alloc (.cells #[.slice A3 g.ids.length k3,.slice A4 g.ports.length k4] 29));have HL:=aA0 hL;have HGL:=aA0 hG;have HCL:=aA0 hC;clear hL hG hC;have HB0:Hid (aJu p g kind c l.length=0):=aWk hm hk (by omega)
 have HFT:=aA0 (hP.eq (aAp (aB8 hm).1).2.1 hk hm);have HM:=aA0 hm;have HPF:=aA0 hP;have hTl:T.chosen.length<=l.length:=hP.len;obtain ⟨i0,hi0,hz0,hz1,hz2⟩:=info_parts aOj;obtain ⟨j0,hj0,hy0,hy1,hy2⟩:=info_parts aTv;clear hm hk hP;go_enter func25,ntmps25
 go_upto_region 2 with (go_at_call 23;have hc:=(aE5 _ p _ g _ c kind Al cl l _ (HPV.out _ (aA1 HW)) (HGV.out _ (aA1 HW)) (HCV.out _ (aA1 HW)) HL.out HGL.out HCL.out (HMK.out _ (aA1 HW)) H32.out (fun _=>by omega)).mono (fun _ _ q=>aC8.teS (T:=T) HB0.out (HFT.out ▸ q));refine hc.mono ?_;clear hc;rintro e w2 ⟨aA,ak,aB,al,aC,am,rfl,aq1,aq2,aq3,aq4,aq5,aq6,aq7,hb⟩;replace HW:=HW.trans hb;clear hb;(try clear p0 p1 p2 g0 g1 gsz);obtain ⟨p0,p1,p2,g0,g1,gsz⟩:=aAi HW)
 have HXa:Hid (Blk (w2.alloc (.cells #[.slice aA T.chosen.length ak,.slice aB T.enabled.length al,.slice aC T.last.length am,.int .i64 T.count.steps,.int .i64 T.count.moves,.int .i64 T.count.rounds,.int .i64 T.count.begun,.int .u32 (T.count.pending:Int)] 38)) w2.heap.size #[.slice aA T.chosen.length ak,.slice aB T.enabled.length al,.slice aC T.last.length am,.int .i64 T.count.steps,.int .i64 T.count.moves,.int .i64 T.count.rounds,.int .i64 T.count.begun,.int .u32 (T.count.pending:Int)] 38):=Blk.new _ _ _;have HMa:Hid (∀ W,Bel (w2.alloc (.cells #[.slice aA T.chosen.length ak,.slice aB T.enabled.length al,.slice aC T.last.length am,.int .i64 T.count.steps,.int .i64 T.count.moves,.int .i64 T.count.rounds,.int .i64 T.count.begun,.int .u32 (T.count.pending:Int)] 38)) W->aAd W aA T.chosen.length T.chosen/\aAd W aB T.enabled.length T.enabled/\aAy W (.slice aC T.last.length am) T.last):=fun W k=>have k2:=((Bel.refl w2).alloc _).trans k;⟨aq1 W (Agr.of_belM k2),aq4 W (Agr.of_belM k2),aq7 W (Agr.of_belM k2)⟩;replace HW:=HW.alloc (.cells #[.slice aA T.chosen.length ak,.slice aB T.enabled.length al,.slice aC T.last.length am,.int .i64 T.count.steps,.int .i64 T.count.moves,.int .i64 T.count.rounds,.int .i64 T.count.begun,.int .u32 (T.count.pending:Int)] 38);clear aq1 aq4 aq7;generalize w2.alloc (.cells #[.slice aA T.chosen.length ak,.slice aB T.enabled.length al,.slice aC T.last.length am,.int .i64 T.count.steps,.int .i64 T.count.moves,.int .i64 T.count.rounds,.int .i64 T.count.begun,.int .u32 (T.count.pending:Int)] 38)=Wa at *;generalize w2.heap.size=ba at *;have hca:Hid (∀ w',Bel Wa w'->w'.cell? ⟨ba,0,none⟩=some (.slice aA T.chosen.length ak)/\w'.cell? ⟨ba,1,none⟩=some (.slice aB T.enabled.length al)/\w'.cell? ⟨ba,2,none⟩=some (.slice aC T.last.length am)/\w'.cell? ⟨ba,3,none⟩=some (.int .i64 T.count.steps)/\w'.cell? ⟨ba,4,none⟩=some (.int .i64 T.count.moves)/\w'.cell? ⟨ba,5,none⟩=some (.int .i64 T.count.rounds)/\w'.cell? ⟨ba,6,none⟩=some (.int .i64 T.count.begun)/\w'.cell? ⟨ba,7,none⟩=some (.int .u32 (T.count.pending:Int))/\ba<w'.heap.size):=fun w' k=>have q:=HXa.out.keep k;⟨q.cell 0 rfl,q.cell 1 rfl,q.cell 2 rfl,q.cell 3 rfl,q.cell 4 rfl,q.cell 5 rfl,q.cell 6 rfl,q.cell 7 rfl,q.lt⟩;have HVa:Hid (∀ w',Bel Wa w'->aB5 w' (.agg #[.slice aA T.chosen.length ak,.slice aB T.enabled.length al,.slice aC T.last.length am,.int .i64 T.count.steps,.int .i64 T.count.moves,.int .i64 T.count.rounds,.int .i64 T.count.begun,.int .u32 (T.count.pending:Int)]) T):=fun w' k=>have q:=HMa.out w' k;⟨aA,ak,aB,al,aC,am,rfl,q.1,aq2,aq3,q.2.1,aq5,aq6,q.2.2⟩;have HBa:=Bel.refl Wa;obtain ⟨a0,a1,a2,a3,a4,a5,a6,a7,az⟩:=hca.out _ HBa
 (try clear p0 p1 p2 g0 g1 gsz)
 obtain ⟨p0,p1,p2,g0,g1,gsz⟩:=aAi HW;have HWaZ:Hid (((w.alloc (.cells #[.string p.name,.slice A1 p.vars.length k1,.slice A2 p.rules.length k2] 25)).alloc (.cells #[.slice A3 g.ids.length k3,.slice A4 g.ports.length k4] 29)).heap.size<=Wa.heap.size):=HW.size
 go_upto_region 5 with (go_at_call 40;refine (aLo _ p _ g _ c _ (HPV.out _ (aA1 HW)) (HGV.out _ (aA1 HW)) (HCV.out _ (aA1 HW)) HL.out HGL.out HCL.out HM.out).mono ?_;rintro e w3 ⟨vt,rfl,hV,hb⟩;obtain ⟨C7,j7,C8,j8,C9,j9,rfl,_⟩:=(hV _ (aAv.refl _ _));have HVT:=aA0 hV;have HSZ:=aA0 hb.size;clear hV;replace HW:=HW.trans hb;replace HBa:=HBa.trans hb;clear hb;(try clear p0 p1 p2 g0 g1 gsz);obtain ⟨p0,p1,p2,g0,g1,gsz⟩:=aAi HW;(try clear a0 a1 a2 a3 a4 a5 a6 a7 az);obtain ⟨a0,a1,a2,a3,a4,a5,a6,a7,az⟩:=hca.out _ HBa)
 have HZB:Hid (Blk (w3.alloc (.cells #[.slice C7 (aA3 p g c).chosen.length j7,.slice C8 (aA3 p g c).enabled.length j8,.slice C9 (aA3 p g c).last.length j9,.int .i64 (aA3 p g c).count.steps,.int .i64 (aA3 p g c).count.moves,.int .i64 (aA3 p g c).count.rounds,.int .i64 (aA3 p g c).count.begun,.int .u32 ((aA3 p g c).count.pending:Int)] 38)) w3.heap.size #[.slice C7 (aA3 p g c).chosen.length j7,.slice C8 (aA3 p g c).enabled.length j8,.slice C9 (aA3 p g c).last.length j9,.int .i64 (aA3 p g c).count.steps,.int .i64 (aA3 p g c).count.moves,.int .i64 (aA3 p g c).count.rounds,.int .i64 (aA3 p g c).count.begun,.int .u32 ((aA3 p g c).count.pending:Int)] 38):=Blk.new _ _ _;have hal:Bel w3 (w3.alloc (.cells #[.slice C7 (aA3 p g c).chosen.length j7,.slice C8 (aA3 p g c).enabled.length j8,.slice C9 (aA3 p g c).last.length j9,.int .i64 (aA3 p g c).count.steps,.int .i64 (aA3 p g c).count.moves,.int .i64 (aA3 p g c).count.rounds,.int .i64 (aA3 p g c).count.begun,.int .u32 ((aA3 p g c).count.pending:Int)] 38)):=(Bel.refl w3).alloc _;have HVS:Hid (∀ W,w3.heap.size<=W.heap.size->(∀ k,Wa.heap.size<=k/\k<w3.heap.size->W.heap[k]?=w3.heap[k]?)->aB5 W (.agg #[.slice C7 (aA3 p g c).chosen.length j7,.slice C8 (aA3 p g c).enabled.length j8,.slice C9 (aA3 p g c).last.length j9,.int .i64 (aA3 p g c).count.steps,.int .i64 (aA3 p g c).count.moves,.int .i64 (aA3 p g c).count.rounds,.int .i64 (aA3 p g c).count.begun,.int .u32 ((aA3 p g c).count.pending:Int)]) (aA3 p g c)):=fun W hz hk=>HVT.out W ⟨hz,fun k h1 h2=>hk k ⟨h1,h2⟩⟩;replace HVS:Hid (∀ W,(w3.alloc (.cells #[.slice C7 (aA3 p g c).chosen.length j7,.slice C8 (aA3 p g c).enabled.length j8,.slice C9 (aA3 p g c).last.length j9,.int .i64 (aA3 p g c).count.steps,.int .i64 (aA3 p g c).count.moves,.int .i64 (aA3 p g c).count.rounds,.int .i64 (aA3 p g c).count.begun,.int .u32 ((aA3 p g c).count.pending:Int)] 38)).heap.size<=W.heap.size->(∀ k,Wa.heap.size<=k/\k<w3.heap.size->W.heap[k]?=(w3.alloc (.cells #[.slice C7 (aA3 p g c).chosen.length j7,.slice C8 (aA3 p g c).enabled.length j8,.slice C9 (aA3 p g c).last.length j9,.int .i64 (aA3 p g c).count.steps,.int .i64 (aA3 p g c).count.moves,.int .i64 (aA3 p g c).count.rounds,.int .i64 (aA3 p g c).count.begun,.int .u32 ((aA3 p g c).count.pending:Int)] 38)).heap[k]?)->aB5 W (.agg #[.slice C7 (aA3 p g c).chosen.length j7,.slice C8 (aA3 p g c).enabled.length j8,.slice C9 (aA3 p g c).last.length j9,.int .i64 (aA3 p g c).count.steps,.int .i64 (aA3 p g c).count.moves,.int .i64 (aA3 p g c).count.rounds,.int .i64 (aA3 p g c).count.begun,.int .u32 ((aA3 p g c).count.pending:Int)]) (aA3 p g c)):=fun W hz hk=>HVS.out W (Nat.le_trans hal.size hz) fun k h=>(hk k h).trans (hal.block k h.2);replace HSZ:=aA0 (Nat.le_trans HSZ.out (Nat.le_refl _));replace HW:=HW.trans hal;replace HBa:=HBa.trans hal;have hbt8:((w.alloc (.cells #[.string p.name,.slice A1 p.vars.length k1,.slice A2 p.rules.length k2] 25)).alloc (.cells #[.slice A3 g.ids.length k3,.slice A4 g.ports.length k4] 29)).heap.size<=w3.heap.size:=by have h1:=HWaZ.out;have h2:=HSZ.out;omega
 have hszb:(w3.alloc (.cells #[.slice C7 (aA3 p g c).chosen.length j7,.slice C8 (aA3 p g c).enabled.length j8,.slice C9 (aA3 p g c).last.length j9,.int .i64 (aA3 p g c).count.steps,.int .i64 (aA3 p g c).count.moves,.int .i64 (aA3 p g c).count.rounds,.int .i64 (aA3 p g c).count.begun,.int .u32 ((aA3 p g c).count.pending:Int)] 38)).heap.size=w3.heap.size+1:=World.size_alloc _ _;clear hal HVT
 (try clear p0 p1 p2 g0 g1 gsz)
 (try clear a0 a1 a2 a3 a4 a5 a6 a7 az)
 generalize w3.alloc (.cells #[.slice C7 (aA3 p g c).chosen.length j7,.slice C8 (aA3 p g c).enabled.length j8,.slice C9 (aA3 p g c).last.length j9,.int .i64 (aA3 p g c).count.steps,.int .i64 (aA3 p g c).count.moves,.int .i64 (aA3 p g c).count.rounds,.int .i64 (aA3 p g c).count.begun,.int .u32 ((aA3 p g c).count.pending:Int)] 38)=W3 at *;generalize w3.heap.size=bt at *;refine aA6.start (fun w':World=>w'.cell? ⟨bt,0,none⟩=some (.slice C7 (aA3 p g c).chosen.length j7)/\w'.cell? ⟨bt,1,none⟩=some (.slice C8 (aA3 p g c).enabled.length j8)/\w'.cell? ⟨bt,2,none⟩=some (.slice C9 (aA3 p g c).last.length j9)/\w'.cell? ⟨bt,3,none⟩=some (.int .i64 (aA3 p g c).count.steps)/\w'.cell? ⟨bt,4,none⟩=some (.int .i64 (aA3 p g c).count.moves)/\w'.cell? ⟨bt,5,none⟩=some (.int .i64 (aA3 p g c).count.rounds)/\w'.cell? ⟨bt,6,none⟩=some (.int .i64 (aA3 p g c).count.begun)/\w'.cell? ⟨bt,7,none⟩=some (.int .u32 ((aA3 p g c).count.pending:Int))/\bt<w'.heap.size) 7 (by kernel_rfl) ?_
 replace HZB:=aA0 (HZB.out.keep (Bel.refl W3).drew);replace HW:=HW.drew;replace HBa:=HBa.drew;replace HVS:Hid (∀ W,W3.drew.heap.size<=W.heap.size->(∀ k,Wa.heap.size<=k/\k<bt->W.heap[k]?=W3.drew.heap[k]?)->aB5 W (.agg #[.slice C7 (aA3 p g c).chosen.length j7,.slice C8 (aA3 p g c).enabled.length j8,.slice C9 (aA3 p g c).last.length j9,.int .i64 (aA3 p g c).count.steps,.int .i64 (aA3 p g c).count.moves,.int .i64 (aA3 p g c).count.rounds,.int .i64 (aA3 p g c).count.begun,.int .u32 ((aA3 p g c).count.pending:Int)]) (aA3 p g c)):=fun W hz hk=>HVS.out W hz hk;replace hszb:W3.drew.heap.size=bt+1:=hszb;generalize W3.drew=W4 at *;have HSZB:=aA0 hszb;clear hszb;have HS5:Hid (∀ V,Blk V bt #[.slice C7 (aA3 p g c).chosen.length j7,.slice C8 (aA3 p g c).enabled.length j8,.slice C9 (aA3 p g c).last.length j9,.int .i64 (aA3 p g c).count.steps,.int .i64 (aA3 p g c).count.moves,.int .i64 (aA3 p g c).count.rounds,.int .i64 (aA3 p g c).count.begun,.int .u32 ((aA3 p g c).count.pending:Int)] 38->(fun w':World=>w'.cell? ⟨bt,0,none⟩=some (.slice C7 (aA3 p g c).chosen.length j7)/\w'.cell? ⟨bt,1,none⟩=some (.slice C8 (aA3 p g c).enabled.length j8)/\w'.cell? ⟨bt,2,none⟩=some (.slice C9 (aA3 p g c).last.length j9)/\w'.cell? ⟨bt,3,none⟩=some (.int .i64 (aA3 p g c).count.steps)/\w'.cell? ⟨bt,4,none⟩=some (.int .i64 (aA3 p g c).count.moves)/\w'.cell? ⟨bt,5,none⟩=some (.int .i64 (aA3 p g c).count.rounds)/\w'.cell? ⟨bt,6,none⟩=some (.int .i64 (aA3 p g c).count.begun)/\w'.cell? ⟨bt,7,none⟩=some (.int .u32 ((aA3 p g c).count.pending:Int))/\bt<w'.heap.size) V):=fun V q=>⟨q.cell 0 rfl,q.cell 1 rfl,q.cell 2 rfl,q.cell 3 rfl,q.cell 4 rfl,q.cell 5 rfl,q.cell 6 rfl,q.cell 7 rfl,q.lt⟩;have hHeld:=HS5.out W4 HZB.out
 (refine aA6.t (v:=?_) 0 35 rfl rfl (by kernel_rfl) (fun _ _ _ h=>h) hHeld (Or.inl ⟨by rfl,?_⟩) ?_;rotate_left 1;focus (intro w' hSw;(try dsimp only at hSw);go_simp;(try with_reducible rfl);done))
 (refine aA6.t (v:=?_) 1 36 rfl rfl (by kernel_rfl) (fun _ _ _ h=>h) hHeld (Or.inl ⟨by rfl,?_⟩) ?_;rotate_left 1;focus (intro w' hSw;(try dsimp only at hSw);go_simp;(try with_reducible rfl);done))
 (refine aA6.t (v:=?_) 3 38 rfl rfl (by kernel_rfl) (fun _ _ _ h=>h) hHeld (Or.inl ⟨by rfl,?_⟩) ?_;rotate_left 1;focus (intro w' hSw;(try dsimp only at hSw);go_simp;(try with_reducible rfl);done))
 (refine aA6.t (v:=?_) 4 39 rfl rfl (by kernel_rfl) (fun _ _ _ h=>h) hHeld (Or.inl ⟨by rfl,?_⟩) ?_;rotate_left 1;focus (intro w' hSw;(try dsimp only at hSw);go_simp;(try with_reducible rfl);done))
 clear hHeld;refine aA6.two (i:=2) (j:=5) (by kernel_rfl) rfl rfl (fun K hK=>?_) (fun K hK=>?_)
 .
  (try go_simp)
  have hltb:=HZB.out.lt;have hal:Bel W4 (W4.alloc (.cells #[.slice C9 (aA3 p g c).last.length j9] 30)):=(Bel.refl W4).alloc _;have HX:Hid (Blk (W4.alloc (.cells #[.slice C9 (aA3 p g c).last.length j9] 30)) W4.heap.size #[.slice C9 (aA3 p g c).last.length j9] 30):=Blk.new _ _ _;have hsz0:Hid ((W4.alloc (.cells #[.slice C9 (aA3 p g c).last.length j9] 30)).heap.size=W4.heap.size+1):=World.size_alloc _ _;replace HZB:=aA0 (HZB.out.keep hal);replace HW:=HW.trans hal;replace HBa:=HBa.trans hal;replace HVS:Hid (∀ W,(W4.alloc (.cells #[.slice C9 (aA3 p g c).last.length j9] 30)).heap.size<=W.heap.size->(∀ k,Wa.heap.size<=k/\k<bt->W.heap[k]?=(W4.alloc (.cells #[.slice C9 (aA3 p g c).last.length j9] 30)).heap[k]?)->aB5 W (.agg #[.slice C7 (aA3 p g c).chosen.length j7,.slice C8 (aA3 p g c).enabled.length j8,.slice C9 (aA3 p g c).last.length j9,.int .i64 (aA3 p g c).count.steps,.int .i64 (aA3 p g c).count.moves,.int .i64 (aA3 p g c).count.rounds,.int .i64 (aA3 p g c).count.begun,.int .u32 ((aA3 p g c).count.pending:Int)]) (aA3 p g c)):=fun W hz hk=>HVS.out W (Nat.le_trans hal.size hz) fun k h=>(hk k h).trans (hal.block k (by omega))
  refine hK.out _ _ (fun _=>HS5.out _ HZB.out) ?_
  clear hK K hal hltb
  (try simp only [Act.put,List.setIfInBounds_toArray,List.set_cons_zero,List.set_cons_succ])
  generalize W4.alloc (.cells #[.slice C9 (aA3 p g c).last.length j9] 30)=V0 at *;obtain ⟨gX,hg0⟩:∃ q,W4.heap.size=q:=⟨_,rfl⟩;rw [hg0] at HX hsz0 ⊢;have hlgX:bt+1<=gX:=by have:=HSZB.out;omega
  clear hg0;have hHeld:=HS5.out _ HZB.out
  (refine aA6.t (v:=?_) 6 16 rfl rfl (by kernel_rfl) (fun _ _ _ h=>h) hHeld (Or.inl ⟨by rfl,?_⟩) ?_;rotate_left 1;focus (intro w' hSw;(try dsimp only at hSw);go_simp;(try with_reducible rfl);done))
  clear hHeld;refine aA6.one (i:=5) (by kernel_rfl) rfl (fun K hK=>?_)
  (try go_simp)
  have hltb:=HZB.out.lt;have hal:Bel V0 (V0.alloc (.cells #[.int .i64 (aA3 p g c).count.steps,.int .i64 (aA3 p g c).count.moves,.int .i64 (aA3 p g c).count.rounds,.int .i64 (aA3 p g c).count.begun,.int .u32 ((aA3 p g c).count.pending:Int)] 36)):=(Bel.refl V0).alloc _;have HY:Hid (Blk (V0.alloc (.cells #[.int .i64 (aA3 p g c).count.steps,.int .i64 (aA3 p g c).count.moves,.int .i64 (aA3 p g c).count.rounds,.int .i64 (aA3 p g c).count.begun,.int .u32 ((aA3 p g c).count.pending:Int)] 36)) V0.heap.size #[.int .i64 (aA3 p g c).count.steps,.int .i64 (aA3 p g c).count.moves,.int .i64 (aA3 p g c).count.rounds,.int .i64 (aA3 p g c).count.begun,.int .u32 ((aA3 p g c).count.pending:Int)] 36):=Blk.new _ _ _;have hsz1:Hid ((V0.alloc (.cells #[.int .i64 (aA3 p g c).count.steps,.int .i64 (aA3 p g c).count.moves,.int .i64 (aA3 p g c).count.rounds,.int .i64 (aA3 p g c).count.begun,.int .u32 ((aA3 p g c).count.pending:Int)] 36)).heap.size=V0.heap.size+1):=World.size_alloc _ _;replace HX:=aA0 (HX.out.keep hal);replace HZB:=aA0 (HZB.out.keep hal);replace HW:=HW.trans hal;replace HBa:=HBa.trans hal;replace HVS:Hid (∀ W,(V0.alloc (.cells #[.int .i64 (aA3 p g c).count.steps,.int .i64 (aA3 p g c).count.moves,.int .i64 (aA3 p g c).count.rounds,.int .i64 (aA3 p g c).count.begun,.int .u32 ((aA3 p g c).count.pending:Int)] 36)).heap.size<=W.heap.size->(∀ k,Wa.heap.size<=k/\k<bt->W.heap[k]?=(V0.alloc (.cells #[.int .i64 (aA3 p g c).count.steps,.int .i64 (aA3 p g c).count.moves,.int .i64 (aA3 p g c).count.rounds,.int .i64 (aA3 p g c).count.begun,.int .u32 ((aA3 p g c).count.pending:Int)] 36)).heap[k]?)->aB5 W (.agg #[.slice C7 (aA3 p g c).chosen.length j7,.slice C8 (aA3 p g c).enabled.length j8,.slice C9 (aA3 p g c).last.length j9,.int .i64 (aA3 p g c).count.steps,.int .i64 (aA3 p g c).count.moves,.int .i64 (aA3 p g c).count.rounds,.int .i64 (aA3 p g c).count.begun,.int .u32 ((aA3 p g c).count.pending:Int)]) (aA3 p g c)):=fun W hz hk=>HVS.out W (Nat.le_trans hal.size hz) fun k h=>(hk k h).trans (hal.block k (by omega))
  refine hK.out _ _ (fun _=>HS5.out _ HZB.out) ?_
  clear hK K hal hltb
  (try simp only [Act.put,List.setIfInBounds_toArray,List.set_cons_zero,List.set_cons_succ])
  generalize V0.alloc (.cells #[.int .i64 (aA3 p g c).count.steps,.int .i64 (aA3 p g c).count.moves,.int .i64 (aA3 p g c).count.rounds,.int .i64 (aA3 p g c).count.begun,.int .u32 ((aA3 p g c).count.pending:Int)] 36)=V1 at *;obtain ⟨gY,hg1⟩:∃ q,V0.heap.size=q:=⟨_,rfl⟩;rw [hg1] at HY hsz1 ⊢;have hlgY:bt+1<=gY:=by have:=hsz0.out;omega
  clear hg1;have HI0:Hid (WR bt (aA3 p g c) C7 j7 C8 j8 C9 j9 [aA3 p g c] [aA3 p g c] (some ⟨gX,0,none⟩) 1 (some ⟨gY,0,none⟩) 1 [.slice C9 (aA3 p g c).last.length j9] (fun k=>Wa.heap.size<=k/\k<bt) V1):=WR.first HZB.out HVS.out HX.out HY.out (by omega) (by omega) HSZ.out
  (refine aA6.one (i:=7) (by kernel_rfl) rfl (fun K hK=>?_));go_simp;refine hK.out _ _ (fun h=>absurd rfl h) ?_;clear hK K;refine aA6.done (by kernel_rfl) ?_ _;(try simp only [Act.put,List.setIfInBounds_toArray,List.set_cons_zero,List.set_cons_succ])
  have HBTA:=aA0 HSZ.out;clear HVS HS5 HX HY HZB HSZ;obtain ⟨a0,a1,a2,a3,a4,a5,a6,a7,az⟩:=hca.out _ HBa
  go_wp2_with fail
  go_loopg [16,17,18] T.chosen.length (fun m x y z wr=>∃ (i:Nat) (t:Trc) (C7:Option Addr) (j7:Nat) (C8:Option Addr) (j8:Nat) (C9:Option Addr) (j9:Nat) (ts:List Trc) (AX:Option Addr) (cX:Nat) (AY:Option Addr) (cY:Nat) (hs:List Value) (C:Nat->Prop),i<=T.chosen.length/\m=T.chosen.length-i/\x = .slice AX ts.length cX/\y = .slice AY ts.length cY/\z = .int .i64 (i:Int)/\Hid (ts.length=i+1/\OkT p g t/\t.chosen.length=i/\ts=(aBw p g kind (aA3 p g c) l).take (i+1)/\(aBw p g kind (aA3 p g c) l)[i]?=some t)/\Hid (WR bt t C7 j7 C8 j8 C9 j9 ts ts AX cX AY cY hs C wr)/\Bel Wa wr/\Bel ((w.alloc (.cells #[.string p.name,.slice A1 p.vars.length k1,.slice A2 p.rules.length k2] 25)).alloc (.cells #[.slice A3 g.ids.length k3,.slice A4 g.ports.length k4] 29)) wr)
  case atStart=>exact ⟨0,aA3 p g c,C7,j7,C8,j8,C9,j9,[aA3 p g c],_,_,_,_,_,_,by omega,rfl,rfl,rfl,rfl,⟨rfl,OkT.start HM.out,rfl,aNx,aP8⟩,HI0,HBa,HW⟩
  case round =>
   (try clear HI0)
   (try clear a0 a1 a2 a3 a4 a5 a6 a7 az)
   clear HBa HW;obtain ⟨i,t0,O7,o7,O8,o8,O9,o9,ts,AX,cX,AY,cY,hs,C,hi,rfl,rfl,rfl,rfl,HO,HI,HBa,HW⟩:=hrel;obtain ⟨a0,a1,a2,a3,a4,a5,a6,a7,az⟩:=hca.out _ HBa
   by_cases hlt:i<T.chosen.length
   .have hd0:decide (i<T.chosen.length)=true:=by simpa using hlt
    have hkI:(i:Int)<(T.chosen.length:Int):=by omega
    have HST:=aA0 (HPF.out.step hlt HO.out.2.2.2.2);have HCM:=aA0 (HMa.out _ HBa).1
    (try clear a0 a1 a2 a3 a4 a5 a6 a7 az)
    obtain ⟨bC,oC,rfl,hbC,cC⟩:=aAd.at_ HCM.out i hlt;obtain ⟨a0,a1,a2,a3,a4,a5,a6,a7,az⟩:=hca.out _ HBa;clear HCM;have hS32:=HPF.out.all _ (List.getElem_mem hlt);obtain ⟨S,hSd⟩:∃ S,T.chosen[i]=S:=⟨_,rfl⟩;rw [hSd] at cC hS32 HST
    have HNX:Hid (S≠0/\aBn S (aAj p g t0.last)=true/\S<16777216/\aCv p g (aBe p g t0.last S)=0/\OkT p g (aAm p g t0 S)):=by
     obtain ⟨a1,a2⟩:=aGn hS32 (aGe HO.out.2.1.mem) HST.out.1;exact ⟨a1,(aDu HST.out.1).2,a2,(aG9 HO.out.2.1.mem hS32 HST.out.1).1,HO.out.2.1.next hS32 HST.out.1⟩
    have HLN:Hid (ts.length=i+1):=HO.out.1
    have HN:Hid ((ts++[aAm p g t0 S]).length=i+1+1/\OkT p g (aAm p g t0 S)/\(aAm p g t0 S).chosen.length=i+1/\ts++[aAm p g t0 S]=(aBw p g kind (aA3 p g c) l).take (i+1+1)/\(aBw p g kind (aA3 p g c) l)[i+1]?=some (aAm p g t0 S)):=by
     refine ⟨by rw [List.length_append,HLN.out];rfl,HNX.out.2.2.2.2,by simp [aAm,HO.out.2.2.1],?_,HST.out.2⟩
     rw [List.take_add_one,<- HO.out.2.2.2.1,HST.out.2];rfl
    clear hSd hS32;have HB:=Bel.refl wr
    have hcell:Hid (∀ w',Bel wr w'->(fun w':World=>w'.cell? ⟨w.heap.size,0,none⟩=some (.string p.name)/\w'.cell? ⟨w.heap.size,1,none⟩=some (.slice A1 p.vars.length k1)/\w'.cell? ⟨w.heap.size,2,none⟩=some (.slice A2 p.rules.length k2)/\w'.cell? ⟨w.heap.size+1,0,none⟩=some (.slice A3 g.ids.length k3)/\w'.cell? ⟨w.heap.size+1,1,none⟩=some (.slice A4 g.ports.length k4)/\w.heap.size+1<w'.heap.size/\w'.cell? ⟨bt,0,none⟩=some (.slice O7 t0.chosen.length o7)/\w'.cell? ⟨bt,1,none⟩=some (.slice O8 t0.enabled.length o8)/\w'.cell? ⟨bt,2,none⟩=some (.slice O9 t0.last.length o9)/\w'.cell? ⟨bt,3,none⟩=some (.int .i64 t0.count.steps)/\w'.cell? ⟨bt,4,none⟩=some (.int .i64 t0.count.moves)/\w'.cell? ⟨bt,5,none⟩=some (.int .i64 t0.count.rounds)/\w'.cell? ⟨bt,6,none⟩=some (.int .i64 t0.count.begun)/\w'.cell? ⟨bt,7,none⟩=some (.int .u32 (t0.count.pending:Int))/\bt<w'.heap.size/\w'.cell? ⟨ba,0,none⟩=some (.slice (some ⟨bC,oC,none⟩) T.chosen.length ak)/\w'.cell? ⟨ba,1,none⟩=some (.slice aB T.enabled.length al)/\w'.cell? ⟨ba,2,none⟩=some (.slice aC T.last.length am)/\w'.cell? ⟨ba,3,none⟩=some (.int .i64 T.count.steps)/\w'.cell? ⟨ba,4,none⟩=some (.int .i64 T.count.moves)/\w'.cell? ⟨ba,5,none⟩=some (.int .i64 T.count.rounds)/\w'.cell? ⟨ba,6,none⟩=some (.int .i64 T.count.begun)/\w'.cell? ⟨ba,7,none⟩=some (.int .u32 (T.count.pending:Int))/\ba<w'.heap.size/\w'.cell? ⟨bC,oC+i,none⟩=some (.int .u32 (S:Int))/\bC<w'.heap.size) w'):=fun w' kk=>by
     obtain ⟨e0,e1,e2,e3,e4,e5⟩:=aAi (HW.trans kk);have q:=HI.out.box.keep kk;obtain ⟨a0,a1,a2,a3,a4,a5,a6,a7,az⟩:=hca.out _ (HBa.trans kk);exact ⟨e0,e1,e2,e3,e4,e5,q.cell 0 rfl,q.cell 1 rfl,q.cell 2 rfl,q.cell 3 rfl,q.cell 4 rfl,q.cell 5 rfl,q.cell 6 rfl,q.cell 7 rfl,q.lt,a0,a1,a2,a3,a4,a5,a6,a7,az,(kk.cell hbC).trans cC,Nat.lt_of_lt_of_le hbC kk.size⟩
    clear cC
    go_wp2_with fail
    replace HW:=HW.drew;replace HB:=HB.drew;replace HBa:=HBa.drew;refine aA6.start (fun w':World=>w'.cell? ⟨w.heap.size,0,none⟩=some (.string p.name)/\w'.cell? ⟨w.heap.size,1,none⟩=some (.slice A1 p.vars.length k1)/\w'.cell? ⟨w.heap.size,2,none⟩=some (.slice A2 p.rules.length k2)/\w'.cell? ⟨w.heap.size+1,0,none⟩=some (.slice A3 g.ids.length k3)/\w'.cell? ⟨w.heap.size+1,1,none⟩=some (.slice A4 g.ports.length k4)/\w.heap.size+1<w'.heap.size/\w'.cell? ⟨bt,0,none⟩=some (.slice O7 t0.chosen.length o7)/\w'.cell? ⟨bt,1,none⟩=some (.slice O8 t0.enabled.length o8)/\w'.cell? ⟨bt,2,none⟩=some (.slice O9 t0.last.length o9)/\w'.cell? ⟨bt,3,none⟩=some (.int .i64 t0.count.steps)/\w'.cell? ⟨bt,4,none⟩=some (.int .i64 t0.count.moves)/\w'.cell? ⟨bt,5,none⟩=some (.int .i64 t0.count.rounds)/\w'.cell? ⟨bt,6,none⟩=some (.int .i64 t0.count.begun)/\w'.cell? ⟨bt,7,none⟩=some (.int .u32 (t0.count.pending:Int))/\bt<w'.heap.size/\w'.cell? ⟨ba,0,none⟩=some (.slice (some ⟨bC,oC,none⟩) T.chosen.length ak)/\w'.cell? ⟨ba,1,none⟩=some (.slice aB T.enabled.length al)/\w'.cell? ⟨ba,2,none⟩=some (.slice aC T.last.length am)/\w'.cell? ⟨ba,3,none⟩=some (.int .i64 T.count.steps)/\w'.cell? ⟨ba,4,none⟩=some (.int .i64 T.count.moves)/\w'.cell? ⟨ba,5,none⟩=some (.int .i64 T.count.rounds)/\w'.cell? ⟨ba,6,none⟩=some (.int .i64 T.count.begun)/\w'.cell? ⟨ba,7,none⟩=some (.int .u32 (T.count.pending:Int))/\ba<w'.heap.size/\w'.cell? ⟨bC,oC+i,none⟩=some (.int .u32 (S:Int))/\bC<w'.heap.size) 9 (by kernel_rfl) ?_
    have hHeld:=hcell.out _ HB
    (refine aA6.t (v:=?_) 0 48 rfl rfl (by kernel_rfl) (fun _ _ _ h=>h) hHeld (Or.inl ⟨by rfl,?_⟩) ?_;rotate_left 1;focus (intro w' hSw;(try dsimp only at hSw);go_simp;(try with_reducible rfl);done))
    (refine aA6.t (v:=?_) 1 49 rfl rfl (by kernel_rfl) (fun _ _ _ h=>h) hHeld (Or.inl ⟨by rfl,?_⟩) ?_;rotate_left 1;focus (intro w' hSw;(try dsimp only at hSw);go_simp;(try with_reducible rfl);done))
    (refine aA6.t (v:=?_) 2 50 rfl rfl (by kernel_rfl) (fun _ _ _ h=>h) hHeld (Or.inl ⟨by rfl,?_⟩) ?_;rotate_left 1;focus (intro w' hSw;(try dsimp only at hSw);go_simp;(try with_reducible rfl);done))
    (refine aA6.t (v:=?_) 3 51 rfl rfl (by kernel_rfl) (fun _ _ _ h=>h) hHeld (Or.inl ⟨by rfl,?_⟩) ?_;rotate_left 1;focus (intro w' hSw;(try dsimp only at hSw);go_simp;(try with_reducible rfl);done))
    (refine aA6.t (v:=?_) 4 52 rfl rfl (by kernel_rfl) (fun _ _ _ h=>h) hHeld (Or.inl ⟨by rfl,?_⟩) ?_;rotate_left 1;focus (intro w' hSw;(try dsimp only at hSw);go_simp;(try with_reducible rfl);done))
    (refine aA6.t (v:=?_) 5 53 rfl rfl (by kernel_rfl) (fun _ _ _ h=>h) hHeld (Or.inl ⟨by rfl,?_⟩) ?_;rotate_left 1;focus (intro w' hSw;(try dsimp only at hSw);go_simp;(try with_reducible rfl);done))
    (refine aA6.t (v:=?_) 6 54 rfl rfl (by kernel_rfl) (fun _ _ _ h=>h) hHeld (Or.inl ⟨by rfl,?_⟩) ?_;rotate_left 1;focus (intro w' hSw;(try dsimp only at hSw);go_simp;(try with_reducible rfl);done))
    (refine aA6.t (v:=?_) 7 55 rfl rfl (by kernel_rfl) (fun _ _ _ h=>h) hHeld (Or.inl ⟨by rfl,?_⟩) ?_;rotate_left 1;focus (intro w' hSw;(try dsimp only at hSw);go_simp;(try with_reducible rfl);done))
    refine aA6.one (i:=8) (by kernel_rfl) rfl (fun K hK=>?_)
    (try go_simp)
    go_at_call 41
    refine (aJn _ p _ g _ t0 S _ (HPV.out _ (aA1 HW)) (HGV.out _ (aA1 HW)) (HI.out.bel HB).val0 HL.out HGL.out HO.out.2.1 (by have:=HO.out.2.2.1;omega) HNX.out.1 HNX.out.2.1 HNX.out.2.2.1 HNX.out.2.2.2.1).mono ?_
    rintro e w5 ⟨vt,rfl,hV,hb⟩
    (try go_simp)
    obtain ⟨C7,j7,C8,j8,C9,j9,rfl,_⟩:=hV _ (aAv.refl _ _);have HTN:=aA0 ((HI.out.bel HB).next hb hV);replace HB:=HB.trans hb;replace HW:=HW.trans hb;replace HBa:=HBa.trans hb;have hT5:=aA0 (HI.out.box.keep HB);clear hV hb;refine hK.out _ _ (fun _=>hcell.out _ HB) ?_
    clear hK K hHeld
    (try simp only [Act.put,List.setIfInBounds_toArray,List.set_cons_zero,List.set_cons_succ])
    have z0:=hT5.out.cell 0 (v := .slice O7 t0.chosen.length o7) rfl;have zf0:=hT5.out.frozen 0;have z1:=hT5.out.cell 1 (v := .slice O8 t0.enabled.length o8) rfl;have zf1:=hT5.out.frozen 1;have z2:=hT5.out.cell 2 (v := .slice O9 t0.last.length o9) rfl;have zf2:=hT5.out.frozen 2;have z3:=hT5.out.cell 3 (v := .int .i64 t0.count.steps) rfl;have zf3:=hT5.out.frozen 3;have z4:=hT5.out.cell 4 (v := .int .i64 t0.count.moves) rfl;have zf4:=hT5.out.frozen 4;have z5:=hT5.out.cell 5 (v := .int .i64 t0.count.rounds) rfl;have zf5:=hT5.out.frozen 5;have z6:=hT5.out.cell 6 (v := .int .i64 t0.count.begun) rfl;have zf6:=hT5.out.frozen 6;have z7:=hT5.out.cell 7 (v := .int .u32 (t0.count.pending:Int)) rfl;have zf7:=hT5.out.frozen 7;have zl:=hT5.out.lt
    (refine aA6.one (i:=9) (by kernel_rfl) rfl (fun K hK=>?_));go_simp;refine hK.out _ _ (fun h=>absurd rfl h) ?_;clear hK K;refine aA6.done (by kernel_rfl) ?_ _;(try simp only [Act.put,List.setIfInBounds_toArray,List.set_cons_zero,List.set_cons_succ])
    (try clear z0 zf0 z1 zf1 z2 zf2 z3 zf3 z4 zf4 z5 zf5 z6 zf6 z7 zf7 zl)
    replace HW:=HW.trace (b:=bt) (v0 := .slice C7 (aAm p g t0 S).chosen.length j7) (v1 := .slice C8 (aAm p g t0 S).enabled.length j8) (v2 := .slice C9 (aAm p g t0 S).last.length j9) (v3 := .int .i64 (aAm p g t0 S).count.steps) (v4 := .int .i64 (aAm p g t0 S).count.moves) (v5 := .int .i64 (aAm p g t0 S).count.rounds) (v6 := .int .i64 (aAm p g t0 S).count.begun) (v7 := .int .u32 ((aAm p g t0 S).count.pending:Int)) hbt8;replace HBa:=HBa.trace (b:=bt) (v0 := .slice C7 (aAm p g t0 S).chosen.length j7) (v1 := .slice C8 (aAm p g t0 S).enabled.length j8) (v2 := .slice C9 (aAm p g t0 S).last.length j9) (v3 := .int .i64 (aAm p g t0 S).count.steps) (v4 := .int .i64 (aAm p g t0 S).count.moves) (v5 := .int .i64 (aAm p g t0 S).count.rounds) (v6 := .int .i64 (aAm p g t0 S).count.begun) (v7 := .int .u32 ((aAm p g t0 S).count.pending:Int)) HBTA.out;clear hcell HI HB hT5 HNX HST HO;have HI:=HTN;clear HTN;generalize (fun q=>C q∨wr.drew.heap.size<=q/\q<w5.heap.size)=C at *;generalize ((((((((w5.setCell ⟨bt,0,none⟩ (.slice C7 (aAm p g t0 S).chosen.length j7)).setCell ⟨bt,1,none⟩ (.slice C8 (aAm p g t0 S).enabled.length j8)).setCell ⟨bt,2,none⟩ (.slice C9 (aAm p g t0 S).last.length j9)).setCell ⟨bt,3,none⟩ (.int .i64 (aAm p g t0 S).count.steps)).setCell ⟨bt,4,none⟩ (.int .i64 (aAm p g t0 S).count.moves)).setCell ⟨bt,5,none⟩ (.int .i64 (aAm p g t0 S).count.rounds)).setCell ⟨bt,6,none⟩ (.int .i64 (aAm p g t0 S).count.begun)).setCell ⟨bt,7,none⟩ (.int .u32 ((aAm p g t0 S).count.pending:Int)))=Wn at *;generalize aAm p g t0 S=t at *
    (try clear a0 a1 a2 a3 a4 a5 a6 a7 az)
    go_wp2_with fail
    refine aA6.start (fun w':World=>w'.cell? ⟨bt,0,none⟩=some (.slice C7 t.chosen.length j7)/\w'.cell? ⟨bt,1,none⟩=some (.slice C8 t.enabled.length j8)/\w'.cell? ⟨bt,2,none⟩=some (.slice C9 t.last.length j9)/\w'.cell? ⟨bt,3,none⟩=some (.int .i64 t.count.steps)/\w'.cell? ⟨bt,4,none⟩=some (.int .i64 t.count.moves)/\w'.cell? ⟨bt,5,none⟩=some (.int .i64 t.count.rounds)/\w'.cell? ⟨bt,6,none⟩=some (.int .i64 t.count.begun)/\w'.cell? ⟨bt,7,none⟩=some (.int .u32 (t.count.pending:Int))/\bt<w'.heap.size) 11 (by kernel_rfl) ?_
    replace HI:=aA0 (HI.out.bel (Bel.refl Wn).drew);replace HW:=HW.drew;replace HBa:=HBa.drew;generalize Wn.drew=V at *;have HS10:Hid (∀ V,Blk V bt #[.slice C7 t.chosen.length j7,.slice C8 t.enabled.length j8,.slice C9 t.last.length j9,.int .i64 t.count.steps,.int .i64 t.count.moves,.int .i64 t.count.rounds,.int .i64 t.count.begun,.int .u32 (t.count.pending:Int)] 38->(fun w':World=>w'.cell? ⟨bt,0,none⟩=some (.slice C7 t.chosen.length j7)/\w'.cell? ⟨bt,1,none⟩=some (.slice C8 t.enabled.length j8)/\w'.cell? ⟨bt,2,none⟩=some (.slice C9 t.last.length j9)/\w'.cell? ⟨bt,3,none⟩=some (.int .i64 t.count.steps)/\w'.cell? ⟨bt,4,none⟩=some (.int .i64 t.count.moves)/\w'.cell? ⟨bt,5,none⟩=some (.int .i64 t.count.rounds)/\w'.cell? ⟨bt,6,none⟩=some (.int .i64 t.count.begun)/\w'.cell? ⟨bt,7,none⟩=some (.int .u32 (t.count.pending:Int))/\bt<w'.heap.size) V):=fun V q=>⟨q.cell 0 rfl,q.cell 1 rfl,q.cell 2 rfl,q.cell 3 rfl,q.cell 4 rfl,q.cell 5 rfl,q.cell 6 rfl,q.cell 7 rfl,q.lt⟩;have hHeld:=HS10.out V HI.out.box
    (refine aA6.t (v:=?_) 0 57 rfl rfl (by kernel_rfl) (fun _ _ _ h=>h) hHeld (Or.inl ⟨by rfl,?_⟩) ?_;rotate_left 1;focus (intro w' hSw;(try dsimp only at hSw);go_simp;(try with_reducible rfl);done))
    (refine aA6.t (v:=?_) 1 58 rfl rfl (by kernel_rfl) (fun _ _ _ h=>h) hHeld (Or.inl ⟨by rfl,?_⟩) ?_;rotate_left 1;focus (intro w' hSw;(try dsimp only at hSw);go_simp;(try with_reducible rfl);done))
    (refine aA6.t (v:=?_) 2 59 rfl rfl (by kernel_rfl) (fun _ _ _ h=>h) hHeld (Or.inl ⟨by rfl,?_⟩) ?_;rotate_left 1;focus (intro w' hSw;(try dsimp only at hSw);go_simp;(try with_reducible rfl);done))
    (refine aA6.t (v:=?_) 5 62 rfl rfl (by kernel_rfl) (fun _ _ _ h=>h) hHeld (Or.inl ⟨by rfl,?_⟩) ?_;rotate_left 1;focus (intro w' hSw;(try dsimp only at hSw);go_simp;(try with_reducible rfl);done))
    (refine aA6.t (v:=?_) 6 63 rfl rfl (by kernel_rfl) (fun _ _ _ h=>h) hHeld (Or.inl ⟨by rfl,?_⟩) ?_;rotate_left 1;focus (intro w' hSw;(try dsimp only at hSw);go_simp;(try with_reducible rfl);done))
    (refine aA6.t (v:=?_) 7 64 rfl rfl (by kernel_rfl) (fun _ _ _ h=>h) hHeld (Or.inl ⟨by rfl,?_⟩) ?_;rotate_left 1;focus (intro w' hSw;(try dsimp only at hSw);go_simp;(try with_reducible rfl);done))
    clear hHeld;refine aA6.two (i:=3) (j:=8) (by kernel_rfl) rfl rfl (fun K hK=>?_) (fun K hK=>?_)
    .
     (try go_simp)
     have hal:Bel V (V.alloc (.cells #[.slice C9 t.last.length j9] 30)):=(Bel.refl V).alloc _;have H60:Hid (Blk (V.alloc (.cells #[.slice C9 t.last.length j9] 30)) V.heap.size #[.slice C9 t.last.length j9] 30):=Blk.new _ _ _;replace HI:=aA0 (HI.out.bel hal);replace HW:=HW.trans hal;replace HBa:=HBa.trans hal;refine hK.out _ _ (fun _=>HS10.out _ HI.out.box) ?_
     clear hK K hal
     (try simp only [Act.put,List.setIfInBounds_toArray,List.set_cons_zero,List.set_cons_succ])
     generalize V.alloc (.cells #[.slice C9 t.last.length j9] 30)=V0_3 at *;generalize V.heap.size=g60 at *;refine aA6.two (i:=4) (j:=8) (by kernel_rfl) rfl rfl (fun K hK=>?_) (fun K hK=>?_)
     .
      have hb1:=HI.out.box.lt;refine aAh _ rfl (.tmp 57) (.tmp 60) 51 rfl (bt+1) 30 i0 (.slice none 0 0) 1 24 underlying51 hi0 hz0 hz1 hz2 rfl (by decide) AX ts.length cX hs (by first | (simp [Act.eval];done) | (simp [Act.eval,Act.put];done)) HI.out.row1 g60 #[.slice C9 t.last.length j9] 30 (0,0) (by first | (simp [Act.eval];done) | (simp [Act.eval,Act.put];done)) H60.out rfl (aEr _ _ _) (by have:=HLN.out;unfold maxLen;omega) (by have:=HLN.out;omega) (by omega) ?_
      intro AX2 cX2 V1_4 hown hgr hat
      replace HW:=HW.grown hgr (fun k hk=>by have:=(aA8 HI.out.row1 k hk.symm).1;omega)
      replace HBa:=HBa.grown hgr (fun k hk=>by have:=(aA8 HI.out.row1 k hk.symm).1;have:=HBTA.out;omega)
      replace HI:=aA0 (HI.out.push1 hown hgr hat);refine hK.out _ _ (fun _=>HS10.out _ HI.out.box) ?_
      clear hK K hown hgr hat H60 hb1
      (try simp only [Act.put,List.setIfInBounds_toArray,List.set_cons_zero,List.set_cons_succ])
      refine aA6.one (i:=8) (by kernel_rfl) rfl (fun K hK=>?_)
      (try go_simp)
      have hal:Bel V1_4 (V1_4.alloc (.cells #[.int .i64 t.count.steps,.int .i64 t.count.moves,.int .i64 t.count.rounds,.int .i64 t.count.begun,.int .u32 (t.count.pending:Int)] 36)):=(Bel.refl V1_4).alloc _;have H65:Hid (Blk (V1_4.alloc (.cells #[.int .i64 t.count.steps,.int .i64 t.count.moves,.int .i64 t.count.rounds,.int .i64 t.count.begun,.int .u32 (t.count.pending:Int)] 36)) V1_4.heap.size #[.int .i64 t.count.steps,.int .i64 t.count.moves,.int .i64 t.count.rounds,.int .i64 t.count.begun,.int .u32 (t.count.pending:Int)] 36):=Blk.new _ _ _;replace HI:=aA0 (HI.out.bel hal);replace HW:=HW.trans hal;replace HBa:=HBa.trans hal;refine hK.out _ _ (fun _=>HS10.out _ HI.out.box) ?_
      clear hK K hal
      (try simp only [Act.put,List.setIfInBounds_toArray,List.set_cons_zero,List.set_cons_succ])
      generalize V1_4.alloc (.cells #[.int .i64 t.count.steps,.int .i64 t.count.moves,.int .i64 t.count.rounds,.int .i64 t.count.begun,.int .u32 (t.count.pending:Int)] 36)=V2_8 at *;generalize V1_4.heap.size=g65 at *;refine aA6.one (i:=9) (by kernel_rfl) rfl (fun K hK=>?_)
      have hb1:=HI.out.box.lt;refine aAh _ rfl (.tmp 62) (.tmp 65) 52 rfl (bt+1) 36 j0 (.agg #[.int .i64 0,.int .i64 0,.int .i64 0,.int .i64 0,.int .u32 0]) 5 40 underlying52 hj0 hy0 hy1 hy2 rfl (by decide) AY ts.length cY (ts.flatMap aYh) (by first | (simp [Act.eval];done) | (simp [Act.eval,Act.put];done)) HI.out.row2 g65 #[.int .i64 t.count.steps,.int .i64 t.count.moves,.int .i64 t.count.rounds,.int .i64 t.count.begun,.int .u32 (t.count.pending:Int)] 36 (0,0) (by first | (simp [Act.eval];done) | (simp [Act.eval,Act.put];done)) H65.out rfl (aFi _ _ _ _ _) (by have:=HLN.out;unfold maxLen;omega) (by have:=HLN.out;omega) (by omega) ?_
      intro AY2 cY2 V3_9 hown hgr hat
      replace HW:=HW.grown hgr (fun k hk=>by have:=(aA8 HI.out.row2 k hk.symm).1;omega)
      replace HBa:=HBa.grown hgr (fun k hk=>by have:=(aA8 HI.out.row2 k hk.symm).1;have:=HBTA.out;omega)
      replace HI:=aA0 (HI.out.push2 hown hgr hat);refine hK.out _ _ (fun _=>HS10.out _ HI.out.box) ?_
      clear hK K hown hgr hat H65 hb1
      (try simp only [Act.put,List.setIfInBounds_toArray,List.set_cons_zero,List.set_cons_succ])
      have hHeld:=HS10.out _ HI.out.box
      (refine aA6.t (v:=?_) 10 16 rfl rfl (by kernel_rfl) (fun _ _ _ h=>h) hHeld (Or.inl ⟨by rfl,?_⟩) ?_;rotate_left 1;focus (intro w' hSw;(try dsimp only at hSw);go_simp;(try with_reducible rfl);done))
      clear hHeld
      (refine aA6.one (i:=11) (by kernel_rfl) rfl (fun K hK=>?_));go_simp;refine hK.out _ _ (fun h=>absurd rfl h) ?_;clear hK K;refine aA6.done (by kernel_rfl) ?_ _;(try simp only [Act.put,List.setIfInBounds_toArray,List.set_cons_zero,List.set_cons_succ])
      clear HS10
      go_wp2_with fail
      go_roundg (T.chosen.length-(i+1))
      case rel =>
       refine ⟨i+1,t,C7,j7,C8,j8,C9,j9,ts++[t],AX2,cX2,AY2,cY2,_,C,by omega,rfl,by rw [List.length_append];rfl,by rw [List.length_append];rfl,by go_num,HN.out,HI.out,HBa,HW⟩
      case measure=>omega
     .
      (try go_simp)
      have hal:Bel V0_3 (V0_3.alloc (.cells #[.int .i64 t.count.steps,.int .i64 t.count.moves,.int .i64 t.count.rounds,.int .i64 t.count.begun,.int .u32 (t.count.pending:Int)] 36)):=(Bel.refl V0_3).alloc _;have H65:Hid (Blk (V0_3.alloc (.cells #[.int .i64 t.count.steps,.int .i64 t.count.moves,.int .i64 t.count.rounds,.int .i64 t.count.begun,.int .u32 (t.count.pending:Int)] 36)) V0_3.heap.size #[.int .i64 t.count.steps,.int .i64 t.count.moves,.int .i64 t.count.rounds,.int .i64 t.count.begun,.int .u32 (t.count.pending:Int)] 36):=Blk.new _ _ _;have HNE:Hid (∀ k,some k=(Value.slice AX ts.length cX).ownBlock->k≠V0_3.heap.size):=fun k hk=>by have:=aA8 HI.out.row1 k hk;omega
      replace H60:=aA0 (H60.out.keep hal);replace HI:=aA0 (HI.out.bel hal);replace HW:=HW.trans hal;replace HBa:=HBa.trans hal;refine hK.out _ _ (fun _=>HS10.out _ HI.out.box) ?_
      clear hK K hal
      (try simp only [Act.put,List.setIfInBounds_toArray,List.set_cons_zero,List.set_cons_succ])
      generalize V0_3.alloc (.cells #[.int .i64 t.count.steps,.int .i64 t.count.moves,.int .i64 t.count.rounds,.int .i64 t.count.begun,.int .u32 (t.count.pending:Int)] 36)=V1_8 at *;generalize V0_3.heap.size=g65 at *;refine aA6.one (i:=4) (by kernel_rfl) rfl (fun K hK=>?_)
      have hb1:=HI.out.box.lt;refine aAh _ rfl (.tmp 57) (.tmp 60) 51 rfl (bt+1) 30 i0 (.slice none 0 0) 1 24 underlying51 hi0 hz0 hz1 hz2 rfl (by decide) AX ts.length cX hs (by first | (simp [Act.eval];done) | (simp [Act.eval,Act.put];done)) HI.out.row1 g60 #[.slice C9 t.last.length j9] 30 (0,0) (by first | (simp [Act.eval];done) | (simp [Act.eval,Act.put];done)) H60.out rfl (aEr _ _ _) (by have:=HLN.out;unfold maxLen;omega) (by have:=HLN.out;omega) (by omega) ?_
      intro AX2 cX2 V2_4 hown hgr hat
      replace H65:=aA0 (H65.out.grow hgr HNE.out);clear HNE;replace HW:=HW.grown hgr (fun k hk=>by have:=(aA8 HI.out.row1 k hk.symm).1;omega)
      replace HBa:=HBa.grown hgr (fun k hk=>by have:=(aA8 HI.out.row1 k hk.symm).1;have:=HBTA.out;omega)
      replace HI:=aA0 (HI.out.push1 hown hgr hat);refine hK.out _ _ (fun _=>HS10.out _ HI.out.box) ?_
      clear hK K hown hgr hat H60 hb1
      (try simp only [Act.put,List.setIfInBounds_toArray,List.set_cons_zero,List.set_cons_succ])
      refine aA6.one (i:=9) (by kernel_rfl) rfl (fun K hK=>?_)
      have hb1:=HI.out.box.lt;refine aAh _ rfl (.tmp 62) (.tmp 65) 52 rfl (bt+1) 36 j0 (.agg #[.int .i64 0,.int .i64 0,.int .i64 0,.int .i64 0,.int .u32 0]) 5 40 underlying52 hj0 hy0 hy1 hy2 rfl (by decide) AY ts.length cY (ts.flatMap aYh) (by first | (simp [Act.eval];done) | (simp [Act.eval,Act.put];done)) HI.out.row2 g65 #[.int .i64 t.count.steps,.int .i64 t.count.moves,.int .i64 t.count.rounds,.int .i64 t.count.begun,.int .u32 (t.count.pending:Int)] 36 (0,0) (by first | (simp [Act.eval];done) | (simp [Act.eval,Act.put];done)) H65.out rfl (aFi _ _ _ _ _) (by have:=HLN.out;unfold maxLen;omega) (by have:=HLN.out;omega) (by omega) ?_
      intro AY2 cY2 V3_9 hown hgr hat
      replace HW:=HW.grown hgr (fun k hk=>by have:=(aA8 HI.out.row2 k hk.symm).1;omega)
      replace HBa:=HBa.grown hgr (fun k hk=>by have:=(aA8 HI.out.row2 k hk.symm).1;have:=HBTA.out;omega)
      replace HI:=aA0 (HI.out.push2 hown hgr hat);refine hK.out _ _ (fun _=>HS10.out _ HI.out.box) ?_
      clear hK K hown hgr hat H65 hb1
      (try simp only [Act.put,List.setIfInBounds_toArray,List.set_cons_zero,List.set_cons_succ])
      have hHeld:=HS10.out _ HI.out.box
      (refine aA6.t (v:=?_) 10 16 rfl rfl (by kernel_rfl) (fun _ _ _ h=>h) hHeld (Or.inl ⟨by rfl,?_⟩) ?_;rotate_left 1;focus (intro w' hSw;(try dsimp only at hSw);go_simp;(try with_reducible rfl);done))
      clear hHeld
      (refine aA6.one (i:=11) (by kernel_rfl) rfl (fun K hK=>?_));go_simp;refine hK.out _ _ (fun h=>absurd rfl h) ?_;clear hK K;refine aA6.done (by kernel_rfl) ?_ _;(try simp only [Act.put,List.setIfInBounds_toArray,List.set_cons_zero,List.set_cons_succ])
      clear HS10
      go_wp2_with fail
      go_roundg (T.chosen.length-(i+1))
      case rel =>
       refine ⟨i+1,t,C7,j7,C8,j8,C9,j9,ts++[t],AX2,cX2,AY2,cY2,_,C,by omega,rfl,by rw [List.length_append];rfl,by rw [List.length_append];rfl,by go_num,HN.out,HI.out,HBa,HW⟩
      case measure=>omega
    .
     (try go_simp)
     have hal:Bel V (V.alloc (.cells #[.int .i64 t.count.steps,.int .i64 t.count.moves,.int .i64 t.count.rounds,.int .i64 t.count.begun,.int .u32 (t.count.pending:Int)] 36)):=(Bel.refl V).alloc _;have H65:Hid (Blk (V.alloc (.cells #[.int .i64 t.count.steps,.int .i64 t.count.moves,.int .i64 t.count.rounds,.int .i64 t.count.begun,.int .u32 (t.count.pending:Int)] 36)) V.heap.size #[.int .i64 t.count.steps,.int .i64 t.count.moves,.int .i64 t.count.rounds,.int .i64 t.count.begun,.int .u32 (t.count.pending:Int)] 36):=Blk.new _ _ _;have HNE:Hid (∀ k,some k=(Value.slice AX ts.length cX).ownBlock->k≠V.heap.size):=fun k hk=>by have:=aA8 HI.out.row1 k hk;omega
     replace HI:=aA0 (HI.out.bel hal);replace HW:=HW.trans hal;replace HBa:=HBa.trans hal;refine hK.out _ _ (fun _=>HS10.out _ HI.out.box) ?_
     clear hK K hal
     (try simp only [Act.put,List.setIfInBounds_toArray,List.set_cons_zero,List.set_cons_succ])
     generalize V.alloc (.cells #[.int .i64 t.count.steps,.int .i64 t.count.moves,.int .i64 t.count.rounds,.int .i64 t.count.begun,.int .u32 (t.count.pending:Int)] 36)=V0_8 at *;generalize V.heap.size=g65 at *;refine aA6.one (i:=3) (by kernel_rfl) rfl (fun K hK=>?_)
     (try go_simp)
     have hal:Bel V0_8 (V0_8.alloc (.cells #[.slice C9 t.last.length j9] 30)):=(Bel.refl V0_8).alloc _;have H60:Hid (Blk (V0_8.alloc (.cells #[.slice C9 t.last.length j9] 30)) V0_8.heap.size #[.slice C9 t.last.length j9] 30):=Blk.new _ _ _;replace H65:=aA0 (H65.out.keep hal);replace HI:=aA0 (HI.out.bel hal);replace HW:=HW.trans hal;replace HBa:=HBa.trans hal;refine hK.out _ _ (fun _=>HS10.out _ HI.out.box) ?_
     clear hK K hal
     (try simp only [Act.put,List.setIfInBounds_toArray,List.set_cons_zero,List.set_cons_succ])
     generalize V0_8.alloc (.cells #[.slice C9 t.last.length j9] 30)=V1_3 at *;generalize V0_8.heap.size=g60 at *;refine aA6.one (i:=4) (by kernel_rfl) rfl (fun K hK=>?_)
     have hb1:=HI.out.box.lt;refine aAh _ rfl (.tmp 57) (.tmp 60) 51 rfl (bt+1) 30 i0 (.slice none 0 0) 1 24 underlying51 hi0 hz0 hz1 hz2 rfl (by decide) AX ts.length cX hs (by first | (simp [Act.eval];done) | (simp [Act.eval,Act.put];done)) HI.out.row1 g60 #[.slice C9 t.last.length j9] 30 (0,0) (by first | (simp [Act.eval];done) | (simp [Act.eval,Act.put];done)) H60.out rfl (aEr _ _ _) (by have:=HLN.out;unfold maxLen;omega) (by have:=HLN.out;omega) (by omega) ?_
     intro AX2 cX2 V2_4 hown hgr hat
     replace H65:=aA0 (H65.out.grow hgr HNE.out);clear HNE;replace HW:=HW.grown hgr (fun k hk=>by have:=(aA8 HI.out.row1 k hk.symm).1;omega)
     replace HBa:=HBa.grown hgr (fun k hk=>by have:=(aA8 HI.out.row1 k hk.symm).1;have:=HBTA.out;omega)
     replace HI:=aA0 (HI.out.push1 hown hgr hat);refine hK.out _ _ (fun _=>HS10.out _ HI.out.box) ?_
     clear hK K hown hgr hat H60 hb1
     (try simp only [Act.put,List.setIfInBounds_toArray,List.set_cons_zero,List.set_cons_succ])
     refine aA6.one (i:=9) (by kernel_rfl) rfl (fun K hK=>?_)
     have hb1:=HI.out.box.lt;refine aAh _ rfl (.tmp 62) (.tmp 65) 52 rfl (bt+1) 36 j0 (.agg #[.int .i64 0,.int .i64 0,.int .i64 0,.int .i64 0,.int .u32 0]) 5 40 underlying52 hj0 hy0 hy1 hy2 rfl (by decide) AY ts.length cY (ts.flatMap aYh) (by first | (simp [Act.eval];done) | (simp [Act.eval,Act.put];done)) HI.out.row2 g65 #[.int .i64 t.count.steps,.int .i64 t.count.moves,.int .i64 t.count.rounds,.int .i64 t.count.begun,.int .u32 (t.count.pending:Int)] 36 (0,0) (by first | (simp [Act.eval];done) | (simp [Act.eval,Act.put];done)) H65.out rfl (aFi _ _ _ _ _) (by have:=HLN.out;unfold maxLen;omega) (by have:=HLN.out;omega) (by omega) ?_
     intro AY2 cY2 V3_9 hown hgr hat
     replace HW:=HW.grown hgr (fun k hk=>by have:=(aA8 HI.out.row2 k hk.symm).1;omega)
     replace HBa:=HBa.grown hgr (fun k hk=>by have:=(aA8 HI.out.row2 k hk.symm).1;have:=HBTA.out;omega)
     replace HI:=aA0 (HI.out.push2 hown hgr hat);refine hK.out _ _ (fun _=>HS10.out _ HI.out.box) ?_
     clear hK K hown hgr hat H65 hb1
     (try simp only [Act.put,List.setIfInBounds_toArray,List.set_cons_zero,List.set_cons_succ])
     have hHeld:=HS10.out _ HI.out.box
     (refine aA6.t (v:=?_) 10 16 rfl rfl (by kernel_rfl) (fun _ _ _ h=>h) hHeld (Or.inl ⟨by rfl,?_⟩) ?_;rotate_left 1;focus (intro w' hSw;(try dsimp only at hSw);go_simp;(try with_reducible rfl);done))
     clear hHeld
     (refine aA6.one (i:=11) (by kernel_rfl) rfl (fun K hK=>?_));go_simp;refine hK.out _ _ (fun h=>absurd rfl h) ?_;clear hK K;refine aA6.done (by kernel_rfl) ?_ _;(try simp only [Act.put,List.setIfInBounds_toArray,List.set_cons_zero,List.set_cons_succ])
     clear HS10
     go_wp2_with fail
     go_roundg (T.chosen.length-(i+1))
     case rel =>
      refine ⟨i+1,t,C7,j7,C8,j8,C9,j9,ts++[t],AX2,cX2,AY2,cY2,_,C,by omega,rfl,by rw [List.length_append];rfl,by rw [List.length_append];rfl,by go_num,HN.out,HI.out,HBa,HW⟩
     case measure=>omega
   .have hd0:decide (i<T.chosen.length)=false:=by simpa using hlt
    obtain rfl:i=T.chosen.length:=by omega
    have hts:ts=aBw p g kind (aA3 p g c) l:=by rw [HO.out.2.2.2.1,<- HPF.out.wlen,List.take_length]
    go_wp2_with fail
    refine bodyPost_ret (v := .tuple #[.slice AX ts.length cX,.slice AY ts.length cY,.int .i64 0]) (by simp [results,Tryz.results25,go_sem];try go_simp) rfl ?_
    rw [<- hts];exact HI.out.ret (aA1 HW)
 .
  (try go_simp)
  have hltb:=HZB.out.lt;have hal:Bel W4 (W4.alloc (.cells #[.int .i64 (aA3 p g c).count.steps,.int .i64 (aA3 p g c).count.moves,.int .i64 (aA3 p g c).count.rounds,.int .i64 (aA3 p g c).count.begun,.int .u32 ((aA3 p g c).count.pending:Int)] 36)):=(Bel.refl W4).alloc _;have HY:Hid (Blk (W4.alloc (.cells #[.int .i64 (aA3 p g c).count.steps,.int .i64 (aA3 p g c).count.moves,.int .i64 (aA3 p g c).count.rounds,.int .i64 (aA3 p g c).count.begun,.int .u32 ((aA3 p g c).count.pending:Int)] 36)) W4.heap.size #[.int .i64 (aA3 p g c).count.steps,.int .i64 (aA3 p g c).count.moves,.int .i64 (aA3 p g c).count.rounds,.int .i64 (aA3 p g c).count.begun,.int .u32 ((aA3 p g c).count.pending:Int)] 36):=Blk.new _ _ _;have hsz0:Hid ((W4.alloc (.cells #[.int .i64 (aA3 p g c).count.steps,.int .i64 (aA3 p g c).count.moves,.int .i64 (aA3 p g c).count.rounds,.int .i64 (aA3 p g c).count.begun,.int .u32 ((aA3 p g c).count.pending:Int)] 36)).heap.size=W4.heap.size+1):=World.size_alloc _ _;replace HZB:=aA0 (HZB.out.keep hal);replace HW:=HW.trans hal;replace HBa:=HBa.trans hal;replace HVS:Hid (∀ W,(W4.alloc (.cells #[.int .i64 (aA3 p g c).count.steps,.int .i64 (aA3 p g c).count.moves,.int .i64 (aA3 p g c).count.rounds,.int .i64 (aA3 p g c).count.begun,.int .u32 ((aA3 p g c).count.pending:Int)] 36)).heap.size<=W.heap.size->(∀ k,Wa.heap.size<=k/\k<bt->W.heap[k]?=(W4.alloc (.cells #[.int .i64 (aA3 p g c).count.steps,.int .i64 (aA3 p g c).count.moves,.int .i64 (aA3 p g c).count.rounds,.int .i64 (aA3 p g c).count.begun,.int .u32 ((aA3 p g c).count.pending:Int)] 36)).heap[k]?)->aB5 W (.agg #[.slice C7 (aA3 p g c).chosen.length j7,.slice C8 (aA3 p g c).enabled.length j8,.slice C9 (aA3 p g c).last.length j9,.int .i64 (aA3 p g c).count.steps,.int .i64 (aA3 p g c).count.moves,.int .i64 (aA3 p g c).count.rounds,.int .i64 (aA3 p g c).count.begun,.int .u32 ((aA3 p g c).count.pending:Int)]) (aA3 p g c)):=fun W hz hk=>HVS.out W (Nat.le_trans hal.size hz) fun k h=>(hk k h).trans (hal.block k (by omega))
  refine hK.out _ _ (fun _=>HS5.out _ HZB.out) ?_
  clear hK K hal hltb
  (try simp only [Act.put,List.setIfInBounds_toArray,List.set_cons_zero,List.set_cons_succ])
  generalize W4.alloc (.cells #[.int .i64 (aA3 p g c).count.steps,.int .i64 (aA3 p g c).count.moves,.int .i64 (aA3 p g c).count.rounds,.int .i64 (aA3 p g c).count.begun,.int .u32 ((aA3 p g c).count.pending:Int)] 36)=V0 at *;obtain ⟨gY,hg0⟩:∃ q,W4.heap.size=q:=⟨_,rfl⟩;rw [hg0] at HY hsz0 ⊢;have hlgY:bt+1<=gY:=by have:=HSZB.out;omega
  clear hg0;refine aA6.one (i:=2) (by kernel_rfl) rfl (fun K hK=>?_)
  (try go_simp)
  have hltb:=HZB.out.lt;have hal:Bel V0 (V0.alloc (.cells #[.slice C9 (aA3 p g c).last.length j9] 30)):=(Bel.refl V0).alloc _;have HX:Hid (Blk (V0.alloc (.cells #[.slice C9 (aA3 p g c).last.length j9] 30)) V0.heap.size #[.slice C9 (aA3 p g c).last.length j9] 30):=Blk.new _ _ _;have hsz1:Hid ((V0.alloc (.cells #[.slice C9 (aA3 p g c).last.length j9] 30)).heap.size=V0.heap.size+1):=World.size_alloc _ _;replace HY:=aA0 (HY.out.keep hal);replace HZB:=aA0 (HZB.out.keep hal);replace HW:=HW.trans hal;replace HBa:=HBa.trans hal;replace HVS:Hid (∀ W,(V0.alloc (.cells #[.slice C9 (aA3 p g c).last.length j9] 30)).heap.size<=W.heap.size->(∀ k,Wa.heap.size<=k/\k<bt->W.heap[k]?=(V0.alloc (.cells #[.slice C9 (aA3 p g c).last.length j9] 30)).heap[k]?)->aB5 W (.agg #[.slice C7 (aA3 p g c).chosen.length j7,.slice C8 (aA3 p g c).enabled.length j8,.slice C9 (aA3 p g c).last.length j9,.int .i64 (aA3 p g c).count.steps,.int .i64 (aA3 p g c).count.moves,.int .i64 (aA3 p g c).count.rounds,.int .i64 (aA3 p g c).count.begun,.int .u32 ((aA3 p g c).count.pending:Int)]) (aA3 p g c)):=fun W hz hk=>HVS.out W (Nat.le_trans hal.size hz) fun k h=>(hk k h).trans (hal.block k (by omega))
  refine hK.out _ _ (fun _=>HS5.out _ HZB.out) ?_
  clear hK K hal hltb
  (try simp only [Act.put,List.setIfInBounds_toArray,List.set_cons_zero,List.set_cons_succ])
  generalize V0.alloc (.cells #[.slice C9 (aA3 p g c).last.length j9] 30)=V1 at *;obtain ⟨gX,hg1⟩:∃ q,V0.heap.size=q:=⟨_,rfl⟩;rw [hg1] at HX hsz1 ⊢;have hlgX:bt+1<=gX:=by have:=hsz0.out;omega
  clear hg1;have hHeld:=HS5.out _ HZB.out
  (refine aA6.t (v:=?_) 6 16 rfl rfl (by kernel_rfl) (fun _ _ _ h=>h) hHeld (Or.inl ⟨by rfl,?_⟩) ?_;rotate_left 1;focus (intro w' hSw;(try dsimp only at hSw);go_simp;(try with_reducible rfl);done))
  clear hHeld;have HI0:Hid (WR bt (aA3 p g c) C7 j7 C8 j8 C9 j9 [aA3 p g c] [aA3 p g c] (some ⟨gX,0,none⟩) 1 (some ⟨gY,0,none⟩) 1 [.slice C9 (aA3 p g c).last.length j9] (fun k=>Wa.heap.size<=k/\k<bt) V1):=WR.first HZB.out HVS.out HX.out HY.out (by omega) (by omega) HSZ.out
  (refine aA6.one (i:=7) (by kernel_rfl) rfl (fun K hK=>?_));go_simp;refine hK.out _ _ (fun h=>absurd rfl h) ?_;clear hK K;refine aA6.done (by kernel_rfl) ?_ _;(try simp only [Act.put,List.setIfInBounds_toArray,List.set_cons_zero,List.set_cons_succ])
  have HBTA:=aA0 HSZ.out;clear HVS HS5 HX HY HZB HSZ;obtain ⟨a0,a1,a2,a3,a4,a5,a6,a7,az⟩:=hca.out _ HBa
  go_wp2_with fail
  go_loopg [16,17,18] T.chosen.length (fun m x y z wr=>∃ (i:Nat) (t:Trc) (C7:Option Addr) (j7:Nat) (C8:Option Addr) (j8:Nat) (C9:Option Addr) (j9:Nat) (ts:List Trc) (AX:Option Addr) (cX:Nat) (AY:Option Addr) (cY:Nat) (hs:List Value) (C:Nat->Prop),i<=T.chosen.length/\m=T.chosen.length-i/\x = .slice AX ts.length cX/\y = .slice AY ts.length cY/\z = .int .i64 (i:Int)/\Hid (ts.length=i+1/\OkT p g t/\t.chosen.length=i/\ts=(aBw p g kind (aA3 p g c) l).take (i+1)/\(aBw p g kind (aA3 p g c) l)[i]?=some t)/\Hid (WR bt t C7 j7 C8 j8 C9 j9 ts ts AX cX AY cY hs C wr)/\Bel Wa wr/\Bel ((w.alloc (.cells #[.string p.name,.slice A1 p.vars.length k1,.slice A2 p.rules.length k2] 25)).alloc (.cells #[.slice A3 g.ids.length k3,.slice A4 g.ports.length k4] 29)) wr)
  case atStart=>exact ⟨0,aA3 p g c,C7,j7,C8,j8,C9,j9,[aA3 p g c],_,_,_,_,_,_,by omega,rfl,rfl,rfl,rfl,⟨rfl,OkT.start HM.out,rfl,aNx,aP8⟩,HI0,HBa,HW⟩
  case round =>
   (try clear HI0)
   (try clear a0 a1 a2 a3 a4 a5 a6 a7 az)
   clear HBa HW;obtain ⟨i,t0,O7,o7,O8,o8,O9,o9,ts,AX,cX,AY,cY,hs,C,hi,rfl,rfl,rfl,rfl,HO,HI,HBa,HW⟩:=hrel;obtain ⟨a0,a1,a2,a3,a4,a5,a6,a7,az⟩:=hca.out _ HBa
   by_cases hlt:i<T.chosen.length
   .have hd0:decide (i<T.chosen.length)=true:=by simpa using hlt
    have hkI:(i:Int)<(T.chosen.length:Int):=by omega
    have HST:=aA0 (HPF.out.step hlt HO.out.2.2.2.2);have HCM:=aA0 (HMa.out _ HBa).1
    (try clear a0 a1 a2 a3 a4 a5 a6 a7 az)
    obtain ⟨bC,oC,rfl,hbC,cC⟩:=aAd.at_ HCM.out i hlt;obtain ⟨a0,a1,a2,a3,a4,a5,a6,a7,az⟩:=hca.out _ HBa;clear HCM;have hS32:=HPF.out.all _ (List.getElem_mem hlt);obtain ⟨S,hSd⟩:∃ S,T.chosen[i]=S:=⟨_,rfl⟩;rw [hSd] at cC hS32 HST
    have HNX:Hid (S≠0/\aBn S (aAj p g t0.last)=true/\S<16777216/\aCv p g (aBe p g t0.last S)=0/\OkT p g (aAm p g t0 S)):=by
     obtain ⟨a1,a2⟩:=aGn hS32 (aGe HO.out.2.1.mem) HST.out.1;exact ⟨a1,(aDu HST.out.1).2,a2,(aG9 HO.out.2.1.mem hS32 HST.out.1).1,HO.out.2.1.next hS32 HST.out.1⟩
    have HLN:Hid (ts.length=i+1):=HO.out.1
    have HN:Hid ((ts++[aAm p g t0 S]).length=i+1+1/\OkT p g (aAm p g t0 S)/\(aAm p g t0 S).chosen.length=i+1/\ts++[aAm p g t0 S]=(aBw p g kind (aA3 p g c) l).take (i+1+1)/\(aBw p g kind (aA3 p g c) l)[i+1]?=some (aAm p g t0 S)):=by
     refine ⟨by rw [List.length_append,HLN.out];rfl,HNX.out.2.2.2.2,by simp [aAm,HO.out.2.2.1],?_,HST.out.2⟩
     rw [List.take_add_one,<- HO.out.2.2.2.1,HST.out.2];rfl
    clear hSd hS32;have HB:=Bel.refl wr
    have hcell:Hid (∀ w',Bel wr w'->(fun w':World=>w'.cell? ⟨w.heap.size,0,none⟩=some (.string p.name)/\w'.cell? ⟨w.heap.size,1,none⟩=some (.slice A1 p.vars.length k1)/\w'.cell? ⟨w.heap.size,2,none⟩=some (.slice A2 p.rules.length k2)/\w'.cell? ⟨w.heap.size+1,0,none⟩=some (.slice A3 g.ids.length k3)/\w'.cell? ⟨w.heap.size+1,1,none⟩=some (.slice A4 g.ports.length k4)/\w.heap.size+1<w'.heap.size/\w'.cell? ⟨bt,0,none⟩=some (.slice O7 t0.chosen.length o7)/\w'.cell? ⟨bt,1,none⟩=some (.slice O8 t0.enabled.length o8)/\w'.cell? ⟨bt,2,none⟩=some (.slice O9 t0.last.length o9)/\w'.cell? ⟨bt,3,none⟩=some (.int .i64 t0.count.steps)/\w'.cell? ⟨bt,4,none⟩=some (.int .i64 t0.count.moves)/\w'.cell? ⟨bt,5,none⟩=some (.int .i64 t0.count.rounds)/\w'.cell? ⟨bt,6,none⟩=some (.int .i64 t0.count.begun)/\w'.cell? ⟨bt,7,none⟩=some (.int .u32 (t0.count.pending:Int))/\bt<w'.heap.size/\w'.cell? ⟨ba,0,none⟩=some (.slice (some ⟨bC,oC,none⟩) T.chosen.length ak)/\w'.cell? ⟨ba,1,none⟩=some (.slice aB T.enabled.length al)/\w'.cell? ⟨ba,2,none⟩=some (.slice aC T.last.length am)/\w'.cell? ⟨ba,3,none⟩=some (.int .i64 T.count.steps)/\w'.cell? ⟨ba,4,none⟩=some (.int .i64 T.count.moves)/\w'.cell? ⟨ba,5,none⟩=some (.int .i64 T.count.rounds)/\w'.cell? ⟨ba,6,none⟩=some (.int .i64 T.count.begun)/\w'.cell? ⟨ba,7,none⟩=some (.int .u32 (T.count.pending:Int))/\ba<w'.heap.size/\w'.cell? ⟨bC,oC+i,none⟩=some (.int .u32 (S:Int))/\bC<w'.heap.size) w'):=fun w' kk=>by
     obtain ⟨e0,e1,e2,e3,e4,e5⟩:=aAi (HW.trans kk);have q:=HI.out.box.keep kk;obtain ⟨a0,a1,a2,a3,a4,a5,a6,a7,az⟩:=hca.out _ (HBa.trans kk);exact ⟨e0,e1,e2,e3,e4,e5,q.cell 0 rfl,q.cell 1 rfl,q.cell 2 rfl,q.cell 3 rfl,q.cell 4 rfl,q.cell 5 rfl,q.cell 6 rfl,q.cell 7 rfl,q.lt,a0,a1,a2,a3,a4,a5,a6,a7,az,(kk.cell hbC).trans cC,Nat.lt_of_lt_of_le hbC kk.size⟩
    clear cC
    go_wp2_with fail
    replace HW:=HW.drew;replace HB:=HB.drew;replace HBa:=HBa.drew;refine aA6.start (fun w':World=>w'.cell? ⟨w.heap.size,0,none⟩=some (.string p.name)/\w'.cell? ⟨w.heap.size,1,none⟩=some (.slice A1 p.vars.length k1)/\w'.cell? ⟨w.heap.size,2,none⟩=some (.slice A2 p.rules.length k2)/\w'.cell? ⟨w.heap.size+1,0,none⟩=some (.slice A3 g.ids.length k3)/\w'.cell? ⟨w.heap.size+1,1,none⟩=some (.slice A4 g.ports.length k4)/\w.heap.size+1<w'.heap.size/\w'.cell? ⟨bt,0,none⟩=some (.slice O7 t0.chosen.length o7)/\w'.cell? ⟨bt,1,none⟩=some (.slice O8 t0.enabled.length o8)/\w'.cell? ⟨bt,2,none⟩=some (.slice O9 t0.last.length o9)/\w'.cell? ⟨bt,3,none⟩=some (.int .i64 t0.count.steps)/\w'.cell? ⟨bt,4,none⟩=some (.int .i64 t0.count.moves)/\w'.cell? ⟨bt,5,none⟩=some (.int .i64 t0.count.rounds)/\w'.cell? ⟨bt,6,none⟩=some (.int .i64 t0.count.begun)/\w'.cell? ⟨bt,7,none⟩=some (.int .u32 (t0.count.pending:Int))/\bt<w'.heap.size/\w'.cell? ⟨ba,0,none⟩=some (.slice (some ⟨bC,oC,none⟩) T.chosen.length ak)/\w'.cell? ⟨ba,1,none⟩=some (.slice aB T.enabled.length al)/\w'.cell? ⟨ba,2,none⟩=some (.slice aC T.last.length am)/\w'.cell? ⟨ba,3,none⟩=some (.int .i64 T.count.steps)/\w'.cell? ⟨ba,4,none⟩=some (.int .i64 T.count.moves)/\w'.cell? ⟨ba,5,none⟩=some (.int .i64 T.count.rounds)/\w'.cell? ⟨ba,6,none⟩=some (.int .i64 T.count.begun)/\w'.cell? ⟨ba,7,none⟩=some (.int .u32 (T.count.pending:Int))/\ba<w'.heap.size/\w'.cell? ⟨bC,oC+i,none⟩=some (.int .u32 (S:Int))/\bC<w'.heap.size) 9 (by kernel_rfl) ?_
    have hHeld:=hcell.out _ HB
    (refine aA6.t (v:=?_) 0 48 rfl rfl (by kernel_rfl) (fun _ _ _ h=>h) hHeld (Or.inl ⟨by rfl,?_⟩) ?_;rotate_left 1;focus (intro w' hSw;(try dsimp only at hSw);go_simp;(try with_reducible rfl);done))
    (refine aA6.t (v:=?_) 1 49 rfl rfl (by kernel_rfl) (fun _ _ _ h=>h) hHeld (Or.inl ⟨by rfl,?_⟩) ?_;rotate_left 1;focus (intro w' hSw;(try dsimp only at hSw);go_simp;(try with_reducible rfl);done))
    (refine aA6.t (v:=?_) 2 50 rfl rfl (by kernel_rfl) (fun _ _ _ h=>h) hHeld (Or.inl ⟨by rfl,?_⟩) ?_;rotate_left 1;focus (intro w' hSw;(try dsimp only at hSw);go_simp;(try with_reducible rfl);done))
    (refine aA6.t (v:=?_) 3 51 rfl rfl (by kernel_rfl) (fun _ _ _ h=>h) hHeld (Or.inl ⟨by rfl,?_⟩) ?_;rotate_left 1;focus (intro w' hSw;(try dsimp only at hSw);go_simp;(try with_reducible rfl);done))
    (refine aA6.t (v:=?_) 4 52 rfl rfl (by kernel_rfl) (fun _ _ _ h=>h) hHeld (Or.inl ⟨by rfl,?_⟩) ?_;rotate_left 1;focus (intro w' hSw;(try dsimp only at hSw);go_simp;(try with_reducible rfl);done))
    (refine aA6.t (v:=?_) 5 53 rfl rfl (by kernel_rfl) (fun _ _ _ h=>h) hHeld (Or.inl ⟨by rfl,?_⟩) ?_;rotate_left 1;focus (intro w' hSw;(try dsimp only at hSw);go_simp;(try with_reducible rfl);done))
    (refine aA6.t (v:=?_) 6 54 rfl rfl (by kernel_rfl) (fun _ _ _ h=>h) hHeld (Or.inl ⟨by rfl,?_⟩) ?_;rotate_left 1;focus (intro w' hSw;(try dsimp only at hSw);go_simp;(try with_reducible rfl);done))
    (refine aA6.t (v:=?_) 7 55 rfl rfl (by kernel_rfl) (fun _ _ _ h=>h) hHeld (Or.inl ⟨by rfl,?_⟩) ?_;rotate_left 1;focus (intro w' hSw;(try dsimp only at hSw);go_simp;(try with_reducible rfl);done))
    refine aA6.one (i:=8) (by kernel_rfl) rfl (fun K hK=>?_)
    (try go_simp)
    go_at_call 41
    refine (aJn _ p _ g _ t0 S _ (HPV.out _ (aA1 HW)) (HGV.out _ (aA1 HW)) (HI.out.bel HB).val0 HL.out HGL.out HO.out.2.1 (by have:=HO.out.2.2.1;omega) HNX.out.1 HNX.out.2.1 HNX.out.2.2.1 HNX.out.2.2.2.1).mono ?_
    rintro e w5 ⟨vt,rfl,hV,hb⟩
    (try go_simp)
    obtain ⟨C7,j7,C8,j8,C9,j9,rfl,_⟩:=hV _ (aAv.refl _ _);have HTN:=aA0 ((HI.out.bel HB).next hb hV);replace HB:=HB.trans hb;replace HW:=HW.trans hb;replace HBa:=HBa.trans hb;have hT5:=aA0 (HI.out.box.keep HB);clear hV hb;refine hK.out _ _ (fun _=>hcell.out _ HB) ?_
    clear hK K hHeld
    (try simp only [Act.put,List.setIfInBounds_toArray,List.set_cons_zero,List.set_cons_succ])
    have z0:=hT5.out.cell 0 (v := .slice O7 t0.chosen.length o7) rfl;have zf0:=hT5.out.frozen 0;have z1:=hT5.out.cell 1 (v := .slice O8 t0.enabled.length o8) rfl;have zf1:=hT5.out.frozen 1;have z2:=hT5.out.cell 2 (v := .slice O9 t0.last.length o9) rfl;have zf2:=hT5.out.frozen 2;have z3:=hT5.out.cell 3 (v := .int .i64 t0.count.steps) rfl;have zf3:=hT5.out.frozen 3;have z4:=hT5.out.cell 4 (v := .int .i64 t0.count.moves) rfl;have zf4:=hT5.out.frozen 4;have z5:=hT5.out.cell 5 (v := .int .i64 t0.count.rounds) rfl;have zf5:=hT5.out.frozen 5;have z6:=hT5.out.cell 6 (v := .int .i64 t0.count.begun) rfl;have zf6:=hT5.out.frozen 6;have z7:=hT5.out.cell 7 (v := .int .u32 (t0.count.pending:Int)) rfl;have zf7:=hT5.out.frozen 7;have zl:=hT5.out.lt
    (refine aA6.one (i:=9) (by kernel_rfl) rfl (fun K hK=>?_));go_simp;refine hK.out _ _ (fun h=>absurd rfl h) ?_;clear hK K;refine aA6.done (by kernel_rfl) ?_ _;(try simp only [Act.put,List.setIfInBounds_toArray,List.set_cons_zero,List.set_cons_succ])
    (try clear z0 zf0 z1 zf1 z2 zf2 z3 zf3 z4 zf4 z5 zf5 z6 zf6 z7 zf7 zl)
    replace HW:=HW.trace (b:=bt) (v0 := .slice C7 (aAm p g t0 S).chosen.length j7) (v1 := .slice C8 (aAm p g t0 S).enabled.length j8) (v2 := .slice C9 (aAm p g t0 S).last.length j9) (v3 := .int .i64 (aAm p g t0 S).count.steps) (v4 := .int .i64 (aAm p g t0 S).count.moves) (v5 := .int .i64 (aAm p g t0 S).count.rounds) (v6 := .int .i64 (aAm p g t0 S).count.begun) (v7 := .int .u32 ((aAm p g t0 S).count.pending:Int)) hbt8;replace HBa:=HBa.trace (b:=bt) (v0 := .slice C7 (aAm p g t0 S).chosen.length j7) (v1 := .slice C8 (aAm p g t0 S).enabled.length j8) (v2 := .slice C9 (aAm p g t0 S).last.length j9) (v3 := .int .i64 (aAm p g t0 S).count.steps) (v4 := .int .i64 (aAm p g t0 S).count.moves) (v5 := .int .i64 (aAm p g t0 S).count.rounds) (v6 := .int .i64 (aAm p g t0 S).count.begun) (v7 := .int .u32 ((aAm p g t0 S).count.pending:Int)) HBTA.out;clear hcell HI HB hT5 HNX HST HO;have HI:=HTN;clear HTN;generalize (fun q=>C q∨wr.drew.heap.size<=q/\q<w5.heap.size)=C at *;generalize ((((((((w5.setCell ⟨bt,0,none⟩ (.slice C7 (aAm p g t0 S).chosen.length j7)).setCell ⟨bt,1,none⟩ (.slice C8 (aAm p g t0 S).enabled.length j8)).setCell ⟨bt,2,none⟩ (.slice C9 (aAm p g t0 S).last.length j9)).setCell ⟨bt,3,none⟩ (.int .i64 (aAm p g t0 S).count.steps)).setCell ⟨bt,4,none⟩ (.int .i64 (aAm p g t0 S).count.moves)).setCell ⟨bt,5,none⟩ (.int .i64 (aAm p g t0 S).count.rounds)).setCell ⟨bt,6,none⟩ (.int .i64 (aAm p g t0 S).count.begun)).setCell ⟨bt,7,none⟩ (.int .u32 ((aAm p g t0 S).count.pending:Int)))=Wn at *;generalize aAm p g t0 S=t at *
    (try clear a0 a1 a2 a3 a4 a5 a6 a7 az)
    go_wp2_with fail
    refine aA6.start (fun w':World=>w'.cell? ⟨bt,0,none⟩=some (.slice C7 t.chosen.length j7)/\w'.cell? ⟨bt,1,none⟩=some (.slice C8 t.enabled.length j8)/\w'.cell? ⟨bt,2,none⟩=some (.slice C9 t.last.length j9)/\w'.cell? ⟨bt,3,none⟩=some (.int .i64 t.count.steps)/\w'.cell? ⟨bt,4,none⟩=some (.int .i64 t.count.moves)/\w'.cell? ⟨bt,5,none⟩=some (.int .i64 t.count.rounds)/\w'.cell? ⟨bt,6,none⟩=some (.int .i64 t.count.begun)/\w'.cell? ⟨bt,7,none⟩=some (.int .u32 (t.count.pending:Int))/\bt<w'.heap.size) 11 (by kernel_rfl) ?_
    replace HI:=aA0 (HI.out.bel (Bel.refl Wn).drew);replace HW:=HW.drew;replace HBa:=HBa.drew;generalize Wn.drew=V at *;have HS10:Hid (∀ V,Blk V bt #[.slice C7 t.chosen.length j7,.slice C8 t.enabled.length j8,.slice C9 t.last.length j9,.int .i64 t.count.steps,.int .i64 t.count.moves,.int .i64 t.count.rounds,.int .i64 t.count.begun,.int .u32 (t.count.pending:Int)] 38->(fun w':World=>w'.cell? ⟨bt,0,none⟩=some (.slice C7 t.chosen.length j7)/\w'.cell? ⟨bt,1,none⟩=some (.slice C8 t.enabled.length j8)/\w'.cell? ⟨bt,2,none⟩=some (.slice C9 t.last.length j9)/\w'.cell? ⟨bt,3,none⟩=some (.int .i64 t.count.steps)/\w'.cell? ⟨bt,4,none⟩=some (.int .i64 t.count.moves)/\w'.cell? ⟨bt,5,none⟩=some (.int .i64 t.count.rounds)/\w'.cell? ⟨bt,6,none⟩=some (.int .i64 t.count.begun)/\w'.cell? ⟨bt,7,none⟩=some (.int .u32 (t.count.pending:Int))/\bt<w'.heap.size) V):=fun V q=>⟨q.cell 0 rfl,q.cell 1 rfl,q.cell 2 rfl,q.cell 3 rfl,q.cell 4 rfl,q.cell 5 rfl,q.cell 6 rfl,q.cell 7 rfl,q.lt⟩;have hHeld:=HS10.out V HI.out.box
    (refine aA6.t (v:=?_) 0 57 rfl rfl (by kernel_rfl) (fun _ _ _ h=>h) hHeld (Or.inl ⟨by rfl,?_⟩) ?_;rotate_left 1;focus (intro w' hSw;(try dsimp only at hSw);go_simp;(try with_reducible rfl);done))
    (refine aA6.t (v:=?_) 1 58 rfl rfl (by kernel_rfl) (fun _ _ _ h=>h) hHeld (Or.inl ⟨by rfl,?_⟩) ?_;rotate_left 1;focus (intro w' hSw;(try dsimp only at hSw);go_simp;(try with_reducible rfl);done))
    (refine aA6.t (v:=?_) 2 59 rfl rfl (by kernel_rfl) (fun _ _ _ h=>h) hHeld (Or.inl ⟨by rfl,?_⟩) ?_;rotate_left 1;focus (intro w' hSw;(try dsimp only at hSw);go_simp;(try with_reducible rfl);done))
    (refine aA6.t (v:=?_) 5 62 rfl rfl (by kernel_rfl) (fun _ _ _ h=>h) hHeld (Or.inl ⟨by rfl,?_⟩) ?_;rotate_left 1;focus (intro w' hSw;(try dsimp only at hSw);go_simp;(try with_reducible rfl);done))
    (refine aA6.t (v:=?_) 6 63 rfl rfl (by kernel_rfl) (fun _ _ _ h=>h) hHeld (Or.inl ⟨by rfl,?_⟩) ?_;rotate_left 1;focus (intro w' hSw;(try dsimp only at hSw);go_simp;(try with_reducible rfl);done))
    (refine aA6.t (v:=?_) 7 64 rfl rfl (by kernel_rfl) (fun _ _ _ h=>h) hHeld (Or.inl ⟨by rfl,?_⟩) ?_;rotate_left 1;focus (intro w' hSw;(try dsimp only at hSw);go_simp;(try with_reducible rfl);done))
    clear hHeld;refine aA6.two (i:=3) (j:=8) (by kernel_rfl) rfl rfl (fun K hK=>?_) (fun K hK=>?_)
    .
     (try go_simp)
     have hal:Bel V (V.alloc (.cells #[.slice C9 t.last.length j9] 30)):=(Bel.refl V).alloc _;have H60:Hid (Blk (V.alloc (.cells #[.slice C9 t.last.length j9] 30)) V.heap.size #[.slice C9 t.last.length j9] 30):=Blk.new _ _ _;replace HI:=aA0 (HI.out.bel hal);replace HW:=HW.trans hal;replace HBa:=HBa.trans hal;refine hK.out _ _ (fun _=>HS10.out _ HI.out.box) ?_
     clear hK K hal
     (try simp only [Act.put,List.setIfInBounds_toArray,List.set_cons_zero,List.set_cons_succ])
     generalize V.alloc (.cells #[.slice C9 t.last.length j9] 30)=V0_3 at *;generalize V.heap.size=g60 at *;refine aA6.two (i:=4) (j:=8) (by kernel_rfl) rfl rfl (fun K hK=>?_) (fun K hK=>?_)
     .
      have hb1:=HI.out.box.lt;refine aAh _ rfl (.tmp 57) (.tmp 60) 51 rfl (bt+1) 30 i0 (.slice none 0 0) 1 24 underlying51 hi0 hz0 hz1 hz2 rfl (by decide) AX ts.length cX hs (by first | (simp [Act.eval];done) | (simp [Act.eval,Act.put];done)) HI.out.row1 g60 #[.slice C9 t.last.length j9] 30 (0,0) (by first | (simp [Act.eval];done) | (simp [Act.eval,Act.put];done)) H60.out rfl (aEr _ _ _) (by have:=HLN.out;unfold maxLen;omega) (by have:=HLN.out;omega) (by omega) ?_
      intro AX2 cX2 V1_4 hown hgr hat
      replace HW:=HW.grown hgr (fun k hk=>by have:=(aA8 HI.out.row1 k hk.symm).1;omega)
      replace HBa:=HBa.grown hgr (fun k hk=>by have:=(aA8 HI.out.row1 k hk.symm).1;have:=HBTA.out;omega)
      replace HI:=aA0 (HI.out.push1 hown hgr hat);refine hK.out _ _ (fun _=>HS10.out _ HI.out.box) ?_
      clear hK K hown hgr hat H60 hb1
      (try simp only [Act.put,List.setIfInBounds_toArray,List.set_cons_zero,List.set_cons_succ])
      refine aA6.one (i:=8) (by kernel_rfl) rfl (fun K hK=>?_)
      (try go_simp)
      have hal:Bel V1_4 (V1_4.alloc (.cells #[.int .i64 t.count.steps,.int .i64 t.count.moves,.int .i64 t.count.rounds,.int .i64 t.count.begun,.int .u32 (t.count.pending:Int)] 36)):=(Bel.refl V1_4).alloc _;have H65:Hid (Blk (V1_4.alloc (.cells #[.int .i64 t.count.steps,.int .i64 t.count.moves,.int .i64 t.count.rounds,.int .i64 t.count.begun,.int .u32 (t.count.pending:Int)] 36)) V1_4.heap.size #[.int .i64 t.count.steps,.int .i64 t.count.moves,.int .i64 t.count.rounds,.int .i64 t.count.begun,.int .u32 (t.count.pending:Int)] 36):=Blk.new _ _ _;replace HI:=aA0 (HI.out.bel hal);replace HW:=HW.trans hal;replace HBa:=HBa.trans hal;refine hK.out _ _ (fun _=>HS10.out _ HI.out.box) ?_
      clear hK K hal
      (try simp only [Act.put,List.setIfInBounds_toArray,List.set_cons_zero,List.set_cons_succ])
      generalize V1_4.alloc (.cells #[.int .i64 t.count.steps,.int .i64 t.count.moves,.int .i64 t.count.rounds,.int .i64 t.count.begun,.int .u32 (t.count.pending:Int)] 36)=V2_8 at *;generalize V1_4.heap.size=g65 at *;refine aA6.one (i:=9) (by kernel_rfl) rfl (fun K hK=>?_)
      have hb1:=HI.out.box.lt;refine aAh _ rfl (.tmp 62) (.tmp 65) 52 rfl (bt+1) 36 j0 (.agg #[.int .i64 0,.int .i64 0,.int .i64 0,.int .i64 0,.int .u32 0]) 5 40 underlying52 hj0 hy0 hy1 hy2 rfl (by decide) AY ts.length cY (ts.flatMap aYh) (by first | (simp [Act.eval];done) | (simp [Act.eval,Act.put];done)) HI.out.row2 g65 #[.int .i64 t.count.steps,.int .i64 t.count.moves,.int .i64 t.count.rounds,.int .i64 t.count.begun,.int .u32 (t.count.pending:Int)] 36 (0,0) (by first | (simp [Act.eval];done) | (simp [Act.eval,Act.put];done)) H65.out rfl (aFi _ _ _ _ _) (by have:=HLN.out;unfold maxLen;omega) (by have:=HLN.out;omega) (by omega) ?_
      intro AY2 cY2 V3_9 hown hgr hat
      replace HW:=HW.grown hgr (fun k hk=>by have:=(aA8 HI.out.row2 k hk.symm).1;omega)
      replace HBa:=HBa.grown hgr (fun k hk=>by have:=(aA8 HI.out.row2 k hk.symm).1;have:=HBTA.out;omega)
      replace HI:=aA0 (HI.out.push2 hown hgr hat);refine hK.out _ _ (fun _=>HS10.out _ HI.out.box) ?_
      clear hK K hown hgr hat H65 hb1
      (try simp only [Act.put,List.setIfInBounds_toArray,List.set_cons_zero,List.set_cons_succ])
      have hHeld:=HS10.out _ HI.out.box
      (refine aA6.t (v:=?_) 10 16 rfl rfl (by kernel_rfl) (fun _ _ _ h=>h) hHeld (Or.inl ⟨by rfl,?_⟩) ?_;rotate_left 1;focus (intro w' hSw;(try dsimp only at hSw);go_simp;(try with_reducible rfl);done))
      clear hHeld
      (refine aA6.one (i:=11) (by kernel_rfl) rfl (fun K hK=>?_));go_simp;refine hK.out _ _ (fun h=>absurd rfl h) ?_;clear hK K;refine aA6.done (by kernel_rfl) ?_ _;(try simp only [Act.put,List.setIfInBounds_toArray,List.set_cons_zero,List.set_cons_succ])
      clear HS10
      go_wp2_with fail
      go_roundg (T.chosen.length-(i+1))
      case rel =>
       refine ⟨i+1,t,C7,j7,C8,j8,C9,j9,ts++[t],AX2,cX2,AY2,cY2,_,C,by omega,rfl,by rw [List.length_append];rfl,by rw [List.length_append];rfl,by go_num,HN.out,HI.out,HBa,HW⟩
      case measure=>omega
     .
      (try go_simp)
      have hal:Bel V0_3 (V0_3.alloc (.cells #[.int .i64 t.count.steps,.int .i64 t.count.moves,.int .i64 t.count.rounds,.int .i64 t.count.begun,.int .u32 (t.count.pending:Int)] 36)):=(Bel.refl V0_3).alloc _;have H65:Hid (Blk (V0_3.alloc (.cells #[.int .i64 t.count.steps,.int .i64 t.count.moves,.int .i64 t.count.rounds,.int .i64 t.count.begun,.int .u32 (t.count.pending:Int)] 36)) V0_3.heap.size #[.int .i64 t.count.steps,.int .i64 t.count.moves,.int .i64 t.count.rounds,.int .i64 t.count.begun,.int .u32 (t.count.pending:Int)] 36):=Blk.new _ _ _;have HNE:Hid (∀ k,some k=(Value.slice AX ts.length cX).ownBlock->k≠V0_3.heap.size):=fun k hk=>by have:=aA8 HI.out.row1 k hk;omega
      replace H60:=aA0 (H60.out.keep hal);replace HI:=aA0 (HI.out.bel hal);replace HW:=HW.trans hal;replace HBa:=HBa.trans hal;refine hK.out _ _ (fun _=>HS10.out _ HI.out.box) ?_
      clear hK K hal
      (try simp only [Act.put,List.setIfInBounds_toArray,List.set_cons_zero,List.set_cons_succ])
      generalize V0_3.alloc (.cells #[.int .i64 t.count.steps,.int .i64 t.count.moves,.int .i64 t.count.rounds,.int .i64 t.count.begun,.int .u32 (t.count.pending:Int)] 36)=V1_8 at *;generalize V0_3.heap.size=g65 at *;refine aA6.one (i:=4) (by kernel_rfl) rfl (fun K hK=>?_)
      have hb1:=HI.out.box.lt;refine aAh _ rfl (.tmp 57) (.tmp 60) 51 rfl (bt+1) 30 i0 (.slice none 0 0) 1 24 underlying51 hi0 hz0 hz1 hz2 rfl (by decide) AX ts.length cX hs (by first | (simp [Act.eval];done) | (simp [Act.eval,Act.put];done)) HI.out.row1 g60 #[.slice C9 t.last.length j9] 30 (0,0) (by first | (simp [Act.eval];done) | (simp [Act.eval,Act.put];done)) H60.out rfl (aEr _ _ _) (by have:=HLN.out;unfold maxLen;omega) (by have:=HLN.out;omega) (by omega) ?_
      intro AX2 cX2 V2_4 hown hgr hat
      replace H65:=aA0 (H65.out.grow hgr HNE.out);clear HNE;replace HW:=HW.grown hgr (fun k hk=>by have:=(aA8 HI.out.row1 k hk.symm).1;omega)
      replace HBa:=HBa.grown hgr (fun k hk=>by have:=(aA8 HI.out.row1 k hk.symm).1;have:=HBTA.out;omega)
      replace HI:=aA0 (HI.out.push1 hown hgr hat);refine hK.out _ _ (fun _=>HS10.out _ HI.out.box) ?_
      clear hK K hown hgr hat H60 hb1
      (try simp only [Act.put,List.setIfInBounds_toArray,List.set_cons_zero,List.set_cons_succ])
      refine aA6.one (i:=9) (by kernel_rfl) rfl (fun K hK=>?_)
      have hb1:=HI.out.box.lt;refine aAh _ rfl (.tmp 62) (.tmp 65) 52 rfl (bt+1) 36 j0 (.agg #[.int .i64 0,.int .i64 0,.int .i64 0,.int .i64 0,.int .u32 0]) 5 40 underlying52 hj0 hy0 hy1 hy2 rfl (by decide) AY ts.length cY (ts.flatMap aYh) (by first | (simp [Act.eval];done) | (simp [Act.eval,Act.put];done)) HI.out.row2 g65 #[.int .i64 t.count.steps,.int .i64 t.count.moves,.int .i64 t.count.rounds,.int .i64 t.count.begun,.int .u32 (t.count.pending:Int)] 36 (0,0) (by first | (simp [Act.eval];done) | (simp [Act.eval,Act.put];done)) H65.out rfl (aFi _ _ _ _ _) (by have:=HLN.out;unfold maxLen;omega) (by have:=HLN.out;omega) (by omega) ?_
      intro AY2 cY2 V3_9 hown hgr hat
      replace HW:=HW.grown hgr (fun k hk=>by have:=(aA8 HI.out.row2 k hk.symm).1;omega)
      replace HBa:=HBa.grown hgr (fun k hk=>by have:=(aA8 HI.out.row2 k hk.symm).1;have:=HBTA.out;omega)
      replace HI:=aA0 (HI.out.push2 hown hgr hat);refine hK.out _ _ (fun _=>HS10.out _ HI.out.box) ?_
      clear hK K hown hgr hat H65 hb1
      (try simp only [Act.put,List.setIfInBounds_toArray,List.set_cons_zero,List.set_cons_succ])
      have hHeld:=HS10.out _ HI.out.box
      (refine aA6.t (v:=?_) 10 16 rfl rfl (by kernel_rfl) (fun _ _ _ h=>h) hHeld (Or.inl ⟨by rfl,?_⟩) ?_;rotate_left 1;focus (intro w' hSw;(try dsimp only at hSw);go_simp;(try with_reducible rfl);done))
      clear hHeld
      (refine aA6.one (i:=11) (by kernel_rfl) rfl (fun K hK=>?_));go_simp;refine hK.out _ _ (fun h=>absurd rfl h) ?_;clear hK K;refine aA6.done (by kernel_rfl) ?_ _;(try simp only [Act.put,List.setIfInBounds_toArray,List.set_cons_zero,List.set_cons_succ])
      clear HS10
      go_wp2_with fail
      go_roundg (T.chosen.length-(i+1))
      case rel =>
       refine ⟨i+1,t,C7,j7,C8,j8,C9,j9,ts++[t],AX2,cX2,AY2,cY2,_,C,by omega,rfl,by rw [List.length_append];rfl,by rw [List.length_append];rfl,by go_num,HN.out,HI.out,HBa,HW⟩
      case measure=>omega
    .
     (try go_simp)
     have hal:Bel V (V.alloc (.cells #[.int .i64 t.count.steps,.int .i64 t.count.moves,.int .i64 t.count.rounds,.int .i64 t.count.begun,.int .u32 (t.count.pending:Int)] 36)):=(Bel.refl V).alloc _;have H65:Hid (Blk (V.alloc (.cells #[.int .i64 t.count.steps,.int .i64 t.count.moves,.int .i64 t.count.rounds,.int .i64 t.count.begun,.int .u32 (t.count.pending:Int)] 36)) V.heap.size #[.int .i64 t.count.steps,.int .i64 t.count.moves,.int .i64 t.count.rounds,.int .i64 t.count.begun,.int .u32 (t.count.pending:Int)] 36):=Blk.new _ _ _;have HNE:Hid (∀ k,some k=(Value.slice AX ts.length cX).ownBlock->k≠V.heap.size):=fun k hk=>by have:=aA8 HI.out.row1 k hk;omega
     replace HI:=aA0 (HI.out.bel hal);replace HW:=HW.trans hal;replace HBa:=HBa.trans hal;refine hK.out _ _ (fun _=>HS10.out _ HI.out.box) ?_
     clear hK K hal
     (try simp only [Act.put,List.setIfInBounds_toArray,List.set_cons_zero,List.set_cons_succ])
     generalize V.alloc (.cells #[.int .i64 t.count.steps,.int .i64 t.count.moves,.int .i64 t.count.rounds,.int .i64 t.count.begun,.int .u32 (t.count.pending:Int)] 36)=V0_8 at *;generalize V.heap.size=g65 at *;refine aA6.one (i:=3) (by kernel_rfl) rfl (fun K hK=>?_)
     (try go_simp)
     have hal:Bel V0_8 (V0_8.alloc (.cells #[.slice C9 t.last.length j9] 30)):=(Bel.refl V0_8).alloc _;have H60:Hid (Blk (V0_8.alloc (.cells #[.slice C9 t.last.length j9] 30)) V0_8.heap.size #[.slice C9 t.last.length j9] 30):=Blk.new _ _ _;replace H65:=aA0 (H65.out.keep hal);replace HI:=aA0 (HI.out.bel hal);replace HW:=HW.trans hal;replace HBa:=HBa.trans hal;refine hK.out _ _ (fun _=>HS10.out _ HI.out.box) ?_
     clear hK K hal
     (try simp only [Act.put,List.setIfInBounds_toArray,List.set_cons_zero,List.set_cons_succ])
     generalize V0_8.alloc (.cells #[.slice C9 t.last.length j9] 30)=V1_3 at *;generalize V0_8.heap.size=g60 at *;refine aA6.one (i:=4) (by kernel_rfl) rfl (fun K hK=>?_)
     have hb1:=HI.out.box.lt;refine aAh _ rfl (.tmp 57) (.tmp 60) 51 rfl (bt+1) 30 i0 (.slice none 0 0) 1 24 underlying51 hi0 hz0 hz1 hz2 rfl (by decide) AX ts.length cX hs (by first | (simp [Act.eval];done) | (simp [Act.eval,Act.put];done)) HI.out.row1 g60 #[.slice C9 t.last.length j9] 30 (0,0) (by first | (simp [Act.eval];done) | (simp [Act.eval,Act.put];done)) H60.out rfl (aEr _ _ _) (by have:=HLN.out;unfold maxLen;omega) (by have:=HLN.out;omega) (by omega) ?_
     intro AX2 cX2 V2_4 hown hgr hat
     replace H65:=aA0 (H65.out.grow hgr HNE.out);clear HNE;replace HW:=HW.grown hgr (fun k hk=>by have:=(aA8 HI.out.row1 k hk.symm).1;omega)
     replace HBa:=HBa.grown hgr (fun k hk=>by have:=(aA8 HI.out.row1 k hk.symm).1;have:=HBTA.out;omega)
     replace HI:=aA0 (HI.out.push1 hown hgr hat);refine hK.out _ _ (fun _=>HS10.out _ HI.out.box) ?_
     clear hK K hown hgr hat H60 hb1
     (try simp only [Act.put,List.setIfInBounds_toArray,List.set_cons_zero,List.set_cons_succ])
     refine aA6.one (i:=9) (by kernel_rfl) rfl (fun K hK=>?_)
     have hb1:=HI.out.box.lt;refine aAh _ rfl (.tmp 62) (.tmp 65) 52 rfl (bt+1) 36 j0 (.agg #[.int .i64 0,.int .i64 0,.int .i64 0,.int .i64 0,.int .u32 0]) 5 40 underlying52 hj0 hy0 hy1 hy2 rfl (by decide) AY ts.length cY (ts.flatMap aYh) (by first | (simp [Act.eval];done) | (simp [Act.eval,Act.put];done)) HI.out.row2 g65 #[.int .i64 t.count.steps,.int .i64 t.count.moves,.int .i64 t.count.rounds,.int .i64 t.count.begun,.int .u32 (t.count.pending:Int)] 36 (0,0) (by first | (simp [Act.eval];done) | (simp [Act.eval,Act.put];done)) H65.out rfl (aFi _ _ _ _ _) (by have:=HLN.out;unfold maxLen;omega) (by have:=HLN.out;omega) (by omega) ?_
     intro AY2 cY2 V3_9 hown hgr hat
     replace HW:=HW.grown hgr (fun k hk=>by have:=(aA8 HI.out.row2 k hk.symm).1;omega)
     replace HBa:=HBa.grown hgr (fun k hk=>by have:=(aA8 HI.out.row2 k hk.symm).1;have:=HBTA.out;omega)
     replace HI:=aA0 (HI.out.push2 hown hgr hat);refine hK.out _ _ (fun _=>HS10.out _ HI.out.box) ?_
     clear hK K hown hgr hat H65 hb1
     (try simp only [Act.put,List.setIfInBounds_toArray,List.set_cons_zero,List.set_cons_succ])
     have hHeld:=HS10.out _ HI.out.box
     (refine aA6.t (v:=?_) 10 16 rfl rfl (by kernel_rfl) (fun _ _ _ h=>h) hHeld (Or.inl ⟨by rfl,?_⟩) ?_;rotate_left 1;focus (intro w' hSw;(try dsimp only at hSw);go_simp;(try with_reducible rfl);done))
     clear hHeld
     (refine aA6.one (i:=11) (by kernel_rfl) rfl (fun K hK=>?_));go_simp;refine hK.out _ _ (fun h=>absurd rfl h) ?_;clear hK K;refine aA6.done (by kernel_rfl) ?_ _;(try simp only [Act.put,List.setIfInBounds_toArray,List.set_cons_zero,List.set_cons_succ])
     clear HS10
     go_wp2_with fail
     go_roundg (T.chosen.length-(i+1))
     case rel =>
      refine ⟨i+1,t,C7,j7,C8,j8,C9,j9,ts++[t],AX2,cX2,AY2,cY2,_,C,by omega,rfl,by rw [List.length_append];rfl,by rw [List.length_append];rfl,by go_num,HN.out,HI.out,HBa,HW⟩
     case measure=>omega
   .have hd0:decide (i<T.chosen.length)=false:=by simpa using hlt
    obtain rfl:i=T.chosen.length:=by omega
    have hts:ts=aBw p g kind (aA3 p g c) l:=by rw [HO.out.2.2.2.1,<- HPF.out.wlen,List.take_length]
    go_wp2_with fail
    refine bodyPost_ret (v := .tuple #[.slice AX ts.length cX,.slice AY ts.length cY,.int .i64 0]) (by simp [results,Tryz.results25,go_sem];try go_simp) rfl ?_
    rw [<- hts];exact HI.out.ret (aA1 HW)
end Go.Proofs.YtdcjnhoabbdanaaGreatDoor

