/- Merged. -/
import Derived.Test.YtmifhmdghfbalaaGreatDoorZ40
import Derived.Test.YtmifhmdghfbalaaGreatDoorZ42
set_option linter.unusedSimpArgs false
set_option linter.unnecessarySimpa false
set_option linter.unusedVariables false
set_option maxRecDepth 100000
set_option maxHeartbeats 8000000
open Go.Proofs.Tryz

namespace Go.Proofs.YtmifhmdghfbalaaGreatDoor
open Go.RowKit
attribute [local go_sem] Oper.semAt_some
theorem aCl.startIn {P:Program} {ops:Array Oper} {l n:Nat} {Q:Exit->Act->World->Prop} (S:World->Prop) (Ls:List Nat) {id:Nat} {a:Act} {w:World} (hm:P.follows .mixedOrders=true) (hd:aNl ops=true) (hq:¬ LetsOut Q)
  (h:aCl P .any ops Q S Ls ops.size (Array.replicate ops.size false) a w.drew):(Code.region id ops true).wpIn (Fence.wide.inRound l) n P Q a w :=
 wpIn_region_any hm (bF0 hd hq _ _ _ _ (aCl.any _ _ _ _ h))
theorem aBo (v1:Value) (p:Prg) (v2:Value) (g:Graph) (kind:Int) (AL:Option Addr) (cL:Nat) (legit:List Bool) (A:Option Addr) (ca:Nat) (l:List (List Term)) (w:World) (h:aE0 w v1 p) (h2:aAl w v2 g) (hT:aG1 w) (hB:aDa w AL legit.length legit) (hTm:aAu w A l.length l)
  (hL:aAt p=true) (hG:aB3 g=true) (hll:legit.length<=1000) (hl:l.length<=10) (he:∀ e∈l,e.length<=250) (hfew:(aAs p g).2=0->aC7 p g<=200/\g.ports.length<=5) :
  Calls prog 38 #[v1,v2,.int .i64 kind,.slice AL legit.length cL,.slice A l.length ca] w fun e w'=>e = .returned (.tuple #[.int .i64 (aC9 p g kind legit l).1,.int .i64 (aC9 p g kind legit l).2])/\Bel w w':=by
 have HPV:=aA1 (fun w' (k:Bel w w')=>h.keep k);have HGV:=aA1 (fun w' (k:Bel w w')=>h2.keep k);have HBR:=aA1 (fun w' (k:Bel w w')=>hB.keep k);have HT:=aA1 (fun w' (k:Bel w w')=>hT.keep k);obtain ⟨A1,k1,A2,k2,rfl,_,_,_,_,_,_⟩:=h;obtain ⟨A3,k3,A4,k4,rfl,_,_,_,_,_,_⟩:=h2;have HL:=aA1 hL;have HGL:=aA1 hG;have HFW:=aA1 hfew;have HTR:=aA1 (fun w' (k:Bel w w')=>hTm.keep k);have HLE:=aA1 he;have HW:=Bel.refl ((w.alloc (.cells #[.string p.name,.slice A1 p.vars.length k1,.slice A2 p.rules.length k2] 25)).alloc (.cells #[.slice A3 g.ids.length k3,.slice A4 g.ports.length k4] 29));obtain ⟨ce,hce⟩:∃ ce,aC9 p g kind legit l=ce:=⟨_,rfl⟩;obtain ⟨c1,c2⟩:=ce;have HCE:=aA1 hce;rw [hce];clear hTm hB hL hG he hfew hce hT;go_enter func38,ntmps38
 go_wp2_with (go_at_call 82;refine (aHk _ p _ g kind AL cL legit A ca l _ (HPV.out _ (aA0 HW)) (HGV.out _ (aA0 HW)) (HT.out _ (aA0 HW)) (HBR.out _ (aA0 HW)) (HTR.out _ (aA0 HW)) HL.out HGL.out hll hl HLE.out HFW.out).mono ?_;rintro e w1 hret;unfold aJ8 at hret;rw [HCE.out] at hret;obtain ⟨H,nH,cH,rfl,hok,hb⟩:=hret;clear hok;replace HW:=HW.trans hb;clear hb;(try clear p0 p1 p2 g0 g1 gsz);obtain ⟨p0,p1,p2,g0,g1,gsz⟩:=aA6 HW)
 go_ret2
 exact ⟨rfl,aA0 HW⟩
theorem bHp (p:Prg) (g:Graph) (legit:List Bool) (e:List Term) (n:Nat):aF0 p g legit e n=(aPc legit n).map (aMz p g e):=rfl
theorem aIj (v1:Value) (p:Prg) (v2:Value) (g:Graph) (kind:Int) (AL:Option Addr) (cL:Nat) (legit:List Bool) (A:Option Addr) (ca:Nat) (x:List Term) (w:World) (h:aE0 w v1 p) (h2:aAl w v2 g) (hT:aG1 w) (hB:aDa w AL legit.length legit) (hTm:aAr w A x.length x) (hc1:x.length<=ca) (hc2:ca<=maxLen)
  (hL:aAt p=true) (hG:aB3 g=true) (hll:legit.length<=1000) (hx:x.length<=250) (hfew:(aAs p g).2=0->aC7 p g<=200/\g.ports.length<=5) :
  Calls prog 40 #[v1,v2,.int .i64 kind,.slice AL legit.length cL,.slice A x.length ca] w fun e w'=>e = .returned (.tuple #[.int .i64 (aP1 p g kind legit x).1,.int .i64 (aP1 p g kind legit x).2])/\Bel w w':=by
 have HPV:=aA1 (fun w' (k:Bel w w')=>h.keep k);have HGV:=aA1 (fun w' (k:Bel w w')=>h2.keep k);have HBR:=aA1 (fun w' (k:Bel w w')=>hB.keep k);have HT:=aA1 (fun w' (k:Bel w w')=>hT.keep k);obtain ⟨A1,k1,A2,k2,rfl,_,_,_,_,_,_⟩:=h;obtain ⟨A3,k3,A4,k4,rfl,_,_,_,_,_,_⟩:=h2;have HL:=aA1 hL;have HGL:=aA1 hG;have HFW:=aA1 hfew;have HTR:=aA1 (fun w' (k:Bel w w')=>aAr.keep hTm k);have HF:=aA1 (aO6 (p:=p) (g:=g) (kind:=kind) (legit:=legit) (e:=x));have HV0:=aA1 (aTh (p:=p) (g:=g) (kind:=kind) (legit:=legit) (l:=[x]));have HVZ:=aA1 (aK0 (p:=p) (g:=g) (kind:=kind) (legit:=legit) (l:=[x]));have HXE:Hid (∀ e∈[x],e.length<=250):=fun e he=>by obtain rfl:e=x:=(by simpa using he);exact hx
 have HROW:Hid (∀ w',Bel (((w.alloc (.cells #[.string p.name,.slice A1 p.vars.length k1,.slice A2 p.rules.length k2] 25)).alloc (.cells #[.slice A3 g.ids.length k3,.slice A4 g.ports.length k4] 29)).alloc (.cells #[.slice A x.length ca] 64)) w'->aAu w' (some ⟨w.heap.size+1+1,0,none⟩) [x].length [x]):=fun w' kk=>by
  have hB:=Blk.new ((w.alloc (.cells #[.string p.name,.slice A1 p.vars.length k1,.slice A2 p.rules.length k2] 25)).alloc (.cells #[.slice A3 g.ids.length k3,.slice A4 g.ports.length k4] 29)) #[.slice A x.length ca] 64;rw [World.size_alloc,World.size_alloc] at hB;have hB2:=hB.keep kk;exact aAh.one hB2.lt ⟨A,ca,hB2.cell 0 rfl,HTR.out _ (aA0 (aA3 kk)),hc1,hc2⟩
 obtain ⟨ce,hce⟩:∃ ce,aC9 p g kind legit [x]=ce:=⟨_,rfl⟩;obtain ⟨c1,c2⟩:=ce;rw [hce] at HF HV0;have HCE:=aA1 hce;have HW:=(Bel.refl ((w.alloc (.cells #[.string p.name,.slice A1 p.vars.length k1,.slice A2 p.rules.length k2] 25)).alloc (.cells #[.slice A3 g.ids.length k3,.slice A4 g.ports.length k4] 29))).alloc (.cells #[.slice A x.length ca] 64);have HWL:=Bel.refl (((w.alloc (.cells #[.string p.name,.slice A1 p.vars.length k1,.slice A2 p.rules.length k2] 25)).alloc (.cells #[.slice A3 g.ids.length k3,.slice A4 g.ports.length k4] 29)).alloc (.cells #[.slice A x.length ca] 64));clear hTm hL hG hfew hce hT
 by_cases h1:c2=0
 .subst h1
  rw [if_neg (by simp)] at HF
  obtain ⟨hve,rfl⟩:=HV0.out rfl;obtain ⟨hb0,hvd,hln⟩:=HVZ.out hve;obtain ⟨t1',t2,t3',t4,t5,t6,t7'⟩:=aN7 hb0 hln HFW.out;have HEO:Hid (EOK p x):=aGn ((aCk hvd).2.2.2 x (by simp))
  have HVS:Hid (∀ m,m<=legit.length->∀ y∈aF0 p g legit x m,-30000000000<=y/\y<=30000000000):=fun m hm=>aW7 t4 t5 HEO.out hm;obtain ⟨bL,oL,rfl,hbL,hB0⟩:=hB.at_ 0 (by omega)
  clear hB0
  have HBC:Hid (∀ v (h:v<legit.length),w.cell? ⟨bL,oL+v,none⟩=some (.bool legit[v])):=fun v hv=>by
   obtain ⟨b',o',e1,_,hc⟩:=hB.at_ v hv;obtain ⟨rfl,rfl⟩:bL=b'/\oL=o':=by simpa using e1
   exact hc
  clear t1' t3' t7' hb0 hln t4 t5 hve hvd HV0 HVZ hB;refine aF5 func40 rfl ?_
  simp only [ntmps40,List.size_toArray,List.length_cons,List.length_nil,Nat.reduceAdd,Nat.reduceSub,Array.replicate_succ,Array.replicate_zero,List.push_toArray,List.append_toArray,List.nil_append,List.cons_append]
  go_wp2_with (first
   | (go_at_call 82;go_loud (refine (aHk _ p _ g kind (some ⟨bL,oL,none⟩) cL legit (some ⟨w.heap.size+1+1,0,none⟩) 1 [x] _ (HPV.out _ (aA0 HW)) (HGV.out _ (aA0 HW)) (HT.out _ (aA0 HW)) (HBR.out _ (aA0 HW)) (HROW.out _ HWL) HL.out HGL.out hll (by simp) HXE.out HFW.out).mono ?_;rintro e w1 hret;unfold aJ8 at hret;rw [HCE.out] at hret;obtain ⟨H,nH,cH,rfl,hok,hb⟩:=hret;obtain ⟨rfl,hO⟩:=hok rfl;have HO1:=aA1 (fun w' (kk:Bel w1 w')=>hO.keep kk);have hs1:=hb.size;replace HW:=HW.trans hb;clear hb hO hok HWL;(try clear p0 p1 p2 g0 g1 gsz)))
   | (go_at_call 85;refine (aHv _ _ _ _).mono ?_;rintro e w' ⟨rfl,rfl⟩))
  obtain ⟨W0,hW0⟩:∃ W0,((((w1.alloc (.cells #[.slice H legit.length cH] 30)).alloc (.cells #[.int .i64 0] 3)).alloc (.cells #[.int .i64 0] 3)).alloc (.cells #[.bool false] 4)).alloc (.cells #[.slice (some ⟨bL,oL,none⟩) legit.length cL] 58)=W0:=⟨_,rfl⟩;have hz0:W0.heap.size=w1.heap.size+1+1+1+1+1:=by rw [<- hW0];simp
  have eA:Boxed W0 (w1.heap.size) 30 (.slice H legit.length cH):=by rw [<- hW0];exact ((((Boxed.new w1 _ _).alloc _).alloc _).alloc _).alloc _
  have eL:Boxed W0 (w1.heap.size+1) 3 (.int .i64 0):=by
   rw [<- hW0];have:=Boxed.new (w1.alloc (.cells #[.slice H legit.length cH] 30)) 3 (.int .i64 0);rw [World.size_alloc] at this;exact ((this.alloc _).alloc _).alloc _
  have eG:Boxed W0 (w1.heap.size+1+1) 3 (.int .i64 0):=by
   rw [<- hW0];have:=Boxed.new ((w1.alloc (.cells #[.slice H legit.length cH] 30)).alloc (.cells #[.int .i64 0] 3)) 3 (.int .i64 0);rw [World.size_alloc,World.size_alloc] at this;exact (this.alloc _).alloc _
  have eS:Boxed W0 (w1.heap.size+1+1+1) 4 (.bool false):=by
   rw [<- hW0];have:=Boxed.new (((w1.alloc (.cells #[.slice H legit.length cH] 30)).alloc (.cells #[.int .i64 0] 3)).alloc (.cells #[.int .i64 0] 3)) 4 (.bool false);rw [World.size_alloc,World.size_alloc,World.size_alloc] at this;exact this.alloc _
  have eX:Boxed W0 (w1.heap.size+1+1+1+1) 58 (.slice (some ⟨bL,oL,none⟩) legit.length cL):=by
   rw [<- hW0];have:=Boxed.new ((((w1.alloc (.cells #[.slice H legit.length cH] 30)).alloc (.cells #[.int .i64 0] 3)).alloc (.cells #[.int .i64 0] 3)).alloc (.cells #[.bool false] 4)) 58 (.slice (some ⟨bL,oL,none⟩) legit.length cL);rw [World.size_alloc,World.size_alloc,World.size_alloc,World.size_alloc] at this;exact this
  have hb10:Bel w1 W0:=by rw [<- hW0];exact (((((Bel.refl w1).alloc _).alloc _).alloc _).alloc _).alloc _
  have hbw0:Bel w W0:=(aA0 HW).trans hb10;have hwz:=hbw0.size;have hws1:=(aA0 HW).size;rw [hW0];clear hW0 HW;refine (wpIn_wide (n:=5)).1 ?_
  refine aFc (n:=5) rfl (by decide) (gf:=134) (lb:=#[.pointer (some ⟨w1.heap.size+1+1+1+1,0,none⟩)]) (by simp [go_sem]) trivial (enters_of func134 (by kernel_rfl) rfl)
   (aMp 4 (w1.heap.size+1+1+1+1) bL oL cL (some ⟨bL,oL,none⟩) legit W0 (by decide) eX (Nat.lt_of_lt_of_le hbL hbw0.size) (fun _=>rfl) (fun v hv=>(hbw0.cell hbL).trans (HBC.out v hv)) (by omega)) (by rintro k h;exact h.elim) (by rintro k (rfl | rfl) <;> omega) (fun _=>rfl) (fun k=>k=W0.heap.size∨k=W0.heap.size+1) (fun k=>by simp)
   (fun pre W=>Boxed W (w1.heap.size+1) 3 (.int .i64 (aGe (pre.map (aMz p g x))).2.1)/\Boxed W (w1.heap.size+1+1) 3 (.int .i64 (aGe (pre.map (aMz p g x))).2.2)/\Boxed W (w1.heap.size+1+1+1) 4 (.bool (aGe (pre.map (aMz p g x))).1)/\Agr (fun q=>q=w1.heap.size+1∨q=w1.heap.size+1+1∨q=w1.heap.size+1+1+1) W0 W)
   (fun c pre W=>False)
   (fun q A' B' ⟨h1,h2,h3,h4⟩ hg=>⟨hg.boxed h1 (by omega),hg.boxed h2 (by omega),hg.boxed h3 (by omega),h4.step hg (by rintro q hq (h | h) <;> omega)⟩)
   (fun c q A' B' h hg=>h)
   ⟨eL,eG,eS,Agr.refl _ _⟩
   (fun k a' W=>a'={ tmps:=#[.agg #[.string p.name,.slice A1 p.vars.length k1,.slice A2 p.rules.length k2],.agg #[.slice A3 g.ids.length k3,.slice A4 g.ports.length k4],.int .i64 kind,.slice (some ⟨bL,oL,none⟩) legit.length cL,.slice A x.length ca,.pointer (some ⟨w.heap.size,0,none⟩),.pointer (some ⟨w.heap.size+1,0,none⟩),undef,undef,undef,.int .i64 0,.int .i64 0,.pointer (some ⟨w1.heap.size,0,none⟩),.int .i64 (-1),.int .i64 0,.pointer (some ⟨w1.heap.size+1,0,none⟩),.pointer (some ⟨w1.heap.size+1+1,0,none⟩),.pointer (some ⟨w1.heap.size+1+1+1,0,none⟩),.int .i64 (k:Int),undef,.tuple #[.slice H legit.length cH,.int .i64 (-1),.int .i64 0],.agg #[.string p.name,.slice A1 p.vars.length k1,.slice A2 p.rules.length k2],.agg #[.slice A3 g.ids.length k3,.slice A4 g.ports.length k4],.int .i64 kind,.slice (some ⟨bL,oL,none⟩) legit.length cL,.slice A x.length ca,.slice (some ⟨w.heap.size+1+1,0,none⟩) 1 1,.tuple #[.slice H legit.length cH,.int .i64 (-1),.int .i64 0],.slice H legit.length cH,.int .i64 (-1),.int .i64 0,.int .i64 0,.bool false,undef,.slice (some ⟨bL,oL,none⟩) legit.length cL,.func (.func 134) #[] #[.pointer (some ⟨w1.heap.size+1+1+1+1,0,none⟩)],.int .i64 (k:Int),undef,undef,undef,undef,undef,undef,undef,undef,undef,undef,undef,undef,undef,undef,undef,undef,undef,undef,undef,undef,undef,undef],defers:=[] })
   (fun _ _ _ _ h _=>h) ?assign ?body ?done ?stop
  case assign =>
   rintro pre k W K hp ⟨q1,q2,q3,q4⟩ hl hK
   gi_wp2
   refine hK _ _ (aBk.refl _ _) ⟨q1,q2,q3,q4⟩ rfl
  case stop =>
   rintro c' pre W hp h hK;exact h.elim
  case done =>
   rintro W ⟨q1,q2,q3,q4⟩ hK;rw [<- bHp] at q1 q2 q3;have HSC:=aA1 (bB2 (aF0 p g legit x legit.length));obtain ⟨r1,r2⟩:=aW1 (by decide) (HVS.out _ (Nat.le_refl _))
   obtain ⟨sp,hsp⟩:∃ sp,aGe (aF0 p g legit x legit.length)=sp:=⟨_,rfl⟩;rw [hsp] at HSC r1 r2 q1 q2 q3;obtain ⟨sb,lo,hi⟩:=sp;dsimp only at HSC r1 r2 q1 q2 q3;clear hsp;have hBW:=q4.belE hbw0 (by rintro q (rfl | rfl | rfl) <;> omega)
   obtain ⟨c1,f1,l1⟩:=aA5 q1;obtain ⟨c2,f2,l2⟩:=aA5 q2;obtain ⟨c3,f3,l3⟩:=aA5 q3;cases sb with
   | true =>
    rw [if_pos rfl] at HSC;go_wp2;refine aCe (B:=w.heap.size) (aDg.push (aDg.nil _ _) (by omega) hK (by simp)) ?_
    intro W' hA2 hs2
    refine ⟨.tuple #[.int .i64 (hi-lo+1),.int .i64 0],by simp [results,Tryz.results40,go_sem] <;> go_num,?_⟩
    rw [HF.out,HSC.out];exact ⟨rfl,hA2.bel hBW⟩
   | false =>
    rw [if_neg (by decide)] at HSC
    go_wp2;refine aCe (B:=w.heap.size) (aDg.push (aDg.nil _ _) (by omega) hK (by simp)) ?_
    intro W' hA2 hs2
    refine ⟨.tuple #[.int .i64 0,.int .i64 0],by simp [results,Tryz.results40,go_sem],?_⟩
    rw [HF.out,HSC.out];exact ⟨rfl,hA2.bel hBW⟩
  case body =>
   rintro pre k a' W hp ⟨q1,q2,q3,q4⟩ rfl hl0 ⟨r,hr⟩;obtain ⟨hkl,hkf⟩:=aJn.1 (hp.subset (by simp):k∈aPc legit legit.length)
   have hkI:(k:Int)<(legit.length:Int):=by omega
   -- what the box of all holds
   obtain ⟨bv,ov,X,c,hH,hbv,e0,hX⟩:=HO1.out _ hb10 k hkl hkf;subst hH;rw [aO3] at e0 hX;obtain ⟨bR,oR,rfl,hbR,e1⟩:=hX.at_ 0 (by simp)
   simp only [List.getElem_cons_zero] at e1
   have hbv1:bv<w1.heap.size:=by obtain ⟨_,_,_,_,e',h',_⟩:=HO1.out _ (Bel.refl w1) k hkl hkf;simp at e';omega
   have hbR1:bR<w1.heap.size:=by
    obtain ⟨bv',ov',X',c',e',h',z',hX'⟩:=HO1.out _ (Bel.refl w1) k hkl hkf;obtain ⟨rfl,rfl⟩:bv=bv'/\ov=ov':=by simpa using e'
    rw [<- hb10.cell h',e0] at z';injection z' with z'
    injection z' with z' _ _
    subst z';rw [aO3] at hX';obtain ⟨b2,o2,e2,h2,_⟩:=hX'.at_ 0 (by simp)
    simp at e2
    omega
   have y0:=(q4.cell hbv (by omega)).trans e0
   have y1:=(q4.cell hbR (by omega)).trans e1
   have yb:bv<W.heap.size:=Nat.lt_of_lt_of_le hbv q4.size;have yr:bR<W.heap.size:=Nat.lt_of_lt_of_le hbR q4.size;obtain ⟨cA,fA,lA⟩:=aA5 (q4.boxed eA (by omega))
   have HSN:=aA1 (aUc (pre.map (aMz p g x)) (aMz p g x k));have HMS:Hid ((pre++[k]).map (aMz p g x)=pre.map (aMz p g x)++[aMz p g x k]):=by show _=_;simp
   rw [<- HMS.out] at HSN;obtain ⟨y,hy⟩:∃ y,aMz p g x k=y:=⟨_,rfl⟩;rw [hy] at HSN y0 y1;obtain ⟨sp,hsp⟩:∃ sp,aGe (pre.map (aMz p g x))=sp:=⟨_,rfl⟩;rw [hsp] at HSN q1 q2 q3;obtain ⟨sb,lo,hi⟩:=sp;dsimp only at HSN q1 q2 q3;have HQ4:=aA1 q4;have HQ1:=aA1 q1;have HQ2:=aA1 q2;have HQ3:=aA1 q3;obtain ⟨c1,f1,l1⟩:=aA5 q1;obtain ⟨c2,f2,l2⟩:=aA5 q2;obtain ⟨c3,f3,l3⟩:=aA5 q3;have y1':W.cell? ⟨bR,oR,none⟩=some (.int .i64 y):=by simpa using y1
   clear q1 q2 q3 q4 hr e0 e1 hX hsp hy y1
   have HEND:Hid (∀ (lo2 hi2:Int) (W2:World),Boxed W2 (w1.heap.size+1) 3 (.int .i64 lo2)->Boxed W2 (w1.heap.size+1+1) 3 (.int .i64 hi2)->Boxed W2 (w1.heap.size+1+1+1) 4 (.bool true)->Agr (fun q=>q=w1.heap.size+1∨q=w1.heap.size+1+1∨q=w1.heap.size+1+1+1) W W2->aGe ((pre++[k]).map (aMz p g x))=(true,lo2,hi2) ->
     aBk (orE (fun k=>k=W0.heap.size∨k=W0.heap.size+1) (fun k=>k=w1.heap.size+1+1+1+1∨k=bL)) W W2/\Boxed W2 (w1.heap.size+1) 3 (.int .i64 (aGe ((pre++[k]).map (aMz p g x))).2.1)/\Boxed W2 (w1.heap.size+1+1) 3 (.int .i64 (aGe ((pre++[k]).map (aMz p g x))).2.2)/\Boxed W2 (w1.heap.size+1+1+1) 4 (.bool (aGe ((pre++[k]).map (aMz p g x))).1)/\Agr (fun q=>q=w1.heap.size+1∨q=w1.heap.size+1+1∨q=w1.heap.size+1+1+1) W0 W2):=fun lo2 hi2 W2 b1 b2 b3 hag he=>by
    rw [he];refine ⟨aBk.of_agr hag ?_,b1,b2,b3,HQ4.out.trans hag⟩
    rintro q ((h | h) | (h | h)) (h' | h' | h') <;> omega
   cases sb with
   | true =>
    rw [if_pos rfl] at HSN;obtain ⟨m1,hm1,hm1'⟩:=aKo lo y;obtain ⟨m2,hm2,hm2'⟩:=aJk hi y;rw [<- hm1',<- hm2'] at HSN;clear hm1' hm2'
    gi_wp2
    refine aCl.startIn (fun _:World=>True) [7] (by kernel_rfl) (by kernel_rfl) (by rintro ⟨_,_,h⟩;exact h) ?_
    have hHeld:(fun _:World=>True) W.drew:=trivial
    (refine aCl.t (v:=?_) 1 48 rfl rfl (by kernel_rfl) (fun _ _ _ h=>h) hHeld (Or.inl ⟨by rfl,?_⟩) ?_;rotate_left 1;focus (intro w' hSw;(try dsimp only at hSw);go_simp;(try with_reducible rfl);done))
    (refine aCl.t (v:=?_) 4 51 rfl rfl (by kernel_rfl) (fun _ _ _ h=>h) hHeld (Or.inl ⟨by rfl,?_⟩) ?_;rotate_left 1;focus (intro w' hSw;(try dsimp only at hSw);go_simp;(try with_reducible rfl);done))
    refine aCl.two (i:=0) (j:=3) (by kernel_rfl) rfl rfl (fun K hK=>?_) (fun K hK=>?_)
    .go_simp
     refine hK.out _ _ (fun _=>trivial) ?_
     clear hK K
     (try simp only [Act.put,List.setIfInBounds_toArray,List.set_cons_zero,List.set_cons_succ])
     (refine aCl.t (v:=?_) 2 49 rfl rfl (by kernel_rfl) (fun _ _ _ h=>h) hHeld (Or.inl ⟨by rfl,?_⟩) ?_;rotate_left 1;focus (intro w' hSw;(try dsimp only at hSw);go_simp;(try with_reducible rfl);done))
     refine aCl.two (i:=3) (j:=6) (by kernel_rfl) rfl rfl (fun K hK=>?_) (fun K hK=>?_)
     .go_simp
      refine hK.out _ _ (fun _=>trivial) ?_
      clear hK K
      (try simp only [Act.put,List.setIfInBounds_toArray,List.set_cons_zero,List.set_cons_succ])
      (refine aCl.t (v:=?_) 5 52 rfl rfl (by kernel_rfl) (fun _ _ _ h=>h) hHeld (Or.inl ⟨by rfl,?_⟩) ?_;rotate_left 1;focus (intro w' hSw;(try dsimp only at hSw);go_simp;(try with_reducible rfl);done))
      refine aCl.one (i:=6) (by kernel_rfl) rfl (fun K hK=>?_)
      go_simp
      refine hK.out _ _ (fun _=>trivial) ?_
      clear hK K
      (try simp only [Act.put,List.setIfInBounds_toArray,List.set_cons_zero,List.set_cons_succ])
      refine aCl.one (i:=7) (by kernel_rfl) rfl (fun K hK=>?_)
      go_simp
      refine hK.out _ _ (fun _=>trivial) ?_
      clear hK K;refine aCl.done (by kernel_rfl) ?_ _
      (try simp only [Act.put,List.setIfInBounds_toArray,List.set_cons_zero,List.set_cons_succ])
      exact HEND.out m1 m2 _ (Blk.other (Boxed.set _ (show Boxed W.drew (w1.heap.size+1) 3 (.int .i64 lo) from HQ1.out):Boxed (W.drew.setCell ⟨w1.heap.size+1,0,none⟩ (.int .i64 m1)) (w1.heap.size+1) 3 (.int .i64 m1)) (by simp <;> omega) _) (Boxed.set _ (Blk.other (show Boxed W.drew (w1.heap.size+1+1) 3 (.int .i64 hi) from HQ2.out) (by simp <;> omega) _:Boxed (W.drew.setCell ⟨w1.heap.size+1,0,none⟩ (.int .i64 m1)) (w1.heap.size+1+1) 3 (.int .i64 hi))) (Blk.other (Blk.other (show Boxed W.drew (w1.heap.size+1+1+1) 4 (.bool true) from HQ3.out) (by simp <;> omega) _) (by simp <;> omega) _) (((Agr.refl _ _).trans (Agr.bel' ((Bel.refl W).drew))).trans ((Agr.setCell _ _ _ (.inl rfl)).trans (Agr.setCell _ _ _ (.inr (.inl rfl))))) HSN.out
     .go_simp
      refine hK.out _ _ (fun _=>trivial) ?_
      clear hK K
      (try simp only [Act.put,List.setIfInBounds_toArray,List.set_cons_zero,List.set_cons_succ])
      refine aCl.one (i:=3) (by kernel_rfl) rfl (fun K hK=>?_)
      go_simp
      refine hK.out _ _ (fun _=>trivial) ?_
      clear hK K
      (try simp only [Act.put,List.setIfInBounds_toArray,List.set_cons_zero,List.set_cons_succ])
      have hHeld:(fun _:World=>True) (W.drew.setCell ⟨w1.heap.size+1,0,none⟩ (.int .i64 m1)):=trivial
      (refine aCl.t (v:=?_) 5 52 rfl rfl (by kernel_rfl) (fun _ _ _ h=>h) hHeld (Or.inl ⟨by rfl,?_⟩) ?_;rotate_left 1;focus (intro w' hSw;(try dsimp only at hSw);go_simp;(try with_reducible rfl);done))
      refine aCl.one (i:=7) (by kernel_rfl) rfl (fun K hK=>?_)
      go_simp
      refine hK.out _ _ (fun _=>trivial) ?_
      clear hK K;refine aCl.done (by kernel_rfl) ?_ _
      (try simp only [Act.put,List.setIfInBounds_toArray,List.set_cons_zero,List.set_cons_succ])
      exact HEND.out m1 m2 _ (Blk.other (Boxed.set _ (show Boxed W.drew (w1.heap.size+1) 3 (.int .i64 lo) from HQ1.out):Boxed (W.drew.setCell ⟨w1.heap.size+1,0,none⟩ (.int .i64 m1)) (w1.heap.size+1) 3 (.int .i64 m1)) (by simp <;> omega) _) (Boxed.set _ (Blk.other (show Boxed W.drew (w1.heap.size+1+1) 3 (.int .i64 hi) from HQ2.out) (by simp <;> omega) _:Boxed (W.drew.setCell ⟨w1.heap.size+1,0,none⟩ (.int .i64 m1)) (w1.heap.size+1+1) 3 (.int .i64 hi))) (Blk.other (Blk.other (show Boxed W.drew (w1.heap.size+1+1+1) 4 (.bool true) from HQ3.out) (by simp <;> omega) _) (by simp <;> omega) _) (((Agr.refl _ _).trans (Agr.bel' ((Bel.refl W).drew))).trans ((Agr.setCell _ _ _ (.inl rfl)).trans (Agr.setCell _ _ _ (.inr (.inl rfl))))) HSN.out
    .go_simp
     refine hK.out _ _ (fun _=>trivial) ?_
     clear hK K
     (try simp only [Act.put,List.setIfInBounds_toArray,List.set_cons_zero,List.set_cons_succ])
     (refine aCl.t (v:=?_) 5 52 rfl rfl (by kernel_rfl) (fun _ _ _ h=>h) hHeld (Or.inl ⟨by rfl,?_⟩) ?_;rotate_left 1;focus (intro w' hSw;(try dsimp only at hSw);go_simp;(try with_reducible rfl);done))
     refine aCl.one (i:=0) (by kernel_rfl) rfl (fun K hK=>?_)
     go_simp
     refine hK.out _ _ (fun _=>trivial) ?_
     clear hK K
     (try simp only [Act.put,List.setIfInBounds_toArray,List.set_cons_zero,List.set_cons_succ])
     (refine aCl.t (v:=?_) 2 49 rfl rfl (by kernel_rfl) (fun _ _ _ h=>h) hHeld (Or.inl ⟨by rfl,?_⟩) ?_;rotate_left 1;focus (intro w' hSw;(try dsimp only at hSw);go_simp;(try with_reducible rfl);done))
     refine aCl.one (i:=6) (by kernel_rfl) rfl (fun K hK=>?_)
     go_simp
     refine hK.out _ _ (fun _=>trivial) ?_
     clear hK K
     (try simp only [Act.put,List.setIfInBounds_toArray,List.set_cons_zero,List.set_cons_succ])
     refine aCl.one (i:=7) (by kernel_rfl) rfl (fun K hK=>?_)
     go_simp
     refine hK.out _ _ (fun _=>trivial) ?_
     clear hK K;refine aCl.done (by kernel_rfl) ?_ _
     (try simp only [Act.put,List.setIfInBounds_toArray,List.set_cons_zero,List.set_cons_succ])
     exact HEND.out m1 m2 _ (Blk.other (Boxed.set _ (show Boxed W.drew (w1.heap.size+1) 3 (.int .i64 lo) from HQ1.out):Boxed (W.drew.setCell ⟨w1.heap.size+1,0,none⟩ (.int .i64 m1)) (w1.heap.size+1) 3 (.int .i64 m1)) (by simp <;> omega) _) (Boxed.set _ (Blk.other (show Boxed W.drew (w1.heap.size+1+1) 3 (.int .i64 hi) from HQ2.out) (by simp <;> omega) _:Boxed (W.drew.setCell ⟨w1.heap.size+1,0,none⟩ (.int .i64 m1)) (w1.heap.size+1+1) 3 (.int .i64 hi))) (Blk.other (Blk.other (show Boxed W.drew (w1.heap.size+1+1+1) 4 (.bool true) from HQ3.out) (by simp <;> omega) _) (by simp <;> omega) _) (((Agr.refl _ _).trans (Agr.bel' ((Bel.refl W).drew))).trans ((Agr.setCell _ _ _ (.inl rfl)).trans (Agr.setCell _ _ _ (.inr (.inl rfl))))) HSN.out
   | false =>
    rw [if_neg (by decide)] at HSN
    gi_wp2
    obtain ⟨W3,hW3⟩:∃ W3,((W.setCell ⟨w1.heap.size+1,0,none⟩ (.int .i64 y)).setCell ⟨w1.heap.size+1+1,0,none⟩ (.int .i64 y)).setCell ⟨w1.heap.size+1+1+1,0,none⟩ (.bool true)=W3:=⟨_,rfl⟩;have b1:Boxed W3 (w1.heap.size+1) 3 (.int .i64 y):=by rw [<- hW3];exact Blk.other (Blk.other (Boxed.set _ HQ1.out:Boxed (W.setCell ⟨w1.heap.size+1,0,none⟩ (.int .i64 y)) (w1.heap.size+1) 3 (.int .i64 y)) (by simp <;> omega) _) (by simp) _
    have b2:Boxed W3 (w1.heap.size+1+1) 3 (.int .i64 y):=by rw [<- hW3];exact Blk.other (Boxed.set _ (Blk.other HQ2.out (by simp) _:Boxed (W.setCell ⟨w1.heap.size+1,0,none⟩ (.int .i64 y)) (w1.heap.size+1+1) 3 (.int .i64 hi))) (by simp) _
    have b3:Boxed W3 (w1.heap.size+1+1+1) 4 (.bool true):=by rw [<- hW3];exact Boxed.set _ (Blk.other (Blk.other HQ3.out (by simp <;> omega) _) (by simp) _:Boxed ((W.setCell ⟨w1.heap.size+1,0,none⟩ (.int .i64 y)).setCell ⟨w1.heap.size+1+1,0,none⟩ (.int .i64 y)) (w1.heap.size+1+1+1) 4 (.bool false))
    have hag3:Agr (fun q=>q=w1.heap.size+1∨q=w1.heap.size+1+1∨q=w1.heap.size+1+1+1) W W3:=by rw [<- hW3];exact ((Agr.setCell _ _ _ (.inl rfl)).trans (Agr.setCell _ _ _ (.inr (.inl rfl)))).trans (Agr.setCell _ _ _ (.inr (.inr rfl)))
    rw [hW3];have HB1:=aA1 b1;have HB2:=aA1 b2;have HB3:=aA1 b3;have HAG3:=aA1 hag3;clear hW3 c1 f1 l1 c2 f2 l2 c3 f3 l3 b3 hag3;obtain ⟨c1,f1,l1⟩:=aA5 b1;obtain ⟨c2,f2,l2⟩:=aA5 b2;clear b1 b2;refine aCl.startIn (fun _:World=>True) [7] (by kernel_rfl) (by kernel_rfl) (by rintro ⟨_,_,h⟩;exact h) ?_
    have hHeld:(fun _:World=>True) W3.drew:=trivial
    (refine aCl.t (v:=?_) 1 48 rfl rfl (by kernel_rfl) (fun _ _ _ h=>h) hHeld (Or.inl ⟨by rfl,?_⟩) ?_;rotate_left 1;focus (intro w' hSw;(try dsimp only at hSw);go_simp;(try with_reducible rfl);done))
    (refine aCl.t (v:=?_) 4 51 rfl rfl (by kernel_rfl) (fun _ _ _ h=>h) hHeld (Or.inl ⟨by rfl,?_⟩) ?_;rotate_left 1;focus (intro w' hSw;(try dsimp only at hSw);go_simp;(try with_reducible rfl);done))
    refine aCl.two (i:=0) (j:=3) (by kernel_rfl) rfl rfl (fun K hK=>?_) (fun K hK=>?_)
    .go_simp
     refine hK.out _ _ (fun _=>trivial) ?_
     clear hK K
     (try simp only [Act.put,List.setIfInBounds_toArray,List.set_cons_zero,List.set_cons_succ])
     (refine aCl.t (v:=?_) 2 49 rfl rfl (by kernel_rfl) (fun _ _ _ h=>h) hHeld (Or.inl ⟨by rfl,?_⟩) ?_;rotate_left 1;focus (intro w' hSw;(try dsimp only at hSw);go_simp;(try with_reducible rfl);done))
     refine aCl.two (i:=3) (j:=6) (by kernel_rfl) rfl rfl (fun K hK=>?_) (fun K hK=>?_)
     .go_simp
      refine hK.out _ _ (fun _=>trivial) ?_
      clear hK K
      (try simp only [Act.put,List.setIfInBounds_toArray,List.set_cons_zero,List.set_cons_succ])
      (refine aCl.t (v:=?_) 5 52 rfl rfl (by kernel_rfl) (fun _ _ _ h=>h) hHeld (Or.inl ⟨by rfl,?_⟩) ?_;rotate_left 1;focus (intro w' hSw;(try dsimp only at hSw);go_simp;(try with_reducible rfl);done))
      refine aCl.one (i:=6) (by kernel_rfl) rfl (fun K hK=>?_)
      go_simp
      refine hK.out _ _ (fun _=>trivial) ?_
      clear hK K
      (try simp only [Act.put,List.setIfInBounds_toArray,List.set_cons_zero,List.set_cons_succ])
      refine aCl.one (i:=7) (by kernel_rfl) rfl (fun K hK=>?_)
      go_simp
      refine hK.out _ _ (fun _=>trivial) ?_
      clear hK K;refine aCl.done (by kernel_rfl) ?_ _
      (try simp only [Act.put,List.setIfInBounds_toArray,List.set_cons_zero,List.set_cons_succ])
      exact HEND.out y y _ (Blk.other (Boxed.set _ (show Boxed W3.drew (w1.heap.size+1) 3 (.int .i64 y) from HB1.out):Boxed (W3.drew.setCell ⟨w1.heap.size+1,0,none⟩ (.int .i64 y)) (w1.heap.size+1) 3 (.int .i64 y)) (by simp <;> omega) _) (Boxed.set _ (Blk.other (show Boxed W3.drew (w1.heap.size+1+1) 3 (.int .i64 y) from HB2.out) (by simp <;> omega) _:Boxed (W3.drew.setCell ⟨w1.heap.size+1,0,none⟩ (.int .i64 y)) (w1.heap.size+1+1) 3 (.int .i64 y))) (Blk.other (Blk.other (show Boxed W3.drew (w1.heap.size+1+1+1) 4 (.bool true) from HB3.out) (by simp <;> omega) _) (by simp <;> omega) _) (((HAG3.out).trans (Agr.bel' ((Bel.refl W3).drew))).trans ((Agr.setCell _ _ _ (.inl rfl)).trans (Agr.setCell _ _ _ (.inr (.inl rfl))))) HSN.out
     .go_simp
      refine hK.out _ _ (fun _=>trivial) ?_
      clear hK K
      (try simp only [Act.put,List.setIfInBounds_toArray,List.set_cons_zero,List.set_cons_succ])
      refine aCl.one (i:=3) (by kernel_rfl) rfl (fun K hK=>?_)
      go_simp
      refine hK.out _ _ (fun _=>trivial) ?_
      clear hK K
      (try simp only [Act.put,List.setIfInBounds_toArray,List.set_cons_zero,List.set_cons_succ])
      have hHeld:(fun _:World=>True) (W3.drew.setCell ⟨w1.heap.size+1,0,none⟩ (.int .i64 y)):=trivial
      (refine aCl.t (v:=?_) 5 52 rfl rfl (by kernel_rfl) (fun _ _ _ h=>h) hHeld (Or.inl ⟨by rfl,?_⟩) ?_;rotate_left 1;focus (intro w' hSw;(try dsimp only at hSw);go_simp;(try with_reducible rfl);done))
      refine aCl.one (i:=7) (by kernel_rfl) rfl (fun K hK=>?_)
      go_simp
      refine hK.out _ _ (fun _=>trivial) ?_
      clear hK K;refine aCl.done (by kernel_rfl) ?_ _
      (try simp only [Act.put,List.setIfInBounds_toArray,List.set_cons_zero,List.set_cons_succ])
      exact HEND.out y y _ (Blk.other (Boxed.set _ (show Boxed W3.drew (w1.heap.size+1) 3 (.int .i64 y) from HB1.out):Boxed (W3.drew.setCell ⟨w1.heap.size+1,0,none⟩ (.int .i64 y)) (w1.heap.size+1) 3 (.int .i64 y)) (by simp <;> omega) _) (Boxed.set _ (Blk.other (show Boxed W3.drew (w1.heap.size+1+1) 3 (.int .i64 y) from HB2.out) (by simp <;> omega) _:Boxed (W3.drew.setCell ⟨w1.heap.size+1,0,none⟩ (.int .i64 y)) (w1.heap.size+1+1) 3 (.int .i64 y))) (Blk.other (Blk.other (show Boxed W3.drew (w1.heap.size+1+1+1) 4 (.bool true) from HB3.out) (by simp <;> omega) _) (by simp <;> omega) _) (((HAG3.out).trans (Agr.bel' ((Bel.refl W3).drew))).trans ((Agr.setCell _ _ _ (.inl rfl)).trans (Agr.setCell _ _ _ (.inr (.inl rfl))))) HSN.out
    .go_simp
     refine hK.out _ _ (fun _=>trivial) ?_
     clear hK K
     (try simp only [Act.put,List.setIfInBounds_toArray,List.set_cons_zero,List.set_cons_succ])
     (refine aCl.t (v:=?_) 5 52 rfl rfl (by kernel_rfl) (fun _ _ _ h=>h) hHeld (Or.inl ⟨by rfl,?_⟩) ?_;rotate_left 1;focus (intro w' hSw;(try dsimp only at hSw);go_simp;(try with_reducible rfl);done))
     refine aCl.one (i:=0) (by kernel_rfl) rfl (fun K hK=>?_)
     go_simp
     refine hK.out _ _ (fun _=>trivial) ?_
     clear hK K
     (try simp only [Act.put,List.setIfInBounds_toArray,List.set_cons_zero,List.set_cons_succ])
     (refine aCl.t (v:=?_) 2 49 rfl rfl (by kernel_rfl) (fun _ _ _ h=>h) hHeld (Or.inl ⟨by rfl,?_⟩) ?_;rotate_left 1;focus (intro w' hSw;(try dsimp only at hSw);go_simp;(try with_reducible rfl);done))
     refine aCl.one (i:=6) (by kernel_rfl) rfl (fun K hK=>?_)
     go_simp
     refine hK.out _ _ (fun _=>trivial) ?_
     clear hK K
     (try simp only [Act.put,List.setIfInBounds_toArray,List.set_cons_zero,List.set_cons_succ])
     refine aCl.one (i:=7) (by kernel_rfl) rfl (fun K hK=>?_)
     go_simp
     refine hK.out _ _ (fun _=>trivial) ?_
     clear hK K;refine aCl.done (by kernel_rfl) ?_ _
     (try simp only [Act.put,List.setIfInBounds_toArray,List.set_cons_zero,List.set_cons_succ])
     exact HEND.out y y _ (Blk.other (Boxed.set _ (show Boxed W3.drew (w1.heap.size+1) 3 (.int .i64 y) from HB1.out):Boxed (W3.drew.setCell ⟨w1.heap.size+1,0,none⟩ (.int .i64 y)) (w1.heap.size+1) 3 (.int .i64 y)) (by simp <;> omega) _) (Boxed.set _ (Blk.other (show Boxed W3.drew (w1.heap.size+1+1) 3 (.int .i64 y) from HB2.out) (by simp <;> omega) _:Boxed (W3.drew.setCell ⟨w1.heap.size+1,0,none⟩ (.int .i64 y)) (w1.heap.size+1+1) 3 (.int .i64 y))) (Blk.other (Blk.other (show Boxed W3.drew (w1.heap.size+1+1+1) 4 (.bool true) from HB3.out) (by simp <;> omega) _) (by simp <;> omega) _) (((HAG3.out).trans (Agr.bel' ((Bel.refl W3).drew))).trans ((Agr.setCell _ _ _ (.inl rfl)).trans (Agr.setCell _ _ _ (.inr (.inl rfl))))) HSN.out
 .rw [if_pos h1] at HF
  have d0:(c2 != 0)=true:=by simpa using h1
  clear h1 hB;go_enter func40,ntmps40
  go_wp2_with (go_at_call 82;refine (aHk _ p _ g kind AL cL legit (some ⟨w.heap.size+1+1,0,none⟩) 1 [x] _ (HPV.out _ (aA0 HW)) (HGV.out _ (aA0 HW)) (HT.out _ (aA0 HW)) (HBR.out _ (aA0 HW)) (HROW.out _ HWL) HL.out HGL.out hll (by simp) HXE.out HFW.out).mono ?_;rintro e w1 hret;unfold aJ8 at hret;rw [HCE.out] at hret;obtain ⟨H,nH,cH,rfl,hok,hb⟩:=hret;replace HW:=(HW.trans hb).alloc (.cells #[.slice H nH cH] 30);clear hb hok HWL)
  go_ret2
  rw [HF.out];exact ⟨rfl,aA0 HW⟩
end Go.Proofs.YtmifhmdghfbalaaGreatDoor

