/- Merged. -/
import Derived.Test.YtmifhmdghfbalaaGreatDoorZ19
import Derived.Test.YtmifhmdghfbalaaGreatDoorZ18
set_option linter.unusedSimpArgs false
set_option linter.unnecessarySimpa false
set_option linter.unusedVariables false
set_option maxRecDepth 100000
set_option maxHeartbeats 4000000
open Go.Proofs.Tryz

namespace Go.Proofs.YtmifhmdghfbalaaGreatDoor
open Go.RowKit
def bEt (p:Prg) (g:Graph) (c:aA8) (v:Nat) (x:Ex):Prop :=
 ∀ (b:Bool) (port:Int) (K:Nat) (A:Option Addr) (ce:Nat) (es:List Term) (k:Nat) (w:World),aZg w K p g c v A ce es->x.At es k->(∀ t∈es,aHz t p.vars.length=true)->es.length<=1000->aBd b x->aIc g v b port ->
  Calls prog 205 #[.pointer (some ⟨K,0,none⟩),.int .i64 k,.int .i64 port] w fun e w'=>e = .returned (.tuple #[.int .i64 (aAw g c v port x),.int .i64 ((k+x.len:Nat):Int)])/\Bel w w'
theorem bL8 (V n:Nat) (h:n<=24) (w:World):(Instr.sliceAt 256 (.pointer (some ⟨V,0,none⟩)) none (some (.int .i64 (n:Int))) none).run prog w = .ok (.slice (some ⟨V,0,none⟩) n 24) w:=by
 obtain ⟨j0,hj0,_⟩:=info_parts aFm;simp [Instr.sliceAt,run_underlying underlying256,Instr.sliceBounds,Instr.sliceBound,asIntOf,h,sizeOf,typeInfo,hj0,Instr.sureAddr,Addr.add]
def bF5 (l:List Int):Array Value:=((l++List.replicate (24-l.length) 0).map (Value.int .i64)).toArray
theorem bIc (l:List Int) (j:Nat) (h:l.length=j) (hj:j<24):(bF5 l)[j]?=some (.int .i64 0):=by
 unfold bF5;rw [List.getElem?_toArray,List.getElem?_map,List.getElem?_append_right (by omega),List.getElem?_replicate,if_pos (by omega)]
 rfl
theorem bKm (l:List Int) (i:Nat) (x:Int) (h:l[i]?=some x):(bF5 l)[i]?=some (.int .i64 x):=by
 unfold bF5;rw [List.getElem?_toArray,List.getElem?_map,List.getElem?_append_left (List.getElem?_eq_some_iff.1 h).1,h];rfl
theorem bId (l:List Int) (j:Nat) (x:Int) (h:l.length=j) (hj:j<24):(bF5 l).setIfInBounds j (.int .i64 x)=bF5 (l++[x]):=by
 unfold bF5;rw [List.setIfInBounds_toArray]
 congr 1
 rw [<- List.map_set,List.set_append_right _ _ (by omega),h,Nat.sub_self,show 24-j=(24-(j+1))+1 by omega,List.replicate_succ,List.set_cons_zero]
 simp [h]
theorem bI8 (p:Prg) (g:Graph) (c:aA8) (v:Nat) (a:Ex) (ih:bEt p g c v a) (hs:SOK p g c v) (op:Int) (K:Nat) (A:Option Addr) (ce:Nat) (es:List Term) (k:Nat) (w:World) (hW:aZg w K p g c v A ce es) (hat:a.At es (k+1)) (hend:endF es (k:Int)=((k+1+a.len:Nat):Int)) (harg:∀ t∈es,aHz t p.vars.length=true) (hlen:es.length<=1000) (hbo:aBd true a) (hop1:20<=op) (hop2:op<=29) :
  Calls prog 251 #[.pointer (some ⟨K,0,none⟩),.int .i64 op,.int .i64 k] w fun e w'=>e = .returned (.tuple #[.int .i64 (aLu op ((List.range (g.ports.getD v []).length).map fun (q:Nat)=>aAw g c v (q:Int) a)),.int .i64 ((k+1+a.len:Nat):Int)])/\Bel w w':=by
 have HWK:=aA1 (fun w' (k:Bel w w')=>hW.keep k);have HIH:=aA1 ih;have HS:=aA1 hs;obtain ⟨B,AC,kc,hK,hS,hC,hT⟩:=hW;obtain ⟨A1,k1,A2,k2,A3,k3,A4,k4,gb,hB,_,hGV,_⟩:=hS;obtain ⟨A',k',A2',k2',eG,_,_,_,hP,_,_⟩:=hGV;obtain ⟨⟨rfl,rfl⟩,rfl,rfl⟩:(A3=A'/\k3=k')/\A4=A2'/\k4=k2':=by simpa using eG
 have y0:=hK.cell 0 (v := .pointer (some ⟨B,0,none⟩)) rfl;have y2:=hK.cell 2 (v := .int .i64 v) rfl;have y3:=hK.cell 3 (v := .slice A es.length ce) rfl;have yl:=hK.lt;have z4:=hB.cell 4 (v := .slice A4 g.ports.length k4) rfl;have zl:=hB.lt;have hv:=hs.node;obtain ⟨b3,o3,R3,rc3,rfl,hb3,hrow3,_,_,_⟩:=hP.at_ v hv;have hdp:decide (v<g.ports.length)=true:=by simpa using hv
 have hbd:=At.bound hat;have HT:=aA1 (fun w' (k:Bel w w')=>aAr.keep hT k);have HAT:=aA1 hat;have HE:=aA1 hend;clear hend;have HARG:=aA1 harg;have HBO:=aA1 hbo;have hrl:g.ports[v].length<=24:=by have:=aD7 hv (hs.gok.links v hv);have:=hs.gok.le;omega
 have HPK:Hid (∀ q:Nat,q<g.ports[v].length->aIc g v true (q:Int)):=fun q hq _=>⟨q,rfl,by rw [aA7 hv];exact hq⟩
 have HNN:Hid (∀ y∈(List.range g.ports[v].length).map fun (q:Nat)=>aAw g c v (q:Int) a,Num y):=by
  intro y hy
  obtain ⟨q,hq,rfl⟩:=List.mem_map.1 hy;exact aI6 hs hat.1 (fun t ht=>harg t (aHx hat t ht)) hbo (HPK.out q (List.mem_range.1 hq))
 rw [aA7 hv];have HY:=aA1 (fun w' (kk:Bel w w')=>And.intro ((kk.cell yl).trans y0) (And.intro ((kk.cell yl).trans y2) (And.intro ((kk.cell yl).trans y3) (Nat.lt_of_lt_of_le yl kk.size))));clear hK hB eG hC hP ih hs hT hat harg hbo;go_enter func251,ntmps251
 go_wp2_with fail
 go_quiet (fail)
 go_wp2_with fail
 have HV:Hid (Blk ((w.alloc (.cells (bF5 ((List.range 0).map fun (q:Nat)=>aAw g c v (q:Int) a)) 256)).drewN nq) w.heap.size (bF5 ((List.range 0).map fun (q:Nat)=>aAw g c v (q:Int) a)) 256):=(Blk.new w _ _).drewN _;have HB:=((Bel.refl w).alloc (.cells (bF5 ((List.range 0).map fun (q:Nat)=>aAw g c v (q:Int) a)) 256)).drewN nq;clear y0 y2 y3 z4 hrow3
 go_loopg [7,10,27] g.ports[v].length (fun m s _x z wr=>∃ (j:Nat),j<=g.ports[v].length/\m=g.ports[v].length-j/\z = .int .i64 j/\s = .int .i64 (if j=0 then 0 else ((k+1+a.len:Nat):Int))/\Hid (Blk wr w.heap.size (bF5 ((List.range j).map fun (q:Nat)=>aAw g c v (q:Int) a)) 256)/\Bel w wr)
 case atStart=>exact ⟨0,by omega,rfl,rfl,rfl,HV,HB⟩
 case round =>
  clear HV HB;obtain ⟨j,hj,rfl,rfl,rfl,HV,HB⟩:=hrel;obtain ⟨y0,y2,y3,yl2⟩:=HY.out _ HB
  by_cases hlt2:j<g.ports[v].length
  .have hd0:decide (j<g.ports[v].length)=true:=by simpa using hlt2
   have hd1:decide (j<24)=true:=by simp;omega
   have hl:((List.range j).map fun (q:Nat)=>aAw g c v (q:Int) a).length=j:=by simp
   have HST:Hid (((List.range (j+1)).map fun (q:Nat)=>aAw g c v (q:Int) a)=((List.range j).map fun (q:Nat)=>aAw g c v (q:Int) a)++[aAw g c v (j:Int) a]):=by
    show ((List.range (j+1)).map fun (q:Nat)=>aAw g c v (q:Int) a)=_
    rw [List.range_succ,List.map_append];rfl
   go_wp2_with (go_at_call 205;refine (HIH.out true (j:Int) K A ce es (k+1) _ (HWK.out _ HB) HAT.out HARG.out hlen HBO.out (HPK.out j hlt2)).mono ?_;rintro e w4 ⟨rfl,hbb⟩;replace HB:=HB.trans hbb;replace HV:=aA1 (HV.out.keep hbb);clear hbb;have q1:=HV.out.cell j (bIc _ j hl (by omega));have q2:=HV.out.frozen j;have q3:=HV.out.lt)
   go_roundg (g.ports[v].length-(j+1))
   case rel =>
    refine ⟨j+1,by omega,rfl,by go_num,by simp,?_,HB.setCell (by simp) _⟩
    have h1:=HV.out.set j (.int .i64 (aAw g c v (j:Int) a));rw [bId _ j _ hl (by omega)] at h1
    show Blk _ _ _ _
    rw [HST.out];exact h1
   case measure=>omega
  .have hd0:decide (j<g.ports[v].length)=false:=by simpa using hlt2
   obtain rfl:j=g.ports[v].length:=by omega
   have HI:Hid (aB7 wr (some ⟨w.heap.size,0,none⟩) g.ports[v].length ((List.range g.ports[v].length).map fun (q:Nat)=>aAw g c v (q:Int) a)):=by
    refine ⟨by simp,fun i x hx=>⟨_,0,rfl,HV.out.lt,?_⟩⟩
    have h1:=HV.out.cell i (v := .int .i64 x) (bKm _ i x hx)
    rwa [Nat.zero_add,Nat.mul_one]
   have hsl:=bL8 w.heap.size g.ports[v].length hrl wr
   by_cases h0:g.ports[v].length=0
   .rw [if_pos h0]
    have hd2:((g.ports[v].length:Int)==0)=true:=by simpa using h0
    have hd3:(g.ports[v].length==0)=true:=by simpa using h0
    clear h0
    go_wp2_with (first
     | (go_at_call 155;refine (aQw _ _ _ es _ _ (HT.out _ HB) (by omega)).mono ?_;rintro e w' ⟨rfl,rfl⟩;rw [HE.out])
     | (go_at_call 266;refine (bBs _ _ _ _ op _ HI.out (by omega) hop1 hop2 HNN.out).mono ?_;rintro e w' ⟨rfl,rfl⟩))
    go_ret2
    exact ⟨rfl,HB⟩
   .rw [if_neg h0]
    have hd2:((g.ports[v].length:Int)==0)=false:=by simpa using h0
    have hd3:(g.ports[v].length==0)=false:=by simpa using h0
    clear h0
    go_wp2_with (first
     | (go_at_call 266;refine (bBs _ _ _ _ op _ HI.out (by omega) hop1 hop2 HNN.out).mono ?_;rintro e w' ⟨rfl,rfl⟩))
    go_ret2
    exact ⟨rfl,HB⟩
theorem bHr (p:Prg) (g:Graph) (c:aA8) (v:Nat) (hs:SOK p g c v) (x:Ex):bEt p g c v x:=by
 induction x with
 | leaf t =>
  intro b port K A ce es k w hW hat harg hlen hbo hpo
  have hlt:=At.lt hat;obtain ⟨hh,har⟩:=At.leaf hat;have HWK:=aA1 (fun w' (k:Bel w w')=>hW.keep k);obtain ⟨B,AC,kc,hK,_,_,hT⟩:=hW;have y3:=hK.cell 3 (v := .slice A es.length ce) rfl;have yl:=hK.lt;obtain ⟨b1,o1,rfl,hb1,c1,c2⟩:=hT.at_ k hlt;have hhe:es[k]=t:=by rw [List.getElem?_eq_getElem hlt] at hh;simpa using hh
  rw [hhe] at c1 c2;have HARG:=aA1 (show aHz t p.vars.length=true by rw [<- hhe];exact harg _ (List.getElem_mem hlt))
  have hr:=(aBl t.op).1 har;have HAR:=aA1 har;have HBO:=aA1 (show aDs t.op=true->b=true from hbo)
  have HPO:=aA1 hpo;have HS:=aA1 hs;have HB:=(Bel.refl w).alloc (.cells #[.int .i64 t.op,.int .i64 t.arg] 115);have hdk:decide (k<es.length)=true:=by simpa using hlt
  have hd17:decide (t.op<=17)=true:=by simpa using hr.2
  clear hh hhe harg hT har hat hbo hpo hK hs hr;go_enter func205,ntmps205
  go_wp2_with (go_at_call 249;refine (bG3 K p g c v _ ce es port t b _ (HWK.out _ HB) HS.out HAR.out HARG.out HBO.out HPO.out).mono ?_;rintro e w' ⟨rfl,hbb⟩;replace HB:=HB.trans hbb;clear hbb)
  go_ret2
  exact ⟨rfl,HB⟩
 | un t a ih =>
  intro b port K A ce es k w hW hat harg hlen hbo hpo
  have hlt:=At.lt hat;have hend:=At.endF hat;have hbd:=At.bound hat;obtain ⟨hh,har,ha⟩:=At.un hat;have HWK:=aA1 (fun w' (k:Bel w w')=>hW.keep k);obtain ⟨B,AC,kc,hK,_,_,hT⟩:=hW;have y3:=hK.cell 3 (v := .slice A es.length ce) rfl;have yl:=hK.lt;obtain ⟨b1,o1,rfl,hb1,c1,c2⟩:=hT.at_ k hlt;have hhe:es[k]=t:=by rw [List.getElem?_eq_getElem hlt] at hh;simpa using hh
  rw [hhe] at c1 c2;have HARG:=aA1 harg;have HS:=aA1 hs;have HPO:=aA1 hpo;have HBX:=Bel.refl (w.alloc (.cells #[.int .i64 t.op,.int .i64 t.arg] 115));have hdk:decide (k<es.length)=true:=by simpa using hlt
  have hr:=(aBl t.op).2.1 har;have hd17:decide (t.op<=17)=false:=by simp;omega
  have HIH:=aA1 ih;have HATA:=aA1 ha;have HNA:=aA1 (fun (b':Bool) (q:Int) (h1:aBd b' a) (h2:aIc g v b' q)=>aI6 hs ha.1 (fun t ht=>harg t (aHx ha t ht)) h1 h2);have HLN:Hid (k+(Ex.un t a).len=k+1+a.len):=by show k+(Ex.un t a).len=_;simp [Ex.len,Ex.terms];omega
  cases hag:aAc t.op with
  | true =>
   have HBO:Hid (aBd true a):=by
    have hb':aBd (b||aAc t.op) a:=hbo;rw [hag,Bool.or_true] at hb';exact hb'
   have HE:Hid (aAw g c v port (.un t a)=aLu t.op ((List.range (g.ports.getD v []).length).map fun (q:Nat)=>aAw g c v (q:Int) a)):=by
    show aAw g c v port (.un t a)=_
    simp only [aAw,hag,if_true]
   obtain ⟨hop1,hop2⟩:20<=t.op/\t.op<=29:=by unfold aAc at hag;exact of_decide_eq_true hag
   have hd19:decide (t.op<=19)=false:=by simp;omega
   have hd29:decide (t.op<=29)=true:=by simpa using hop2
   have HEND:Hid (endF es (k:Int)=((k+1+a.len:Nat):Int)):=by show endF es (k:Int)=_;rw [hend,HLN.out]
   clear hh hhe harg hT har hat hbo hpo hK hs hr ih ha hag hend;go_enter func205,ntmps205
   go_wp2_with (go_at_call 251;refine (bI8 p g c v a HIH.out HS.out t.op K _ ce es k _ (HWK.out _ (aA3 HBX)) HATA.out HEND.out HARG.out hlen HBO.out hop1 hop2).mono ?_;rintro e w' ⟨rfl,hbb⟩;replace HBX:=HBX.trans hbb;clear hbb)
   go_ret2
   rw [HE.out,HLN.out];exact ⟨rfl,aA3 HBX⟩
  | false =>
   have HBO:Hid (aBd b a):=by
    have hb':aBd (b||aAc t.op) a:=hbo;rw [hag,Bool.or_false] at hb';exact hb'
   have HE:Hid (aAw g c v port (.un t a)=aKb t.op (aAw g c v port a)):=by
    show aAw g c v port (.un t a)=_
    simp only [aAw,hag];rfl
   have hd19:decide (t.op<=19)=true:=by unfold aAc at hag;simp at hag ⊢;omega
   clear hh hhe harg hT har hat hbo hpo hK hs hr ih ha hag hend;go_enter func205,ntmps205
   go_wp2_with (first
    | (go_at_call 205;refine (HIH.out b port K _ ce es (k+1) _ (HWK.out _ (aA3 HBX)) HATA.out HARG.out hlen HBO.out HPO.out).mono ?_;rintro e w' ⟨rfl,hbb⟩;replace HBX:=HBX.trans hbb;clear hbb;have q0:=aA9 HBX 0 (v := .int .i64 t.op) rfl;have q1:=aAz HBX)
    | (go_at_call 250;refine (bHm _ _ _ (HNA.out b port HBO.out HPO.out)).mono ?_;rintro e w' ⟨rfl,rfl⟩))
   go_ret2
   rw [HE.out,HLN.out];exact ⟨rfl,aA3 HBX⟩
 | bin t x y ihx ihy =>
  intro b port K A ce es k w hW hat harg hlen hbo hpo
  have hlt:=At.lt hat;have hend:=At.endF hat;have hbd:=At.bound hat;obtain ⟨hh,har,hx,hy⟩:=At.bin hat;have HWK:=aA1 (fun w' (k:Bel w w')=>hW.keep k);obtain ⟨B,AC,kc,hK,_,_,hT⟩:=hW;have y3:=hK.cell 3 (v := .slice A es.length ce) rfl;have yl:=hK.lt;obtain ⟨b1,o1,rfl,hb1,c1,c2⟩:=hT.at_ k hlt;have hhe:es[k]=t:=by rw [List.getElem?_eq_getElem hlt] at hh;simpa using hh
  rw [hhe] at c1 c2;have HARG:=aA1 harg;have HS:=aA1 hs;have HPO:=aA1 hpo;have HBX:=Bel.refl (w.alloc (.cells #[.int .i64 t.op,.int .i64 t.arg] 115));have hdk:decide (k<es.length)=true:=by simpa using hlt
  have hr:=(aBl t.op).2.2.1 har;have hd17:decide (t.op<=17)=false:=by simp;omega
  have hd19:decide (t.op<=19)=false:=by simp;omega
  have hd29:decide (t.op<=29)=false:=by simp;omega
  have hd42:decide (t.op<=42)=true:=by simp;omega
  obtain ⟨hop1,hop2⟩:30<=t.op/\t.op<=42:=by omega
  have HX:=aA1 ihx;have HY:=aA1 ihy;have HAX:=aA1 hx;have HAY:=aA1 hy;have HBO:=aA1 (show aBd b x/\aBd b y from hbo)
  have HNX:=aA1 (aI6 hs hx.1 (fun t ht=>harg t (aHx hx t ht)) HBO.out.1 hpo);have HNY:=aA1 (aI6 hs hy.1 (fun t ht=>harg t (aHx hy t ht)) HBO.out.2 hpo);have HLN:Hid (k+(Ex.bin t x y).len=k+1+x.len+y.len):=by show k+(Ex.bin t x y).len=_;simp [Ex.len,Ex.terms];omega
  clear hh hhe harg hT har hat hbo hpo hK hs hr ihx ihy hx hy hend;go_enter func205,ntmps205
  go_wp2_with (first
   | (go_at_call 205;refine (HX.out b port K _ ce es (k+1) _ (HWK.out _ (aA3 HBX)) HAX.out HARG.out hlen HBO.out.1 HPO.out).mono ?_;rintro e w' ⟨rfl,hbb⟩;replace HBX:=HBX.trans hbb;clear hbb;clear HX)
   | (go_at_call 205;refine (HY.out b port K _ ce es (k+1+x.len) _ (HWK.out _ (aA3 HBX)) HAY.out HARG.out hlen HBO.out.2 HPO.out).mono ?_;rintro e w' ⟨rfl,hbb⟩;replace HBX:=HBX.trans hbb;clear hbb;have q0:=aA9 HBX 0 (v := .int .i64 t.op) rfl;have q1:=aAz HBX)
   | (go_at_call 252;refine (bCq _ _ _ _ hop1 hop2 HNX.out HNY.out).mono ?_;rintro e w' ⟨rfl,rfl⟩))
  go_ret2
  rw [HLN.out];exact ⟨rfl,aA3 HBX⟩
 | tri t x y z ihx ihy ihz =>
  intro b port K A ce es k w hW hat harg hlen hbo hpo
  have hlt:=At.lt hat;have hend:=At.endF hat;have hbd:=At.bound hat;obtain ⟨hh,har,hx,hy,hz⟩:=At.tri hat;have HWK:=aA1 (fun w' (k:Bel w w')=>hW.keep k);obtain ⟨B,AC,kc,hK,_,_,hT⟩:=hW;have y3:=hK.cell 3 (v := .slice A es.length ce) rfl;have yl:=hK.lt;obtain ⟨b1,o1,rfl,hb1,c1,c2⟩:=hT.at_ k hlt;have hhe:es[k]=t:=by rw [List.getElem?_eq_getElem hlt] at hh;simpa using hh
  rw [hhe] at c1 c2;have HARG:=aA1 harg;have HS:=aA1 hs;have HPO:=aA1 hpo;have HBX:=Bel.refl (w.alloc (.cells #[.int .i64 t.op,.int .i64 t.arg] 115));have hdk:decide (k<es.length)=true:=by simpa using hlt
  have hr:=(aBl t.op).2.2.2 har;have hd17:decide (t.op<=17)=false:=by simp;omega
  have hd19:decide (t.op<=19)=false:=by simp;omega
  have hd29:decide (t.op<=29)=false:=by simp;omega
  have hd42:decide (t.op<=42)=false:=by simp;omega
  have HX:=aA1 ihx;have HY:=aA1 ihy;have HZ:=aA1 ihz;have HAX:=aA1 hx;have HAY:=aA1 hy;have HAZ:=aA1 hz;have HBO:=aA1 (show aBd b x/\aBd b y/\aBd b z from hbo)
  have HLN:Hid (k+(Ex.tri t x y z).len=k+1+x.len+y.len+z.len):=by show k+(Ex.tri t x y z).len=_;simp [Ex.len,Ex.terms];omega
  have HEV:Hid (aAw g c v port (.tri t x y z)=if aAw g c v port x≠0 then aAw g c v port y else aAw g c v port z):=by show aAw g c v port (.tri t x y z)=_;simp only [aAw]
  clear hh hhe harg hT har hat hbo hpo hK hs hr ihx ihy ihz hx hy hz hend
  by_cases h0:aAw g c v port x=0
  .rw [if_neg (by simpa using h0)] at HEV
   have hd0:(aAw g c v port x != 0)=false:=by simpa using h0
   clear h0;go_enter func205,ntmps205
   go_wp2_with (first
    | (go_at_call 205;refine (HX.out b port K _ ce es (k+1) _ (HWK.out _ (aA3 HBX)) HAX.out HARG.out hlen HBO.out.1 HPO.out).mono ?_;rintro e w' ⟨rfl,hbb⟩;replace HBX:=HBX.trans hbb;clear hbb;clear HX)
    | (go_at_call 205;refine (HY.out b port K _ ce es (k+1+x.len) _ (HWK.out _ (aA3 HBX)) HAY.out HARG.out hlen HBO.out.2.1 HPO.out).mono ?_;rintro e w' ⟨rfl,hbb⟩;replace HBX:=HBX.trans hbb;clear hbb;clear HY)
    | (go_at_call 205;refine (HZ.out b port K _ ce es (k+1+x.len+y.len) _ (HWK.out _ (aA3 HBX)) HAZ.out HARG.out hlen HBO.out.2.2 HPO.out).mono ?_;rintro e w' ⟨rfl,hbb⟩;replace HBX:=HBX.trans hbb;clear hbb))
   go_ret2
   rw [HLN.out,HEV.out];exact ⟨rfl,aA3 HBX⟩
  .rw [if_pos h0] at HEV
   have hd0:(aAw g c v port x != 0)=true:=by simpa using h0
   clear h0;go_enter func205,ntmps205
   go_wp2_with (first
    | (go_at_call 205;refine (HX.out b port K _ ce es (k+1) _ (HWK.out _ (aA3 HBX)) HAX.out HARG.out hlen HBO.out.1 HPO.out).mono ?_;rintro e w' ⟨rfl,hbb⟩;replace HBX:=HBX.trans hbb;clear hbb;clear HX)
    | (go_at_call 205;refine (HY.out b port K _ ce es (k+1+x.len) _ (HWK.out _ (aA3 HBX)) HAY.out HARG.out hlen HBO.out.2.1 HPO.out).mono ?_;rintro e w' ⟨rfl,hbb⟩;replace HBX:=HBX.trans hbb;clear hbb;clear HY)
    | (go_at_call 205;refine (HZ.out b port K _ ce es (k+1+x.len+y.len) _ (HWK.out _ (aA3 HBX)) HAZ.out HARG.out hlen HBO.out.2.2 HPO.out).mono ?_;rintro e w' ⟨rfl,hbb⟩;replace HBX:=HBX.trans hbb;clear hbb))
   go_ret2
   rw [HLN.out,HEV.out];exact ⟨rfl,aA3 HBX⟩
structure EOK (p:Prg) (es:List Term):Prop where
 ok:(aAm es).ok
 terms:(aAm es).terms=es
 arg:∀ t∈es,aHz t p.vars.length=true
 bound:aBd false (aAm es)
 len:es.length<=1000
theorem aIr (B:Nat) (p:Prg) (g:Graph) (vc:Value) (c:aA8) (v:Nat) (A:Option Addr) (ce:Nat) (es:List Term) (w:World) (hS:aI0 w B p g) (hC:aDf w vc c) (hT:aAr w A es.length es) (hs:SOK p g c v) (he:EOK p es) :
  Calls prog 152 #[.pointer (some ⟨B,0,none⟩),vc,.int .i64 v,.slice A es.length ce] w fun e w'=>e = .returned (.int .i64 (aAw g c v (-1) (aAm es)))/\Bel w w':=by
 have HC:=aA1 hC;obtain ⟨AC,kc,rfl,_,_,_⟩:=hC;have HS:=aA1 hS;have HT:=aA1 hT;have HK:=aA1 hs;have HE:=aA1 he;have hlen:=he.len;clear hS hT hs he;go_enter func152,ntmps152;have HB:=(Bel.refl w).alloc (.cells #[.pointer (some ⟨B,0,none⟩),.slice AC c.length kc,.int .i64 v,.slice A es.length ce] 239)
 have HWK:Hid (aZg (w.alloc (.cells #[.pointer (some ⟨B,0,none⟩),.slice AC c.length kc,.int .i64 v,.slice A es.length ce] 239)) w.heap.size p g c v A ce es) :=
  ⟨B,AC,kc,Blk.new w _ _,HS.out.keep HB,HC.out.keep HB,aAr.keep HT.out HB⟩
 go_wp2_with (go_at_call 205;refine (bHr p g c v HK.out (aAm es) false (-1) _ _ _ es 0 _ HWK.out (At.whole HE.out.ok HE.out.terms) HE.out.arg hlen HE.out.bound aE6).mono ?_;rintro e w' ⟨rfl,hbb⟩;replace HB:=HB.trans hbb;clear hbb)
 go_ret;exact ⟨rfl,HB⟩
theorem aMa (B:Nat) (p:Prg) (g:Graph) (vc:Value) (c:aA8) (v i:Nat) (w:World) (hS:aI0 w B p g) (hC:aDf w vc c) (hs:SOK p g c v) (hi:i<p.rules.length) (he:EOK p p.rules[i].guard) :
  Calls prog 257 #[.pointer (some ⟨B,0,none⟩),vc,.int .i64 v,.int .i64 i] w fun e w'=>e = .returned (.bool (aAw g c v (-1) (aAm p.rules[i].guard) != 0))/\Bel w w':=by
 have HC:=aA1 hC;obtain ⟨AC,kc,rfl,_,_,_⟩:=hC;have HS:=aA1 hS;have HK:=aA1 hs;have HE:=aA1 he;obtain ⟨A1,k1,A2,k2,A3,k3,A4,k4,gb,hB,hP,_,_⟩:=hS;obtain ⟨A1',k1',A2',k2',eP,_,_,_,hR,_,_⟩:=hP;obtain ⟨⟨rfl,rfl⟩,rfl,rfl⟩:(A1=A1'/\k1=k1')/\A2=A2'/\k2=k2':=by simpa using eP
 have z2:=hB.cell 2 (v := .slice A2 p.rules.length k2) rfl;have zl:=hB.lt;obtain ⟨bR,oR,G,gc,S,sc,rfl,hbR,_,cg,_,hTG,_,_,_,_,_⟩:=hR.at_ i hi;have HTG:=aA1 hTG;have hdi:decide (i<p.rules.length)=true:=by simpa using hi
 clear eP hTG hs he hB;go_enter func257,ntmps257
 go_wp2_with (go_at_call 152;refine (aIr B p g _ c v _ _ _ _ HS.out HC.out HTG.out HK.out HE.out).mono ?_;rintro e w' ⟨rfl,hbb⟩)
 go_ret;exact ⟨rfl,hbb⟩
theorem aXi {p:Prg} (hc:aBm p=0) (hl:aAt p=true) {i:Nat} (hi:i<p.rules.length):EOK p p.rules[i].guard:=by
 obtain ⟨t1,t2,t4,t5⟩:=bDg hc (List.getElem_mem hi);have hgl:=(aCh ((aAi hl).2.2.2.2 _ (List.getElem_mem hi))).2.2.1;exact ⟨t1,t2,t4,t5,by omega⟩
theorem bFb (kind:Int) (b:Int × Int) (x:Int) (w:World) :
  Calls prog 258 #[.int .i64 kind,.agg #[.int .i64 b.1,.int .i64 b.2],.int .i64 x] w fun e w'=>e = .returned (.int .i64 (aHj kind b x))/\Bel w w':=by
 obtain ⟨lo,hi⟩:=b;have HF:Hid (aHj kind (lo,hi) x=if lo<=x/\x<=hi then x else if kind=3 then -1 else if x<lo then lo else hi):=rfl
 have HB:=(Bel.refl w).alloc (.cells #[.int .i64 lo,.int .i64 hi] 237);dsimp only
 by_cases h1:lo<=x/\x<=hi
 .rw [if_pos h1] at HF
  have d1:decide (lo<=x)=true:=by simp;omega
  have d2:decide (x<=hi)=true:=by simp;omega
  clear h1;go_enter func258,ntmps258;go_wp2;go_ret;exact ⟨aA4 HF.out.symm,HB⟩
 .rw [if_neg h1] at HF
  have d1:(decide (lo<=x)=true/\decide (x<=hi)=false)∨decide (lo<=x)=false:=by
   simp;omega
  clear h1
  by_cases h2:kind=3
  .rw [if_pos h2] at HF
   subst h2
   rcases d1 with ⟨d1,d2⟩ | d1
   all_goals
    go_enter func258,ntmps258;go_wp2;go_ret;exact ⟨aA4 HF.out.symm,HB⟩
  .rw [if_neg h2] at HF
   have hk:(kind==3)=false:=by simpa using h2
   clear h2
   by_cases h3:x<lo
   .rw [if_pos h3] at HF
    have d3:decide (x<lo)=true:=by simpa using h3
    have d1:decide (lo<=x)=false:=by simpa using h3
    clear h3;go_enter func258,ntmps258;go_wp2;go_ret;exact ⟨aA4 HF.out.symm,HB⟩
   .rw [if_neg h3] at HF
    have d3:decide (x<lo)=false:=by simpa using h3
    have d4:decide (lo<=x)=true:=by simp;omega
    have d2:decide (x<=hi)=false:=by
     rcases d1 with ⟨_,d2⟩ | d1
     .exact d2
     .rw [d4] at d1;cases d1
    clear h3 d1;go_enter func258,ntmps258;go_wp2;go_ret;exact ⟨aA4 HF.out.symm,HB⟩
def aOj (p:Prg) (g:Graph) (A1:Option Addr) (k1:Nat) (A2:Option Addr) (k2 S:Nat) (AT:Option Addr) (kt:Nat):Array Value :=
 #[.string p.name,.slice A1 p.vars.length k1,.slice A2 p.rules.length k2,.pointer (some ⟨S,0,none⟩),.slice AT (aAa p g).length kt]
def aLw (w:World) (B:Nat) (p:Prg) (g:Graph):Prop :=
 ∃ A1 k1 A2 k2 S AT kt,Blk w B (aOj p g A1 k1 A2 k2 S AT kt) 208 /\
  aE0 w (.agg #[.string p.name,.slice A1 p.vars.length k1,.slice A2 p.rules.length k2]) p/\aI0 w S p g/\aI2 w (.slice AT (aAa p g).length kt) (aAa p g)
theorem aLw.keep {w w':World} {B:Nat} {p:Prg} {g:Graph} (h:aLw w B p g) (k:Bel w w'):aLw w' B p g:=by
 obtain ⟨A1,k1,A2,k2,S,AT,kt,h1,h2,h3,h4⟩:=h;exact ⟨A1,k1,A2,k2,S,AT,kt,h1.keep k,h2.keep k,h3.keep k,h4.keep k⟩
def bM5 (N:Nat) (w:World) (B:Nat) (p:Prg) (g:Graph) (v1 v2:Value):Prop:=∀ W,aFd N w W->aE0 W v1 p->aAl W v2 g->aLw W B p g
def bEp (p:Prg) (g:Graph) (v1 v2:Value) (w:World) (e:Ending) (w':World):Prop:=∃ B,e = .returned (.pointer (some ⟨B,0,none⟩))/\bM5 w.heap.size w' B p g v1 v2/\Bel w w'
theorem aN2.keep {N:Nat} {w w':World} {B:Nat} {p:Prg} {g:Graph} {v1 v2:Value} (h:aN2 N w B p g v1 v2) (k:Bel w w'):aN2 N w' B p g v1 v2 :=
 fun W h1 h2=>h W (aFd.back ⟨h1,h2⟩ k).1 (aFd.back ⟨h1,h2⟩ k).2
theorem aN2.low {N M:Nat} {w:World} {B:Nat} {p:Prg} {g:Graph} {v1 v2:Value} (h:aN2 N w B p g v1 v2) (hM:M<=N):aN2 M w B p g v1 v2 :=
 fun W h1 h2=>h W h1 fun k hk=>h2 k (Nat.le_trans hM hk)
def bI1 (p:Prg) (g:Graph) (w:World) (e:Ending) (w':World):Prop:=∃ B,e = .returned (.pointer (some ⟨B,0,none⟩))/\aLw w' B p g/\Bel w w'
theorem aVm (v1:Value) (p:Prg) (v2:Value) (g:Graph) (w:World) (h:aE0 w v1 p) (h2:aAl w v2 g) (hc:aBm p=0) (hg:GOK g) (hG:aB3 g=true) :
  Calls prog 115 #[v1,v2] w (bEp p g v1 v2 w):=by
 have HPV:=aA1 (fun w' (k:Bel w w')=>h.keep k);have HGV:=aA1 (fun w' (k:Bel w w')=>h2.keep k);obtain ⟨A1,k1,A2,k2,rfl,_,_,_,_,_,_⟩:=h;obtain ⟨A3,k3,A4,k4,rfl,_,_,_,_,_,_⟩:=h2;have HW:=Bel.refl ((w.alloc (.cells #[.string p.name,.slice A1 p.vars.length k1,.slice A2 p.rules.length k2] 25)).alloc (.cells #[.slice A3 g.ids.length k3,.slice A4 g.ports.length k4] 29));have hcell:=aA1 (fun w' (kk:Bel ((w.alloc (.cells #[.string p.name,.slice A1 p.vars.length k1,.slice A2 p.rules.length k2] 25)).alloc (.cells #[.slice A3 g.ids.length k3,.slice A4 g.ports.length k4] 29)) w')=>aA6 kk);have HC:=aA1 hc;have HG:=aA1 hg;have HGL:=aA1 hG;have HSC:Hid True:=trivial;have HT:Hid True:=trivial;clear hc hg hG;go_enter func115,ntmps115
 go_wp2_with fail
 replace HW:=HW.drew
 go_region_held3 (fun w'=>w'.cell? ⟨w.heap.size,0,none⟩=some (.string p.name)/\w'.cell? ⟨w.heap.size,1,none⟩=some (.slice A1 p.vars.length k1)/\w'.cell? ⟨w.heap.size,2,none⟩=some (.slice A2 p.rules.length k2)/\w'.cell? ⟨w.heap.size+1,0,none⟩=some (.slice A3 g.ids.length k3)/\w'.cell? ⟨w.heap.size+1,1,none⟩=some (.slice A4 g.ports.length k4)/\w.heap.size+1<w'.heap.size) (first | exact hcell.out _ HW | exact hcell.out _ (HW.alloc _)) (first
  | (go_simp;go_at_call 103;refine (aJo _ p _ g _ (HPV.out _ (aA0 HW)) (HGV.out _ (aA0 HW)) HG.out).mono ?_;rintro e w' ⟨SB,rfl,_,hSC,_,hb⟩;replace HSC:=aA1 (aN2.low hSC (aA0 HW).size);(try replace HT:=aA1 (aN3.keep HT.out hb));replace HW:=HW.trans hb;clear hb hSC)
  | (go_simp;go_at_call 151;refine (aUh _ p _ g _ (HPV.out _ (aA0 HW)) (HGV.out _ (aA0 HW)) HC.out HG.out HGL.out).mono ?_;rintro e w' ⟨tv,rfl,htv,hb⟩;obtain ⟨AT,kt,rfl,_⟩:=(htv _ (aFd.refl _ _):aI2 _ _ _);replace HT:=aA1 (aN3.low htv (aA0 HW).size);(try replace HSC:=aA1 (aN2.keep HSC.out hb));replace HW:=HW.trans hb;clear hb htv))
 go_wp2_with fail
 go_ret;have hb:=(Bel.refl w').alloc (.cells (aOj p g A1 k1 A2 k2 SB AT kt) 208);have hs:=(aA0 HW).size;refine ⟨_,rfl,fun W hW h1 h2=>⟨A1,k1,A2,k2,SB,AT,kt,(hW.2 _ hs (by simp)).trans (Blk.new w' (aOj p g A1 k1 A2 k2 SB AT kt) 208),h1,HSC.out W (hW.back hb).1 (hW.back hb).2 h1 h2,HT.out W (hW.back hb)⟩,aA0 (HW.trans hb)⟩
theorem aY4 (v1:Value) (p:Prg) (v2:Value) (g:Graph) (w:World) (h:aE0 w v1 p) (h2:aAl w v2 g) (hc:aBm p=0) (hg:GOK g) (hG:aB3 g=true) :
  Calls prog 115 #[v1,v2] w (bI1 p g w) :=
 (aVm v1 p v2 g w h h2 hc hg hG).mono fun _ _ ⟨B,h1,h3,h4⟩=>⟨B,h1,h3 _ (aFd.refl _ _) (h.keep h4) (h2.keep h4),h4⟩
theorem aNh (B:Nat) (p:Prg) (g:Graph) (vc:Value) (c:aA8) (v:Nat) (w:World) (hM:aLw w B p g) (hC:aDf w vc c) (hs:SOK p g c v) (hL:aAt p=true) :
  Calls prog 227 #[.pointer (some ⟨B,0,none⟩),vc,.int .i64 v] w fun e w'=>e = .returned (.int .i64 (aBy p.rules g c v))/\Bel w w':=by
 have HC:=aA1 (fun w' (k:Bel w w')=>hC.keep k);obtain ⟨AC,kc,rfl,_,_,_⟩:=hC;obtain ⟨A1,k1,A2,k2,S,AT,kt,hB,hP,hS,_⟩:=hM;have z2:=hB.cell 2 (v := .slice A2 p.rules.length k2) rfl;have z3:=hB.cell 3 (v := .pointer (some ⟨S,0,none⟩)) rfl;have zl:=hB.lt;have HB:=aA1 (fun w' (k:Bel w w')=>hB.keep k);have HS:=aA1 (fun w' (k:Bel w w')=>hS.keep k);have HK:=aA1 hs;have HE:=aA1 (fun (i:Nat) (hi:i<p.rules.length)=>aXi (aAe hs.fits).1 hL hi);have hr16:=(aAi hL).2.2.1;clear hB hS hs hL hP;have HW:=Bel.refl w;go_enter func227,ntmps227;go_wp2;clear z2 z3 zl
 go_loopg [7,14] p.rules.length (fun m _x z wr=>∃ i:Nat,i<=p.rules.length/\m=p.rules.length-i/\z = .int .i64 i/\Hid ((p.rules.take i).all (fun r => !(aIg g c v r.guard))=true)/\Bel w wr)
 case atStart=>exact ⟨0,by omega,rfl,rfl,rfl,HW⟩
 case round =>
  clear HW;obtain ⟨i,hi,rfl,rfl,HI,HW⟩:=hrel
  by_cases hlt:i<p.rules.length
  .have hd0:decide (i<p.rules.length)=true:=by simpa using hlt
   have z3:=(HB.out _ HW).cell 3 (v := .pointer (some ⟨S,0,none⟩)) rfl;have zl:=(HB.out _ HW).lt;cases hq:aIg g c v p.rules[i].guard with
   | true =>
    have HF:=aA1 (aP5 hlt HI.out hq);have HQ:Hid ((aAw g c v (-1) (aAm p.rules[i].guard) != 0)=true):=hq;clear hq
    go_wp2_with (go_at_call 257;refine (aMa S p g _ c v i _ (HS.out _ HW) (HC.out _ HW) HK.out hlt (HE.out i hlt)).mono ?_;rintro e w' ⟨rfl,hb⟩;rw [HQ.out];replace HW:=HW.trans hb;clear hb)
    go_ret;exact ⟨aA4 HF.out.symm,HW⟩
   | false =>
    have HQ:Hid ((aAw g c v (-1) (aAm p.rules[i].guard) != 0)=false):=hq;have HI2:=aA1 (aAb hlt HI.out (by rw [hq];rfl))
    clear hq
    go_wp2_with (go_at_call 257;refine (aMa S p g _ c v i _ (HS.out _ HW) (HC.out _ HW) HK.out hlt (HE.out i hlt)).mono ?_;rintro e w' ⟨rfl,hb⟩;rw [HQ.out];replace HW:=HW.trans hb;clear hb z3 zl)
    go_roundg (p.rules.length-(i+1))
    case rel=>exact ⟨i+1,by omega,rfl,by go_num,HI2,HW⟩
    case measure=>omega
  .have hd0:decide (i<p.rules.length)=false:=by simpa using hlt
   have HF:Hid (aBy p.rules g c v = -1):=by
    refine aQz ?_
    have:=HI.out
    rwa [List.take_of_length_le (by omega)] at this
   go_wp2_with fail
   go_ret;exact ⟨aA4 HF.out.symm,HW⟩
end Go.Proofs.YtmifhmdghfbalaaGreatDoor

