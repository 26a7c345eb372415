/- Merged. -/
import Derived.Test.YtdcjnhoabbdanaaGreatDoorZ23
import Derived.Test.YtdcjnhoabbdanaaGreatDoorZ22
set_option linter.unusedSimpArgs false
set_option linter.unnecessarySimpa false
set_option linter.unusedVariables false
set_option maxRecDepth 100000
set_option maxHeartbeats 4000000
open Go.Proofs.Tryz

namespace Go.Proofs.YtdcjnhoabbdanaaGreatDoor
open Go.RowKit
def aWd (p:Prg) (g:Graph) (c:aA7) (v:Nat) (x:Ex):Prop :=
 ∀ (b:Bool) (port:Int) (K:Nat) (A:Option Addr) (ce:Nat) (es:List Term) (k:Nat) (w:World),aSi w K p g c v A ce es->x.At es k->(∀ t∈es,aFx t p.vars.length=true)->es.length<=1000->aB1 b x->aG6 g v b port ->
  Calls prog 144 #[.pointer (some ⟨K,0,none⟩),.int .i64 k,.int .i64 port] w fun e w'=>e = .returned (.tuple #[.int .i64 (aAs g c v port x),.int .i64 ((k+x.len:Nat):Int)])/\Bel w w'
theorem bAv (V n:Nat) (h:n<=24) (w:World):(Instr.sliceAt 207 (.pointer (some ⟨V,0,none⟩)) none (some (.int .i64 (n:Int))) none).run prog w = .ok (.slice (some ⟨V,0,none⟩) n 24) w:=by
 obtain ⟨j0,hj0,_⟩:=info_parts aH4;simp [Instr.sliceAt,run_underlying underlying207,Instr.sliceBounds,Instr.sliceBound,asIntOf,h,sizeOf,typeInfo,hj0,Instr.sureAddr,Addr.add]
def aWh (l:List Int):Array Value:=((l++List.replicate (24-l.length) 0).map (Value.int .i64)).toArray
theorem aYp (l:List Int) (j:Nat) (h:l.length=j) (hj:j<24):(aWh l)[j]?=some (.int .i64 0):=by
 unfold aWh;rw [List.getElem?_toArray,List.getElem?_map,List.getElem?_append_right (by omega),List.getElem?_replicate,if_pos (by omega)]
 rfl
theorem bAh (l:List Int) (i:Nat) (x:Int) (h:l[i]?=some x):(aWh l)[i]?=some (.int .i64 x):=by
 unfold aWh;rw [List.getElem?_toArray,List.getElem?_map,List.getElem?_append_left (List.getElem?_eq_some_iff.1 h).1,h];rfl
theorem aYq (l:List Int) (j:Nat) (x:Int) (h:l.length=j) (hj:j<24):(aWh l).setIfInBounds j (.int .i64 x)=aWh (l++[x]):=by
 unfold aWh;rw [List.setIfInBounds_toArray]
 congr 1
 rw [<- List.map_set,List.set_append_right _ _ (by omega),h,Nat.sub_self,show 24-j=(24-(j+1))+1 by omega,List.replicate_succ,List.set_cons_zero]
 simp [h]
theorem aYm (p:Prg) (g:Graph) (c:aA7) (v:Nat) (a:Ex) (ih:aWd p g c v a) (hs:SOK p g c v) (op:Int) (K:Nat) (A:Option Addr) (ce:Nat) (es:List Term) (k:Nat) (w:World) (hW:aSi w K p g c v A ce es) (hat:a.At es (k+1)) (hend:endF es (k:Int)=((k+1+a.len:Nat):Int)) (harg:∀ t∈es,aFx t p.vars.length=true) (hlen:es.length<=1000) (hbo:aB1 true a) (hop1:20<=op) (hop2:op<=29) :
  Calls prog 165 #[.pointer (some ⟨K,0,none⟩),.int .i64 op,.int .i64 k] w fun e w'=>e = .returned (.tuple #[.int .i64 (aIt op ((List.range (g.ports.getD v []).length).map fun (q:Nat)=>aAs g c v (q:Int) a)),.int .i64 ((k+1+a.len:Nat):Int)])/\Bel w w':=by
 have HWK:=aA0 (fun w' (k:Bel w w')=>hW.keep k);have HIH:=aA0 ih;have HS:=aA0 hs;obtain ⟨B,AC,kc,hK,hS,hC,hT⟩:=hW;obtain ⟨A1,k1,A2,k2,A3,k3,A4,k4,gb,hB,_,hGV,_⟩:=hS;obtain ⟨A',k',A2',k2',eG,_,_,_,hP,_,_⟩:=hGV;obtain ⟨⟨rfl,rfl⟩,rfl,rfl⟩:(A3=A'/\k3=k')/\A4=A2'/\k4=k2':=by simpa using eG
 have y0:=hK.cell 0 (v := .pointer (some ⟨B,0,none⟩)) rfl;have y2:=hK.cell 2 (v := .int .i64 v) rfl;have y3:=hK.cell 3 (v := .slice A es.length ce) rfl;have yl:=hK.lt;have z4:=hB.cell 4 (v := .slice A4 g.ports.length k4) rfl;have zl:=hB.lt;have hv:=hs.node;obtain ⟨b3,o3,R3,rc3,rfl,hb3,hrow3,_,_,_⟩:=hP.at_ v hv;have hdp:decide (v<g.ports.length)=true:=by simpa using hv
 have hbd:=At.bound hat;have HT:=aA0 (fun w' (k:Bel w w')=>aB0.keep hT k);have HAT:=aA0 hat;have HE:=aA0 hend;clear hend;have HARG:=aA0 harg;have HBO:=aA0 hbo;have hrl:g.ports[v].length<=24:=by have:=aCh hv (hs.gok.links v hv);have:=hs.gok.le;omega
 have HPK:Hid (∀ q:Nat,q<g.ports[v].length->aG6 g v true (q:Int)):=fun q hq _=>⟨q,rfl,by rw [aAa hv];exact hq⟩
 have HNN:Hid (∀ y∈(List.range g.ports[v].length).map fun (q:Nat)=>aAs g c v (q:Int) a,Num y):=by
  intro y hy
  obtain ⟨q,hq,rfl⟩:=List.mem_map.1 hy;exact aH1 hs hat.1 (fun t ht=>harg t (aFt hat t ht)) hbo (HPK.out q (List.mem_range.1 hq))
 rw [aAa hv];have HY:=aA0 (fun w' (kk:Bel w w')=>And.intro ((kk.cell yl).trans y0) (And.intro ((kk.cell yl).trans y2) (And.intro ((kk.cell yl).trans y3) (Nat.lt_of_lt_of_le yl kk.size))));clear hK hB eG hC hP ih hs hT hat harg hbo;go_enter func165,ntmps165
 go_wp2_with fail
 go_quiet (fail)
 go_wp2_with fail
 have HV:Hid (Blk ((w.alloc (.cells (aWh ((List.range 0).map fun (q:Nat)=>aAs g c v (q:Int) a)) 207)).drewN nq) w.heap.size (aWh ((List.range 0).map fun (q:Nat)=>aAs g c v (q:Int) a)) 207):=(Blk.new w _ _).drewN _;have HB:=((Bel.refl w).alloc (.cells (aWh ((List.range 0).map fun (q:Nat)=>aAs g c v (q:Int) a)) 207)).drewN nq;clear y0 y2 y3 z4 hrow3
 go_loopg [7,10,27] g.ports[v].length (fun m s _x z wr=>∃ (j:Nat),j<=g.ports[v].length/\m=g.ports[v].length-j/\z = .int .i64 j/\s = .int .i64 (if j=0 then 0 else ((k+1+a.len:Nat):Int))/\Hid (Blk wr w.heap.size (aWh ((List.range j).map fun (q:Nat)=>aAs g c v (q:Int) a)) 207)/\Bel w wr)
 case atStart=>exact ⟨0,by omega,rfl,rfl,rfl,HV,HB⟩
 case round =>
  clear HV HB;obtain ⟨j,hj,rfl,rfl,rfl,HV,HB⟩:=hrel;obtain ⟨y0,y2,y3,yl2⟩:=HY.out _ HB
  by_cases hlt2:j<g.ports[v].length
  .have hd0:decide (j<g.ports[v].length)=true:=by simpa using hlt2
   have hd1:decide (j<24)=true:=by simp;omega
   have hl:((List.range j).map fun (q:Nat)=>aAs g c v (q:Int) a).length=j:=by simp
   have HST:Hid (((List.range (j+1)).map fun (q:Nat)=>aAs g c v (q:Int) a)=((List.range j).map fun (q:Nat)=>aAs g c v (q:Int) a)++[aAs g c v (j:Int) a]):=by
    show ((List.range (j+1)).map fun (q:Nat)=>aAs g c v (q:Int) a)=_
    rw [List.range_succ,List.map_append];rfl
   go_wp2_with (go_at_call 144;refine (HIH.out true (j:Int) K A ce es (k+1) _ (HWK.out _ HB) HAT.out HARG.out hlen HBO.out (HPK.out j hlt2)).mono ?_;rintro e w4 ⟨rfl,hbb⟩;replace HB:=HB.trans hbb;replace HV:=aA0 (HV.out.keep hbb);clear hbb;have q1:=HV.out.cell j (aYp _ j hl (by omega));have q2:=HV.out.frozen j;have q3:=HV.out.lt)
   go_roundg (g.ports[v].length-(j+1))
   case rel =>
    refine ⟨j+1,by omega,rfl,by go_num,by simp,?_,HB.setCell (by simp) _⟩
    have h1:=HV.out.set j (.int .i64 (aAs g c v (j:Int) a));rw [aYq _ j _ hl (by omega)] at h1
    show Blk _ _ _ _
    rw [HST.out];exact h1
   case measure=>omega
  .have hd0:decide (j<g.ports[v].length)=false:=by simpa using hlt2
   obtain rfl:j=g.ports[v].length:=by omega
   have HI:Hid (aBr wr (some ⟨w.heap.size,0,none⟩) g.ports[v].length ((List.range g.ports[v].length).map fun (q:Nat)=>aAs g c v (q:Int) a)):=by
    refine ⟨by simp,fun i x hx=>⟨_,0,rfl,HV.out.lt,?_⟩⟩
    have h1:=HV.out.cell i (v := .int .i64 x) (bAh _ i x hx)
    rwa [Nat.zero_add,Nat.mul_one]
   have hsl:=bAv w.heap.size g.ports[v].length hrl wr
   by_cases h0:g.ports[v].length=0
   .rw [if_pos h0]
    have hd2:((g.ports[v].length:Int)==0)=true:=by simpa using h0
    have hd3:(g.ports[v].length==0)=true:=by simpa using h0
    clear h0
    go_wp2_with (first
     | (go_at_call 175;refine (aMq _ _ _ es _ _ (HT.out _ HB) (by omega)).mono ?_;rintro e w' ⟨rfl,rfl⟩;rw [HE.out])
     | (go_at_call 182;refine (aTx _ _ _ _ op _ HI.out (by omega) hop1 hop2 HNN.out).mono ?_;rintro e w' ⟨rfl,rfl⟩))
    go_ret2
    exact ⟨rfl,HB⟩
   .rw [if_neg h0]
    have hd2:((g.ports[v].length:Int)==0)=false:=by simpa using h0
    have hd3:(g.ports[v].length==0)=false:=by simpa using h0
    clear h0
    go_wp2_with (first
     | (go_at_call 182;refine (aTx _ _ _ _ op _ HI.out (by omega) hop1 hop2 HNN.out).mono ?_;rintro e w' ⟨rfl,rfl⟩))
    go_ret2
    exact ⟨rfl,HB⟩
theorem aYe (p:Prg) (g:Graph) (c:aA7) (v:Nat) (hs:SOK p g c v) (x:Ex):aWd p g c v x:=by
 induction x with
 | leaf t =>
  intro b port K A ce es k w hW hat harg hlen hbo hpo
  have hlt:=At.lt hat;obtain ⟨hh,har⟩:=At.leaf hat;have HWK:=aA0 (fun w' (k:Bel w w')=>hW.keep k);obtain ⟨B,AC,kc,hK,_,_,hT⟩:=hW;have y3:=hK.cell 3 (v := .slice A es.length ce) rfl;have yl:=hK.lt;obtain ⟨b1,o1,rfl,hb1,c1,c2⟩:=hT.at_ k hlt;have hhe:es[k]=t:=by rw [List.getElem?_eq_getElem hlt] at hh;simpa using hh
  rw [hhe] at c1 c2;have HARG:=aA0 (show aFx t p.vars.length=true by rw [<- hhe];exact harg _ (List.getElem_mem hlt))
  have hr:=(aB6 t.op).1 har;have HAR:=aA0 har;have HBO:=aA0 (show aCw t.op=true->b=true from hbo)
  have HPO:=aA0 hpo;have HS:=aA0 hs;have HB:=(Bel.refl w).alloc (.cells #[.int .i64 t.op,.int .i64 t.arg] 98);have hdk:decide (k<es.length)=true:=by simpa using hlt
  have hd17:decide (t.op<=17)=true:=by simpa using hr.2
  clear hh hhe harg hT har hat hbo hpo hK hs hr;go_enter func144,ntmps144
  go_wp2_with (go_at_call 163;refine (aX9 K p g c v _ ce es port t b _ (HWK.out _ HB) HS.out HAR.out HARG.out HBO.out HPO.out).mono ?_;rintro e w' ⟨rfl,hbb⟩;replace HB:=HB.trans hbb;clear hbb)
  go_ret2
  exact ⟨rfl,HB⟩
 | un t a ih =>
  intro b port K A ce es k w hW hat harg hlen hbo hpo
  have hlt:=At.lt hat;have hend:=At.endF hat;have hbd:=At.bound hat;obtain ⟨hh,har,ha⟩:=At.un hat;have HWK:=aA0 (fun w' (k:Bel w w')=>hW.keep k);obtain ⟨B,AC,kc,hK,_,_,hT⟩:=hW;have y3:=hK.cell 3 (v := .slice A es.length ce) rfl;have yl:=hK.lt;obtain ⟨b1,o1,rfl,hb1,c1,c2⟩:=hT.at_ k hlt;have hhe:es[k]=t:=by rw [List.getElem?_eq_getElem hlt] at hh;simpa using hh
  rw [hhe] at c1 c2;have HARG:=aA0 harg;have HS:=aA0 hs;have HPO:=aA0 hpo;have HBX:=Bel.refl (w.alloc (.cells #[.int .i64 t.op,.int .i64 t.arg] 98));have hdk:decide (k<es.length)=true:=by simpa using hlt
  have hr:=(aB6 t.op).2.1 har;have hd17:decide (t.op<=17)=false:=by simp;omega
  have HIH:=aA0 ih;have HATA:=aA0 ha;have HNA:=aA0 (fun (b':Bool) (q:Int) (h1:aB1 b' a) (h2:aG6 g v b' q)=>aH1 hs ha.1 (fun t ht=>harg t (aFt ha t ht)) h1 h2);have HLN:Hid (k+(Ex.un t a).len=k+1+a.len):=by show k+(Ex.un t a).len=_;simp [Ex.len,Ex.terms];omega
  cases hag:aAc t.op with
  | true =>
   have HBO:Hid (aB1 true a):=by
    have hb':aB1 (b||aAc t.op) a:=hbo;rw [hag,Bool.or_true] at hb';exact hb'
   have HE:Hid (aAs g c v port (.un t a)=aIt t.op ((List.range (g.ports.getD v []).length).map fun (q:Nat)=>aAs g c v (q:Int) a)):=by
    show aAs g c v port (.un t a)=_
    simp only [aAs,hag,if_true]
   obtain ⟨hop1,hop2⟩:20<=t.op/\t.op<=29:=by unfold aAc at hag;exact of_decide_eq_true hag
   have hd19:decide (t.op<=19)=false:=by simp;omega
   have hd29:decide (t.op<=29)=true:=by simpa using hop2
   have HEND:Hid (endF es (k:Int)=((k+1+a.len:Nat):Int)):=by show endF es (k:Int)=_;rw [hend,HLN.out]
   clear hh hhe harg hT har hat hbo hpo hK hs hr ih ha hag hend;go_enter func144,ntmps144
   go_wp2_with (go_at_call 165;refine (aYm p g c v a HIH.out HS.out t.op K _ ce es k _ (HWK.out _ (aA4 HBX)) HATA.out HEND.out HARG.out hlen HBO.out hop1 hop2).mono ?_;rintro e w' ⟨rfl,hbb⟩;replace HBX:=HBX.trans hbb;clear hbb)
   go_ret2
   rw [HE.out,HLN.out];exact ⟨rfl,aA4 HBX⟩
  | false =>
   have HBO:Hid (aB1 b a):=by
    have hb':aB1 (b||aAc t.op) a:=hbo;rw [hag,Bool.or_false] at hb';exact hb'
   have HE:Hid (aAs g c v port (.un t a)=aHm t.op (aAs g c v port a)):=by
    show aAs g c v port (.un t a)=_
    simp only [aAs,hag];rfl
   have hd19:decide (t.op<=19)=true:=by unfold aAc at hag;simp at hag ⊢;omega
   clear hh hhe harg hT har hat hbo hpo hK hs hr ih ha hag hend;go_enter func144,ntmps144
   go_wp2_with (first
    | (go_at_call 144;refine (HIH.out b port K _ ce es (k+1) _ (HWK.out _ (aA4 HBX)) HATA.out HARG.out hlen HBO.out HPO.out).mono ?_;rintro e w' ⟨rfl,hbb⟩;replace HBX:=HBX.trans hbb;clear hbb;have q0:=aA9 HBX 0 (v := .int .i64 t.op) rfl;have q1:=aAx HBX)
    | (go_at_call 164;refine (aYd _ _ _ (HNA.out b port HBO.out HPO.out)).mono ?_;rintro e w' ⟨rfl,rfl⟩))
   go_ret2
   rw [HE.out,HLN.out];exact ⟨rfl,aA4 HBX⟩
 | bin t x y ihx ihy =>
  intro b port K A ce es k w hW hat harg hlen hbo hpo
  have hlt:=At.lt hat;have hend:=At.endF hat;have hbd:=At.bound hat;obtain ⟨hh,har,hx,hy⟩:=At.bin hat;have HWK:=aA0 (fun w' (k:Bel w w')=>hW.keep k);obtain ⟨B,AC,kc,hK,_,_,hT⟩:=hW;have y3:=hK.cell 3 (v := .slice A es.length ce) rfl;have yl:=hK.lt;obtain ⟨b1,o1,rfl,hb1,c1,c2⟩:=hT.at_ k hlt;have hhe:es[k]=t:=by rw [List.getElem?_eq_getElem hlt] at hh;simpa using hh
  rw [hhe] at c1 c2;have HARG:=aA0 harg;have HS:=aA0 hs;have HPO:=aA0 hpo;have HBX:=Bel.refl (w.alloc (.cells #[.int .i64 t.op,.int .i64 t.arg] 98));have hdk:decide (k<es.length)=true:=by simpa using hlt
  have hr:=(aB6 t.op).2.2.1 har;have hd17:decide (t.op<=17)=false:=by simp;omega
  have hd19:decide (t.op<=19)=false:=by simp;omega
  have hd29:decide (t.op<=29)=false:=by simp;omega
  have hd42:decide (t.op<=42)=true:=by simp;omega
  obtain ⟨hop1,hop2⟩:30<=t.op/\t.op<=42:=by omega
  have HX:=aA0 ihx;have HY:=aA0 ihy;have HAX:=aA0 hx;have HAY:=aA0 hy;have HBO:=aA0 (show aB1 b x/\aB1 b y from hbo)
  have HNX:=aA0 (aH1 hs hx.1 (fun t ht=>harg t (aFt hx t ht)) HBO.out.1 hpo);have HNY:=aA0 (aH1 hs hy.1 (fun t ht=>harg t (aFt hy t ht)) HBO.out.2 hpo);have HLN:Hid (k+(Ex.bin t x y).len=k+1+x.len+y.len):=by show k+(Ex.bin t x y).len=_;simp [Ex.len,Ex.terms];omega
  clear hh hhe harg hT har hat hbo hpo hK hs hr ihx ihy hx hy hend;go_enter func144,ntmps144
  go_wp2_with (first
   | (go_at_call 144;refine (HX.out b port K _ ce es (k+1) _ (HWK.out _ (aA4 HBX)) HAX.out HARG.out hlen HBO.out.1 HPO.out).mono ?_;rintro e w' ⟨rfl,hbb⟩;replace HBX:=HBX.trans hbb;clear hbb;clear HX)
   | (go_at_call 144;refine (HY.out b port K _ ce es (k+1+x.len) _ (HWK.out _ (aA4 HBX)) HAY.out HARG.out hlen HBO.out.2 HPO.out).mono ?_;rintro e w' ⟨rfl,hbb⟩;replace HBX:=HBX.trans hbb;clear hbb;have q0:=aA9 HBX 0 (v := .int .i64 t.op) rfl;have q1:=aAx HBX)
   | (go_at_call 166;refine (aUq _ _ _ _ hop1 hop2 HNX.out HNY.out).mono ?_;rintro e w' ⟨rfl,rfl⟩))
  go_ret2
  rw [HLN.out];exact ⟨rfl,aA4 HBX⟩
 | tri t x y z ihx ihy ihz =>
  intro b port K A ce es k w hW hat harg hlen hbo hpo
  have hlt:=At.lt hat;have hend:=At.endF hat;have hbd:=At.bound hat;obtain ⟨hh,har,hx,hy,hz⟩:=At.tri hat;have HWK:=aA0 (fun w' (k:Bel w w')=>hW.keep k);obtain ⟨B,AC,kc,hK,_,_,hT⟩:=hW;have y3:=hK.cell 3 (v := .slice A es.length ce) rfl;have yl:=hK.lt;obtain ⟨b1,o1,rfl,hb1,c1,c2⟩:=hT.at_ k hlt;have hhe:es[k]=t:=by rw [List.getElem?_eq_getElem hlt] at hh;simpa using hh
  rw [hhe] at c1 c2;have HARG:=aA0 harg;have HS:=aA0 hs;have HPO:=aA0 hpo;have HBX:=Bel.refl (w.alloc (.cells #[.int .i64 t.op,.int .i64 t.arg] 98));have hdk:decide (k<es.length)=true:=by simpa using hlt
  have hr:=(aB6 t.op).2.2.2 har;have hd17:decide (t.op<=17)=false:=by simp;omega
  have hd19:decide (t.op<=19)=false:=by simp;omega
  have hd29:decide (t.op<=29)=false:=by simp;omega
  have hd42:decide (t.op<=42)=false:=by simp;omega
  have HX:=aA0 ihx;have HY:=aA0 ihy;have HZ:=aA0 ihz;have HAX:=aA0 hx;have HAY:=aA0 hy;have HAZ:=aA0 hz;have HBO:=aA0 (show aB1 b x/\aB1 b y/\aB1 b z from hbo)
  have HLN:Hid (k+(Ex.tri t x y z).len=k+1+x.len+y.len+z.len):=by show k+(Ex.tri t x y z).len=_;simp [Ex.len,Ex.terms];omega
  have HEV:Hid (aAs g c v port (.tri t x y z)=if aAs g c v port x≠0 then aAs g c v port y else aAs g c v port z):=by show aAs g c v port (.tri t x y z)=_;simp only [aAs]
  clear hh hhe harg hT har hat hbo hpo hK hs hr ihx ihy ihz hx hy hz hend
  by_cases h0:aAs g c v port x=0
  .rw [if_neg (by simpa using h0)] at HEV
   have hd0:(aAs g c v port x != 0)=false:=by simpa using h0
   clear h0;go_enter func144,ntmps144
   go_wp2_with (first
    | (go_at_call 144;refine (HX.out b port K _ ce es (k+1) _ (HWK.out _ (aA4 HBX)) HAX.out HARG.out hlen HBO.out.1 HPO.out).mono ?_;rintro e w' ⟨rfl,hbb⟩;replace HBX:=HBX.trans hbb;clear hbb;clear HX)
    | (go_at_call 144;refine (HY.out b port K _ ce es (k+1+x.len) _ (HWK.out _ (aA4 HBX)) HAY.out HARG.out hlen HBO.out.2.1 HPO.out).mono ?_;rintro e w' ⟨rfl,hbb⟩;replace HBX:=HBX.trans hbb;clear hbb;clear HY)
    | (go_at_call 144;refine (HZ.out b port K _ ce es (k+1+x.len+y.len) _ (HWK.out _ (aA4 HBX)) HAZ.out HARG.out hlen HBO.out.2.2 HPO.out).mono ?_;rintro e w' ⟨rfl,hbb⟩;replace HBX:=HBX.trans hbb;clear hbb))
   go_ret2
   rw [HLN.out,HEV.out];exact ⟨rfl,aA4 HBX⟩
  .rw [if_pos h0] at HEV
   have hd0:(aAs g c v port x != 0)=true:=by simpa using h0
   clear h0;go_enter func144,ntmps144
   go_wp2_with (first
    | (go_at_call 144;refine (HX.out b port K _ ce es (k+1) _ (HWK.out _ (aA4 HBX)) HAX.out HARG.out hlen HBO.out.1 HPO.out).mono ?_;rintro e w' ⟨rfl,hbb⟩;replace HBX:=HBX.trans hbb;clear hbb;clear HX)
    | (go_at_call 144;refine (HY.out b port K _ ce es (k+1+x.len) _ (HWK.out _ (aA4 HBX)) HAY.out HARG.out hlen HBO.out.2.1 HPO.out).mono ?_;rintro e w' ⟨rfl,hbb⟩;replace HBX:=HBX.trans hbb;clear hbb;clear HY)
    | (go_at_call 144;refine (HZ.out b port K _ ce es (k+1+x.len+y.len) _ (HWK.out _ (aA4 HBX)) HAZ.out HARG.out hlen HBO.out.2.2 HPO.out).mono ?_;rintro e w' ⟨rfl,hbb⟩;replace HBX:=HBX.trans hbb;clear hbb))
   go_ret2
   rw [HLN.out,HEV.out];exact ⟨rfl,aA4 HBX⟩
structure EOK (p:Prg) (es:List Term):Prop where
 ok:(aAt es).ok
 terms:(aAt es).terms=es
 arg:∀ t∈es,aFx t p.vars.length=true
 bound:aB1 false (aAt es)
 len:es.length<=1000
theorem aJ8 (B:Nat) (p:Prg) (g:Graph) (vc:Value) (c:aA7) (v:Nat) (A:Option Addr) (ce:Nat) (es:List Term) (w:World) (hS:aHr w B p g) (hC:aAy w vc c) (hT:aB0 w A es.length es) (hs:SOK p g c v) (he:EOK p es) :
  Calls prog 129 #[.pointer (some ⟨B,0,none⟩),vc,.int .i64 v,.slice A es.length ce] w fun e w'=>e = .returned (.int .i64 (aAs g c v (-1) (aAt es)))/\Bel w w':=by
 have HC:=aA0 hC;obtain ⟨AC,kc,rfl,_,_,_⟩:=hC;have HS:=aA0 hS;have HT:=aA0 hT;have HK:=aA0 hs;have HE:=aA0 he;have hlen:=he.len;clear hS hT hs he;go_enter func129,ntmps129;have HB:=(Bel.refl w).alloc (.cells #[.pointer (some ⟨B,0,none⟩),.slice AC c.length kc,.int .i64 v,.slice A es.length ce] 186)
 have HWK:Hid (aSi (w.alloc (.cells #[.pointer (some ⟨B,0,none⟩),.slice AC c.length kc,.int .i64 v,.slice A es.length ce] 186)) w.heap.size p g c v A ce es) :=
  ⟨B,AC,kc,Blk.new w _ _,HS.out.keep HB,HC.out.keep HB,aB0.keep HT.out HB⟩
 go_wp2_with (go_at_call 144;refine (aYe p g c v HK.out (aAt es) false (-1) _ _ _ es 0 _ HWK.out (At.whole HE.out.ok HE.out.terms) HE.out.arg hlen HE.out.bound aG7).mono ?_;rintro e w' ⟨rfl,hbb⟩;replace HB:=HB.trans hbb;clear hbb)
 go_ret;exact ⟨rfl,HB⟩
theorem aJ7 (B:Nat) (p:Prg) (g:Graph) (vc:Value) (c:aA7) (v i:Nat) (w:World) (hS:aHr w B p g) (hC:aAy w vc c) (hs:SOK p g c v) (hi:i<p.rules.length) (he:EOK p p.rules[i].guard) :
  Calls prog 128 #[.pointer (some ⟨B,0,none⟩),vc,.int .i64 v,.int .i64 i] w fun e w'=>e = .returned (.bool (aAs g c v (-1) (aAt p.rules[i].guard) != 0))/\Bel w w':=by
 have HC:=aA0 hC;obtain ⟨AC,kc,rfl,_,_,_⟩:=hC;have HS:=aA0 hS;have HK:=aA0 hs;have HE:=aA0 he;obtain ⟨A1,k1,A2,k2,A3,k3,A4,k4,gb,hB,hP,_,_⟩:=hS;obtain ⟨A1',k1',A2',k2',eP,_,_,_,hR,_,_⟩:=hP;obtain ⟨⟨rfl,rfl⟩,rfl,rfl⟩:(A1=A1'/\k1=k1')/\A2=A2'/\k2=k2':=by simpa using eP
 have z2:=hB.cell 2 (v := .slice A2 p.rules.length k2) rfl;have zl:=hB.lt;obtain ⟨bR,oR,G,gc,S,sc,rfl,hbR,_,cg,_,hTG,_,_,_,_,_⟩:=hR.at_ i hi;have HTG:=aA0 hTG;have hdi:decide (i<p.rules.length)=true:=by simpa using hi
 clear eP hTG hs he hB;go_enter func128,ntmps128
 go_wp2_with (go_at_call 129;refine (aJ8 B p g _ c v _ _ _ _ HS.out HC.out HTG.out HK.out HE.out).mono ?_;rintro e w' ⟨rfl,hbb⟩)
 go_ret;exact ⟨rfl,hbb⟩
theorem aR3 {p:Prg} (hc:aBq p=0) (hl:aAw p=true) {i:Nat} (hi:i<p.rules.length):EOK p p.rules[i].guard:=by
 obtain ⟨t1,t2,t4,t5⟩:=aV7 hc (List.getElem_mem hi);have hgl:=(aBy ((aB7 hl).2.2.2.2 _ (List.getElem_mem hi))).2.2.1;exact ⟨t1,t2,t4,t5,by omega⟩
theorem aWn (kind:Int) (b:Int × Int) (x:Int) (w:World) :
  Calls prog 130 #[.int .i64 kind,.agg #[.int .i64 b.1,.int .i64 b.2],.int .i64 x] w fun e w'=>e = .returned (.int .i64 (aFf kind b x))/\Bel w w':=by
 obtain ⟨lo,hi⟩:=b;have HF:Hid (aFf kind (lo,hi) x=if lo<=x/\x<=hi then x else if kind=3 then -1 else if x<lo then lo else hi):=rfl
 have HB:=(Bel.refl w).alloc (.cells #[.int .i64 lo,.int .i64 hi] 149);dsimp only
 by_cases h1:lo<=x/\x<=hi
 .rw [if_pos h1] at HF
  have d1:decide (lo<=x)=true:=by simp;omega
  have d2:decide (x<=hi)=true:=by simp;omega
  clear h1;go_enter func130,ntmps130;go_wp2;go_ret;exact ⟨aA5 HF.out.symm,HB⟩
 .rw [if_neg h1] at HF
  have d1:(decide (lo<=x)=true/\decide (x<=hi)=false)∨decide (lo<=x)=false:=by
   simp;omega
  clear h1
  by_cases h2:kind=3
  .rw [if_pos h2] at HF
   subst h2
   rcases d1 with ⟨d1,d2⟩ | d1
   all_goals
    go_enter func130,ntmps130;go_wp2;go_ret;exact ⟨aA5 HF.out.symm,HB⟩
  .rw [if_neg h2] at HF
   have hk:(kind==3)=false:=by simpa using h2
   clear h2
   by_cases h3:x<lo
   .rw [if_pos h3] at HF
    have d3:decide (x<lo)=true:=by simpa using h3
    have d1:decide (lo<=x)=false:=by simpa using h3
    clear h3;go_enter func130,ntmps130;go_wp2;go_ret;exact ⟨aA5 HF.out.symm,HB⟩
   .rw [if_neg h3] at HF
    have d3:decide (x<lo)=false:=by simpa using h3
    have d4:decide (lo<=x)=true:=by simp;omega
    have d2:decide (x<=hi)=false:=by
     rcases d1 with ⟨_,d2⟩ | d1
     .exact d2
     .rw [d4] at d1;cases d1
    clear h3 d1;go_enter func130,ntmps130;go_wp2;go_ret;exact ⟨aA5 HF.out.symm,HB⟩
def aKy (p:Prg) (g:Graph) (A1:Option Addr) (k1:Nat) (A2:Option Addr) (k2 S:Nat) (AT:Option Addr) (kt:Nat):Array Value :=
 #[.string p.name,.slice A1 p.vars.length k1,.slice A2 p.rules.length k2,.pointer (some ⟨S,0,none⟩),.slice AT (aAz p g).length kt]
def aE9 (w:World) (B:Nat) (p:Prg) (g:Graph):Prop :=
 ∃ A1 k1 A2 k2 S AT kt,Blk w B (aKy p g A1 k1 A2 k2 S AT kt) 129 /\
  aEm w (.agg #[.string p.name,.slice A1 p.vars.length k1,.slice A2 p.rules.length k2]) p/\aHr w S p g/\aIu w (.slice AT (aAz p g).length kt) (aAz p g)
theorem aE9.keep {w w':World} {B:Nat} {p:Prg} {g:Graph} (h:aE9 w B p g) (k:Bel w w'):aE9 w' B p g:=by
 obtain ⟨A1,k1,A2,k2,S,AT,kt,h1,h2,h3,h4⟩:=h;exact ⟨A1,k1,A2,k2,S,AT,kt,h1.keep k,h2.keep k,h3.keep k,h4.keep k⟩
def bB6 (N:Nat) (w:World) (B:Nat) (p:Prg) (g:Graph) (v1 v2:Value):Prop:=∀ W,aAv N w W->aEm W v1 p->aAn W v2 g->aE9 W B p g
def aW9 (p:Prg) (g:Graph) (v1 v2:Value) (w:World) (e:Ending) (w':World):Prop:=∃ B,e = .returned (.pointer (some ⟨B,0,none⟩))/\bB6 w.heap.size w' B p g v1 v2/\Bel w w'
theorem aJr.keep {N:Nat} {w w':World} {B:Nat} {p:Prg} {g:Graph} {v1 v2:Value} (h:aJr N w B p g v1 v2) (k:Bel w w'):aJr N w' B p g v1 v2 :=
 fun W h1 h2=>h W (aAv.back ⟨h1,h2⟩ k).1 (aAv.back ⟨h1,h2⟩ k).2
theorem aJr.low {N M:Nat} {w:World} {B:Nat} {p:Prg} {g:Graph} {v1 v2:Value} (h:aJr N w B p g v1 v2) (hM:M<=N):aJr M w B p g v1 v2 :=
 fun W h1 h2=>h W h1 fun k hk=>h2 k (Nat.le_trans hM hk)
theorem aPz (v1:Value) (p:Prg) (v2:Value) (g:Graph) (w:World) (h:aEm w v1 p) (h2:aAn w v2 g) (hc:aBq p=0) (hg:GOK g) (hG:aB3 g=true) :
  Calls prog 60 #[v1,v2] w (aW9 p g v1 v2 w):=by
 have HPV:=aA0 (fun w' (k:Bel w w')=>h.keep k);have HGV:=aA0 (fun w' (k:Bel w w')=>h2.keep k);obtain ⟨A1,k1,A2,k2,rfl,_,_,_,_,_,_⟩:=h;obtain ⟨A3,k3,A4,k4,rfl,_,_,_,_,_,_⟩:=h2;have HW:=Bel.refl ((w.alloc (.cells #[.string p.name,.slice A1 p.vars.length k1,.slice A2 p.rules.length k2] 25)).alloc (.cells #[.slice A3 g.ids.length k3,.slice A4 g.ports.length k4] 29));have hcell:=aA0 (fun w' (kk:Bel ((w.alloc (.cells #[.string p.name,.slice A1 p.vars.length k1,.slice A2 p.rules.length k2] 25)).alloc (.cells #[.slice A3 g.ids.length k3,.slice A4 g.ports.length k4] 29)) w')=>aAi kk);have HC:=aA0 hc;have HG:=aA0 hg;have HGL:=aA0 hG;have HSC:Hid True:=trivial;have HT:Hid True:=trivial;clear hc hg hG;go_enter func60,ntmps60
 go_wp2_with fail
 replace HW:=HW.drew
 go_region_held3 (fun w'=>w'.cell? ⟨w.heap.size,0,none⟩=some (.string p.name)/\w'.cell? ⟨w.heap.size,1,none⟩=some (.slice A1 p.vars.length k1)/\w'.cell? ⟨w.heap.size,2,none⟩=some (.slice A2 p.rules.length k2)/\w'.cell? ⟨w.heap.size+1,0,none⟩=some (.slice A3 g.ids.length k3)/\w'.cell? ⟨w.heap.size+1,1,none⟩=some (.slice A4 g.ports.length k4)/\w.heap.size+1<w'.heap.size) (first | exact hcell.out _ HW | exact hcell.out _ (HW.alloc _)) (first
  | (go_simp;go_at_call 84;refine (aQ0 _ p _ g _ (HPV.out _ (aA1 HW)) (HGV.out _ (aA1 HW)) HG.out).mono ?_;rintro e w' ⟨SB,rfl,_,hSC,_,hb⟩;replace HSC:=aA0 (aJr.low hSC (aA1 HW).size);(try replace HT:=aA0 (aJs.keep HT.out hb));replace HW:=HW.trans hb;clear hb hSC)
  | (go_simp;go_at_call 83;refine (aP4 _ p _ g _ (HPV.out _ (aA1 HW)) (HGV.out _ (aA1 HW)) HC.out HG.out HGL.out).mono ?_;rintro e w' ⟨tv,rfl,htv,hb⟩;obtain ⟨AT,kt,rfl,_⟩:=(htv _ (aAv.refl _ _):aIu _ _ _);replace HT:=aA0 (aJs.low htv (aA1 HW).size);(try replace HSC:=aA0 (aJr.keep HSC.out hb));replace HW:=HW.trans hb;clear hb htv))
 go_wp2_with fail
 go_ret;have hb:=(Bel.refl w').alloc (.cells (aKy p g A1 k1 A2 k2 SB AT kt) 129);have hs:=(aA1 HW).size;refine ⟨_,rfl,fun W hW h1 h2=>⟨A1,k1,A2,k2,SB,AT,kt,(hW.2 _ hs (by simp)).trans (Blk.new w' (aKy p g A1 k1 A2 k2 SB AT kt) 129),h1,HSC.out W (hW.back hb).1 (hW.back hb).2 h1 h2,HT.out W (hW.back hb)⟩,aA1 (HW.trans hb)⟩
theorem aK5 (B:Nat) (p:Prg) (g:Graph) (vc:Value) (c:aA7) (v:Nat) (w:World) (hM:aE9 w B p g) (hC:aAy w vc c) (hs:SOK p g c v) (hL:aAw p=true) :
  Calls prog 108 #[.pointer (some ⟨B,0,none⟩),vc,.int .i64 v] w fun e w'=>e = .returned (.int .i64 (aCb p.rules g c v))/\Bel w w':=by
 have HC:=aA0 (fun w' (k:Bel w w')=>hC.keep k);obtain ⟨AC,kc,rfl,_,_,_⟩:=hC;obtain ⟨A1,k1,A2,k2,S,AT,kt,hB,hP,hS,_⟩:=hM;have z2:=hB.cell 2 (v := .slice A2 p.rules.length k2) rfl;have z3:=hB.cell 3 (v := .pointer (some ⟨S,0,none⟩)) rfl;have zl:=hB.lt;have HB:=aA0 (fun w' (k:Bel w w')=>hB.keep k);have HS:=aA0 (fun w' (k:Bel w w')=>hS.keep k);have HK:=aA0 hs;have HE:=aA0 (fun (i:Nat) (hi:i<p.rules.length)=>aR3 (aAp hs.fits).1 hL hi);have hr16:=(aB7 hL).2.2.1;clear hB hS hs hL hP;have HW:=Bel.refl w;go_enter func108,ntmps108;go_wp2;clear z2 z3 zl
 go_loopg [7,14] p.rules.length (fun m _x z wr=>∃ i:Nat,i<=p.rules.length/\m=p.rules.length-i/\z = .int .i64 i/\Hid ((p.rules.take i).all (fun r => !(aGb g c v r.guard))=true)/\Bel w wr)
 case atStart=>exact ⟨0,by omega,rfl,rfl,rfl,HW⟩
 case round =>
  clear HW;obtain ⟨i,hi,rfl,rfl,HI,HW⟩:=hrel
  by_cases hlt:i<p.rules.length
  .have hd0:decide (i<p.rules.length)=true:=by simpa using hlt
   have z3:=(HB.out _ HW).cell 3 (v := .pointer (some ⟨S,0,none⟩)) rfl;have zl:=(HB.out _ HW).lt;cases hq:aGb g c v p.rules[i].guard with
   | true =>
    have HF:=aA0 (aLa hlt HI.out hq);have HQ:Hid ((aAs g c v (-1) (aAt p.rules[i].guard) != 0)=true):=hq;clear hq
    go_wp2_with (go_at_call 128;refine (aJ7 S p g _ c v i _ (HS.out _ HW) (HC.out _ HW) HK.out hlt (HE.out i hlt)).mono ?_;rintro e w' ⟨rfl,hb⟩;rw [HQ.out];replace HW:=HW.trans hb;clear hb)
    go_ret;exact ⟨aA5 HF.out.symm,HW⟩
   | false =>
    have HQ:Hid ((aAs g c v (-1) (aAt p.rules[i].guard) != 0)=false):=hq;have HI2:=aA0 (aAb hlt HI.out (by rw [hq];rfl))
    clear hq
    go_wp2_with (go_at_call 128;refine (aJ7 S p g _ c v i _ (HS.out _ HW) (HC.out _ HW) HK.out hlt (HE.out i hlt)).mono ?_;rintro e w' ⟨rfl,hb⟩;rw [HQ.out];replace HW:=HW.trans hb;clear hb z3 zl)
    go_roundg (p.rules.length-(i+1))
    case rel=>exact ⟨i+1,by omega,rfl,by go_num,HI2,HW⟩
    case measure=>omega
  .have hd0:decide (i<p.rules.length)=false:=by simpa using hlt
   have HF:Hid (aCb p.rules g c v = -1):=by
    refine aMt ?_
    have:=HI.out
    rwa [List.take_of_length_le (by omega)] at this
   go_wp2_with fail
   go_ret;exact ⟨aA5 HF.out.symm,HW⟩
end Go.Proofs.YtdcjnhoabbdanaaGreatDoor

