/- Merged. -/
import Derived.Test.YtdcjnhoabbdanaaGreatDoorZ14
set_option linter.unusedSimpArgs false
set_option linter.unnecessarySimpa false
set_option linter.unusedVariables false
set_option maxRecDepth 100000
set_option maxHeartbeats 4000000
open Go.Proofs.Tryz

namespace Go.Proofs.YtdcjnhoabbdanaaGreatDoor
open Go.RowKit
def aX6 (p:Prg) (g:Graph) (c:aA6) (v:Nat) (x:Ex):Prop :=
 ∀ (b:Bool) (port:Int) (K:Nat) (A:Option Addr) (ce:Nat) (es:List Term) (k:Nat) (w:World),aT9 w K p g c v A ce es->x.At es k->(∀ t∈es,aG5 t p.vars.length=true)->es.length<=1000->aB5 b x->aGc g v b port ->
  Calls prog 144 #[.pointer (some ⟨K,0,none⟩),.int .i64 k,.int .i64 port] w fun e w'=>e = .returned (.tuple #[.int .i64 (aAt g c v port x),.int .i64 ((k+x.len:Nat):Int)])/\Bel w w'
theorem bBs (V n:Nat) (h:n<=24) (w:World):(Instr.sliceAt 207 (.pointer (some ⟨V,0,none⟩)) none (some (.int .i64 (n:Int))) none).run prog w = .ok (.slice (some ⟨V,0,none⟩) n 24) w:=by
 obtain ⟨j0,hj0,_⟩:=info_parts aH8;simp [Instr.sliceAt,run_underlying underlying207,Instr.sliceBounds,Instr.sliceBound,asIntOf,h,sizeOf,typeInfo,hj0,Instr.sureAddr,Addr.add]
def aXa (l:List Int):Array Value:=((l++List.replicate (24-l.length) 0).map (Value.int .i64)).toArray
theorem aZj (l:List Int) (j:Nat) (h:l.length=j) (hj:j<24):(aXa l)[j]?=some (.int .i64 0):=by
 unfold aXa;rw [List.getElem?_toArray,List.getElem?_map,List.getElem?_append_right (by omega),List.getElem?_replicate,if_pos (by omega)]
 rfl
theorem bBe (l:List Int) (i:Nat) (x:Int) (h:l[i]?=some x):(aXa l)[i]?=some (.int .i64 x):=by
 unfold aXa;rw [List.getElem?_toArray,List.getElem?_map,List.getElem?_append_left (List.getElem?_eq_some_iff.1 h).1,h];rfl
theorem aZk (l:List Int) (j:Nat) (x:Int) (h:l.length=j) (hj:j<24):(aXa l).setIfInBounds j (.int .i64 x)=aXa (l++[x]):=by
 unfold aXa;rw [List.setIfInBounds_toArray]
 congr 1
 rw [<- List.map_set,List.set_append_right _ _ (by omega),h,Nat.sub_self,show 24-j=(24-(j+1))+1 by omega,List.replicate_succ,List.set_cons_zero]
 simp [h]
theorem aZh (p:Prg) (g:Graph) (c:aA6) (v:Nat) (a:Ex) (ih:aX6 p g c v a) (hs:SOK p g c v) (op:Int) (K:Nat) (A:Option Addr) (ce:Nat) (es:List Term) (k:Nat) (w:World) (hW:aT9 w K p g c v A ce es) (hat:a.At es (k+1)) (hend:endF es (k:Int)=((k+1+a.len:Nat):Int)) (harg:∀ t∈es,aG5 t p.vars.length=true) (hlen:es.length<=1000) (hbo:aB5 true a) (hop1:20<=op) (hop2:op<=29) :
  Calls prog 165 #[.pointer (some ⟨K,0,none⟩),.int .i64 op,.int .i64 k] w fun e w'=>e = .returned (.tuple #[.int .i64 (aJ2 op ((List.range (g.ports.getD v []).length).map fun (q:Nat)=>aAt g c v (q:Int) a)),.int .i64 ((k+1+a.len:Nat):Int)])/\Bel w w':=by
 have HWK:=aA0 (fun w' (k:Bel w w')=>hW.keep k);have HIH:=aA0 ih;have HS:=aA0 hs;obtain ⟨B,AC,kc,hK,hS,hC,hT⟩:=hW;obtain ⟨A1,k1,A2,k2,A3,k3,A4,k4,gb,hB,_,hGV,_⟩:=hS;obtain ⟨A',k',A2',k2',eG,_,_,_,hP,_,_⟩:=hGV;obtain ⟨⟨rfl,rfl⟩,rfl,rfl⟩:(A3=A'/\k3=k')/\A4=A2'/\k4=k2':=by simpa using eG
 have y0:=hK.cell 0 (v := .pointer (some ⟨B,0,none⟩)) rfl;have y2:=hK.cell 2 (v := .int .i64 v) rfl;have y3:=hK.cell 3 (v := .slice A es.length ce) rfl;have yl:=hK.lt;have z4:=hB.cell 4 (v := .slice A4 g.ports.length k4) rfl;have zl:=hB.lt;have hv:=hs.node;obtain ⟨b3,o3,R3,rc3,rfl,hb3,hrow3,_,_,_⟩:=hP.at_ v hv;have hdp:decide (v<g.ports.length)=true:=by simpa using hv
 have hbd:=At.bound hat;have HT:=aA0 (fun w' (k:Bel w w')=>aB2.keep hT k);have HAT:=aA0 hat;have HE:=aA0 hend;clear hend;have HARG:=aA0 harg;have HBO:=aA0 hbo;have hrl:g.ports[v].length<=24:=by have:=aCl hv (hs.gok.links v hv);have:=hs.gok.le;omega
 have HPK:Hid (∀ q:Nat,q<g.ports[v].length->aGc g v true (q:Int)):=fun q hq _=>⟨q,rfl,by rw [aA8 hv];exact hq⟩
 have HNN:Hid (∀ y∈(List.range g.ports[v].length).map fun (q:Nat)=>aAt g c v (q:Int) a,Num y):=by
  intro y hy
  obtain ⟨q,hq,rfl⟩:=List.mem_map.1 hy;exact aH6 hs hat.1 (fun t ht=>harg t (aG2 hat t ht)) hbo (HPK.out q (List.mem_range.1 hq))
 rw [aA8 hv];have HY:=aA0 (fun w' (kk:Bel w w')=>And.intro ((kk.cell yl).trans y0) (And.intro ((kk.cell yl).trans y2) (And.intro ((kk.cell yl).trans y3) (Nat.lt_of_lt_of_le yl kk.size))));clear hK hB eG hC hP ih hs hT hat harg hbo;go_enter func165,ntmps165
 go_wp2_with fail
 go_quiet (fail)
 go_wp2_with fail
 have HV:Hid (Blk ((w.alloc (.cells (aXa ((List.range 0).map fun (q:Nat)=>aAt g c v (q:Int) a)) 207)).drewN nq) w.heap.size (aXa ((List.range 0).map fun (q:Nat)=>aAt g c v (q:Int) a)) 207):=(Blk.new w _ _).drewN _;have HB:=((Bel.refl w).alloc (.cells (aXa ((List.range 0).map fun (q:Nat)=>aAt g c v (q:Int) a)) 207)).drewN nq;clear y0 y2 y3 z4 hrow3
 go_loopg [7,10,27] g.ports[v].length (fun m s _x z wr=>∃ (j:Nat),j<=g.ports[v].length/\m=g.ports[v].length-j/\z = .int .i64 j/\s = .int .i64 (if j=0 then 0 else ((k+1+a.len:Nat):Int))/\Hid (Blk wr w.heap.size (aXa ((List.range j).map fun (q:Nat)=>aAt g c v (q:Int) a)) 207)/\Bel w wr)
 case atStart=>exact ⟨0,by omega,rfl,rfl,rfl,HV,HB⟩
 case round =>
  clear HV HB;obtain ⟨j,hj,rfl,rfl,rfl,HV,HB⟩:=hrel;obtain ⟨y0,y2,y3,yl2⟩:=HY.out _ HB
  by_cases hlt2:j<g.ports[v].length
  .have hd0:decide (j<g.ports[v].length)=true:=by simpa using hlt2
   have hd1:decide (j<24)=true:=by simp;omega
   have hl:((List.range j).map fun (q:Nat)=>aAt g c v (q:Int) a).length=j:=by simp
   have HST:Hid (((List.range (j+1)).map fun (q:Nat)=>aAt g c v (q:Int) a)=((List.range j).map fun (q:Nat)=>aAt g c v (q:Int) a)++[aAt g c v (j:Int) a]):=by
    show ((List.range (j+1)).map fun (q:Nat)=>aAt g c v (q:Int) a)=_
    rw [List.range_succ,List.map_append];rfl
   go_wp2_with (go_at_call 144;refine (HIH.out true (j:Int) K A ce es (k+1) _ (HWK.out _ HB) HAT.out HARG.out hlen HBO.out (HPK.out j hlt2)).mono ?_;rintro e w4 ⟨rfl,hbb⟩;replace HB:=HB.trans hbb;replace HV:=aA0 (HV.out.keep hbb);clear hbb;have q1:=HV.out.cell j (aZj _ j hl (by omega));have q2:=HV.out.frozen j;have q3:=HV.out.lt)
   go_roundg (g.ports[v].length-(j+1))
   case rel =>
    refine ⟨j+1,by omega,rfl,by go_num,by simp,?_,HB.setCell (by simp) _⟩
    have h1:=HV.out.set j (.int .i64 (aAt g c v (j:Int) a));rw [aZk _ j _ hl (by omega)] at h1
    show Blk _ _ _ _
    rw [HST.out];exact h1
   case measure=>omega
  .have hd0:decide (j<g.ports[v].length)=false:=by simpa using hlt2
   obtain rfl:j=g.ports[v].length:=by omega
   have HI:Hid (aBm wr (some ⟨w.heap.size,0,none⟩) g.ports[v].length ((List.range g.ports[v].length).map fun (q:Nat)=>aAt g c v (q:Int) a)):=by
    refine ⟨by simp,fun i x hx=>⟨_,0,rfl,HV.out.lt,?_⟩⟩
    have h1:=HV.out.cell i (v := .int .i64 x) (bBe _ i x hx)
    rwa [Nat.zero_add,Nat.mul_one]
   have hsl:=bBs w.heap.size g.ports[v].length hrl wr
   by_cases h0:g.ports[v].length=0
   .rw [if_pos h0]
    have hd2:((g.ports[v].length:Int)==0)=true:=by simpa using h0
    have hd3:(g.ports[v].length==0)=true:=by simpa using h0
    clear h0
    go_wp2_with (first
     | (go_at_call 175;refine (aN8 _ _ _ es _ _ (HT.out _ HB) (by omega)).mono ?_;rintro e w' ⟨rfl,rfl⟩;rw [HE.out])
     | (go_at_call 182;refine (aUs _ _ _ _ op _ HI.out (by omega) hop1 hop2 HNN.out).mono ?_;rintro e w' ⟨rfl,rfl⟩))
    go_ret2
    exact ⟨rfl,HB⟩
   .rw [if_neg h0]
    have hd2:((g.ports[v].length:Int)==0)=false:=by simpa using h0
    have hd3:(g.ports[v].length==0)=false:=by simpa using h0
    clear h0
    go_wp2_with (first
     | (go_at_call 182;refine (aUs _ _ _ _ op _ HI.out (by omega) hop1 hop2 HNN.out).mono ?_;rintro e w' ⟨rfl,rfl⟩))
    go_ret2
    exact ⟨rfl,HB⟩
theorem aZ8 (p:Prg) (g:Graph) (c:aA6) (v:Nat) (hs:SOK p g c v) (x:Ex):aX6 p g c v x:=by
 induction x with
 | leaf t =>
  intro b port K A ce es k w hW hat harg hlen hbo hpo
  have hlt:=At.lt hat;obtain ⟨hh,har⟩:=At.leaf hat;have HWK:=aA0 (fun w' (k:Bel w w')=>hW.keep k);obtain ⟨B,AC,kc,hK,_,_,hT⟩:=hW;have y3:=hK.cell 3 (v := .slice A es.length ce) rfl;have yl:=hK.lt;obtain ⟨b1,o1,rfl,hb1,c1,c2⟩:=hT.at_ k hlt;have hhe:es[k]=t:=by rw [List.getElem?_eq_getElem hlt] at hh;simpa using hh
  rw [hhe] at c1 c2;have HARG:=aA0 (show aG5 t p.vars.length=true by rw [<- hhe];exact harg _ (List.getElem_mem hlt))
  have hr:=(aBa t.op).1 har;have HAR:=aA0 har;have HBO:=aA0 (show aCz t.op=true->b=true from hbo)
  have HPO:=aA0 hpo;have HS:=aA0 hs;have HB:=(Bel.refl w).alloc (.cells #[.int .i64 t.op,.int .i64 t.arg] 98);have hdk:decide (k<es.length)=true:=by simpa using hlt
  have hd17:decide (t.op<=17)=true:=by simpa using hr.2
  clear hh hhe harg hT har hat hbo hpo hK hs hr;go_enter func144,ntmps144
  go_wp2_with (go_at_call 163;refine (aXx K p g c v _ ce es port t b _ (HWK.out _ HB) HS.out HAR.out HARG.out HBO.out HPO.out).mono ?_;rintro e w' ⟨rfl,hbb⟩;replace HB:=HB.trans hbb;clear hbb)
  go_ret2
  exact ⟨rfl,HB⟩
 | un t a ih =>
  intro b port K A ce es k w hW hat harg hlen hbo hpo
  have hlt:=At.lt hat;have hend:=At.endF hat;have hbd:=At.bound hat;obtain ⟨hh,har,ha⟩:=At.un hat;have HWK:=aA0 (fun w' (k:Bel w w')=>hW.keep k);obtain ⟨B,AC,kc,hK,_,_,hT⟩:=hW;have y3:=hK.cell 3 (v := .slice A es.length ce) rfl;have yl:=hK.lt;obtain ⟨b1,o1,rfl,hb1,c1,c2⟩:=hT.at_ k hlt;have hhe:es[k]=t:=by rw [List.getElem?_eq_getElem hlt] at hh;simpa using hh
  rw [hhe] at c1 c2;have HARG:=aA0 harg;have HS:=aA0 hs;have HPO:=aA0 hpo;have HBX:=Bel.refl (w.alloc (.cells #[.int .i64 t.op,.int .i64 t.arg] 98));have hdk:decide (k<es.length)=true:=by simpa using hlt
  have hr:=(aBa t.op).2.1 har;have hd17:decide (t.op<=17)=false:=by simp;omega
  have HIH:=aA0 ih;have HATA:=aA0 ha;have HNA:=aA0 (fun (b':Bool) (q:Int) (h1:aB5 b' a) (h2:aGc g v b' q)=>aH6 hs ha.1 (fun t ht=>harg t (aG2 ha t ht)) h1 h2);have HLN:Hid (k+(Ex.un t a).len=k+1+a.len):=by show k+(Ex.un t a).len=_;simp [Ex.len,Ex.terms];omega
  cases hag:aAc t.op with
  | true =>
   have HBO:Hid (aB5 true a):=by
    have hb':aB5 (b||aAc t.op) a:=hbo;rw [hag,Bool.or_true] at hb';exact hb'
   have HE:Hid (aAt g c v port (.un t a)=aJ2 t.op ((List.range (g.ports.getD v []).length).map fun (q:Nat)=>aAt g c v (q:Int) a)):=by
    show aAt g c v port (.un t a)=_
    simp only [aAt,hag,if_true]
   obtain ⟨hop1,hop2⟩:20<=t.op/\t.op<=29:=by unfold aAc at hag;exact of_decide_eq_true hag
   have hd19:decide (t.op<=19)=false:=by simp;omega
   have hd29:decide (t.op<=29)=true:=by simpa using hop2
   have HEND:Hid (endF es (k:Int)=((k+1+a.len:Nat):Int)):=by show endF es (k:Int)=_;rw [hend,HLN.out]
   clear hh hhe harg hT har hat hbo hpo hK hs hr ih ha hag hend;go_enter func144,ntmps144
   go_wp2_with (go_at_call 165;refine (aZh p g c v a HIH.out HS.out t.op K _ ce es k _ (HWK.out _ (aA3 HBX)) HATA.out HEND.out HARG.out hlen HBO.out hop1 hop2).mono ?_;rintro e w' ⟨rfl,hbb⟩;replace HBX:=HBX.trans hbb;clear hbb)
   go_ret2
   rw [HE.out,HLN.out];exact ⟨rfl,aA3 HBX⟩
  | false =>
   have HBO:Hid (aB5 b a):=by
    have hb':aB5 (b||aAc t.op) a:=hbo;rw [hag,Bool.or_false] at hb';exact hb'
   have HE:Hid (aAt g c v port (.un t a)=aHq t.op (aAt g c v port a)):=by
    show aAt g c v port (.un t a)=_
    simp only [aAt,hag];rfl
   have hd19:decide (t.op<=19)=true:=by unfold aAc at hag;simp at hag ⊢;omega
   clear hh hhe harg hT har hat hbo hpo hK hs hr ih ha hag hend;go_enter func144,ntmps144
   go_wp2_with (first
    | (go_at_call 144;refine (HIH.out b port K _ ce es (k+1) _ (HWK.out _ (aA3 HBX)) HATA.out HARG.out hlen HBO.out HPO.out).mono ?_;rintro e w' ⟨rfl,hbb⟩;replace HBX:=HBX.trans hbb;clear hbb;have q0:=aA9 HBX 0 (v := .int .i64 t.op) rfl;have q1:=aAy HBX)
    | (go_at_call 164;refine (aZ7 _ _ _ (HNA.out b port HBO.out HPO.out)).mono ?_;rintro e w' ⟨rfl,rfl⟩))
   go_ret2
   rw [HE.out,HLN.out];exact ⟨rfl,aA3 HBX⟩
 | bin t x y ihx ihy =>
  intro b port K A ce es k w hW hat harg hlen hbo hpo
  have hlt:=At.lt hat;have hend:=At.endF hat;have hbd:=At.bound hat;obtain ⟨hh,har,hx,hy⟩:=At.bin hat;have HWK:=aA0 (fun w' (k:Bel w w')=>hW.keep k);obtain ⟨B,AC,kc,hK,_,_,hT⟩:=hW;have y3:=hK.cell 3 (v := .slice A es.length ce) rfl;have yl:=hK.lt;obtain ⟨b1,o1,rfl,hb1,c1,c2⟩:=hT.at_ k hlt;have hhe:es[k]=t:=by rw [List.getElem?_eq_getElem hlt] at hh;simpa using hh
  rw [hhe] at c1 c2;have HARG:=aA0 harg;have HS:=aA0 hs;have HPO:=aA0 hpo;have HBX:=Bel.refl (w.alloc (.cells #[.int .i64 t.op,.int .i64 t.arg] 98));have hdk:decide (k<es.length)=true:=by simpa using hlt
  have hr:=(aBa t.op).2.2.1 har;have hd17:decide (t.op<=17)=false:=by simp;omega
  have hd19:decide (t.op<=19)=false:=by simp;omega
  have hd29:decide (t.op<=29)=false:=by simp;omega
  have hd42:decide (t.op<=42)=true:=by simp;omega
  obtain ⟨hop1,hop2⟩:30<=t.op/\t.op<=42:=by omega
  have HX:=aA0 ihx;have HY:=aA0 ihy;have HAX:=aA0 hx;have HAY:=aA0 hy;have HBO:=aA0 (show aB5 b x/\aB5 b y from hbo)
  have HNX:=aA0 (aH6 hs hx.1 (fun t ht=>harg t (aG2 hx t ht)) HBO.out.1 hpo);have HNY:=aA0 (aH6 hs hy.1 (fun t ht=>harg t (aG2 hy t ht)) HBO.out.2 hpo);have HLN:Hid (k+(Ex.bin t x y).len=k+1+x.len+y.len):=by show k+(Ex.bin t x y).len=_;simp [Ex.len,Ex.terms];omega
  clear hh hhe harg hT har hat hbo hpo hK hs hr ihx ihy hx hy hend;go_enter func144,ntmps144
  go_wp2_with (first
   | (go_at_call 144;refine (HX.out b port K _ ce es (k+1) _ (HWK.out _ (aA3 HBX)) HAX.out HARG.out hlen HBO.out.1 HPO.out).mono ?_;rintro e w' ⟨rfl,hbb⟩;replace HBX:=HBX.trans hbb;clear hbb;clear HX)
   | (go_at_call 144;refine (HY.out b port K _ ce es (k+1+x.len) _ (HWK.out _ (aA3 HBX)) HAY.out HARG.out hlen HBO.out.2 HPO.out).mono ?_;rintro e w' ⟨rfl,hbb⟩;replace HBX:=HBX.trans hbb;clear hbb;have q0:=aA9 HBX 0 (v := .int .i64 t.op) rfl;have q1:=aAy HBX)
   | (go_at_call 166;refine (aVm _ _ _ _ hop1 hop2 HNX.out HNY.out).mono ?_;rintro e w' ⟨rfl,rfl⟩))
  go_ret2
  rw [HLN.out];exact ⟨rfl,aA3 HBX⟩
 | tri t x y z ihx ihy ihz =>
  intro b port K A ce es k w hW hat harg hlen hbo hpo
  have hlt:=At.lt hat;have hend:=At.endF hat;have hbd:=At.bound hat;obtain ⟨hh,har,hx,hy,hz⟩:=At.tri hat;have HWK:=aA0 (fun w' (k:Bel w w')=>hW.keep k);obtain ⟨B,AC,kc,hK,_,_,hT⟩:=hW;have y3:=hK.cell 3 (v := .slice A es.length ce) rfl;have yl:=hK.lt;obtain ⟨b1,o1,rfl,hb1,c1,c2⟩:=hT.at_ k hlt;have hhe:es[k]=t:=by rw [List.getElem?_eq_getElem hlt] at hh;simpa using hh
  rw [hhe] at c1 c2;have HARG:=aA0 harg;have HS:=aA0 hs;have HPO:=aA0 hpo;have HBX:=Bel.refl (w.alloc (.cells #[.int .i64 t.op,.int .i64 t.arg] 98));have hdk:decide (k<es.length)=true:=by simpa using hlt
  have hr:=(aBa t.op).2.2.2 har;have hd17:decide (t.op<=17)=false:=by simp;omega
  have hd19:decide (t.op<=19)=false:=by simp;omega
  have hd29:decide (t.op<=29)=false:=by simp;omega
  have hd42:decide (t.op<=42)=false:=by simp;omega
  have HX:=aA0 ihx;have HY:=aA0 ihy;have HZ:=aA0 ihz;have HAX:=aA0 hx;have HAY:=aA0 hy;have HAZ:=aA0 hz;have HBO:=aA0 (show aB5 b x/\aB5 b y/\aB5 b z from hbo)
  have HLN:Hid (k+(Ex.tri t x y z).len=k+1+x.len+y.len+z.len):=by show k+(Ex.tri t x y z).len=_;simp [Ex.len,Ex.terms];omega
  have HEV:Hid (aAt g c v port (.tri t x y z)=if aAt g c v port x≠0 then aAt g c v port y else aAt g c v port z):=by show aAt g c v port (.tri t x y z)=_;simp only [aAt]
  clear hh hhe harg hT har hat hbo hpo hK hs hr ihx ihy ihz hx hy hz hend
  by_cases h0:aAt g c v port x=0
  .rw [if_neg (by simpa using h0)] at HEV
   have hd0:(aAt g c v port x != 0)=false:=by simpa using h0
   clear h0;go_enter func144,ntmps144
   go_wp2_with (first
    | (go_at_call 144;refine (HX.out b port K _ ce es (k+1) _ (HWK.out _ (aA3 HBX)) HAX.out HARG.out hlen HBO.out.1 HPO.out).mono ?_;rintro e w' ⟨rfl,hbb⟩;replace HBX:=HBX.trans hbb;clear hbb;clear HX)
    | (go_at_call 144;refine (HY.out b port K _ ce es (k+1+x.len) _ (HWK.out _ (aA3 HBX)) HAY.out HARG.out hlen HBO.out.2.1 HPO.out).mono ?_;rintro e w' ⟨rfl,hbb⟩;replace HBX:=HBX.trans hbb;clear hbb;clear HY)
    | (go_at_call 144;refine (HZ.out b port K _ ce es (k+1+x.len+y.len) _ (HWK.out _ (aA3 HBX)) HAZ.out HARG.out hlen HBO.out.2.2 HPO.out).mono ?_;rintro e w' ⟨rfl,hbb⟩;replace HBX:=HBX.trans hbb;clear hbb))
   go_ret2
   rw [HLN.out,HEV.out];exact ⟨rfl,aA3 HBX⟩
  .rw [if_pos h0] at HEV
   have hd0:(aAt g c v port x != 0)=true:=by simpa using h0
   clear h0;go_enter func144,ntmps144
   go_wp2_with (first
    | (go_at_call 144;refine (HX.out b port K _ ce es (k+1) _ (HWK.out _ (aA3 HBX)) HAX.out HARG.out hlen HBO.out.1 HPO.out).mono ?_;rintro e w' ⟨rfl,hbb⟩;replace HBX:=HBX.trans hbb;clear hbb;clear HX)
    | (go_at_call 144;refine (HY.out b port K _ ce es (k+1+x.len) _ (HWK.out _ (aA3 HBX)) HAY.out HARG.out hlen HBO.out.2.1 HPO.out).mono ?_;rintro e w' ⟨rfl,hbb⟩;replace HBX:=HBX.trans hbb;clear hbb;clear HY)
    | (go_at_call 144;refine (HZ.out b port K _ ce es (k+1+x.len+y.len) _ (HWK.out _ (aA3 HBX)) HAZ.out HARG.out hlen HBO.out.2.2 HPO.out).mono ?_;rintro e w' ⟨rfl,hbb⟩;replace HBX:=HBX.trans hbb;clear hbb))
   go_ret2
   rw [HLN.out,HEV.out];exact ⟨rfl,aA3 HBX⟩
end Go.Proofs.YtdcjnhoabbdanaaGreatDoor

