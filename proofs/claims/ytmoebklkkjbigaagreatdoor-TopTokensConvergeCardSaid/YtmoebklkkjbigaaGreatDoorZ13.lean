/- Merged. -/
import Derived.Test.YtmoebklkkjbigaaGreatDoorZ11
set_option linter.unusedSimpArgs false
set_option linter.unnecessarySimpa false
set_option linter.unusedVariables false
set_option maxRecDepth 100000
set_option maxHeartbeats 4000000
open Go.Proofs.Tryz

namespace Go.Proofs.YtmoebklkkjbigaaGreatDoor
open Go.RowKit
theorem bLe (B:Nat) (p:Prg) (g:Graph) (op:Int) (v:Nat) (port:Int) (b:Bool) (w:World) (hS:aJ8 w B p g) (hg:GOK g) (hv:v<g.ports.length) (hop:6<=op/\op<=17/\op≠12) (hb:aG6 op=true->b=true) (hp:aN3 g v b port) :
  Calls prog 185 #[.pointer (some ⟨B,0,none⟩),.int .i64 op,.int .i64 v,.int .i64 port] w fun e w'=>e = .returned (.int .i64 (aIu g op v port))/\Bel w w':=by
 obtain ⟨A1,k1,A2,k2,A3,k3,A4,k4,gb,hB,_,hGV,hBK⟩:=hS;have z3:=hB.cell 3 (v := .slice A3 g.ids.length k3) rfl;have z4:=hB.cell 4 (v := .slice A4 g.ports.length k4) rfl;have z5:=hB.cell 5 (v := .int .i64 (aFc g.ids)) rfl;have z6:=hB.cell 6 (v := .slice (some ⟨gb,0,none⟩) g.ports.length g.ports.length) rfl;have zl:=hB.lt;obtain ⟨A,k,A2',k2',eG,hI,_,_,hP,_,_⟩:=hGV;obtain ⟨⟨rfl,rfl⟩,rfl,rfl⟩:(A3=A/\k3=k)/\A4=A2'/\k4=k2':=by simpa using eG
 have hids:=hg.ids;have hle:=hg.le;have hvi:v<g.ids.length:=by omega
 have hbkl:(aM4 g).length=g.ports.length:=by simp [aM4]
 have hbkv:(aM4 g)[v]'(by omega)=aD4 g v:=by simp [aM4]
 obtain ⟨b1,o1,rfl,hb1,hid⟩:=hI.at_ v hvi;obtain ⟨b2,o2,R,rc,rfl,hb2,hrow,hL,_,_⟩:=hP.at_ v hv;obtain ⟨b6,o6,R6,rc6,e6,hb6,hrow6,hL6,hn6,hm6⟩:=hBK.at_ v (by omega)
 obtain ⟨rfl,rfl⟩:gb=b6/\0=o6:=by simpa using e6
 rw [hbkv] at hrow6 hL6;clear hn6 hm6;rw [Nat.zero_add] at hrow6;have hdv:decide (v<g.ports.length)=true:=by simpa using hv
 have hdi:decide (v<g.ids.length)=true:=by simpa using hvi
 have hbr:(aD4 g v).length=g.ports[v].length:=by unfold aD4;rw [aA8 hv,List.length_map]
 rw [hbr] at hrow6;have HID:=aA0 hids;have HBR:=aA0 hbr;clear hids hB eG e6 hbkv hbr
 rcases bNs hop with (rfl | rfl | rfl | rfl | rfl | rfl) | hnear
 .have HF:Hid (aIu g 6 v port=g.ids.length):=rfl
  clear hI hP hb hp hop hBK hL6 hL;go_enter func185,ntmps185;go_wp2;go_ret;exact ⟨aA9 HF.out.symm,Bel.refl _⟩
 .clear hI hP hb hp hop hBK hL6 hL
  have HF:Hid (aIu g 7 v port=aFc g.ids):=rfl;go_enter func185,ntmps185;go_wp2;go_ret;exact ⟨aA9 HF.out.symm,Bel.refl _⟩
 .have HF:Hid (aIu g 8 v port=g.ids[v]):=aA8 hvi
  clear hI hP hb hp hop hBK hL6 hL;go_enter func185,ntmps185;go_wp2;go_ret;exact ⟨aA9 HF.out.symm,Bel.refl _⟩
 .have HF:Hid (aIu g 9 v port=(g.ports[v].length:Int)):=by show aIu g 9 v port=_;rw [<- aA8 (d:=[]) hv];rfl
  clear hI hP hb hp hop hBK hL6 hL;go_enter func185,ntmps185;go_wp2;go_ret;exact ⟨aA9 HF.out.symm,Bel.refl _⟩
 .have HF:Hid (aIu g 10 v port=aB6 (decide (v=0))):=rfl
  obtain ⟨z,hz⟩:∃ z,decide (v=0)=z:=⟨_,rfl⟩;rw [hz] at HF;have hz1:((v:Int)==0)=z:=by rw [<- hz,Bool.eq_iff_iff];simp
  have hz2:(v==0)=z:=by rw [<- hz,Bool.eq_iff_iff];simp
  clear hI hP hb hp hop hz hBK hL6 hL;go_enter func185,ntmps185
  go_wp2_with (go_at_call 186;refine (aEi _ _).mono ?_;rintro e w' ⟨rfl,rfl⟩)
  go_ret;exact ⟨aA9 HF.out.symm,Bel.refl _⟩
 .have HF:Hid (aIu g 11 v port=port):=rfl
  clear hI hP hb hp hop hBK hL6 hL;go_enter func185,ntmps185;go_wp2;go_ret;exact ⟨aA9 HF.out.symm,Bel.refl _⟩
 .obtain ⟨q,rfl,hq⟩:=hp (hb (by unfold aG6;simp;omega))
  rw [aA8 hv] at hq;obtain ⟨e,t,ht,htl,_⟩:=aR2 hg hv hq;obtain ⟨b3,o3,rfl,hb3,hto,hwe⟩:=hL.at_ q hq;have hti:t<g.ids.length:=by rw [HID.out];exact htl
  obtain ⟨b4,o4,e4,_,hid4⟩:=hI.at_ t hti;obtain ⟨rfl,rfl⟩:b1=b4/\o1=o4:=by simpa using e4
  obtain ⟨b5,o5,R5,rc5,e5,_,hrow5,_,_,_⟩:=hP.at_ t htl;obtain ⟨rfl,rfl⟩:b2=b5/\o2=o5:=by simpa using e5
  obtain ⟨b7,o7,rfl,hb7,hbk⟩:=hL6.at_ q (by rw [HBR.out];exact hq)
  have hbe:(aD4 g v)[q]'(by rw [HBR.out];exact hq)=aEv g.ports[t] v:=by
   have:(aD4 g v)[q]?=some (aEv g.ports[t] v):=by
    unfold aD4;rw [aA8 hv,List.getElem?_map,List.getElem?_eq_getElem hq];simp only [Option.map_some]
    rw [ht,Int.toNat_natCast,aA8 htl]
   exact (List.getElem?_eq_some_iff.1 this).2
  rw [hbe] at hbk;rw [ht] at hto;have hdt:decide (t<g.ports.length)=true:=by simpa using htl
  have hdti:decide (t<g.ids.length)=true:=by simpa using hti
  have hdq:decide (q<g.ports[v].length)=true:=by simpa using hq
  have HE:=aA0 e;have HT:=aA0 ht;clear hI hP hb hp hop e4 e5 e ht hL hBK hL6 hbe
  rcases hnear with rfl | rfl | rfl | rfl | rfl
  .have HF:Hid (aIu g 13 v (q:Int)=g.ids[t]):=by show g.ids.getD (aLl g v q).to.toNat 0=_;rw [HE.out,HT.out,Int.toNat_natCast,aA8 hti]
   go_enter func185,ntmps185
   go_wp2_with fail
   go_quiet (fail)
   go_wp2_with fail
   go_ret;exact ⟨aA9 HF.out.symm,(((Bel.refl w).alloc _).drewN _)⟩
  .have HF:Hid (aIu g 14 v (q:Int)=(g.ports[t].length:Int)):=by show ((g.ports.getD (aLl g v q).to.toNat []).length:Int)=_;rw [HE.out,HT.out,Int.toNat_natCast,aA8 htl]
   go_enter func185,ntmps185
   go_wp2_with fail
   go_quiet (fail)
   go_wp2_with fail
   go_ret;exact ⟨aA9 HF.out.symm,(((Bel.refl w).alloc _).drewN _)⟩
  .have HF:Hid (aIu g 15 v (q:Int)=aB6 (decide ((t:Int)=0))):=by show aB6 (decide ((aLl g v q).to=0))=_;rw [HE.out,HT.out]
   obtain ⟨z,hz⟩:∃ z,decide ((t:Int)=0)=z:=⟨_,rfl⟩;rw [hz] at HF;have hz1:((t:Int)==0)=z:=by rw [<- hz,Bool.eq_iff_iff];simp
   have hz2:(t==0)=z:=by rw [<- hz,Bool.eq_iff_iff];simp
   clear hz;go_enter func185,ntmps185
   go_wp2_with (go_at_call 186;refine (aEi _ _).mono ?_;rintro e w' ⟨rfl,rfl⟩)
   go_ret;exact ⟨aA9 HF.out.symm,((Bel.refl w).alloc _)⟩
  .have HF:Hid (aIu g 16 v (q:Int)=g.ports[v][q].weight):=by show (aLl g v q).weight=_;rw [HE.out]
   go_enter func185,ntmps185;go_wp2;go_ret;exact ⟨aA9 HF.out.symm,((Bel.refl w).alloc _)⟩
  .have HF:Hid (aIu g 17 v (q:Int)=aEv g.ports[t] v):=by show aEv (g.ports.getD (aLl g v q).to.toNat []) v=_;rw [HE.out,HT.out,Int.toNat_natCast,aA8 htl]
   go_enter func185,ntmps185;go_wp2;go_ret;exact ⟨aA9 HF.out.symm,((Bel.refl w).alloc _)⟩
def aZl (w:World) (K:Nat) (p:Prg) (g:Graph) (c:aA3) (v:Nat) (A:Option Addr) (ce:Nat) (es:List Term):Prop :=
 ∃ B AC kc,Blk w K #[.pointer (some ⟨B,0,none⟩),.slice AC c.length kc,.int .i64 v,.slice A es.length ce] 248/\aJ8 w B p g/\aD2 w (.slice AC c.length kc) c/\aCa w A es.length es
theorem aZl.keep {w w':World} {K:Nat} {p:Prg} {g:Graph} {c:aA3} {v:Nat} {A:Option Addr} {ce:Nat} {es:List Term} (h:aZl w K p g c v A ce es) (k:Bel w w'):aZl w' K p g c v A ce es:=by
 obtain ⟨B,AC,kc,h1,h2,h3,h4⟩:=h;exact ⟨B,AC,kc,h1.keep k,h2.keep k,h3.keep k,aCa.keep h4 k⟩
theorem bI3 (K:Nat) (p:Prg) (g:Graph) (c:aA3) (v:Nat) (A:Option Addr) (ce:Nat) (es:List Term) (port:Int) (t:Term) (b:Bool) (w:World) (hW:aZl w K p g c v A ce es) (hs:SOK p g c v) (har:aB1 t.op=0) (ha:aM3 t p.vars.length=true) (hb:aG6 t.op=true->b=true) (hp:aN3 g v b port) :
  Calls prog 176 #[.pointer (some ⟨K,0,none⟩),.agg #[.int .i64 t.op,.int .i64 t.arg],.int .i64 port] w fun e w'=>e = .returned (.int .i64 (aPb g c v port t))/\Bel w w':=by
 have hr:=(aC5 t.op).1 har;obtain ⟨B,AC,kc,hK,hS,hC,_⟩:=hW;have HSC:=aA0 (fun w' (k:Bel w w')=>hS.keep k);obtain ⟨A1,k1,A2,k2,A3,k3,A4,k4,gb,hB,_,hGV,_⟩:=hS;obtain ⟨A',k',A2',k2',eG,_,_,_,hP,_,_⟩:=hGV;obtain ⟨⟨rfl,rfl⟩,rfl,rfl⟩:(A3=A'/\k3=k')/\A4=A2'/\k4=k2':=by simpa using eG
 obtain ⟨AC',kc',eC,hC,_,_⟩:=hC;obtain ⟨rfl,rfl⟩:AC=AC'/\kc=kc':=by simpa using eC
 have y0:=hK.cell 0 (v := .pointer (some ⟨B,0,none⟩)) rfl;have y1:=hK.cell 1 (v := .slice AC c.length kc) rfl;have y2:=hK.cell 2 (v := .int .i64 v) rfl;have yl:=hK.lt;have z4:=hB.cell 4 (v := .slice A4 g.ports.length k4) rfl;have zl:=hB.lt;obtain ⟨op,arg⟩:=t;dsimp only at *;have hv:=hs.node;have hvc:v<c.length:=by rw [hs.len];exact hv
 have hdv:decide (v<c.length)=true:=by simpa using hvc
 have HB:=(Bel.refl w).alloc (.cells #[.int .i64 op,.int .i64 arg] 235);clear hK hB eG eC
 rcases bO3 hr with hq | rfl | rfl | hq
 .clear hP hC hb hp har
  have HF:Hid (aPb g c v port ⟨op,arg⟩=if op=1 then arg else if op=2 then 1 else if op=3 then 0 else -1):=by
   show aPb g c v port ⟨op,arg⟩=_
   unfold aPb
   rcases hq with rfl | rfl | rfl | rfl <;> simp
  rcases hq with rfl | rfl | rfl | rfl
  all_goals
   go_enter func176,ntmps176;go_wp2;go_ret;exact ⟨aA9 HF.out.symm,HB⟩
 .obtain ⟨a1,a2⟩:=aQb ha (.inl rfl)
  obtain ⟨a,rfl⟩:=Int.eq_ofNat_of_zero_le a1;have hac:a<c[v].length:=by rw [hs.row hv];omega
  obtain ⟨b1,o1,R,rc,rfl,hb1,hrow,hR,_,_⟩:=hC.at_ v hvc;obtain ⟨b2,o2,rfl,hb2,hval⟩:=hR.at_ a hac
  have HF:Hid (aPb g c v port ⟨5,(a:Int)⟩=c[v][a]):=by
   show (c.getD v []).getD (a:Int).toNat 0=_
   rw [Int.toNat_natCast,aA8 hvc,aA8 hac]
  have hda:decide (a<c[v].length)=true:=by simpa using hac
  clear hP hC hb hp har hR ha;go_enter func176,ntmps176;go_wp2
  go_quiet (fail)
  go_wp2;go_ret;exact ⟨aA9 HF.out.symm,HB.drewN _⟩
 .obtain ⟨a1,a2⟩:=aQb ha (.inr rfl)
  obtain ⟨a,rfl⟩:=Int.eq_ofNat_of_zero_le a1;obtain ⟨q,rfl,hq⟩:=hp (hb (by unfold aG6;simp))
  rw [aA8 hv] at hq;obtain ⟨e,t,ht,htl,_⟩:=aR2 hs.gok hv hq;obtain ⟨b3,o3,R3,rc3,rfl,hb3,hrow3,hL3,_,_⟩:=hP.at_ v hv;obtain ⟨b4,o4,rfl,hb4,hto,_⟩:=hL3.at_ q hq;rw [ht] at hto;have htc:t<c.length:=by rw [hs.len];exact htl
  have hac:a<c[t].length:=by rw [hs.row htl];omega
  obtain ⟨b1,o1,R,rc,rfl,hb1,hrow,hR,_,_⟩:=hC.at_ t htc;obtain ⟨b2,o2,rfl,hb2,hval⟩:=hR.at_ a hac
  have HF:Hid (aPb g c v (q:Int) ⟨12,(a:Int)⟩=c[t][a]):=by
   show (c.getD (aLl g v q).to.toNat []).getD (a:Int).toNat 0=_
   rw [e,ht,Int.toNat_natCast,Int.toNat_natCast,aA8 htc,aA8 hac]
  have hda:decide (a<c[t].length)=true:=by simpa using hac
  have hdt:decide (t<c.length)=true:=by simpa using htc
  have hdp:decide (v<g.ports.length)=true:=by simpa using hv
  have hdq:decide (q<g.ports[v].length)=true:=by simpa using hq
  clear hP hC hb hp har hR ha hL3 e ht;go_enter func176,ntmps176;go_wp2
  go_quiet (fail)
  go_wp2;go_ret;exact ⟨aA9 HF.out.symm,HB.drewN _⟩
 .have HF:Hid (aPb g c v port ⟨op,arg⟩=aIu g op v port):=by
   show aPb g c v port ⟨op,arg⟩=_
   unfold aPb;dsimp only;rw [if_neg (by omega),if_neg (by omega),if_neg (by omega),if_neg (by omega),if_neg (by omega),if_neg (by omega)]
  have e1:(op==1)=false:=by simp;omega
  have e2:(op==2)=false:=by simp;omega
  have e3:(op==3)=false:=by simp;omega
  have e4:(op==4)=false:=by simp;omega
  have e5:(op==5)=false:=by simp;omega
  have e12:(op==12)=false:=by simp;omega
  have HG:=aA0 hs.gok;have HQ:=aA0 hq;have HBB:=aA0 hb;have HPP:=aA0 hp;have hcell:=aA0 (fun w' (kk:Bel (w.alloc (.cells #[.int .i64 op,.int .i64 arg] 235)) w')=>And.intro (((aA6 kk).cell yl).trans y0) (And.intro (((aA6 kk).cell yl).trans y2) (And.intro (aAq kk 0 (v := .int .i64 op) rfl) (aDd kk))));clear hP hC hb hp har ha hq;replace HB:=Bel.refl (w.alloc (.cells #[.int .i64 op,.int .i64 arg] 235));go_enter func176,ntmps176
  go_wp2_with fail
  replace HB:=HB.drew
  go_region_held3 (fun w'=>w'.cell? ⟨K,0,none⟩=some (.pointer (some ⟨B,0,none⟩))/\w'.cell? ⟨K,2,none⟩=some (.int .i64 v)/\w'.cell? ⟨w.heap.size,0,none⟩=some (.int .i64 op)/\w.heap.size<w'.heap.size) (exact hcell.out _ HB)
   (first | (go_simp;go_at_call 185;refine (bLe B p g op v port b _ (HSC.out _ (aA6 HB)) HG.out hv HQ.out HBB.out HPP.out).mono ?_;rintro e w' ⟨rfl,hbb⟩;replace HB:=HB.trans hbb;clear hbb))
  go_wp2_with fail
  go_ret;exact ⟨aA9 HF.out.symm,aA6 HB⟩
def bGt (p:Prg) (g:Graph) (c:aA3) (v:Nat) (x:Ex):Prop :=
 ∀ (b:Bool) (port:Int) (K:Nat) (A:Option Addr) (ce:Nat) (es:List Term) (k:Nat) (w:World),aZl w K p g c v A ce es->x.At es k->(∀ t∈es,aM3 t p.vars.length=true)->es.length<=1000->aC2 b x->aN3 g v b port ->
  Calls prog 154 #[.pointer (some ⟨K,0,none⟩),.int .i64 k,.int .i64 port] w fun e w'=>e = .returned (.tuple #[.int .i64 (aBd g c v port x),.int .i64 ((k+x.len:Nat):Int)])/\Bel w w'
theorem bOj (V n:Nat) (h:n<=24) (w:World):(Instr.sliceAt 161 (.pointer (some ⟨V,0,none⟩)) none (some (.int .i64 (n:Int))) none).run prog w = .ok (.slice (some ⟨V,0,none⟩) n 24) w:=by
 obtain ⟨j0,hj0,_⟩:=info_parts aKe;simp [Instr.sliceAt,run_underlying underlying161,Instr.sliceBounds,Instr.sliceBound,asIntOf,h,sizeOf,typeInfo,hj0,Instr.sureAddr,Addr.add]
def bH5 (l:List Int):Array Value:=((l++List.replicate (24-l.length) 0).map (Value.int .i64)).toArray
theorem bKu (l:List Int) (j:Nat) (h:l.length=j) (hj:j<24):(bH5 l)[j]?=some (.int .i64 0):=by
 unfold bH5;rw [List.getElem?_toArray,List.getElem?_map,List.getElem?_append_right (by omega),List.getElem?_replicate,if_pos (by omega)]
 rfl
theorem bNm (l:List Int) (i:Nat) (x:Int) (h:l[i]?=some x):(bH5 l)[i]?=some (.int .i64 x):=by
 unfold bH5;rw [List.getElem?_toArray,List.getElem?_map,List.getElem?_append_left (List.getElem?_eq_some_iff.1 h).1,h];rfl
theorem bKv (l:List Int) (j:Nat) (x:Int) (h:l.length=j) (hj:j<24):(bH5 l).setIfInBounds j (.int .i64 x)=bH5 (l++[x]):=by
 unfold bH5;rw [List.setIfInBounds_toArray]
 congr 1
 rw [<- List.map_set,List.set_append_right _ _ (by omega),h,Nat.sub_self,show 24-j=(24-(j+1))+1 by omega,List.replicate_succ,List.set_cons_zero]
 simp [h]
theorem bKr (p:Prg) (g:Graph) (c:aA3) (v:Nat) (a:Ex) (ih:bGt p g c v a) (hs:SOK p g c v) (op:Int) (K:Nat) (A:Option Addr) (ce:Nat) (es:List Term) (k:Nat) (w:World) (hW:aZl w K p g c v A ce es) (hat:a.At es (k+1)) (hend:endF es (k:Int)=((k+1+a.len:Nat):Int)) (harg:∀ t∈es,aM3 t p.vars.length=true) (hlen:es.length<=1000) (hbo:aC2 true a) (hop1:20<=op) (hop2:op<=29) :
  Calls prog 178 #[.pointer (some ⟨K,0,none⟩),.int .i64 op,.int .i64 k] w fun e w'=>e = .returned (.tuple #[.int .i64 (aIv op ((List.range (g.ports.getD v []).length).map fun (q:Nat)=>aBd g c v (q:Int) a)),.int .i64 ((k+1+a.len:Nat):Int)])/\Bel w w':=by
 have HWK:=aA0 (fun w' (k:Bel w w')=>hW.keep k);have HIH:=aA0 ih;have HS:=aA0 hs;obtain ⟨B,AC,kc,hK,hS,hC,hT⟩:=hW;obtain ⟨A1,k1,A2,k2,A3,k3,A4,k4,gb,hB,_,hGV,_⟩:=hS;obtain ⟨A',k',A2',k2',eG,_,_,_,hP,_,_⟩:=hGV;obtain ⟨⟨rfl,rfl⟩,rfl,rfl⟩:(A3=A'/\k3=k')/\A4=A2'/\k4=k2':=by simpa using eG
 have y0:=hK.cell 0 (v := .pointer (some ⟨B,0,none⟩)) rfl;have y2:=hK.cell 2 (v := .int .i64 v) rfl;have y3:=hK.cell 3 (v := .slice A es.length ce) rfl;have yl:=hK.lt;have z4:=hB.cell 4 (v := .slice A4 g.ports.length k4) rfl;have zl:=hB.lt;have hv:=hs.node;obtain ⟨b3,o3,R3,rc3,rfl,hb3,hrow3,_,_,_⟩:=hP.at_ v hv;have hdp:decide (v<g.ports.length)=true:=by simpa using hv
 have hbd:=At.bound hat;have HT:=aA0 (fun w' (k:Bel w w')=>aCa.keep hT k);have HAT:=aA0 hat;have HE:=aA0 hend;clear hend;have HARG:=aA0 harg;have HBO:=aA0 hbo;have hrl:g.ports[v].length<=24:=by have:=aDv hv (hs.gok.links v hv);have:=hs.gok.le;omega
 have HPK:Hid (∀ q:Nat,q<g.ports[v].length->aN3 g v true (q:Int)):=fun q hq _=>⟨q,rfl,by rw [aA8 hv];exact hq⟩
 have HNN:Hid (∀ y∈(List.range g.ports[v].length).map fun (q:Nat)=>aBd g c v (q:Int) a,Num y):=by
  intro y hy
  obtain ⟨q,hq,rfl⟩:=List.mem_map.1 hy;exact aPn hs hat.1 (fun t ht=>harg t (aN9 hat t ht)) hbo (HPK.out q (List.mem_range.1 hq))
 rw [aA8 hv];have HY:=aA0 (fun w' (kk:Bel w w')=>And.intro ((kk.cell yl).trans y0) (And.intro ((kk.cell yl).trans y2) (And.intro ((kk.cell yl).trans y3) (Nat.lt_of_lt_of_le yl kk.size))));clear hK hB eG hC hP ih hs hT hat harg hbo;go_enter func178,ntmps178
 go_wp2_with fail
 go_quiet (fail)
 go_wp2_with fail
 have HV:Hid (Blk ((w.alloc (.cells (bH5 ((List.range 0).map fun (q:Nat)=>aBd g c v (q:Int) a)) 161)).drewN nq) w.heap.size (bH5 ((List.range 0).map fun (q:Nat)=>aBd g c v (q:Int) a)) 161):=(Blk.new w _ _).drewN _;have HB:=((Bel.refl w).alloc (.cells (bH5 ((List.range 0).map fun (q:Nat)=>aBd g c v (q:Int) a)) 161)).drewN nq;clear y0 y2 y3 z4 hrow3
 go_loopg [7,10,27] g.ports[v].length (fun m s _x z wr=>∃ (j:Nat),j<=g.ports[v].length/\m=g.ports[v].length-j/\z = .int .i64 j/\s = .int .i64 (if j=0 then 0 else ((k+1+a.len:Nat):Int))/\Hid (Blk wr w.heap.size (bH5 ((List.range j).map fun (q:Nat)=>aBd g c v (q:Int) a)) 161)/\Bel w wr)
 case atStart=>exact ⟨0,by omega,rfl,rfl,rfl,HV,HB⟩
 case round =>
  clear HV HB;obtain ⟨j,hj,rfl,rfl,rfl,HV,HB⟩:=hrel;obtain ⟨y0,y2,y3,yl2⟩:=HY.out _ HB
  by_cases hlt2:j<g.ports[v].length
  .have hd0:decide (j<g.ports[v].length)=true:=by simpa using hlt2
   have hd1:decide (j<24)=true:=by simp;omega
   have hl:((List.range j).map fun (q:Nat)=>aBd g c v (q:Int) a).length=j:=by simp
   have HST:Hid (((List.range (j+1)).map fun (q:Nat)=>aBd g c v (q:Int) a)=((List.range j).map fun (q:Nat)=>aBd g c v (q:Int) a)++[aBd g c v (j:Int) a]):=by
    show ((List.range (j+1)).map fun (q:Nat)=>aBd g c v (q:Int) a)=_
    rw [List.range_succ,List.map_append];rfl
   go_wp2_with (go_at_call 154;refine (HIH.out true (j:Int) K A ce es (k+1) _ (HWK.out _ HB) HAT.out HARG.out hlen HBO.out (HPK.out j hlt2)).mono ?_;rintro e w4 ⟨rfl,hbb⟩;replace HB:=HB.trans hbb;replace HV:=aA0 (HV.out.keep hbb);clear hbb;have q1:=HV.out.cell j (bKu _ j hl (by omega));have q2:=HV.out.frozen j;have q3:=HV.out.lt)
   go_roundg (g.ports[v].length-(j+1))
   case rel =>
    refine ⟨j+1,by omega,rfl,by go_num,by simp,?_,HB.setCell (by simp) _⟩
    have h1:=HV.out.set j (.int .i64 (aBd g c v (j:Int) a));rw [bKv _ j _ hl (by omega)] at h1
    show Blk _ _ _ _
    rw [HST.out];exact h1
   case measure=>omega
  .have hd0:decide (j<g.ports[v].length)=false:=by simpa using hlt2
   obtain rfl:j=g.ports[v].length:=by omega
   have HI:Hid (aCr wr (some ⟨w.heap.size,0,none⟩) g.ports[v].length ((List.range g.ports[v].length).map fun (q:Nat)=>aBd g c v (q:Int) a)):=by
    refine ⟨by simp,fun i x hx=>⟨_,0,rfl,HV.out.lt,?_⟩⟩
    have h1:=HV.out.cell i (v := .int .i64 x) (bNm _ i x hx)
    rwa [Nat.zero_add,Nat.mul_one]
   have hsl:=bOj w.heap.size g.ports[v].length hrl wr
   by_cases h0:g.ports[v].length=0
   .rw [if_pos h0]
    have hd2:((g.ports[v].length:Int)==0)=true:=by simpa using h0
    have hd3:(g.ports[v].length==0)=true:=by simpa using h0
    clear h0
    go_wp2_with (first
     | (go_at_call 144;refine (aQm _ _ _ es _ _ (HT.out _ HB) (by omega)).mono ?_;rintro e w' ⟨rfl,rfl⟩;rw [HE.out])
     | (go_at_call 187;refine (bCi _ _ _ _ op _ HI.out (by omega) hop1 hop2 HNN.out).mono ?_;rintro e w' ⟨rfl,rfl⟩))
    go_ret2
    exact ⟨rfl,HB⟩
   .rw [if_neg h0]
    have hd2:((g.ports[v].length:Int)==0)=false:=by simpa using h0
    have hd3:(g.ports[v].length==0)=false:=by simpa using h0
    clear h0
    go_wp2_with (first
     | (go_at_call 187;refine (bCi _ _ _ _ op _ HI.out (by omega) hop1 hop2 HNN.out).mono ?_;rintro e w' ⟨rfl,rfl⟩))
    go_ret2
    exact ⟨rfl,HB⟩
end Go.Proofs.YtmoebklkkjbigaaGreatDoor

