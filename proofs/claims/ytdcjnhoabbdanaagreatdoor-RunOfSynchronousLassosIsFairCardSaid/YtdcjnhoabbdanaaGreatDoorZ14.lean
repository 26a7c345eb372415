/- Merged. -/
import Derived.Test.YtdcjnhoabbdanaaGreatDoorZ12
set_option linter.unusedSimpArgs false
set_option linter.unnecessarySimpa false
set_option linter.unusedVariables false
set_option maxRecDepth 100000
set_option maxHeartbeats 4000000
open Go.Proofs.Tryz

namespace Go.Proofs.YtdcjnhoabbdanaaGreatDoor
open Go.RowKit
theorem aZv (B:Nat) (p:Prg) (g:Graph) (op:Int) (v:Nat) (port:Int) (b:Bool) (w:World) (hS:aHv w B p g) (hg:GOK g) (hv:v<g.ports.length) (hop:6<=op/\op<=17/\op≠12) (hb:aCz op=true->b=true) (hp:aGc g v b port) :
  Calls prog 180 #[.pointer (some ⟨B,0,none⟩),.int .i64 op,.int .i64 v,.int .i64 port] w fun e w'=>e = .returned (.int .i64 (aDi g op v port))/\Bel w w':=by
 obtain ⟨A1,k1,A2,k2,A3,k3,A4,k4,gb,hB,_,hGV,hBK⟩:=hS;have z3:=hB.cell 3 (v := .slice A3 g.ids.length k3) rfl;have z4:=hB.cell 4 (v := .slice A4 g.ports.length k4) rfl;have z5:=hB.cell 5 (v := .int .i64 (aDp g.ids)) rfl;have z6:=hB.cell 6 (v := .slice (some ⟨gb,0,none⟩) g.ports.length g.ports.length) rfl;have zl:=hB.lt;obtain ⟨A,k,A2',k2',eG,hI,_,_,hP,_,_⟩:=hGV;obtain ⟨⟨rfl,rfl⟩,rfl,rfl⟩:(A3=A/\k3=k)/\A4=A2'/\k4=k2':=by simpa using eG
 have hids:=hg.ids;have hle:=hg.le;have hvi:v<g.ids.length:=by omega
 have hbkl:(aK3 g).length=g.ports.length:=by simp [aK3]
 have hbkv:(aK3 g)[v]'(by omega)=aCu g v:=by simp [aK3]
 obtain ⟨b1,o1,rfl,hb1,hid⟩:=hI.at_ v hvi;obtain ⟨b2,o2,R,rc,rfl,hb2,hrow,hL,_,_⟩:=hP.at_ v hv;obtain ⟨b6,o6,R6,rc6,e6,hb6,hrow6,hL6,hn6,hm6⟩:=hBK.at_ v (by omega)
 obtain ⟨rfl,rfl⟩:gb=b6/\0=o6:=by simpa using e6
 rw [hbkv] at hrow6 hL6;clear hn6 hm6;rw [Nat.zero_add] at hrow6;have hdv:decide (v<g.ports.length)=true:=by simpa using hv
 have hdi:decide (v<g.ids.length)=true:=by simpa using hvi
 have hbr:(aCu g v).length=g.ports[v].length:=by unfold aCu;rw [aA8 hv,List.length_map]
 rw [hbr] at hrow6;have HID:=aA0 hids;have HBR:=aA0 hbr;clear hids hB eG e6 hbkv hbr
 rcases aXk hop with (rfl | rfl | rfl | rfl | rfl | rfl) | hnear
 .have HF:Hid (aDi g 6 v port=g.ids.length):=rfl
  clear hI hP hb hp hop hBK hL6 hL;go_enter func180,ntmps180;go_wp2;go_ret;exact ⟨aA5 HF.out.symm,Bel.refl _⟩
 .clear hI hP hb hp hop hBK hL6 hL
  have HF:Hid (aDi g 7 v port=aDp g.ids):=rfl;go_enter func180,ntmps180;go_wp2;go_ret;exact ⟨aA5 HF.out.symm,Bel.refl _⟩
 .have HF:Hid (aDi g 8 v port=g.ids[v]):=aA8 hvi
  clear hI hP hb hp hop hBK hL6 hL;go_enter func180,ntmps180;go_wp2;go_ret;exact ⟨aA5 HF.out.symm,Bel.refl _⟩
 .have HF:Hid (aDi g 9 v port=(g.ports[v].length:Int)):=by show aDi g 9 v port=_;rw [<- aA8 (d:=[]) hv];rfl
  clear hI hP hb hp hop hBK hL6 hL;go_enter func180,ntmps180;go_wp2;go_ret;exact ⟨aA5 HF.out.symm,Bel.refl _⟩
 .have HF:Hid (aDi g 10 v port=aBj (decide (v=0))):=rfl
  obtain ⟨z,hz⟩:∃ z,decide (v=0)=z:=⟨_,rfl⟩;rw [hz] at HF;have hz1:((v:Int)==0)=z:=by rw [<- hz,Bool.eq_iff_iff];simp
  have hz2:(v==0)=z:=by rw [<- hz,Bool.eq_iff_iff];simp
  clear hI hP hb hp hop hz hBK hL6 hL;go_enter func180,ntmps180
  go_wp2_with (go_at_call 181;refine (aDv _ _).mono ?_;rintro e w' ⟨rfl,rfl⟩)
  go_ret;exact ⟨aA5 HF.out.symm,Bel.refl _⟩
 .have HF:Hid (aDi g 11 v port=port):=rfl
  clear hI hP hb hp hop hBK hL6 hL;go_enter func180,ntmps180;go_wp2;go_ret;exact ⟨aA5 HF.out.symm,Bel.refl _⟩
 .obtain ⟨q,rfl,hq⟩:=hp (hb (by unfold aCz;simp;omega))
  rw [aA8 hv] at hq;obtain ⟨e,t,ht,htl,_⟩:=aJr hg hv hq;obtain ⟨b3,o3,rfl,hb3,hto,hwe⟩:=hL.at_ q hq;have hti:t<g.ids.length:=by rw [HID.out];exact htl
  obtain ⟨b4,o4,e4,_,hid4⟩:=hI.at_ t hti;obtain ⟨rfl,rfl⟩:b1=b4/\o1=o4:=by simpa using e4
  obtain ⟨b5,o5,R5,rc5,e5,_,hrow5,_,_,_⟩:=hP.at_ t htl;obtain ⟨rfl,rfl⟩:b2=b5/\o2=o5:=by simpa using e5
  obtain ⟨b7,o7,rfl,hb7,hbk⟩:=hL6.at_ q (by rw [HBR.out];exact hq)
  have hbe:(aCu g v)[q]'(by rw [HBR.out];exact hq)=aDu g.ports[t] v:=by
   have:(aCu g v)[q]?=some (aDu g.ports[t] v):=by
    unfold aCu;rw [aA8 hv,List.getElem?_map,List.getElem?_eq_getElem hq];simp only [Option.map_some]
    rw [ht,Int.toNat_natCast,aA8 htl]
   exact (List.getElem?_eq_some_iff.1 this).2
  rw [hbe] at hbk;rw [ht] at hto;have hdt:decide (t<g.ports.length)=true:=by simpa using htl
  have hdti:decide (t<g.ids.length)=true:=by simpa using hti
  have hdq:decide (q<g.ports[v].length)=true:=by simpa using hq
  have HE:=aA0 e;have HT:=aA0 ht;clear hI hP hb hp hop e4 e5 e ht hL hBK hL6 hbe
  rcases hnear with rfl | rfl | rfl | rfl | rfl
  .have HF:Hid (aDi g 13 v (q:Int)=g.ids[t]):=by show g.ids.getD (aGs g v q).to.toNat 0=_;rw [HE.out,HT.out,Int.toNat_natCast,aA8 hti]
   go_enter func180,ntmps180
   go_wp2_with fail
   go_quiet (fail)
   go_wp2_with fail
   go_ret;exact ⟨aA5 HF.out.symm,(((Bel.refl w).alloc _).drewN _)⟩
  .have HF:Hid (aDi g 14 v (q:Int)=(g.ports[t].length:Int)):=by show ((g.ports.getD (aGs g v q).to.toNat []).length:Int)=_;rw [HE.out,HT.out,Int.toNat_natCast,aA8 htl]
   go_enter func180,ntmps180
   go_wp2_with fail
   go_quiet (fail)
   go_wp2_with fail
   go_ret;exact ⟨aA5 HF.out.symm,(((Bel.refl w).alloc _).drewN _)⟩
  .have HF:Hid (aDi g 15 v (q:Int)=aBj (decide ((t:Int)=0))):=by show aBj (decide ((aGs g v q).to=0))=_;rw [HE.out,HT.out]
   obtain ⟨z,hz⟩:∃ z,decide ((t:Int)=0)=z:=⟨_,rfl⟩;rw [hz] at HF;have hz1:((t:Int)==0)=z:=by rw [<- hz,Bool.eq_iff_iff];simp
   have hz2:(t==0)=z:=by rw [<- hz,Bool.eq_iff_iff];simp
   clear hz;go_enter func180,ntmps180
   go_wp2_with (go_at_call 181;refine (aDv _ _).mono ?_;rintro e w' ⟨rfl,rfl⟩)
   go_ret;exact ⟨aA5 HF.out.symm,((Bel.refl w).alloc _)⟩
  .have HF:Hid (aDi g 16 v (q:Int)=g.ports[v][q].weight):=by show (aGs g v q).weight=_;rw [HE.out]
   go_enter func180,ntmps180;go_wp2;go_ret;exact ⟨aA5 HF.out.symm,((Bel.refl w).alloc _)⟩
  .have HF:Hid (aDi g 17 v (q:Int)=aDu g.ports[t] v):=by show aDu (g.ports.getD (aGs g v q).to.toNat []) v=_;rw [HE.out,HT.out,Int.toNat_natCast,aA8 htl]
   go_enter func180,ntmps180;go_wp2;go_ret;exact ⟨aA5 HF.out.symm,((Bel.refl w).alloc _)⟩
def aT9 (w:World) (K:Nat) (p:Prg) (g:Graph) (c:aA6) (v:Nat) (A:Option Addr) (ce:Nat) (es:List Term):Prop :=
 ∃ B AC kc,Blk w K #[.pointer (some ⟨B,0,none⟩),.slice AC c.length kc,.int .i64 v,.slice A es.length ce] 186/\aHv w B p g/\aAw w (.slice AC c.length kc) c/\aB2 w A es.length es
theorem aT9.keep {w w':World} {K:Nat} {p:Prg} {g:Graph} {c:aA6} {v:Nat} {A:Option Addr} {ce:Nat} {es:List Term} (h:aT9 w K p g c v A ce es) (k:Bel w w'):aT9 w' K p g c v A ce es:=by
 obtain ⟨B,AC,kc,h1,h2,h3,h4⟩:=h;exact ⟨B,AC,kc,h1.keep k,h2.keep k,h3.keep k,aB2.keep h4 k⟩
theorem aXx (K:Nat) (p:Prg) (g:Graph) (c:aA6) (v:Nat) (A:Option Addr) (ce:Nat) (es:List Term) (port:Int) (t:Term) (b:Bool) (w:World) (hW:aT9 w K p g c v A ce es) (hs:SOK p g c v) (har:aAj t.op=0) (ha:aG5 t p.vars.length=true) (hb:aCz t.op=true->b=true) (hp:aGc g v b port) :
  Calls prog 163 #[.pointer (some ⟨K,0,none⟩),.agg #[.int .i64 t.op,.int .i64 t.arg],.int .i64 port] w fun e w'=>e = .returned (.int .i64 (aGl g c v port t))/\Bel w w':=by
 have hr:=(aBa t.op).1 har;obtain ⟨B,AC,kc,hK,hS,hC,_⟩:=hW;have HSC:=aA0 (fun w' (k:Bel w w')=>hS.keep k);obtain ⟨A1,k1,A2,k2,A3,k3,A4,k4,gb,hB,_,hGV,_⟩:=hS;obtain ⟨A',k',A2',k2',eG,_,_,_,hP,_,_⟩:=hGV;obtain ⟨⟨rfl,rfl⟩,rfl,rfl⟩:(A3=A'/\k3=k')/\A4=A2'/\k4=k2':=by simpa using eG
 obtain ⟨AC',kc',eC,hC,_,_⟩:=hC;obtain ⟨rfl,rfl⟩:AC=AC'/\kc=kc':=by simpa using eC
 have y0:=hK.cell 0 (v := .pointer (some ⟨B,0,none⟩)) rfl;have y1:=hK.cell 1 (v := .slice AC c.length kc) rfl;have y2:=hK.cell 2 (v := .int .i64 v) rfl;have yl:=hK.lt;have z4:=hB.cell 4 (v := .slice A4 g.ports.length k4) rfl;have zl:=hB.lt;obtain ⟨op,arg⟩:=t;dsimp only at *;have hv:=hs.node;have hvc:v<c.length:=by rw [hs.len];exact hv
 have hdv:decide (v<c.length)=true:=by simpa using hvc
 have HB:=(Bel.refl w).alloc (.cells #[.int .i64 op,.int .i64 arg] 98);clear hK hB eG eC
 rcases aXy hr with hq | rfl | rfl | hq
 .clear hP hC hb hp har
  have HF:Hid (aGl g c v port ⟨op,arg⟩=if op=1 then arg else if op=2 then 1 else if op=3 then 0 else -1):=by
   show aGl g c v port ⟨op,arg⟩=_
   unfold aGl
   rcases hq with rfl | rfl | rfl | rfl <;> simp
  rcases hq with rfl | rfl | rfl | rfl
  all_goals
   go_enter func163,ntmps163;go_wp2;go_ret;exact ⟨aA5 HF.out.symm,HB⟩
 .obtain ⟨a1,a2⟩:=aHy ha (.inl rfl)
  obtain ⟨a,rfl⟩:=Int.eq_ofNat_of_zero_le a1;have hac:a<c[v].length:=by rw [hs.row hv];omega
  obtain ⟨b1,o1,R,rc,rfl,hb1,hrow,hR,_,_⟩:=hC.at_ v hvc;obtain ⟨b2,o2,rfl,hb2,hval⟩:=hR.at_ a hac
  have HF:Hid (aGl g c v port ⟨5,(a:Int)⟩=c[v][a]):=by
   show (c.getD v []).getD (a:Int).toNat 0=_
   rw [Int.toNat_natCast,aA8 hvc,aA8 hac]
  have hda:decide (a<c[v].length)=true:=by simpa using hac
  clear hP hC hb hp har hR ha;go_enter func163,ntmps163;go_wp2
  go_quiet (fail)
  go_wp2;go_ret;exact ⟨aA5 HF.out.symm,HB.drewN _⟩
 .obtain ⟨a1,a2⟩:=aHy ha (.inr rfl)
  obtain ⟨a,rfl⟩:=Int.eq_ofNat_of_zero_le a1;obtain ⟨q,rfl,hq⟩:=hp (hb (by unfold aCz;simp))
  rw [aA8 hv] at hq;obtain ⟨e,t,ht,htl,_⟩:=aJr hs.gok hv hq;obtain ⟨b3,o3,R3,rc3,rfl,hb3,hrow3,hL3,_,_⟩:=hP.at_ v hv;obtain ⟨b4,o4,rfl,hb4,hto,_⟩:=hL3.at_ q hq;rw [ht] at hto;have htc:t<c.length:=by rw [hs.len];exact htl
  have hac:a<c[t].length:=by rw [hs.row htl];omega
  obtain ⟨b1,o1,R,rc,rfl,hb1,hrow,hR,_,_⟩:=hC.at_ t htc;obtain ⟨b2,o2,rfl,hb2,hval⟩:=hR.at_ a hac
  have HF:Hid (aGl g c v (q:Int) ⟨12,(a:Int)⟩=c[t][a]):=by
   show (c.getD (aGs g v q).to.toNat []).getD (a:Int).toNat 0=_
   rw [e,ht,Int.toNat_natCast,Int.toNat_natCast,aA8 htc,aA8 hac]
  have hda:decide (a<c[t].length)=true:=by simpa using hac
  have hdt:decide (t<c.length)=true:=by simpa using htc
  have hdp:decide (v<g.ports.length)=true:=by simpa using hv
  have hdq:decide (q<g.ports[v].length)=true:=by simpa using hq
  clear hP hC hb hp har hR ha hL3 e ht;go_enter func163,ntmps163;go_wp2
  go_quiet (fail)
  go_wp2;go_ret;exact ⟨aA5 HF.out.symm,HB.drewN _⟩
 .have HF:Hid (aGl g c v port ⟨op,arg⟩=aDi g op v port):=by
   show aGl g c v port ⟨op,arg⟩=_
   unfold aGl;dsimp only;rw [if_neg (by omega),if_neg (by omega),if_neg (by omega),if_neg (by omega),if_neg (by omega),if_neg (by omega)]
  have e1:(op==1)=false:=by simp;omega
  have e2:(op==2)=false:=by simp;omega
  have e3:(op==3)=false:=by simp;omega
  have e4:(op==4)=false:=by simp;omega
  have e5:(op==5)=false:=by simp;omega
  have e12:(op==12)=false:=by simp;omega
  have HG:=aA0 hs.gok;have HQ:=aA0 hq;have HBB:=aA0 hb;have HPP:=aA0 hp;have hcell:=aA0 (fun w' (kk:Bel (w.alloc (.cells #[.int .i64 op,.int .i64 arg] 98)) w')=>And.intro (((aA3 kk).cell yl).trans y0) (And.intro (((aA3 kk).cell yl).trans y2) (And.intro (aA9 kk 0 (v := .int .i64 op) rfl) (aAy kk))));clear hP hC hb hp har ha hq;replace HB:=Bel.refl (w.alloc (.cells #[.int .i64 op,.int .i64 arg] 98));go_enter func163,ntmps163
  go_wp2_with fail
  replace HB:=HB.drew
  go_region_held3 (fun w'=>w'.cell? ⟨K,0,none⟩=some (.pointer (some ⟨B,0,none⟩))/\w'.cell? ⟨K,2,none⟩=some (.int .i64 v)/\w'.cell? ⟨w.heap.size,0,none⟩=some (.int .i64 op)/\w.heap.size<w'.heap.size) (exact hcell.out _ HB)
   (first | (go_simp;go_at_call 180;refine (aZv B p g op v port b _ (HSC.out _ (aA3 HB)) HG.out hv HQ.out HBB.out HPP.out).mono ?_;rintro e w' ⟨rfl,hbb⟩;replace HB:=HB.trans hbb;clear hbb))
  go_wp2_with fail
  go_ret;exact ⟨aA5 HF.out.symm,aA3 HB⟩
end Go.Proofs.YtdcjnhoabbdanaaGreatDoor

