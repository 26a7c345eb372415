/- Merged. -/
import Derived.Test.YtdcjnhoabbdanaaGreatDoorZ16
set_option linter.unusedSimpArgs false
set_option linter.unnecessarySimpa false
set_option linter.unusedVariables false
set_option maxRecDepth 100000
set_option maxHeartbeats 2000000
open Go.Proofs.Tryz

namespace Go.Proofs.YtdcjnhoabbdanaaGreatDoor
open Go.RowKit
theorem aVw {op:Int} (h:6<=op/\op<=17/\op≠12):(op=6∨op=7∨op=8∨op=9∨op=10∨op=11)∨(op=13∨op=14∨op=15∨op=16∨op=17):=by omega
theorem aSt (v2:Value) (g:Graph) (op:Int) (v:Nat) (port:Int) (b:Bool) (w:World) (h2:aAl w v2 g) (hg:GOK g) (hv:v<g.ports.length) (hop:6<=op/\op<=17/\op≠12) (hb:aCp op=true->b=true) (hp:aFn g v b port) :
  Calls prog 151 #[v2,.int .i64 op,.int .i64 v,.int .i64 port] w fun e w'=>e = .returned (.int .i64 (aCy g op v port))/\Bel w w':=by
 have HGV:=aA0 (fun w' (k:Bel w w')=>h2.keep k);obtain ⟨A,k,A2,k2,rfl,hI,_,_,hP,_,_⟩:=h2;have hids:=hg.ids;have hle:=hg.le;have hvi:v<g.ids.length:=by omega
 have hl1000:g.ids.length<=1000:=by omega
 obtain ⟨b1,o1,rfl,hb1,hid⟩:=hI.at_ v hvi;obtain ⟨b2,o2,R,rc,rfl,hb2,hrow,hL,_,_⟩:=hP.at_ v hv;have HB:=(Bel.refl w).alloc (.cells #[.slice (some ⟨b1,o1,none⟩) g.ids.length k,.slice (some ⟨b2,o2,none⟩) g.ports.length k2] 29);have hdv:decide (v<g.ports.length)=true:=by simpa using hv
 have hdi:decide (v<g.ids.length)=true:=by simpa using hvi
 have HID:=aA0 hids;clear hids
 rcases aVw hop with (rfl | rfl | rfl | rfl | rfl | rfl) | hnear
 .have HF:Hid (aCy g 6 v port=g.ports.length):=by show aCy g 6 v port=_;unfold aCy;rw [if_pos rfl,HID.out]
  clear hI hP hb hp hop;go_enter func151,ntmps151;go_wp2;go_ret;exact ⟨aA4 HF.out.symm,HB⟩
 .clear hI hP hb hp hop
  have HF:Hid (aCy g 7 v port=aD5 g.ids):=rfl;go_enter func151,ntmps151
  go_wp2_with (go_at_call 115;refine (aKt _ g _ (HGV.out _ HB) hl1000).mono ?_;rintro e w' ⟨rfl,hbb⟩;replace HB:=HB.trans hbb;clear hbb)
  go_ret;exact ⟨aA4 HF.out.symm,HB⟩
 .have HF:Hid (aCy g 8 v port=g.ids[v]):=aA6 hvi
  clear hI hP hb hp hop;go_enter func151,ntmps151;go_wp2;go_ret;exact ⟨aA4 HF.out.symm,HB⟩
 .have HF:Hid (aCy g 9 v port=(g.ports[v].length:Int)):=by show aCy g 9 v port=_;rw [<- aA6 (d:=[]) hv];rfl
  clear hI hP hb hp hop;go_enter func151,ntmps151;go_wp2;go_ret;exact ⟨aA4 HF.out.symm,HB⟩
 .have HF:Hid (aCy g 10 v port=aBb (decide (v=0))):=rfl
  obtain ⟨z,hz⟩:∃ z,decide (v=0)=z:=⟨_,rfl⟩;rw [hz] at HF;have hz1:((v:Int)==0)=z:=by rw [<- hz,Bool.eq_iff_iff];simp
  have hz2:(v==0)=z:=by rw [<- hz,Bool.eq_iff_iff];simp
  clear hI hP hb hp hop hz;go_enter func151,ntmps151
  go_wp2_with (go_at_call 152;refine (aC6 _ _).mono ?_;rintro e w' ⟨rfl,rfl⟩)
  go_ret;exact ⟨aA4 HF.out.symm,HB⟩
 .have HF:Hid (aCy g 11 v port=port):=rfl
  clear hI hP hb hp hop;go_enter func151,ntmps151;go_wp2;go_ret;exact ⟨aA4 HF.out.symm,HB⟩
 .obtain ⟨q,rfl,hq⟩:=hp (hb (by unfold aCp;simp;omega))
  rw [aA6 hv] at hq;obtain ⟨e,t,ht,htl,_⟩:=aIx hg hv hq;obtain ⟨b3,o3,rfl,hb3,hto,hwe⟩:=hL.at_ q hq;have hti:t<g.ids.length:=by rw [HID.out];exact htl
  obtain ⟨b4,o4,e4,_,hid4⟩:=hI.at_ t hti;obtain ⟨rfl,rfl⟩:b1=b4/\o1=o4:=by simpa using e4
  obtain ⟨b5,o5,R5,rc5,e5,_,hrow5,_,_,_⟩:=hP.at_ t htl;obtain ⟨rfl,rfl⟩:b2=b5/\o2=o5:=by simpa using e5
  rw [ht] at hto;have hdt:decide (t<g.ports.length)=true:=by simpa using htl
  have hdti:decide (t<g.ids.length)=true:=by simpa using hti
  have hdq:decide (q<g.ports[v].length)=true:=by simpa using hq
  have HE:=aA0 e;have HT:=aA0 ht;clear hI hP hb hp hop e4 e5 e ht hL
  rcases hnear with rfl | rfl | rfl | rfl | rfl
  .have HF:Hid (aCy g 13 v (q:Int)=g.ids[t]):=by show g.ids.getD (aG5 g v q).to.toNat 0=_;rw [HE.out,HT.out,Int.toNat_natCast,aA6 hti]
   go_enter func151,ntmps151;go_wp2;go_ret;exact ⟨aA4 HF.out.symm,HB⟩
  .have HF:Hid (aCy g 14 v (q:Int)=(g.ports[t].length:Int)):=by show ((g.ports.getD (aG5 g v q).to.toNat []).length:Int)=_;rw [HE.out,HT.out,Int.toNat_natCast,aA6 htl]
   go_enter func151,ntmps151;go_wp2;go_ret;exact ⟨aA4 HF.out.symm,HB⟩
  .have HF:Hid (aCy g 15 v (q:Int)=aBb (decide ((t:Int)=0))):=by show aBb (decide ((aG5 g v q).to=0))=_;rw [HE.out,HT.out]
   obtain ⟨z,hz⟩:∃ z,decide ((t:Int)=0)=z:=⟨_,rfl⟩;rw [hz] at HF;have hz1:((t:Int)==0)=z:=by rw [<- hz,Bool.eq_iff_iff];simp
   have hz2:(t==0)=z:=by rw [<- hz,Bool.eq_iff_iff];simp
   clear hz;go_enter func151,ntmps151
   go_wp2_with (go_at_call 152;refine (aC6 _ _).mono ?_;rintro e w' ⟨rfl,rfl⟩)
   go_ret;exact ⟨aA4 HF.out.symm,HB⟩
  .have HF:Hid (aCy g 16 v (q:Int)=g.ports[v][q].weight):=by show (aG5 g v q).weight=_;rw [HE.out]
   go_enter func151,ntmps151;go_wp2;go_ret;exact ⟨aA4 HF.out.symm,HB⟩
  .have HF:Hid (aCy g 17 v (q:Int)=aDc g.ports[t] v):=by show aDc (g.ports.getD (aG5 g v q).to.toNat []) v=_;rw [HE.out,HT.out,Int.toNat_natCast,aA6 htl]
   go_enter func151,ntmps151
   go_wp2_with (go_at_call 98;refine (aO6 _ g t (v:Int) _ (HGV.out _ HB) htl).mono ?_;rintro e w' ⟨rfl,hbb⟩;replace HB:=HB.trans hbb;clear hbb)
   go_ret;exact ⟨aA4 HF.out.symm,HB⟩
theorem aWa {op:Int} (h:1<=op/\op<=17):(op=1∨op=2∨op=3∨op=4)∨op=5∨op=12∨(6<=op/\op<=17/\op≠12):=by omega
theorem aR1 (v2:Value) (p:Prg) (g:Graph) (v3:Value) (c:aA5) (v:Nat) (port:Int) (t:Term) (b:Bool) (w:World) (h2:aAl w v2 g) (h3:aAz w v3 c) (hs:SOK p g c v) (har:aAe t.op=0) (ha:aFf t p.vars.length=true) (hb:aCp t.op=true->b=true) (hp:aFn g v b port) :
  Calls prog 133 #[v2,v3,.int .i64 v,.int .i64 port,.agg #[.int .i64 t.op,.int .i64 t.arg]] w fun e w'=>e = .returned (.int .i64 (aFx g c v port t))/\Bel w w':=by
 have hr:=(aB2 t.op).1 har;have HGV:=aA0 (fun w' (k:Bel w w')=>h2.keep k);obtain ⟨A,k,A2,k2,rfl,hI,_,_,hP,_,_⟩:=h2;obtain ⟨A3,k3,rfl,hC,_,_⟩:=h3;obtain ⟨op,arg⟩:=t;dsimp only at *;have hv:=hs.node;have hdv:decide (v<c.length)=true:=by simp [hs.len,hv]
 have HB:=((Bel.refl w).alloc (.cells #[.slice A g.ids.length k,.slice A2 g.ports.length k2] 29)).alloc (.cells #[.int .i64 op,.int .i64 arg] 98)
 rcases aWa hr with hq | rfl | rfl | hq
 .clear hI hP hC hb hp har
  have HF:Hid (aFx g c v port ⟨op,arg⟩=if op=1 then arg else if op=2 then 1 else if op=3 then 0 else -1):=by
   show aFx g c v port ⟨op,arg⟩=_
   unfold aFx
   rcases hq with rfl | rfl | rfl | rfl <;> simp
  rcases hq with rfl | rfl | rfl | rfl
  all_goals
   go_enter func133,ntmps133;go_wp2;go_ret;exact ⟨aA4 HF.out.symm,HB⟩
 .obtain ⟨a1,a2⟩:=aHa ha (.inl rfl)
  obtain ⟨a,rfl⟩:=Int.eq_ofNat_of_zero_le a1;have hvc:v<c.length:=by rw [hs.len];exact hv
  have hac:a<c[v].length:=by rw [hs.row hv];omega
  obtain ⟨b1,o1,R,rc,rfl,hb1,hrow,hR,_,_⟩:=hC.at_ v hvc;obtain ⟨b2,o2,rfl,hb2,hval⟩:=hR.at_ a hac
  have HF:Hid (aFx g c v port ⟨5,(a:Int)⟩=c[v][a]):=by
   show (c.getD v []).getD (a:Int).toNat 0=_
   rw [Int.toNat_natCast,aA6 hvc,aA6 hac]
  have hda:decide (a<c[v].length)=true:=by simpa using hac
  clear hI hP hC hb hp har hR ha;go_enter func133,ntmps133;go_wp2
  go_quiet (fail)
  go_wp2;go_ret;exact ⟨aA4 HF.out.symm,HB.drewN _⟩
 .obtain ⟨a1,a2⟩:=aHa ha (.inr rfl)
  obtain ⟨a,rfl⟩:=Int.eq_ofNat_of_zero_le a1;obtain ⟨q,rfl,hq⟩:=hp (hb (by unfold aCp;simp))
  rw [aA6 hv] at hq;obtain ⟨e,t,ht,htl,_⟩:=aIx hs.gok hv hq;obtain ⟨b3,o3,R3,rc3,rfl,hb3,hrow3,hL3,_,_⟩:=hP.at_ v hv;obtain ⟨b4,o4,rfl,hb4,hto,_⟩:=hL3.at_ q hq;rw [ht] at hto;have htc:t<c.length:=by rw [hs.len];exact htl
  have hac:a<c[t].length:=by rw [hs.row htl];omega
  obtain ⟨b1,o1,R,rc,rfl,hb1,hrow,hR,_,_⟩:=hC.at_ t htc;obtain ⟨b2,o2,rfl,hb2,hval⟩:=hR.at_ a hac
  have HF:Hid (aFx g c v (q:Int) ⟨12,(a:Int)⟩=c[t][a]):=by
   show (c.getD (aG5 g v q).to.toNat []).getD (a:Int).toNat 0=_
   rw [e,ht,Int.toNat_natCast,Int.toNat_natCast,aA6 htc,aA6 hac]
  have hda:decide (a<c[t].length)=true:=by simpa using hac
  have hdt:decide (t<c.length)=true:=by simpa using htc
  have hdp:decide (v<g.ports.length)=true:=by simpa using hv
  have hdq:decide (q<g.ports[v].length)=true:=by simpa using hq
  clear hI hP hC hb hp har hR ha hL3 e ht;go_enter func133,ntmps133;go_wp2
  go_quiet (fail)
  go_wp2;go_ret;exact ⟨aA4 HF.out.symm,HB.drewN _⟩
 .have HF:Hid (aFx g c v port ⟨op,arg⟩=aCy g op v port):=by
   show aFx g c v port ⟨op,arg⟩=_
   unfold aFx;dsimp only;rw [if_neg (by omega),if_neg (by omega),if_neg (by omega),if_neg (by omega),if_neg (by omega),if_neg (by omega)]
  have e1:(op==1)=false:=by simp;omega
  have e2:(op==2)=false:=by simp;omega
  have e3:(op==3)=false:=by simp;omega
  have e4:(op==4)=false:=by simp;omega
  have e5:(op==5)=false:=by simp;omega
  have e12:(op==12)=false:=by simp;omega
  have HG:=aA0 hs.gok;have HQ:=aA0 hq;have HBB:=aA0 hb;have HPP:=aA0 hp;clear hI hP hC hb hp har ha hq;go_enter func133,ntmps133
  go_wp2_with (go_at_call 151;refine (aSt _ g op v port b _ (HGV.out _ HB) HG.out hv HQ.out HBB.out HPP.out).mono ?_;rintro e w' ⟨rfl,hbb⟩;replace HB:=HB.trans hbb;clear hbb)
  go_ret;exact ⟨aA4 HF.out.symm,HB⟩
end Go.Proofs.YtdcjnhoabbdanaaGreatDoor

