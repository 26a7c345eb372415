/- Merged. -/
import Derived.Test.YtdcjnhoabbdanaaGreatDoorZ20
set_option linter.unusedSimpArgs false
set_option linter.unnecessarySimpa false
set_option linter.unusedVariables false
set_option maxRecDepth 100000
set_option maxHeartbeats 4000000
open Go.Proofs.Tryz

namespace Go.Proofs.YtdcjnhoabbdanaaGreatDoor
open Go.RowKit
theorem aZ1 (B:Nat) (p:Prg) (g:Graph) (op:Int) (v:Nat) (port:Int) (b:Bool) (w:World) (hS:aHr w B p g) (hg:GOK g) (hv:v<g.ports.length) (hop:6<=op/\op<=17/\op≠12) (hb:aCw op=true->b=true) (hp:aG6 g v b port) :
  Calls prog 180 #[.pointer (some ⟨B,0,none⟩),.int .i64 op,.int .i64 v,.int .i64 port] w fun e w'=>e = .returned (.int .i64 (aD8 g op v port))/\Bel w w':=by
 obtain ⟨A1,k1,A2,k2,A3,k3,A4,k4,gb,hB,_,hGV,hBK⟩:=hS;have z3:=hB.cell 3 (v := .slice A3 g.ids.length k3) rfl;have z4:=hB.cell 4 (v := .slice A4 g.ports.length k4) rfl;have z5:=hB.cell 5 (v := .int .i64 (aDf g.ids)) rfl;have z6:=hB.cell 6 (v := .slice (some ⟨gb,0,none⟩) g.ports.length g.ports.length) rfl;have zl:=hB.lt;obtain ⟨A,k,A2',k2',eG,hI,_,_,hP,_,_⟩:=hGV;obtain ⟨⟨rfl,rfl⟩,rfl,rfl⟩:(A3=A/\k3=k)/\A4=A2'/\k4=k2':=by simpa using eG
 have hids:=hg.ids;have hle:=hg.le;have hvi:v<g.ids.length:=by omega
 have hbkl:(aJt g).length=g.ports.length:=by simp [aJt]
 have hbkv:(aJt g)[v]'(by omega)=aCr g v:=by simp [aJt]
 obtain ⟨b1,o1,rfl,hb1,hid⟩:=hI.at_ v hvi;obtain ⟨b2,o2,R,rc,rfl,hb2,hrow,hL,_,_⟩:=hP.at_ v hv;obtain ⟨b6,o6,R6,rc6,e6,hb6,hrow6,hL6,hn6,hm6⟩:=hBK.at_ v (by omega)
 obtain ⟨rfl,rfl⟩:gb=b6/\0=o6:=by simpa using e6
 rw [hbkv] at hrow6 hL6;clear hn6 hm6;rw [Nat.zero_add] at hrow6;have hdv:decide (v<g.ports.length)=true:=by simpa using hv
 have hdi:decide (v<g.ids.length)=true:=by simpa using hvi
 have hbr:(aCr g v).length=g.ports[v].length:=by unfold aCr;rw [aAa hv,List.length_map]
 rw [hbr] at hrow6;have HID:=aA0 hids;have HBR:=aA0 hbr;clear hids hB eG e6 hbkv hbr
 rcases aWu hop with (rfl | rfl | rfl | rfl | rfl | rfl) | hnear
 .have HF:Hid (aD8 g 6 v port=g.ids.length):=rfl
  clear hI hP hb hp hop hBK hL6 hL;go_enter func180,ntmps180;go_wp2;go_ret;exact ⟨aA5 HF.out.symm,Bel.refl _⟩
 .clear hI hP hb hp hop hBK hL6 hL
  have HF:Hid (aD8 g 7 v port=aDf g.ids):=rfl;go_enter func180,ntmps180;go_wp2;go_ret;exact ⟨aA5 HF.out.symm,Bel.refl _⟩
 .have HF:Hid (aD8 g 8 v port=g.ids[v]):=aAa hvi
  clear hI hP hb hp hop hBK hL6 hL;go_enter func180,ntmps180;go_wp2;go_ret;exact ⟨aA5 HF.out.symm,Bel.refl _⟩
 .have HF:Hid (aD8 g 9 v port=(g.ports[v].length:Int)):=by show aD8 g 9 v port=_;rw [<- aAa (d:=[]) hv];rfl
  clear hI hP hb hp hop hBK hL6 hL;go_enter func180,ntmps180;go_wp2;go_ret;exact ⟨aA5 HF.out.symm,Bel.refl _⟩
 .have HF:Hid (aD8 g 10 v port=aBg (decide (v=0))):=rfl
  obtain ⟨z,hz⟩:∃ z,decide (v=0)=z:=⟨_,rfl⟩;rw [hz] at HF;have hz1:((v:Int)==0)=z:=by rw [<- hz,Bool.eq_iff_iff];simp
  have hz2:(v==0)=z:=by rw [<- hz,Bool.eq_iff_iff];simp
  clear hI hP hb hp hop hz hBK hL6 hL;go_enter func180,ntmps180
  go_wp2_with (go_at_call 181;refine (aDk _ _).mono ?_;rintro e w' ⟨rfl,rfl⟩)
  go_ret;exact ⟨aA5 HF.out.symm,Bel.refl _⟩
 .have HF:Hid (aD8 g 11 v port=port):=rfl
  clear hI hP hb hp hop hBK hL6 hL;go_enter func180,ntmps180;go_wp2;go_ret;exact ⟨aA5 HF.out.symm,Bel.refl _⟩
 .obtain ⟨q,rfl,hq⟩:=hp (hb (by unfold aCw;simp;omega))
  rw [aAa hv] at hq;obtain ⟨e,t,ht,htl,_⟩:=aJg hg hv hq;obtain ⟨b3,o3,rfl,hb3,hto,hwe⟩:=hL.at_ q hq;have hti:t<g.ids.length:=by rw [HID.out];exact htl
  obtain ⟨b4,o4,e4,_,hid4⟩:=hI.at_ t hti;obtain ⟨rfl,rfl⟩:b1=b4/\o1=o4:=by simpa using e4
  obtain ⟨b5,o5,R5,rc5,e5,_,hrow5,_,_,_⟩:=hP.at_ t htl;obtain ⟨rfl,rfl⟩:b2=b5/\o2=o5:=by simpa using e5
  obtain ⟨b7,o7,rfl,hb7,hbk⟩:=hL6.at_ q (by rw [HBR.out];exact hq)
  have hbe:(aCr g v)[q]'(by rw [HBR.out];exact hq)=aDj g.ports[t] v:=by
   have:(aCr g v)[q]?=some (aDj g.ports[t] v):=by
    unfold aCr;rw [aAa hv,List.getElem?_map,List.getElem?_eq_getElem hq];simp only [Option.map_some]
    rw [ht,Int.toNat_natCast,aAa htl]
   exact (List.getElem?_eq_some_iff.1 this).2
  rw [hbe] at hbk;rw [ht] at hto;have hdt:decide (t<g.ports.length)=true:=by simpa using htl
  have hdti:decide (t<g.ids.length)=true:=by simpa using hti
  have hdq:decide (q<g.ports[v].length)=true:=by simpa using hq
  have HE:=aA0 e;have HT:=aA0 ht;clear hI hP hb hp hop e4 e5 e ht hL hBK hL6 hbe
  rcases hnear with rfl | rfl | rfl | rfl | rfl
  .have HF:Hid (aD8 g 13 v (q:Int)=g.ids[t]):=by show g.ids.getD (aGk g v q).to.toNat 0=_;rw [HE.out,HT.out,Int.toNat_natCast,aAa hti]
   go_enter func180,ntmps180
   go_wp2_with fail
   go_quiet (fail)
   go_wp2_with fail
   go_ret;exact ⟨aA5 HF.out.symm,(((Bel.refl w).alloc _).drewN _)⟩
  .have HF:Hid (aD8 g 14 v (q:Int)=(g.ports[t].length:Int)):=by show ((g.ports.getD (aGk g v q).to.toNat []).length:Int)=_;rw [HE.out,HT.out,Int.toNat_natCast,aAa htl]
   go_enter func180,ntmps180
   go_wp2_with fail
   go_quiet (fail)
   go_wp2_with fail
   go_ret;exact ⟨aA5 HF.out.symm,(((Bel.refl w).alloc _).drewN _)⟩
  .have HF:Hid (aD8 g 15 v (q:Int)=aBg (decide ((t:Int)=0))):=by show aBg (decide ((aGk g v q).to=0))=_;rw [HE.out,HT.out]
   obtain ⟨z,hz⟩:∃ z,decide ((t:Int)=0)=z:=⟨_,rfl⟩;rw [hz] at HF;have hz1:((t:Int)==0)=z:=by rw [<- hz,Bool.eq_iff_iff];simp
   have hz2:(t==0)=z:=by rw [<- hz,Bool.eq_iff_iff];simp
   clear hz;go_enter func180,ntmps180
   go_wp2_with (go_at_call 181;refine (aDk _ _).mono ?_;rintro e w' ⟨rfl,rfl⟩)
   go_ret;exact ⟨aA5 HF.out.symm,((Bel.refl w).alloc _)⟩
  .have HF:Hid (aD8 g 16 v (q:Int)=g.ports[v][q].weight):=by show (aGk g v q).weight=_;rw [HE.out]
   go_enter func180,ntmps180;go_wp2;go_ret;exact ⟨aA5 HF.out.symm,((Bel.refl w).alloc _)⟩
  .have HF:Hid (aD8 g 17 v (q:Int)=aDj g.ports[t] v):=by show aDj (g.ports.getD (aGk g v q).to.toNat []) v=_;rw [HE.out,HT.out,Int.toNat_natCast,aAa htl]
   go_enter func180,ntmps180;go_wp2;go_ret;exact ⟨aA5 HF.out.symm,((Bel.refl w).alloc _)⟩
end Go.Proofs.YtdcjnhoabbdanaaGreatDoor

