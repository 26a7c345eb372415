/- Merged. -/
import Derived.Test.YtdcjnhoabbdanaaGreatDoorZ12
import Derived.Test.YtdcjnhoabbdanaaGreatDoorZ11
set_option linter.unusedSimpArgs false
set_option linter.unnecessarySimpa false
set_option linter.unusedVariables false
set_option maxRecDepth 100000
set_option maxHeartbeats 4000000
open Go.Proofs.Tryz

namespace Go.Proofs.YtdcjnhoabbdanaaGreatDoor
open Go.RowKit
theorem aWp (v:Value) (p:Prg) (w:World) (h:aEm w v p) (hL:aAw p=true) :
  Calls prog 121 #[v] w fun e w'=>e = .returned (.int .i64 (aBq p))/\Bel w w':=by
 have HPV:=aA0 (fun w' (k:Bel w w')=>h.keep k);obtain ⟨A,k,A2,k2,rfl,hV,_,_,hR,_,_⟩:=h;have HV:=aA0 (fun w' (k:Bel w w')=>aHs.keep hV k);clear hV;have HR:=aA0 (fun w' (k:Bel w w')=>aFe.keep hR k);clear hR;obtain ⟨p1,p2,p3,p4,p5⟩:=aB7 hL;have HP5:=aA0 p5;have HL:=aA0 hL;clear p4 p5 hL;have HB:=Bel.refl (w.alloc (.cells #[.string p.name,.slice A p.vars.length k,.slice A2 p.rules.length k2] 25))
 by_cases hn:1<=p.vars.length/\p.vars.length<=6/\p.rules.length<=12
 .obtain ⟨n1,n2,n3⟩:=hn
  have hz:((p.vars.length:Int)==0)=false:=aK0 n1;have hz':(p.vars.length==0)=false:=aK8 n1;have hz2:decide (6<p.vars.length)=false:=by simp;omega
  have hz3:decide (12<p.rules.length)=false:=by simp;omega
  have HC1:Hid (aBq p=if aCq p=false then 5 else if p.vars.all aBu=false then 2 else if p.rules.all (aC4 p.vars.length)=false then 7 else if p.rules.all (aC1 (aBo p))=false then 6 else 0):=by
   show aBq p=_
   unfold aBq;rw [if_neg (by omega)]
  cases hnm:aCq p with
  | false =>
   rw [hnm,if_pos rfl] at HC1;go_enter func121,ntmps121
   go_wp2_with (go_at_call 139;refine (aRa _ p _ (HPV.out _ (aA4 HB)) HL.out).mono ?_;rintro e w' ⟨rfl,hb⟩;rw [hnm];replace HB:=HB.trans hb;clear hb)
   go_ret;exact ⟨aA5 HC1.out.symm,aA4 HB⟩
  | true =>
   rw [hnm,if_neg (by decide)] at HC1
   have HNM:=aA0 hnm;clear hnm;go_enter func121,ntmps121
   go_wp2_with (go_at_call 139;refine (aRa _ p _ (HPV.out _ (aA4 HB)) HL.out).mono ?_;rintro e w' ⟨rfl,hb⟩;rw [HNM.out];replace HB:=HB.trans hb;clear hb;have q1:=aA9 HB 1 rfl;have q2:=aAx HB)
   clear hz hz' hz2 hz3 q1 q2
   go_loopg [4,32] p.vars.length (fun m _x z wr=>∃ j:Nat,j<=p.vars.length/\m=p.vars.length-j/\z = .int .i64 j/\Hid ((p.vars.take j).all aBu=true)/\Bel (w.alloc (.cells #[.string p.name,.slice A p.vars.length k,.slice A2 p.rules.length k2] 25)) wr)
   case atStart=>exact ⟨0,by omega,rfl,rfl,rfl,HB⟩
   case round =>
    clear HB;obtain ⟨i,hi,rfl,rfl,HJ,HB⟩:=hrel
    by_cases hlt:i<p.vars.length
    .have hd0:decide (i<p.vars.length)=true:=by simpa using hlt
     obtain ⟨b,o,rfl,hb,c0,c1,c2,c3,c4,c5⟩:=(HV.out _ (aA4 HB)).at_ i hlt;have HB2:=HB.alloc (.cells #[.string p.vars[i].name,.int .i64 p.vars[i].kind,.int .i64 p.vars[i].lo,.int .i64 p.vars[i].hi,.int .i64 p.vars[i].perNode,.int .i64 p.vars[i].perID] 100);cases hnn:aBu p.vars[i] with
     | false =>
      rw [aAo hlt hnn,if_pos rfl] at HC1
      go_wp2_with (go_at_call 140;refine (aNb p.vars[i] _).mono ?_;rintro e w' ⟨rfl,hbb⟩;rw [hnn];replace HB2:=HB2.trans hbb;clear hbb)
      go_ret;exact ⟨aA5 HC1.out.symm,aA4 HB2⟩
     | true =>
      have HN:=aA0 (aAb hlt HJ.out hnn);have HNN:=aA0 hnn;clear hnn
      go_wp2_with (go_at_call 140;refine (aNb p.vars[i] _).mono ?_;rintro e w' ⟨rfl,hbb⟩;rw [HNN.out];replace HB2:=HB2.trans hbb;clear hbb)
      go_roundg (p.vars.length-(i+1))
      case rel=>exact ⟨i+1,by omega,rfl,by go_num,HN,HB2⟩
      case measure=>omega
    .have hd0:decide (i<p.vars.length)=false:=by simpa using hlt
     rw [aAq (by omega) HJ.out,if_neg (by decide)] at HC1
     have HNA:=aA0 (aN1 (aAq (by omega) HJ.out))
     have q1:=aA9 HB 2 rfl;have q2:=aAx HB;clear HJ
     go_wp2_with fail
     clear hd0 q1 q2 hi hlt
     go_loopg [6,43] p.rules.length (fun m _x z wr=>∃ j:Nat,j<=p.rules.length/\m=p.rules.length-j/\z = .int .i64 j/\Hid ((p.rules.take j).all (aC4 p.vars.length)=true)/\Bel (w.alloc (.cells #[.string p.name,.slice A p.vars.length k,.slice A2 p.rules.length k2] 25)) wr)
     case atStart=>exact ⟨0,by omega,rfl,rfl,rfl,HB⟩
     case round =>
      clear HB;obtain ⟨i,hi,rfl,rfl,HJ,HB⟩:=hrel;have q1:=aA9 HB 1 rfl;have q2:=aAx HB
      by_cases hlt:i<p.rules.length
      .have hd0:decide (i<p.rules.length)=true:=by simpa using hlt
       have HLr:=aA0 (HP5.out _ (List.getElem_mem hlt));obtain ⟨b,o,G,c,S,c2,rfl,hb,c0,c1,c2',hRV⟩:=(HR.out _ (aA4 HB)).at_V i hlt;have HB2:=HB.alloc (.cells #[.string p.rules[i].name,.slice G p.rules[i].guard.length c,.slice S p.rules[i].sets.length c2] 93);have HRV:=aA0 (hRV.keep ((Bel.refl wr).alloc (.cells #[.string p.rules[i].name,.slice G p.rules[i].guard.length c,.slice S p.rules[i].sets.length c2] 93)));clear hRV;cases hff:aC4 p.vars.length p.rules[i] with
       | false =>
        rw [aAo hlt hff,if_pos rfl] at HC1
        go_wp2_with (go_at_call 141;refine (aOk _ p.rules[i] p.vars.length _ HRV.out (by omega) HLr.out).mono ?_;rintro e w' ⟨rfl,hbb⟩;rw [hff];replace HB2:=HB2.trans hbb;clear hbb)
        go_ret;exact ⟨aA5 HC1.out.symm,aA4 HB2⟩
       | true =>
        have HN:=aA0 (aAb hlt HJ.out hff);have HFF:=aA0 hff;clear hff
        go_wp2_with (go_at_call 141;refine (aOk _ p.rules[i] p.vars.length _ HRV.out (by omega) HLr.out).mono ?_;rintro e w' ⟨rfl,hbb⟩;rw [HFF.out];replace HB2:=HB2.trans hbb;clear hbb)
        go_roundg (p.rules.length-(i+1))
        case rel=>exact ⟨i+1,by omega,rfl,by go_num,HN,HB2⟩
        case measure=>omega
      .have hd0:decide (i<p.rules.length)=false:=by simpa using hlt
       have HALL:=aA0 (aAq (by omega) HJ.out)
       rw [HALL.out,if_neg (by decide)] at HC1
       have q0:=aA9 HB 0 rfl;have q3:=aA9 HB 2 rfl;clear HJ
       go_wp2_with (go_at_call 142;refine (aX8 _ p _ (HPV.out _ (aA4 HB)) (by omega)).mono ?_;rintro e w' ⟨KA,kc,rfl,hK,_,_,hbb⟩;replace HB:=HB.trans hbb;clear hbb q0 q1 q3 q2;have q3:=aA9 HB 2 rfl;have q2:=aAx HB)
       have HK:=aA0 (fun w2 (k:Bel w' w2)=>aBr.keep hK k);clear hK;have HW:=Bel.refl w';clear hd0 q3 q2 hi hlt
       go_loopg [9,59] p.rules.length (fun m _x z wr=>∃ j:Nat,j<=p.rules.length/\m=p.rules.length-j/\z = .int .i64 j/\Hid ((p.rules.take j).all (aC1 (aBo p))=true)/\Bel w' wr)
       case atStart=>exact ⟨0,by omega,rfl,rfl,rfl,HW⟩
       case round =>
        clear HW;obtain ⟨i,hi,rfl,rfl,HJ,HW⟩:=hrel
        by_cases hlt:i<p.rules.length
        .have hd0:decide (i<p.rules.length)=true:=by simpa using hlt
         have HLr:=aA0 (HP5.out _ (List.getElem_mem hlt));have hfo:=(aEd _ _).1 (List.all_eq_true.1 HALL.out _ (List.getElem_mem hlt));rw [<- aDa p] at hfo;have HFO:=aA0 hfo;clear hfo;obtain ⟨b,o,G,c,S,c2,rfl,hb,c0,c1,c2',hRV⟩:=(HR.out _ ((aA4 HB).trans HW)).at_V i hlt;have HW2:=HW.alloc (.cells #[.string p.rules[i].name,.slice G p.rules[i].guard.length c,.slice S p.rules[i].sets.length c2] 93);have HRV:=aA0 (hRV.keep ((Bel.refl wr).alloc (.cells #[.string p.rules[i].name,.slice G p.rules[i].guard.length c,.slice S p.rules[i].sets.length c2] 93)));clear hRV;cases htv:aC1 (aBo p) p.rules[i] with
         | false =>
          rw [aAo hlt htv,if_pos rfl] at HC1
          go_wp2_with (go_at_call 143;refine (aSa _ p.rules[i] _ _ (aBo p) _ HRV.out (HK.out _ HW2) (by rw [aDa];exact n2) HNA.out HFO.out HLr.out).mono ?_;rintro e w2 ⟨rfl,hbb⟩;rw [htv];replace HW2:=HW2.trans hbb;clear hbb)
          go_ret;exact ⟨aA5 HC1.out.symm,(aA4 HB).trans HW2⟩
         | true =>
          have HN:=aA0 (aAb hlt HJ.out htv);have HTV:=aA0 htv;clear htv
          go_wp2_with (go_at_call 143;refine (aSa _ p.rules[i] _ _ (aBo p) _ HRV.out (HK.out _ HW2) (by rw [aDa];exact n2) HNA.out HFO.out HLr.out).mono ?_;rintro e w2 ⟨rfl,hbb⟩;rw [HTV.out];replace HW2:=HW2.trans hbb;clear hbb)
          go_roundg (p.rules.length-(i+1))
          case rel=>exact ⟨i+1,by omega,rfl,by go_num,HN,HW2⟩
          case measure=>omega
        .have hd0:decide (i<p.rules.length)=false:=by simpa using hlt
         rw [aAq (by omega) HJ.out,if_neg (by decide)] at HC1
         go_wp2_with fail
         go_ret;exact ⟨aA5 HC1.out.symm,(aA4 HB).trans HW⟩
 .have HF:Hid (aBq p=3):=by show aBq p=3;unfold aBq;rw [if_pos hn]
  rcases (show p.vars.length=0∨6<p.vars.length∨(1<=p.vars.length/\p.vars.length<=6/\12<p.rules.length) by omega) with h0 | h0 | ⟨h0,h1,h2⟩
  .have hz:((p.vars.length:Int)==0)=true:=by simp [h0]
   have hz':(p.vars.length==0)=true:=by simp [h0]
   clear hn;have HH:=aA0 h0;clear h0;go_enter func121,ntmps121
   go_wp2_with fail
   go_ret;exact ⟨aA5 HF.out.symm,aA4 HB⟩
  .have hz:((p.vars.length:Int)==0)=false:=aK0 (by omega)
   have hz':(p.vars.length==0)=false:=aK8 (by omega)
   have hz2:decide (6<p.vars.length)=true:=by simpa using h0
   clear hn;go_enter func121,ntmps121
   go_wp2_with fail
   go_ret;exact ⟨aA5 HF.out.symm,aA4 HB⟩
  .have hz:((p.vars.length:Int)==0)=false:=aK0 h0
   have hz':(p.vars.length==0)=false:=aK8 h0;have hz2:decide (6<p.vars.length)=false:=by simp;omega
   have hz3:decide (12<p.rules.length)=true:=by simpa using h2
   clear hn;go_enter func121,ntmps121
   go_wp2_with fail
   go_ret;exact ⟨aA5 HF.out.symm,aA4 HB⟩
theorem aI4 (v:Value) (p:Prg) (w:World) (h:aEm w v p) (hL:aAw p=true) :
  Calls prog 101 #[v] w fun e w'=>e = .returned (.bool (decide (aBq p=0)))/\Bel w w':=by
 have HPV:=aA0 (fun w' (k:Bel w w')=>h.keep k);obtain ⟨A,k,A2,k2,rfl,_,_,_,_,_,_⟩:=h;have HB:=(Bel.refl w).alloc (.cells #[.string p.name,.slice A p.vars.length k,.slice A2 p.rules.length k2] 25);go_enter func101,ntmps101
 go_wp2_with (go_at_call 121;refine (aWp _ p _ (HPV.out _ HB) hL).mono ?_;rintro e w' ⟨rfl,hb⟩;replace HB:=HB.trans hb;clear hb)
 go_ret;exact ⟨aA2 (by rw [Bool.eq_iff_iff];simp),HB⟩
theorem aT9 {n:Nat} (h:1<=n):decide (n<1)=false:=by simp;omega
theorem aT5 {n:Nat} (h:1<=n):decide ((n:Int)<1)=false:=by simp;omega
theorem aZe {n:Nat} (h:n<1):decide (n<1)=true:=by simp;omega
theorem aZ5 {n:Nat} (h:n<1):decide ((n:Int)<1)=true:=by simp;omega
theorem aIy (v:Value) (g:Graph) (w:World) (h:aAn w v g) (hlg:aB3 g=true) :
  Calls prog 102 #[v] w fun e w'=>e = .returned (.bool (aEa g))/\Bel w w':=by
 obtain ⟨A,k,A2,k2,rfl,hI,_,_,hP,_,_⟩:=h;have HI:=aA0 (fun w' (k:Bel w w')=>aBr.keep hI k);clear hI;have HP:=aA0 (fun w' (k:Bel w w')=>aF3.keep hP k);clear hP;obtain ⟨hl1,hl2,hl3⟩:=aD5 hlg;have HL3:=aA0 hl3;clear hl3 hlg;have HG:=aA0 (aV6 g);have HB:=Bel.refl (w.alloc (.cells #[.slice A g.ids.length k,.slice A2 g.ports.length k2] 29))
 by_cases hn:1<=g.ports.length/\g.ports.length<=24/\g.ids.length=g.ports.length
 .have hd1:decide (g.ids.length<1)=false:=aT9 (by omega)
  have hd2:decide (24<g.ids.length)=false:=by simp;omega
  have hd3:(g.ports.length != g.ids.length)=false:=by simp;omega
  have hd3':((g.ports.length:Int) != (g.ids.length:Int))=false:=by simp;omega
  have hd1':decide ((g.ids.length:Int)<1)=false:=aT5 (by omega)
  rw [decide_eq_true hn] at HG;have hn1:1<=g.ids.length:=by omega
  have hn2:g.ids.length<=24:=by omega
  clear hn;cases hi:aO4 g.ids with
  | false =>
   go_enter func102,ntmps102
   go_wp2_with (go_at_call 122;refine (aHj _ _ g.ids _ (HI.out _ (aA4 HB)) (by omega)).mono ?_;rintro e w' ⟨rfl,hb⟩;rw [hi];replace HB:=HB.trans hb;clear hb)
   go_ret;exact ⟨aA2 (by rw [HG.out,hi];rfl),aA4 HB⟩
  | true =>
   have HII:=aA0 hi;clear hi;go_enter func102,ntmps102
   go_wp2_with (first
    | (go_at_call 122;refine (aHj _ _ g.ids _ (HI.out _ (aA4 HB)) (by omega)).mono ?_;rintro e w' ⟨rfl,hb⟩;rw [HII.out];replace HB:=HB.trans hb;clear hb;have q1:=aA9 HB 1 rfl;have q2:=aAx HB)
    | (go_at_call 123;refine (aQe _ _ g.ports _ (HP.out _ (aA4 HB)) (by omega) HL3.out).mono ?_;rintro e w' ⟨rfl,hb⟩;replace HB:=HB.trans hb;clear hb))
   go_ret;exact ⟨aA2 (by rw [HG.out,HII.out];rfl),aA4 HB⟩
 .rw [decide_eq_false hn] at HG
  by_cases h1:g.ids.length<1
  .have hd1:decide (g.ids.length<1)=true:=aZe h1
   have hd1':decide ((g.ids.length:Int)<1)=true:=aZ5 h1;clear hn;go_enter func102,ntmps102
   go_wp2_with fail
   go_ret;exact ⟨aA2 (by rw [HG.out];rfl),aA4 HB⟩
  .have hd1:decide (g.ids.length<1)=false:=aT9 (by omega)
   have hd1':decide ((g.ids.length:Int)<1)=false:=aT5 (by omega)
   by_cases h2:24<g.ids.length
   .have hd2:decide (24<g.ids.length)=true:=by simpa using h2
    clear hn;go_enter func102,ntmps102
    go_wp2_with fail
    go_ret;exact ⟨aA2 (by rw [HG.out];rfl),aA4 HB⟩
   .have hd2:decide (24<g.ids.length)=false:=by simpa using h2
    have hd3:(g.ports.length != g.ids.length)=true:=by simp;omega
    have hd3':((g.ports.length:Int) != (g.ids.length:Int))=true:=by simp;omega
    clear hn;go_enter func102,ntmps102
    go_wp2_with fail
    go_ret;exact ⟨aA2 (by rw [HG.out];rfl),aA4 HB⟩
theorem aGf {l:List Int} {k:Nat} (h:k<l.length):aDf (l.take (k+1))=max (aDf (l.take k)) l[k]:=by
 unfold aDf;rw [List.take_succ_eq_append_getElem h,List.foldl_append];rfl
theorem aQc (A:Option Addr) (c:Nat) (ids:List Int) (w:World) (h:aBr w A ids.length ids) (hl:ids.length<=1000) (hp:1<=ids.length) (h0:∀ i∈ids,0<=i) :
  Calls prog 125 #[.slice A ids.length c] w fun e w'=>e = .returned (.int .i64 (aDf ids))/\w=w':=by
 have H:=aA0 h;clear h;have hz:decide (ids.length<1)=false:=aT9 hp;have hz':decide ((ids.length:Int)<1)=false:=aT5 hp;obtain ⟨b,o,rfl,hb,hc⟩:=H.out.at_ 0 (by omega)
 have hpos:0<ids.length:=by omega
 simp only [Nat.add_zero] at hc
 have HS:Hid (aDf (ids.take 1)=ids[0]):=by
  show aDf (ids.take 1)=ids[0]
  rw [aGf (k:=0) (by omega)]
  have:=h0 ids[0] (List.getElem_mem _);simp [aDf];omega
 clear h0;go_enter func125,ntmps125;go_wp2;clear hz hz' hc
 go_loopg [3,4] (ids.length-1) (fun m s z wr=>∃ j:Nat,j<=ids.length/\m=ids.length-j/\z = .int .i64 j/\s = .int .i64 (aDf (ids.take j))/\w=wr)
 case atStart=>exact ⟨1,by omega,rfl,rfl,by rw [HS.out],rfl⟩
 case round =>
  obtain ⟨j,hj,rfl,rfl,rfl,rfl⟩:=hrel
  by_cases hlt:j<ids.length
  .have hd0:decide (j<ids.length)=true:=by simpa using hlt
   obtain ⟨b',o',e',_,hc⟩:=H.out.at_ j hlt;obtain ⟨rfl,rfl⟩:b=b'/\o=o':=by simpa using e'
   have HN:=aA0 (aGf hlt);generalize aDf (ids.take j)=G at *;obtain ⟨m,hm,hm'⟩:=aJf G ids[j];have HM:=aA0 hm';clear hm' e';go_wp2
   go_roundg (ids.length-(j+1))
   case rel=>exact ⟨j+1,by omega,rfl,by go_num,by rw [HN.out,<- HM.out],rfl⟩
   case measure=>omega
  .have hd0:decide (j<ids.length)=false:=by simpa using hlt
   go_wp2;go_ret;exact ⟨aA5 (by rw [List.take_of_length_le (by omega)]),rfl⟩
theorem aLc (v:Value) (g:Graph) (w:World) (h:aAn w v g) (hl:g.ids.length<=1000) :
  Calls prog 115 #[v] w fun e w'=>e = .returned (.int .i64 (aDf g.ids))/\Bel w w':=by
 obtain ⟨A,k,A2,k2,rfl,hI,_,_,hP,_,_⟩:=h;have H:=aA0 hI;clear hI hP;go_enter func115,ntmps115;go_wp2
 go_loopg [3,4] g.ids.length (fun m s z wr=>∃ j:Nat,j<=g.ids.length/\m=g.ids.length-j/\z = .int .i64 j/\s = .int .i64 (aDf (g.ids.take j))/\w.alloc (.cells #[.slice A g.ids.length k,.slice A2 g.ports.length k2] 29)=wr)
 case atStart=>exact ⟨0,by omega,rfl,rfl,rfl,rfl⟩
 case round =>
  obtain ⟨j,hj,rfl,rfl,rfl,rfl⟩:=hrel
  by_cases hlt:j<g.ids.length
  .have hd0:decide (j<g.ids.length)=true:=by simpa using hlt
   obtain ⟨b,o,rfl,hb,hc⟩:=H.out.at_ j hlt;have HN:=aA0 (aGf hlt);generalize aDf (g.ids.take j)=G at *;obtain ⟨m,hm,hm'⟩:=aJf G g.ids[j];have HM:=aA0 hm';clear hm';go_wp2
   go_roundg (g.ids.length-(j+1))
   case rel=>exact ⟨j+1,by omega,rfl,by go_num,by rw [HN.out,<- HM.out],rfl⟩
   case measure=>omega
  .have hd0:decide (j<g.ids.length)=false:=by simpa using hlt
   go_wp2;go_ret;exact ⟨aA5 (by rw [List.take_of_length_le (by omega)]),(Bel.refl _).alloc _⟩
end Go.Proofs.YtdcjnhoabbdanaaGreatDoor

