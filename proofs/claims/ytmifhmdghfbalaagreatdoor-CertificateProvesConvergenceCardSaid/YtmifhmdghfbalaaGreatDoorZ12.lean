/- Merged. -/
import Derived.Test.YtmifhmdghfbalaaGreatDoorZ11
set_option linter.unusedSimpArgs false
set_option linter.unnecessarySimpa false
set_option linter.unusedVariables false
set_option maxRecDepth 100000
set_option maxHeartbeats 4000000
open Go.Proofs.Tryz

namespace Go.Proofs.YtmifhmdghfbalaaGreatDoor
open Go.RowKit
theorem bFe (v:Value) (p:Prg) (w:World) (h:aE0 w v p) (hL:aAt p=true) :
  Calls prog 154 #[v] w fun e w'=>e = .returned (.int .i64 (aBm p))/\Bel w w':=by
 have HPV:=aA1 (fun w' (k:Bel w w')=>h.keep k);obtain ⟨A,k,A2,k2,rfl,hV,_,_,hR,_,_⟩:=h;have HV:=aA1 (fun w' (k:Bel w w')=>aKh.keep hV k);clear hV;have HR:=aA1 (fun w' (k:Bel w w')=>aHg.keep hR k);clear hR;obtain ⟨p1,p2,p3,p4,p5⟩:=aAi hL;have HP5:=aA1 p5;have HL:=aA1 hL;clear p4 p5 hL;have HB:=Bel.refl (w.alloc (.cells #[.string p.name,.slice A p.vars.length k,.slice A2 p.rules.length k2] 25))
 by_cases hn:1<=p.vars.length/\p.vars.length<=6/\p.rules.length<=12
 .obtain ⟨n1,n2,n3⟩:=hn
  have hz:((p.vars.length:Int)==0)=false:=aNb n1;have hz':(p.vars.length==0)=false:=aNk n1;have hz2:decide (6<p.vars.length)=false:=by simp;omega
  have hz3:decide (12<p.rules.length)=false:=by simp;omega
  have HC1:Hid (aBm p=if aDh p=false then 5 else if p.vars.all aCc=false then 2 else if p.rules.all (aCv p.vars.length)=false then 7 else if p.rules.all (aCt (aAx p))=false then 6 else 0):=by
   show aBm p=_
   unfold aBm;rw [if_neg (by omega)]
  cases hnm:aDh p with
  | false =>
   rw [hnm,if_pos rfl] at HC1;go_enter func154,ntmps154
   go_wp2_with (go_at_call 206;refine (aXz _ p _ (HPV.out _ (aA3 HB)) HL.out).mono ?_;rintro e w' ⟨rfl,hb⟩;rw [hnm];replace HB:=HB.trans hb;clear hb)
   go_ret;exact ⟨aA4 HC1.out.symm,aA3 HB⟩
  | true =>
   rw [hnm,if_neg (by decide)] at HC1
   have HNM:=aA1 hnm;clear hnm;go_enter func154,ntmps154
   go_wp2_with (go_at_call 206;refine (aXz _ p _ (HPV.out _ (aA3 HB)) HL.out).mono ?_;rintro e w' ⟨rfl,hb⟩;rw [HNM.out];replace HB:=HB.trans hb;clear hb;have q1:=aA9 HB 1 rfl;have q2:=aAz HB)
   clear hz hz' hz2 hz3 q1 q2
   go_loopg [4,32] p.vars.length (fun m _x z wr=>∃ j:Nat,j<=p.vars.length/\m=p.vars.length-j/\z = .int .i64 j/\Hid ((p.vars.take j).all aCc=true)/\Bel (w.alloc (.cells #[.string p.name,.slice A p.vars.length k,.slice A2 p.rules.length k2] 25)) wr)
   case atStart=>exact ⟨0,by omega,rfl,rfl,rfl,HB⟩
   case round =>
    clear HB;obtain ⟨i,hi,rfl,rfl,HJ,HB⟩:=hrel
    by_cases hlt:i<p.vars.length
    .have hd0:decide (i<p.vars.length)=true:=by simpa using hlt
     obtain ⟨b,o,rfl,hb,c0,c1,c2,c3,c4,c5⟩:=(HV.out _ (aA3 HB)).at_ i hlt;have HB2:=HB.alloc (.cells #[.string p.vars[i].name,.int .i64 p.vars[i].kind,.int .i64 p.vars[i].lo,.int .i64 p.vars[i].hi,.int .i64 p.vars[i].perNode,.int .i64 p.vars[i].perID] 159);cases hnn:aCc p.vars[i] with
     | false =>
      rw [aAv hlt hnn,if_pos rfl] at HC1
      go_wp2_with (go_at_call 207;refine (aRn p.vars[i] _).mono ?_;rintro e w' ⟨rfl,hbb⟩;rw [hnn];replace HB2:=HB2.trans hbb;clear hbb)
      go_ret;exact ⟨aA4 HC1.out.symm,aA3 HB2⟩
     | true =>
      have HN:=aA1 (aAb hlt HJ.out hnn);have HNN:=aA1 hnn;clear hnn
      go_wp2_with (go_at_call 207;refine (aRn p.vars[i] _).mono ?_;rintro e w' ⟨rfl,hbb⟩;rw [HNN.out];replace HB2:=HB2.trans hbb;clear hbb)
      go_roundg (p.vars.length-(i+1))
      case rel=>exact ⟨i+1,by omega,rfl,by go_num,HN,HB2⟩
      case measure=>omega
    .have hd0:decide (i<p.vars.length)=false:=by simpa using hlt
     rw [aAy (by omega) HJ.out,if_neg (by decide)] at HC1
     have HNA:=aA1 (aR8 (aAy (by omega) HJ.out))
     have q1:=aA9 HB 2 rfl;have q2:=aAz HB;clear HJ
     go_wp2_with fail
     clear hd0 q1 q2 hi hlt
     go_loopg [6,43] p.rules.length (fun m _x z wr=>∃ j:Nat,j<=p.rules.length/\m=p.rules.length-j/\z = .int .i64 j/\Hid ((p.rules.take j).all (aCv p.vars.length)=true)/\Bel (w.alloc (.cells #[.string p.name,.slice A p.vars.length k,.slice A2 p.rules.length k2] 25)) wr)
     case atStart=>exact ⟨0,by omega,rfl,rfl,rfl,HB⟩
     case round =>
      clear HB;obtain ⟨i,hi,rfl,rfl,HJ,HB⟩:=hrel;have q1:=aA9 HB 1 rfl;have q2:=aAz HB
      by_cases hlt:i<p.rules.length
      .have hd0:decide (i<p.rules.length)=true:=by simpa using hlt
       have HLr:=aA1 (HP5.out _ (List.getElem_mem hlt));obtain ⟨b,o,G,c,S,c2,rfl,hb,c0,c1,c2',hRV⟩:=(HR.out _ (aA3 HB)).at_V i hlt;have HB2:=HB.alloc (.cells #[.string p.rules[i].name,.slice G p.rules[i].guard.length c,.slice S p.rules[i].sets.length c2] 154);have HRV:=aA1 (hRV.keep ((Bel.refl wr).alloc (.cells #[.string p.rules[i].name,.slice G p.rules[i].guard.length c,.slice S p.rules[i].sets.length c2] 154)));clear hRV;cases hff:aCv p.vars.length p.rules[i] with
       | false =>
        rw [aAv hlt hff,if_pos rfl] at HC1
        go_wp2_with (go_at_call 208;refine (aTk _ p.rules[i] p.vars.length _ HRV.out (by omega) HLr.out).mono ?_;rintro e w' ⟨rfl,hbb⟩;rw [hff];replace HB2:=HB2.trans hbb;clear hbb)
        go_ret;exact ⟨aA4 HC1.out.symm,aA3 HB2⟩
       | true =>
        have HN:=aA1 (aAb hlt HJ.out hff);have HFF:=aA1 hff;clear hff
        go_wp2_with (go_at_call 208;refine (aTk _ p.rules[i] p.vars.length _ HRV.out (by omega) HLr.out).mono ?_;rintro e w' ⟨rfl,hbb⟩;rw [HFF.out];replace HB2:=HB2.trans hbb;clear hbb)
        go_roundg (p.rules.length-(i+1))
        case rel=>exact ⟨i+1,by omega,rfl,by go_num,HN,HB2⟩
        case measure=>omega
      .have hd0:decide (i<p.rules.length)=false:=by simpa using hlt
       have HALL:=aA1 (aAy (by omega) HJ.out)
       rw [HALL.out,if_neg (by decide)] at HC1
       have q0:=aA9 HB 0 rfl;have q3:=aA9 HB 2 rfl;clear HJ
       go_wp2_with (go_at_call 107;refine (aXl _ p _ (HPV.out _ (aA3 HB)) (by omega)).mono ?_;rintro e w' ⟨KA,kc,rfl,hK,_,_,hbb⟩;replace HB:=HB.trans hbb;clear hbb q0 q1 q3 q2;have q3:=aA9 HB 2 rfl;have q2:=aAz HB)
       have HK:=aA1 (fun w2 (k:Bel w' w2)=>aB7.keep hK k);clear hK;have HW:=Bel.refl w';clear hd0 q3 q2 hi hlt
       go_loopg [9,59] p.rules.length (fun m _x z wr=>∃ j:Nat,j<=p.rules.length/\m=p.rules.length-j/\z = .int .i64 j/\Hid ((p.rules.take j).all (aCt (aAx p))=true)/\Bel w' wr)
       case atStart=>exact ⟨0,by omega,rfl,rfl,rfl,HW⟩
       case round =>
        clear HW;obtain ⟨i,hi,rfl,rfl,HJ,HW⟩:=hrel
        by_cases hlt:i<p.rules.length
        .have hd0:decide (i<p.rules.length)=true:=by simpa using hlt
         have HLr:=aA1 (HP5.out _ (List.getElem_mem hlt));have hfo:=(aG6 _ _).1 (List.all_eq_true.1 HALL.out _ (List.getElem_mem hlt));rw [<- aDl p] at hfo;have HFO:=aA1 hfo;clear hfo;obtain ⟨b,o,G,c,S,c2,rfl,hb,c0,c1,c2',hRV⟩:=(HR.out _ ((aA3 HB).trans HW)).at_V i hlt;have HW2:=HW.alloc (.cells #[.string p.rules[i].name,.slice G p.rules[i].guard.length c,.slice S p.rules[i].sets.length c2] 154);have HRV:=aA1 (hRV.keep ((Bel.refl wr).alloc (.cells #[.string p.rules[i].name,.slice G p.rules[i].guard.length c,.slice S p.rules[i].sets.length c2] 154)));clear hRV;cases htv:aCt (aAx p) p.rules[i] with
         | false =>
          rw [aAv hlt htv,if_pos rfl] at HC1
          go_wp2_with (go_at_call 209;refine (aZ5 _ p.rules[i] _ _ (aAx p) _ HRV.out (HK.out _ HW2) (by rw [aDl];exact n2) HNA.out HFO.out HLr.out).mono ?_;rintro e w2 ⟨rfl,hbb⟩;rw [htv];replace HW2:=HW2.trans hbb;clear hbb)
          go_ret;exact ⟨aA4 HC1.out.symm,(aA3 HB).trans HW2⟩
         | true =>
          have HN:=aA1 (aAb hlt HJ.out htv);have HTV:=aA1 htv;clear htv
          go_wp2_with (go_at_call 209;refine (aZ5 _ p.rules[i] _ _ (aAx p) _ HRV.out (HK.out _ HW2) (by rw [aDl];exact n2) HNA.out HFO.out HLr.out).mono ?_;rintro e w2 ⟨rfl,hbb⟩;rw [HTV.out];replace HW2:=HW2.trans hbb;clear hbb)
          go_roundg (p.rules.length-(i+1))
          case rel=>exact ⟨i+1,by omega,rfl,by go_num,HN,HW2⟩
          case measure=>omega
        .have hd0:decide (i<p.rules.length)=false:=by simpa using hlt
         rw [aAy (by omega) HJ.out,if_neg (by decide)] at HC1
         go_wp2_with fail
         go_ret;exact ⟨aA4 HC1.out.symm,(aA3 HB).trans HW⟩
 .have HF:Hid (aBm p=3):=by show aBm p=3;unfold aBm;rw [if_pos hn]
  rcases (show p.vars.length=0∨6<p.vars.length∨(1<=p.vars.length/\p.vars.length<=6/\12<p.rules.length) by omega) with h0 | h0 | ⟨h0,h1,h2⟩
  .have hz:((p.vars.length:Int)==0)=true:=by simp [h0]
   have hz':(p.vars.length==0)=true:=by simp [h0]
   clear hn;have HH:=aA1 h0;clear h0;go_enter func154,ntmps154
   go_wp2_with fail
   go_ret;exact ⟨aA4 HF.out.symm,aA3 HB⟩
  .have hz:((p.vars.length:Int)==0)=false:=aNb (by omega)
   have hz':(p.vars.length==0)=false:=aNk (by omega)
   have hz2:decide (6<p.vars.length)=true:=by simpa using h0
   clear hn;go_enter func154,ntmps154
   go_wp2_with fail
   go_ret;exact ⟨aA4 HF.out.symm,aA3 HB⟩
  .have hz:((p.vars.length:Int)==0)=false:=aNb h0
   have hz':(p.vars.length==0)=false:=aNk h0;have hz2:decide (6<p.vars.length)=false:=by simp;omega
   have hz3:decide (12<p.rules.length)=true:=by simpa using h2
   clear hn;go_enter func154,ntmps154
   go_wp2_with fail
   go_ret;exact ⟨aA4 HF.out.symm,aA3 HB⟩
theorem aE7 (v:Value) (p:Prg) (w:World) (h:aE0 w v p) (hL:aAt p=true) :
  Calls prog 106 #[v] w fun e w'=>e = .returned (.bool (decide (aBm p=0)))/\Bel w w':=by
 have HPV:=aA1 (fun w' (k:Bel w w')=>h.keep k);obtain ⟨A,k,A2,k2,rfl,_,_,_,_,_,_⟩:=h;have HB:=(Bel.refl w).alloc (.cells #[.string p.name,.slice A p.vars.length k,.slice A2 p.rules.length k2] 25);go_enter func106,ntmps106
 go_wp2_with (go_at_call 154;refine (bFe _ p _ (HPV.out _ HB) hL).mono ?_;rintro e w' ⟨rfl,hb⟩;replace HB:=HB.trans hb;clear hb)
 go_ret;exact ⟨aA2 (by rw [Bool.eq_iff_iff];simp),HB⟩
end Go.Proofs.YtmifhmdghfbalaaGreatDoor

