/- Merged. -/
import Derived.Test.YtdcjnhoabbdanaaGreatDoorZ11
import Derived.Test.YtdcjnhoabbdanaaGreatDoorZ10
import Derived.Laws.EntriesVeiled
set_option linter.unusedSimpArgs false
set_option linter.unnecessarySimpa false
set_option linter.unusedVariables false
set_option maxRecDepth 100000
set_option maxHeartbeats 4000000
open Go.Proofs.Tryz

namespace Go.Proofs.YtdcjnhoabbdanaaGreatDoor
open Go.RowKit
theorem aVf (v:Value) (p:Prg) (w:World) (h:aEo w v p) (hL:aAq p=true) :
  Calls prog 121 #[v] w fun e w'=>e = .returned (.int .i64 (aB8 p))/\Bel w w':=by
 have HPV:=aA0 (fun w' (k:Bel w w')=>h.keep k);obtain ⟨A,k,A2,k2,rfl,hV,_,_,hR,_,_⟩:=h;have HV:=aA0 (fun w' (k:Bel w w')=>aHz.keep hV k);clear hV;have HR:=aA0 (fun w' (k:Bel w w')=>aGh.keep hR k);clear hR;obtain ⟨p1,p2,p3,p4,p5⟩:=aBb hL;have HP5:=aA0 p5;have HL:=aA0 hL;clear p4 p5 hL;have HB:=Bel.refl (w.alloc (.cells #[.string p.name,.slice A p.vars.length k,.slice A2 p.rules.length k2] 25))
 by_cases hn:1<=p.vars.length/\p.vars.length<=6/\p.rules.length<=12
 .obtain ⟨n1,n2,n3⟩:=hn
  have hz:((p.vars.length:Int)==0)=false:=aJ1 n1;have hz':(p.vars.length==0)=false:=aJ8 n1;have hz2:decide (6<p.vars.length)=false:=by simp;omega
  have hz3:decide (12<p.rules.length)=false:=by simp;omega
  have HC1:Hid (aB8 p=if aC6 p=false then 5 else if p.vars.all aBe=false then 2 else if p.rules.all (aBs p.vars.length)=false then 7 else if p.rules.all (aBq (aB7 p))=false then 6 else 0):=by
   show aB8 p=_
   unfold aB8;rw [if_neg (by omega)]
  cases hnm:aC6 p with
  | false =>
   rw [hnm,if_pos rfl] at HC1;go_enter func121,ntmps121
   go_wp2_with (go_at_call 139;refine (aQ1 _ p _ (HPV.out _ (aA3 HB)) HL.out).mono ?_;rintro e w' ⟨rfl,hb⟩;rw [hnm];replace HB:=HB.trans hb;clear hb)
   go_ret;exact ⟨aA4 HC1.out.symm,aA3 HB⟩
  | true =>
   rw [hnm,if_neg (by decide)] at HC1
   have HNM:=aA0 hnm;clear hnm;go_enter func121,ntmps121
   go_wp2_with (go_at_call 139;refine (aQ1 _ p _ (HPV.out _ (aA3 HB)) HL.out).mono ?_;rintro e w' ⟨rfl,hb⟩;rw [HNM.out];replace HB:=HB.trans hb;clear hb;have q1:=aA7 HB 1 rfl;have q2:=aAu HB)
   clear hz hz' hz2 hz3 q1 q2
   go_loopg [4,32] p.vars.length (fun m _x z wr=>∃ j:Nat,j<=p.vars.length/\m=p.vars.length-j/\z = .int .i64 j/\Hid ((p.vars.take j).all aBe=true)/\Bel (w.alloc (.cells #[.string p.name,.slice A p.vars.length k,.slice A2 p.rules.length k2] 25)) wr)
   case atStart=>exact ⟨0,by omega,rfl,rfl,rfl,HB⟩
   case round =>
    clear HB;obtain ⟨i,hi,rfl,rfl,HJ,HB⟩:=hrel
    by_cases hlt:i<p.vars.length
    .have hd0:decide (i<p.vars.length)=true:=by simpa using hlt
     obtain ⟨b,o,rfl,hb,c0,c1,c2,c3,c4,c5⟩:=(HV.out _ (aA3 HB)).at_ i hlt;have HB2:=HB.alloc (.cells #[.string p.vars[i].name,.int .i64 p.vars[i].kind,.int .i64 p.vars[i].lo,.int .i64 p.vars[i].hi,.int .i64 p.vars[i].perNode,.int .i64 p.vars[i].perID] 100);cases hnn:aBe p.vars[i] with
     | false =>
      rw [aAh hlt hnn,if_pos rfl] at HC1
      go_wp2_with (go_at_call 140;refine (aMe p.vars[i] _).mono ?_;rintro e w' ⟨rfl,hbb⟩;rw [hnn];replace HB2:=HB2.trans hbb;clear hbb)
      go_ret;exact ⟨aA4 HC1.out.symm,aA3 HB2⟩
     | true =>
      have HN:=aA0 (aA9 hlt HJ.out hnn);have HNN:=aA0 hnn;clear hnn
      go_wp2_with (go_at_call 140;refine (aMe p.vars[i] _).mono ?_;rintro e w' ⟨rfl,hbb⟩;rw [HNN.out];replace HB2:=HB2.trans hbb;clear hbb)
      go_roundg (p.vars.length-(i+1))
      case rel=>exact ⟨i+1,by omega,rfl,by go_num,HN,HB2⟩
      case measure=>omega
    .have hd0:decide (i<p.vars.length)=false:=by simpa using hlt
     rw [aAi (by omega) HJ.out,if_neg (by decide)] at HC1
     have HNA:=aA0 (aM7 (aAi (by omega) HJ.out))
     have q1:=aA7 HB 2 rfl;have q2:=aAu HB;clear HJ
     go_wp2_with fail
     clear hd0 q1 q2 hi hlt
     go_loopg [6,43] p.rules.length (fun m _x z wr=>∃ j:Nat,j<=p.rules.length/\m=p.rules.length-j/\z = .int .i64 j/\Hid ((p.rules.take j).all (aBs p.vars.length)=true)/\Bel (w.alloc (.cells #[.string p.name,.slice A p.vars.length k,.slice A2 p.rules.length k2] 25)) wr)
     case atStart=>exact ⟨0,by omega,rfl,rfl,rfl,HB⟩
     case round =>
      clear HB;obtain ⟨i,hi,rfl,rfl,HJ,HB⟩:=hrel;have q1:=aA7 HB 1 rfl;have q2:=aAu HB
      by_cases hlt:i<p.rules.length
      .have hd0:decide (i<p.rules.length)=true:=by simpa using hlt
       have HLr:=aA0 (HP5.out _ (List.getElem_mem hlt));obtain ⟨b,o,G,c,S,c2,rfl,hb,c0,c1,c2',hRV⟩:=(HR.out _ (aA3 HB)).at_V i hlt;have HB2:=HB.alloc (.cells #[.string p.rules[i].name,.slice G p.rules[i].guard.length c,.slice S p.rules[i].sets.length c2] 93);have HRV:=aA0 (hRV.keep ((Bel.refl wr).alloc (.cells #[.string p.rules[i].name,.slice G p.rules[i].guard.length c,.slice S p.rules[i].sets.length c2] 93)));clear hRV;cases hff:aBs p.vars.length p.rules[i] with
       | false =>
        rw [aAh hlt hff,if_pos rfl] at HC1
        go_wp2_with (go_at_call 141;refine (aNh _ p.rules[i] p.vars.length _ HRV.out (by omega) HLr.out).mono ?_;rintro e w' ⟨rfl,hbb⟩;rw [hff];replace HB2:=HB2.trans hbb;clear hbb)
        go_ret;exact ⟨aA4 HC1.out.symm,aA3 HB2⟩
       | true =>
        have HN:=aA0 (aA9 hlt HJ.out hff);have HFF:=aA0 hff;clear hff
        go_wp2_with (go_at_call 141;refine (aNh _ p.rules[i] p.vars.length _ HRV.out (by omega) HLr.out).mono ?_;rintro e w' ⟨rfl,hbb⟩;rw [HFF.out];replace HB2:=HB2.trans hbb;clear hbb)
        go_roundg (p.rules.length-(i+1))
        case rel=>exact ⟨i+1,by omega,rfl,by go_num,HN,HB2⟩
        case measure=>omega
      .have hd0:decide (i<p.rules.length)=false:=by simpa using hlt
       have HALL:=aA0 (aAi (by omega) HJ.out)
       rw [HALL.out,if_neg (by decide)] at HC1
       have q0:=aA7 HB 0 rfl;have q3:=aA7 HB 2 rfl;clear HJ
       go_wp2_with (go_at_call 142;refine (aVy _ p _ (HPV.out _ (aA3 HB)) (by omega)).mono ?_;rintro e w' ⟨KA,kc,rfl,hK,_,_,hbb⟩;replace HB:=HB.trans hbb;clear hbb q0 q1 q3 q2;have q3:=aA7 HB 2 rfl;have q2:=aAu HB)
       have HK:=aA0 (fun w2 (k:Bel w' w2)=>aBc.keep hK k);clear hK;have HW:=Bel.refl w';clear hd0 q3 q2 hi hlt
       go_loopg [9,59] p.rules.length (fun m _x z wr=>∃ j:Nat,j<=p.rules.length/\m=p.rules.length-j/\z = .int .i64 j/\Hid ((p.rules.take j).all (aBq (aB7 p))=true)/\Bel w' wr)
       case atStart=>exact ⟨0,by omega,rfl,rfl,rfl,HW⟩
       case round =>
        clear HW;obtain ⟨i,hi,rfl,rfl,HJ,HW⟩:=hrel
        by_cases hlt:i<p.rules.length
        .have hd0:decide (i<p.rules.length)=true:=by simpa using hlt
         have HLr:=aA0 (HP5.out _ (List.getElem_mem hlt));have hfo:=(aDz _ _).1 (List.all_eq_true.1 HALL.out _ (List.getElem_mem hlt));rw [<- aCu p] at hfo;have HFO:=aA0 hfo;clear hfo;obtain ⟨b,o,G,c,S,c2,rfl,hb,c0,c1,c2',hRV⟩:=(HR.out _ ((aA3 HB).trans HW)).at_V i hlt;have HW2:=HW.alloc (.cells #[.string p.rules[i].name,.slice G p.rules[i].guard.length c,.slice S p.rules[i].sets.length c2] 93);have HRV:=aA0 (hRV.keep ((Bel.refl wr).alloc (.cells #[.string p.rules[i].name,.slice G p.rules[i].guard.length c,.slice S p.rules[i].sets.length c2] 93)));clear hRV;cases htv:aBq (aB7 p) p.rules[i] with
         | false =>
          rw [aAh hlt htv,if_pos rfl] at HC1
          go_wp2_with (go_at_call 143;refine (aR1 _ p.rules[i] _ _ (aB7 p) _ HRV.out (HK.out _ HW2) (by rw [aCu];exact n2) HNA.out HFO.out HLr.out).mono ?_;rintro e w2 ⟨rfl,hbb⟩;rw [htv];replace HW2:=HW2.trans hbb;clear hbb)
          go_ret;exact ⟨aA4 HC1.out.symm,(aA3 HB).trans HW2⟩
         | true =>
          have HN:=aA0 (aA9 hlt HJ.out htv);have HTV:=aA0 htv;clear htv
          go_wp2_with (go_at_call 143;refine (aR1 _ p.rules[i] _ _ (aB7 p) _ HRV.out (HK.out _ HW2) (by rw [aCu];exact n2) HNA.out HFO.out HLr.out).mono ?_;rintro e w2 ⟨rfl,hbb⟩;rw [HTV.out];replace HW2:=HW2.trans hbb;clear hbb)
          go_roundg (p.rules.length-(i+1))
          case rel=>exact ⟨i+1,by omega,rfl,by go_num,HN,HW2⟩
          case measure=>omega
        .have hd0:decide (i<p.rules.length)=false:=by simpa using hlt
         rw [aAi (by omega) HJ.out,if_neg (by decide)] at HC1
         go_wp2_with fail
         go_ret;exact ⟨aA4 HC1.out.symm,(aA3 HB).trans HW⟩
 .have HF:Hid (aB8 p=3):=by show aB8 p=3;unfold aB8;rw [if_pos hn]
  rcases (show p.vars.length=0∨6<p.vars.length∨(1<=p.vars.length/\p.vars.length<=6/\12<p.rules.length) by omega) with h0 | h0 | ⟨h0,h1,h2⟩
  .have hz:((p.vars.length:Int)==0)=true:=by simp [h0]
   have hz':(p.vars.length==0)=true:=by simp [h0]
   clear hn;have HH:=aA0 h0;clear h0;go_enter func121,ntmps121
   go_wp2_with fail
   go_ret;exact ⟨aA4 HF.out.symm,aA3 HB⟩
  .have hz:((p.vars.length:Int)==0)=false:=aJ1 (by omega)
   have hz':(p.vars.length==0)=false:=aJ8 (by omega)
   have hz2:decide (6<p.vars.length)=true:=by simpa using h0
   clear hn;go_enter func121,ntmps121
   go_wp2_with fail
   go_ret;exact ⟨aA4 HF.out.symm,aA3 HB⟩
  .have hz:((p.vars.length:Int)==0)=false:=aJ1 h0
   have hz':(p.vars.length==0)=false:=aJ8 h0;have hz2:decide (6<p.vars.length)=false:=by simp;omega
   have hz3:decide (12<p.rules.length)=true:=by simpa using h2
   clear hn;go_enter func121,ntmps121
   go_wp2_with fail
   go_ret;exact ⟨aA4 HF.out.symm,aA3 HB⟩
theorem aH9 (v:Value) (p:Prg) (w:World) (h:aEo w v p) (hL:aAq p=true) :
  Calls prog 101 #[v] w fun e w'=>e = .returned (.bool (decide (aB8 p=0)))/\Bel w w':=by
 have HPV:=aA0 (fun w' (k:Bel w w')=>h.keep k);obtain ⟨A,k,A2,k2,rfl,_,_,_,_,_,_⟩:=h;have HB:=(Bel.refl w).alloc (.cells #[.string p.name,.slice A p.vars.length k,.slice A2 p.rules.length k2] 25);go_enter func101,ntmps101
 go_wp2_with (go_at_call 121;refine (aVf _ p _ (HPV.out _ HB) hL).mono ?_;rintro e w' ⟨rfl,hb⟩;replace HB:=HB.trans hb;clear hb)
 go_ret;exact ⟨aA2 (by rw [Bool.eq_iff_iff];simp),HB⟩
theorem aS2 {n:Nat} (h:1<=n):decide (n<1)=false:=by simp;omega
theorem aRu {n:Nat} (h:1<=n):decide ((n:Int)<1)=false:=by simp;omega
theorem aY6 {n:Nat} (h:n<1):decide (n<1)=true:=by simp;omega
theorem aXy {n:Nat} (h:n<1):decide ((n:Int)<1)=true:=by simp;omega
theorem aI5 (v:Value) (g:Graph) (w:World) (h:aAm w v g) (hlg:aB2 g=true) :
  Calls prog 102 #[v] w fun e w'=>e = .returned (.bool (aD4 g))/\Bel w w':=by
 obtain ⟨A,k,A2,k2,rfl,hI,_,_,hP,_,_⟩:=h;have HI:=aA0 (fun w' (k:Bel w w')=>aBc.keep hI k);clear hI;have HP:=aA0 (fun w' (k:Bel w w')=>aEs.keep hP k);clear hP;obtain ⟨hl1,hl2,hl3⟩:=aCn hlg;have HL3:=aA0 hl3;clear hl3 hlg;have HG:=aA0 (aTy g);have HB:=Bel.refl (w.alloc (.cells #[.slice A g.ids.length k,.slice A2 g.ports.length k2] 29))
 by_cases hn:1<=g.ports.length/\g.ports.length<=24/\g.ids.length=g.ports.length
 .have hd1:decide (g.ids.length<1)=false:=aS2 (by omega)
  have hd2:decide (24<g.ids.length)=false:=by simp;omega
  have hd3:(g.ports.length != g.ids.length)=false:=by simp;omega
  have hd3':((g.ports.length:Int) != (g.ids.length:Int))=false:=by simp;omega
  have hd1':decide ((g.ids.length:Int)<1)=false:=aRu (by omega)
  rw [decide_eq_true hn] at HG;have hn1:1<=g.ids.length:=by omega
  have hn2:g.ids.length<=24:=by omega
  clear hn;cases hi:aN2 g.ids with
  | false =>
   go_enter func102,ntmps102
   go_wp2_with (go_at_call 122;refine (aGk _ _ g.ids _ (HI.out _ (aA3 HB)) (by omega)).mono ?_;rintro e w' ⟨rfl,hb⟩;rw [hi];replace HB:=HB.trans hb;clear hb)
   go_ret;exact ⟨aA2 (by rw [HG.out,hi];rfl),aA3 HB⟩
  | true =>
   have HII:=aA0 hi;clear hi;go_enter func102,ntmps102
   go_wp2_with (first
    | (go_at_call 122;refine (aGk _ _ g.ids _ (HI.out _ (aA3 HB)) (by omega)).mono ?_;rintro e w' ⟨rfl,hb⟩;rw [HII.out];replace HB:=HB.trans hb;clear hb;have q1:=aA7 HB 1 rfl;have q2:=aAu HB)
    | (go_at_call 123;refine (aP3 _ _ g.ports _ (HP.out _ (aA3 HB)) (by omega) HL3.out).mono ?_;rintro e w' ⟨rfl,hb⟩;replace HB:=HB.trans hb;clear hb))
   go_ret;exact ⟨aA2 (by rw [HG.out,HII.out];rfl),aA3 HB⟩
 .rw [decide_eq_false hn] at HG
  by_cases h1:g.ids.length<1
  .have hd1:decide (g.ids.length<1)=true:=aY6 h1
   have hd1':decide ((g.ids.length:Int)<1)=true:=aXy h1;clear hn;go_enter func102,ntmps102
   go_wp2_with fail
   go_ret;exact ⟨aA2 (by rw [HG.out];rfl),aA3 HB⟩
  .have hd1:decide (g.ids.length<1)=false:=aS2 (by omega)
   have hd1':decide ((g.ids.length:Int)<1)=false:=aRu (by omega)
   by_cases h2:24<g.ids.length
   .have hd2:decide (24<g.ids.length)=true:=by simpa using h2
    clear hn;go_enter func102,ntmps102
    go_wp2_with fail
    go_ret;exact ⟨aA2 (by rw [HG.out];rfl),aA3 HB⟩
   .have hd2:decide (24<g.ids.length)=false:=by simpa using h2
    have hd3:(g.ports.length != g.ids.length)=true:=by simp;omega
    have hd3':((g.ports.length:Int) != (g.ids.length:Int))=true:=by simp;omega
    clear hn;go_enter func102,ntmps102
    go_wp2_with fail
    go_ret;exact ⟨aA2 (by rw [HG.out];rfl),aA3 HB⟩
theorem aFk {l:List Int} {k:Nat} (h:k<l.length):aD0 (l.take (k+1))=max (aD0 (l.take k)) l[k]:=by
 unfold aD0;rw [List.take_succ_eq_append_getElem h,List.foldl_append];rfl
theorem aP1 (A:Option Addr) (c:Nat) (ids:List Int) (w:World) (h:aBc w A ids.length ids) (hl:ids.length<=1000) (hp:1<=ids.length) (h0:∀ i∈ids,0<=i) :
  Calls prog 125 #[.slice A ids.length c] w fun e w'=>e = .returned (.int .i64 (aD0 ids))/\w=w':=by
 have H:=aA0 h;clear h;have hz:decide (ids.length<1)=false:=aS2 hp;have hz':decide ((ids.length:Int)<1)=false:=aRu hp;obtain ⟨b,o,rfl,hb,hc⟩:=H.out.at_ 0 (by omega)
 have hpos:0<ids.length:=by omega
 simp only [Nat.add_zero] at hc
 have HS:Hid (aD0 (ids.take 1)=ids[0]):=by
  show aD0 (ids.take 1)=ids[0]
  rw [aFk (k:=0) (by omega)]
  have:=h0 ids[0] (List.getElem_mem _);simp [aD0];omega
 clear h0;go_enter func125,ntmps125;go_wp2;clear hz hz' hc
 go_loopg [3,4] (ids.length-1) (fun m s z wr=>∃ j:Nat,j<=ids.length/\m=ids.length-j/\z = .int .i64 j/\s = .int .i64 (aD0 (ids.take j))/\w=wr)
 case atStart=>exact ⟨1,by omega,rfl,rfl,by rw [HS.out],rfl⟩
 case round =>
  obtain ⟨j,hj,rfl,rfl,rfl,rfl⟩:=hrel
  by_cases hlt:j<ids.length
  .have hd0:decide (j<ids.length)=true:=by simpa using hlt
   obtain ⟨b',o',e',_,hc⟩:=H.out.at_ j hlt;obtain ⟨rfl,rfl⟩:b=b'/\o=o':=by simpa using e'
   have HN:=aA0 (aFk hlt);generalize aD0 (ids.take j)=G at *;obtain ⟨m,hm,hm'⟩:=aRv G ids[j];have HM:=aA0 hm';clear hm' e';go_wp2
   go_roundg (ids.length-(j+1))
   case rel=>exact ⟨j+1,by omega,rfl,by go_num,by rw [HN.out,<- HM.out],rfl⟩
   case measure=>omega
  .have hd0:decide (j<ids.length)=false:=by simpa using hlt
   go_wp2;go_ret;exact ⟨aA4 (by rw [List.take_of_length_le (by omega)]),rfl⟩
theorem aPt (v:Value) (g:Graph) (w:World) (h:aAm w v g) (hl:g.ids.length<=1000) :
  Calls prog 115 #[v] w fun e w'=>e = .returned (.int .i64 (aD0 g.ids))/\Bel w w':=by
 obtain ⟨A,k,A2,k2,rfl,hI,_,_,hP,_,_⟩:=h;have H:=aA0 hI;clear hI hP;go_enter func115,ntmps115;go_wp2
 go_loopg [3,4] g.ids.length (fun m s z wr=>∃ j:Nat,j<=g.ids.length/\m=g.ids.length-j/\z = .int .i64 j/\s = .int .i64 (aD0 (g.ids.take j))/\w.alloc (.cells #[.slice A g.ids.length k,.slice A2 g.ports.length k2] 29)=wr)
 case atStart=>exact ⟨0,by omega,rfl,rfl,rfl,rfl⟩
 case round =>
  obtain ⟨j,hj,rfl,rfl,rfl,rfl⟩:=hrel
  by_cases hlt:j<g.ids.length
  .have hd0:decide (j<g.ids.length)=true:=by simpa using hlt
   obtain ⟨b,o,rfl,hb,hc⟩:=H.out.at_ j hlt;have HN:=aA0 (aFk hlt);generalize aD0 (g.ids.take j)=G at *;obtain ⟨m,hm,hm'⟩:=aRv G g.ids[j];have HM:=aA0 hm';clear hm';go_wp2
   go_roundg (g.ids.length-(j+1))
   case rel=>exact ⟨j+1,by omega,rfl,by go_num,by rw [HN.out,<- HM.out],rfl⟩
   case measure=>omega
  .have hd0:decide (j<g.ids.length)=false:=by simpa using hlt
   go_wp2;go_ret;exact ⟨aA4 (by rw [List.take_of_length_le (by omega)]),(Bel.refl _).alloc _⟩
def aAj (x:Var) (g:Graph) (v:Nat):Int × Int :=
 if x.kind=2 then (0,1) else if x.kind=3 then (-1,((g.ports.getD v []).length:Int)-1) else (x.lo,x.hi+x.perNode*g.ids.length+x.perID*aD0 g.ids)
theorem aHp {g:Graph} (hg:GOK g):0<=aD0 g.ids/\aD0 g.ids<=255:=⟨aIi _,aRq _ _ (by omega) (fun x hx=>(hg.idr x hx).2)⟩
theorem aFs {a b A B:Int} (h1:0<=a) (h2:a<=A) (h3:0<=b) (h4:b<=B):0<=a*b/\a*b<=A*B :=
 ⟨Int.mul_nonneg h1 h3,Int.mul_le_mul h2 h4 h3 (by omega)⟩
theorem box3 {w wr:World} {cs ds es:Array Value} {t u s:TypeId} (h:Bel (((w.alloc (.cells cs t)).alloc (.cells ds u)).alloc (.cells es s)) wr) :
  (∀ i v,cs[i]?=some v->wr.cell? ⟨w.heap.size,i,none⟩=some v)/\(∀ i v,ds[i]?=some v->wr.cell? ⟨w.heap.size+1,i,none⟩=some v)/\(∀ i v,es[i]?=some v->wr.cell? ⟨w.heap.size+1+1,i,none⟩=some v)/\w.heap.size+1+1<wr.heap.size:=by
 have h2:=box2 (w:=w.alloc (.cells cs t)) h;simp only [World.size_alloc] at h2
 refine ⟨fun i v hv=>?_,h2.1,h2.2.1,h2.2.2⟩
 exact (h.cell (by simp;omega)).trans ((((Blk.new w cs t).alloc _).alloc _).cell i hv)
theorem box3v {w wr:World} {a0 a1 a2 a3 a4 a5 b0 b1 d0 d1 d2 d3 d4 d5:Value} {t u s:TypeId} (h:Bel (((w.alloc (.cells #[a0,a1,a2,a3,a4,a5] t)).alloc (.cells #[b0,b1] u)).alloc (.cells #[d0,d1,d2,d3,d4,d5] s)) wr) :
  (wr.cell? ⟨w.heap.size,0,none⟩=some a0/\wr.cell? ⟨w.heap.size,1,none⟩=some a1/\wr.cell? ⟨w.heap.size,2,none⟩=some a2/\wr.cell? ⟨w.heap.size,3,none⟩=some a3/\wr.cell? ⟨w.heap.size,4,none⟩=some a4/\wr.cell? ⟨w.heap.size,5,none⟩=some a5) /\
  (wr.cell? ⟨w.heap.size+1,0,none⟩=some b0/\wr.cell? ⟨w.heap.size+1,1,none⟩=some b1) /\
  (wr.cell? ⟨w.heap.size+1+1,0,none⟩=some d0/\wr.cell? ⟨w.heap.size+1+1,1,none⟩=some d1/\wr.cell? ⟨w.heap.size+1+1,2,none⟩=some d2/\wr.cell? ⟨w.heap.size+1+1,3,none⟩=some d3/\wr.cell? ⟨w.heap.size+1+1,4,none⟩=some d4/\wr.cell? ⟨w.heap.size+1+1,5,none⟩=some d5) /\
  w.heap.size<wr.heap.size/\w.heap.size+1<wr.heap.size/\w.heap.size+1+1<wr.heap.size:=by
 obtain ⟨c1,c2,c3,c4⟩:=box3 h;exact ⟨⟨c1 0 _ rfl,c1 1 _ rfl,c1 2 _ rfl,c1 3 _ rfl,c1 4 _ rfl,c1 5 _ rfl⟩,⟨c2 0 _ rfl,c2 1 _ rfl⟩,⟨c3 0 _ rfl,c3 1 _ rfl,c3 2 _ rfl,c3 3 _ rfl,c3 4 _ rfl,c3 5 _ rfl⟩,by omega,by omega,c4⟩
theorem aDr {x:Var} (h:aBe x=true):(x.kind=2/\x.lo=0/\x.hi=0/\x.perNode=0/\x.perID=0)∨(x.kind=3/\x.lo=0/\x.hi=0/\x.perNode=0/\x.perID=0)∨(x.kind=1/\(0<=x.lo/\x.lo<=4096)/\(0<=x.perNode/\x.perNode<=255)/\(0<=x.perID/\x.perID<=255) /\ -4096<=x.hi/\x.hi<=4096):=by
 unfold aBe at h;have:=of_decide_eq_true h;omega
theorem aRe (x:Var) (v2:Value) (g:Graph) (i:Int) (w:World) (h2:aAm w v2 g) (hx:aBe x=true) (hg:GOK g) :
  Calls prog 124 #[aUx x,v2,.int .i64 i] w fun e w'=>e = .returned (.tuple #[.int .i64 x.lo,.int .i64 (x.hi+x.perNode*g.ids.length+x.perID*aD0 g.ids)])/\Bel w w':=by
 obtain ⟨A,k,A2,k2,rfl,hI,_,_,hP,_,_⟩:=h2;have HI:=aA0 (fun w' (k:Bel w w')=>aBc.keep hI k)
 have hb:(0<=x.perNode/\x.perNode<=255)/\(0<=x.perID/\x.perID<=255) /\ -4096<=x.hi/\x.hi<=4096:=by
  rcases aDr hx with h | h | h <;> omega
 have hle:=hg.le;have hids:=hg.ids;obtain ⟨g1,g2⟩:=aHp hg;obtain ⟨m1,m2⟩:=aFs hb.1.1 hb.1.2 (show (0:Int)<=g.ids.length by omega) (show (g.ids.length:Int)<=24 by omega)
 obtain ⟨m3,m4⟩:=aFs hb.2.1.1 hb.2.1.2 g1 g2;have w1:IntKind.i64.wrap (x.perNode*(g.ids.length:Int))=x.perNode*g.ids.length:=IntWalk.i64_in _ (by omega)
 have w2:IntKind.i64.wrap (x.hi+x.perNode*(g.ids.length:Int))=x.hi+x.perNode*g.ids.length:=IntWalk.i64_in _ (by omega)
 have w3:IntKind.i64.wrap (x.perID*aD0 g.ids)=x.perID*aD0 g.ids:=IntWalk.i64_in _ (by omega)
 have w4:IntKind.i64.wrap (x.hi+x.perNode*(g.ids.length:Int)+x.perID*aD0 g.ids)=x.hi+x.perNode*g.ids.length+x.perID*aD0 g.ids:=IntWalk.i64_in _ (by omega)
 have hpos:1<=g.ids.length:=by have:=hg.pos;omega
 have hn24:g.ids.length<=24:=by omega
 have HR:=aA0 (fun i hi=>(hg.idr i hi).1);clear hI hP hx hg m1 m2 m3 m4 hids hle;obtain ⟨name,kind,lo,hi,pn,pi⟩:=x;unfold aUx;dsimp only at *;have HW:=Bel.refl ((w.alloc (.cells #[.string name,.int .i64 kind,.int .i64 lo,.int .i64 hi,.int .i64 pn,.int .i64 pi] 100)).alloc (.cells #[.slice A g.ids.length k,.slice A2 g.ports.length k2] 29));have hcell:=aA0 (fun w' (kk:Bel ((w.alloc (.cells #[.string name,.int .i64 kind,.int .i64 lo,.int .i64 hi,.int .i64 pn,.int .i64 pi] 100)).alloc (.cells #[.slice A g.ids.length k,.slice A2 g.ports.length k2] 29)) w')=>And.intro ((box2 kk).1 2 _ rfl) (And.intro ((box2 kk).1 3 _ rfl) (And.intro ((box2 kk).1 4 _ rfl) (And.intro ((box2 kk).1 5 _ rfl) (And.intro ((box2 kk).2.1 0 _ rfl) (box2 kk).2.2)))));go_enter func124,ntmps124;go_wp2;replace HW:=HW.drew
 go_region_held3 (fun w'=>w'.cell? ⟨w.heap.size,2,none⟩=some (.int .i64 lo)/\w'.cell? ⟨w.heap.size,3,none⟩=some (.int .i64 hi)/\w'.cell? ⟨w.heap.size,4,none⟩=some (.int .i64 pn)/\w'.cell? ⟨w.heap.size,5,none⟩=some (.int .i64 pi)/\w'.cell? ⟨w.heap.size+1,0,none⟩=some (.slice A g.ids.length k)/\w.heap.size+1<w'.heap.size) (exact hcell.out _ HW) (first | (go_simp;go_at_call 125;refine (aP1 _ _ g.ids _ (HI.out _ (aA1 HW)) (by omega) hpos HR.out).mono ?_;rintro e w' ⟨rfl,rfl⟩))
 go_wp2
 go_ret2
 exact ⟨rfl,aA1 HW⟩
theorem aRf (x:Var) (v2:Value) (g:Graph) (i:Int) (w:World) (h2:aAm w v2 g) :
  Calls prog 126 #[aUx x,v2,.int .i64 i] w fun e w'=>e = .returned (.tuple #[.int .i64 0,.int .i64 1])/\Bel w w':=by
 obtain ⟨A,k,A2,k2,rfl,_,_,_,_,_,_⟩:=h2;unfold aUx;go_enter func126,ntmps126;go_wp2
 go_ret2
 exact ⟨rfl,((Bel.refl _).alloc _).alloc _⟩
theorem aRg (x:Var) (v2:Value) (g:Graph) (i:Nat) (w:World) (h2:aAm w v2 g) (hi:i<g.ports.length) (hl:aB2 g=true) :
  Calls prog 127 #[aUx x,v2,.int .i64 i] w fun e w'=>e = .returned (.tuple #[.int .i64 (-1),.int .i64 ((g.ports[i].length:Int)-1)])/\Bel w w':=by
 obtain ⟨A,k,A2,k2,rfl,_,_,_,hP,_,_⟩:=h2;obtain ⟨b,o,R,c1,rfl,hb,hc1,_,_,_⟩:=hP.at_ i hi;obtain ⟨_,l2,l3⟩:=aCn hl;have hlen:=l3 _ (List.getElem_mem hi);have hd:decide (i<g.ports.length)=true:=by simpa using hi
 have hw:IntKind.i64.wrap ((g.ports[i].length:Int)-1)=(g.ports[i].length:Int)-1:=IntWalk.i64_in _ (by omega)
 clear hP l3 hl;unfold aUx;go_enter func127,ntmps127;go_wp2
 go_quiet (fail)
 go_wp2
 go_ret2
 exact ⟨rfl,(((Bel.refl _).alloc _).alloc _).drewN _⟩
theorem aHn (x:Var) (v2:Value) (g:Graph) (i:Nat) (w:World) (h2:aAm w v2 g) (hx:aBe x=true) (hg:GOK g) (hi:i<g.ports.length) (hl:aB2 g=true) :
  Calls prog 103 #[aUx x,v2,.int .i64 i] w fun e w'=>e = .returned (.tuple #[.int .i64 (aAj x g i).1,.int .i64 (aAj x g i).2])/\Bel w w':=by
 have HGV:=aA0 (fun w' (k:Bel w w')=>h2.keep k);obtain ⟨A,k,A2,k2,rfl,hI,_,_,hP,_,_⟩:=h2;have HX:=aA0 hx;have HG:=aA0 hg;have HL:=aA0 hl;have hk:x.kind=1∨x.kind=2∨x.kind=3:=by rcases aDr hx with h | h | h <;> omega
 have HF:Hid (aAj x g i=if x.kind=2 then (0,1) else if x.kind=3 then (-1,(g.ports[i].length:Int)-1) else (x.lo,x.hi+x.perNode*g.ids.length+x.perID*aD0 g.ids)):=by
  show aAj x g i=_
  unfold aAj;rw [aA8 hi]
 clear hI hP hx hg hl;unfold aUx;go_enter func103,ntmps103;go_wp2
 go_loopg [10,17] 3 (fun m _y z wr=>∃ j:Nat,j<3/\m=3-j/\z = .int .i64 j/\(j:Int)+1<=x.kind/\Bel (((w.alloc (.cells #[.string x.name,.int .i64 x.kind,.int .i64 x.lo,.int .i64 x.hi,.int .i64 x.perNode,.int .i64 x.perID] 100)).alloc (.cells #[.slice A g.ids.length k,.slice A2 g.ports.length k2] 29)).alloc (.cells #[.int .i64 1,.func (.func 124) #[] #[],.int .i64 2,.func (.func 126) #[] #[],.int .i64 3,.func (.func 127) #[] #[]] 165)) wr)
 case atStart=>exact ⟨0,by omega,rfl,rfl,by omega,Bel.refl _⟩
 case round =>
  obtain ⟨j,hj,rfl,rfl,hjk,HB⟩:=hrel;obtain ⟨⟨x0,x1,x2,x3,x4,x5⟩,⟨y0,y1⟩,⟨z0,z1,z2,z3,z4,z5⟩,s1,s2,s3⟩:=box3v HB;have HB0:Bel w wr:=aA3 (aA3 (aA3 HB))
  rcases (show j=0∨j=1∨j=2 by omega) with rfl | rfl | rfl
  .have HB2:=HB.alloc (.cells #[.int .i64 1,.func (.func 124) #[] #[]] 165)
   have HW2:=HB0.alloc (.cells #[.int .i64 1,.func (.func 124) #[] #[]] 165)
   by_cases hkk:x.kind=1
   .have hb1:((1:Int)==x.kind)=true:=by simp [hkk]
    rw [if_neg (by omega),if_neg (by omega)] at HF
    have HKK:=aA0 hkk;clear hkk hk hjk
    go_wp2_with (go_at_call 124;refine (aRe x _ g _ _ (HGV.out _ HW2) HX.out HG.out).mono ?_;rintro e w' ⟨rfl,hb⟩;replace HW2:=HW2.trans hb;clear hb)
    go_ret2
    rw [HF.out];exact ⟨rfl,HW2⟩
   .have hb1:((1:Int)==x.kind)=false:=by simp;omega
    go_wp2_with fail
    go_roundg 2
    case rel=>exact ⟨1,by omega,rfl,rfl,by omega,HB2⟩
    case measure=>omega
  .have HB2:=HB.alloc (.cells #[.int .i64 2,.func (.func 126) #[] #[]] 165)
   have HW2:=HB0.alloc (.cells #[.int .i64 2,.func (.func 126) #[] #[]] 165)
   by_cases hkk:x.kind=2
   .have hb1:((2:Int)==x.kind)=true:=by simp [hkk]
    rw [if_pos hkk] at HF;have HKK:=aA0 hkk;clear hkk hk hjk
    go_wp2_with (go_at_call 126;refine (aRf x _ g _ _ (HGV.out _ HW2)).mono ?_;rintro e w' ⟨rfl,hb⟩;replace HW2:=HW2.trans hb;clear hb)
    go_ret2
    rw [HF.out];exact ⟨rfl,HW2⟩
   .have hb1:((2:Int)==x.kind)=false:=by simp;omega
    go_wp2_with fail
    go_roundg 1
    case rel=>exact ⟨2,by omega,rfl,rfl,by omega,HB2⟩
    case measure=>omega
  .have hkk:x.kind=3:=by omega
   have HW2:=HB0.alloc (.cells #[.int .i64 3,.func (.func 127) #[] #[]] 165);have hb1:((3:Int)==x.kind)=true:=by simp [hkk]
   rw [if_neg (by omega),if_pos hkk] at HF
   have HKK:=aA0 hkk;clear hkk hk hjk
   go_wp2_with (go_at_call 127;refine (aRg x _ g i _ (HGV.out _ HW2) hi HL.out).mono ?_;rintro e w' ⟨rfl,hb⟩;replace HW2:=HW2.trans hb;clear hb)
   go_ret2
   rw [HF.out];exact ⟨rfl,HW2⟩
theorem aSp (v:Value) (p:Prg) (v2:Value) (g:Graph) (i q:Nat) (w:World) (h:aEo w v p) (h2:aAm w v2 g) (hq:q<p.vars.length) (hx:aBe p.vars[q]=true) (hg:GOK g) (hi:i<g.ports.length) (hl:aB2 g=true) :
  Calls prog 91 #[v,v2,.int .i64 i,.int .i64 q] w fun e w'=>e = .returned (.tuple #[.int .i64 (aAj p.vars[q] g i).1,.int .i64 (aAj p.vars[q] g i).2])/\Bel w w':=by
 have HGV:=aA0 (fun w' (k:Bel w w')=>h2.keep k);obtain ⟨A,k,A2,k2,rfl,hV,_,_,_,_,_⟩:=h;obtain ⟨A3,k3,A4,k4,rfl,_,_,_,hP,_,_⟩:=h2;obtain ⟨b,o,rfl,hb,c0,c1,c2,c3,c4,c5⟩:=hV.at_ q hq;have hd0:decide (q<p.vars.length)=true:=by simpa using hq
 have HF:Hid (aAj p.vars[q] g i=if p.vars[q].kind=2 then (0,1) else if p.vars[q].kind=3 then (-1,(g.ports[i].length:Int)-1) else (p.vars[q].lo,p.vars[q].hi+p.vars[q].perNode*g.ids.length+p.vars[q].perID*aD0 g.ids)):=by
  show aAj p.vars[q] g i=_
  unfold aAj;rw [aA8 hi]
 have HNP:=aA0 (aDr hx);have HW:=Bel.refl ((w.alloc (.cells #[.string p.name,.slice (some ⟨b,o,none⟩) p.vars.length k,.slice A2 p.rules.length k2] 25)).alloc (.cells #[.slice A3 g.ids.length k3,.slice A4 g.ports.length k4] 29))
 by_cases hk2:p.vars[q].kind=2
 .have e1:(p.vars[q].kind==2)=true:=by simpa using hk2
  rw [if_pos hk2] at HF;have HK:=aA0 hk2;clear hk2 hV hP;go_enter func91,ntmps91;go_wp2
  go_ret2
  rw [HF.out];exact ⟨rfl,aA1 HW⟩
 .have e1:(p.vars[q].kind==2)=false:=by simpa using hk2
  rw [if_neg hk2] at HF
  by_cases hk3:p.vars[q].kind=3
  .have e2:(p.vars[q].kind==3)=true:=by simpa using hk3
   rw [if_pos hk3] at HF;have HK:=aA0 hk3;obtain ⟨b',o',R,r1,rfl,hb',hc1,_,_,_⟩:=hP.at_ i hi;obtain ⟨_,l2,l3⟩:=aCn hl;have hlen:=l3 _ (List.getElem_mem hi);have hd:decide (i<g.ports.length)=true:=by simpa using hi
   have hw:IntKind.i64.wrap ((g.ports[i].length:Int)-1)=(g.ports[i].length:Int)-1:=IntWalk.i64_in _ (by omega)
   clear hk3 hk2 hV hP l3;go_enter func91,ntmps91;go_wp2
   go_quiet (fail)
   go_wp2
   go_ret2
   rw [HF.out];exact ⟨rfl,(aA1 HW).drewN _⟩
  .have e2:(p.vars[q].kind==3)=false:=by simpa using hk3
   rw [if_neg hk3] at HF
   have hb3:(0<=p.vars[q].perNode/\p.vars[q].perNode<=255)/\(0<=p.vars[q].perID/\p.vars[q].perID<=255) /\ -4096<=p.vars[q].hi/\p.vars[q].hi<=4096:=by
    rcases HNP.out with h | h | h <;> omega
   have hle:=hg.le;have hids:=hg.ids;obtain ⟨g1,g2⟩:=aHp hg;obtain ⟨m1,m2⟩:=aFs hb3.1.1 hb3.1.2 (show (0:Int)<=g.ports.length by omega) (show (g.ports.length:Int)<=24 by omega)
   obtain ⟨m3,m4⟩:=aFs hb3.2.1.1 hb3.2.1.2 g1 g2;rw [hids] at HF;have w1:IntKind.i64.wrap (p.vars[q].perNode*(g.ports.length:Int))=p.vars[q].perNode*g.ports.length:=IntWalk.i64_in _ (by omega)
   have w2:IntKind.i64.wrap (p.vars[q].hi+p.vars[q].perNode*(g.ports.length:Int))=p.vars[q].hi+p.vars[q].perNode*g.ports.length:=IntWalk.i64_in _ (by omega)
   have w3:IntKind.i64.wrap (p.vars[q].perID*aD0 g.ids)=p.vars[q].perID*aD0 g.ids:=IntWalk.i64_in _ (by omega)
   have w4:IntKind.i64.wrap (p.vars[q].hi+p.vars[q].perNode*(g.ports.length:Int)+p.vars[q].perID*aD0 g.ids)=p.vars[q].hi+p.vars[q].perNode*g.ports.length+p.vars[q].perID*aD0 g.ids:=IntWalk.i64_in _ (by omega)
   have hl1000:g.ids.length<=1000:=by omega
   have hcell:=aA0 (fun w' (kk:Bel ((w.alloc (.cells #[.string p.name,.slice (some ⟨b,o,none⟩) p.vars.length k,.slice A2 p.rules.length k2] 25)).alloc (.cells #[.slice A3 g.ids.length k3,.slice A4 g.ports.length k4] 29)) w')=>And.intro ((aAf kk).2.1) (And.intro ((aAf kk).2.2.2.1) (And.intro ((aAf kk).2.2.2.2.1) (And.intro (((aA1 kk).cell hb).trans c2) (And.intro (((aA1 kk).cell hb).trans c3) (And.intro (((aA1 kk).cell hb).trans c4) (And.intro (((aA1 kk).cell hb).trans c5) ((aAf kk).2.2.2.2.2))))))));clear hk3 hk2 hV hP m1 m2 m3 m4 hids hle hg hx hb3;generalize hvq:p.vars[q]=x at *;clear hvq;go_enter func91,ntmps91;go_wp2;replace HW:=HW.drew
   go_region_held3 (fun w'=>w'.cell? ⟨w.heap.size,1,none⟩=some (.slice (some ⟨b,o,none⟩) p.vars.length k)/\w'.cell? ⟨w.heap.size+1,0,none⟩=some (.slice A3 g.ids.length k3)/\w'.cell? ⟨w.heap.size+1,1,none⟩=some (.slice A4 g.ports.length k4)/\w'.cell? ⟨b,o+q*6+2,none⟩=some (.int .i64 x.lo)/\w'.cell? ⟨b,o+q*6+3,none⟩=some (.int .i64 x.hi)/\w'.cell? ⟨b,o+q*6+4,none⟩=some (.int .i64 x.perNode)/\w'.cell? ⟨b,o+q*6+5,none⟩=some (.int .i64 x.perID)/\w.heap.size+1<w'.heap.size) (exact hcell.out _ HW) (first | (go_simp;go_at_call 115;refine (aPt _ g _ (HGV.out _ (aA1 HW)) hl1000).mono ?_;rintro e w' ⟨rfl,hbb⟩;replace HW:=HW.trans hbb;clear hbb))
   go_wp2
   go_ret2
   rw [HF.out];exact ⟨rfl,aA1 HW⟩
def aG4 (g:Graph) (x:Var):Bool:=decide (x.kind≠1∨((aAj x g 0).1<=(aAj x g 0).2/\(aAj x g 0).2-(aAj x g 0).1+1<=4096))
def aH1 (p:Prg) (g:Graph):Int :=
 if aB8 p≠0 then 8 else if aD4 g=false then 1 else if p.vars.all (aG4 g)=false then 9 else 0
theorem aGx {x:Var} {g:Graph} {v:Nat} (hx:aBe x=true) (hg:GOK g) (hv:v<g.ports.length) : -4096<=(aAj x g v).1/\(aAj x g v).1<=4096 /\ -4096<=(aAj x g v).2/\(aAj x g v).2<=80000:=by
 have hle:=hg.le;have hids:=hg.ids;obtain ⟨g1,g2⟩:=aHp hg;have hlen:=aCa hv (hg.links v hv);unfold aAj;rw [aA8 hv]
 rcases aDr hx with h | h | h
 .rw [if_pos h.1];simp
 .rw [if_neg (by omega),if_pos h.1];simp;omega
 .rw [if_neg (by omega),if_neg (by omega)]
  obtain ⟨_,a1,a2,a3,a4,a5⟩:=h;obtain ⟨m1,m2⟩:=aFs a2.1 a2.2 (show (0:Int)<=g.ids.length by omega) (show (g.ids.length:Int)<=24 by omega)
  obtain ⟨m3,m4⟩:=aFs a3.1 a3.2 g1 g2;simp only []
  omega
theorem aBj {p:Prg} (h:aB8 p=0):p.vars.all aBe=true/\1<=p.vars.length/\p.vars.length<=6/\p.rules.length<=12/\aC6 p=true/\(∀ r∈p.rules,FOK p.vars.length r)/\(∀ r∈p.rules,aBq (aB7 p) r=true):=by
 unfold aB8 at h;split at h
 .cases h
 .rename_i hn
  split at h
  .cases h
  .rename_i h1
   split at h
   .cases h
   .rename_i h2
    split at h
    .cases h
    .rename_i h3
     split at h
     .cases h
     .rename_i h4
      refine ⟨by simpa using h2,by omega,by omega,by omega,by simpa using h1,fun r hr=>?_,fun r hr=>?_⟩
      .exact (aDz _ _).1 (List.all_eq_true.1 (by simpa using h3:p.rules.all (aBs p.vars.length)=true) r hr)
      .exact List.all_eq_true.1 (by simpa using h4:p.rules.all (aBq (aB7 p))=true) r hr
theorem aOd (v:Value) (p:Prg) (v2:Value) (g:Graph) (w:World) (h:aEo w v p) (h2:aAm w v2 g) (hL:aAq p=true) (hG:aB2 g=true) :
  Calls prog 81 #[v,v2] w fun e w'=>e = .returned (.int .i64 (aH1 p g))/\Bel w w':=by
 have HPV:=aA0 (fun w' (k:Bel w w')=>h.keep k);have HGV:=aA0 (fun w' (k:Bel w w')=>h2.keep k);obtain ⟨A,k,A2,k2,rfl,hV,_,_,_,_,_⟩:=h;obtain ⟨A3,k3,A4,k4,rfl,_,_,_,_,_,_⟩:=h2;have HV:=aA0 (fun w' (k:Bel w w')=>aHz.keep hV k);clear hV;have HL:=aA0 hL;have HGL:=aA0 hG;clear hL hG;have HW:=Bel.refl ((w.alloc (.cells #[.string p.name,.slice A p.vars.length k,.slice A2 p.rules.length k2] 25)).alloc (.cells #[.slice A3 g.ids.length k3,.slice A4 g.ports.length k4] 29));have HF:Hid (aH1 p g=if aB8 p≠0 then 8 else if aD4 g=false then 1 else if p.vars.all (aG4 g)=false then 9 else 0):=rfl
 by_cases hc:aB8 p=0
 .have hcb:decide (aB8 p=0)=true:=by simpa using hc
  rw [if_neg (by simpa using hc)] at HF
  have HCN:=aA0 (aBj hc);have HCB:=aA0 hcb;clear hc hcb;have hn6:=HCN.out.2.2.1;cases hg:aD4 g with
  | false =>
   rw [hg,if_pos rfl] at HF;go_enter func81,ntmps81
   go_wp2_with (first
    | (go_at_call 101;refine (aH9 _ p _ (HPV.out _ (aA1 HW)) HL.out).mono ?_;rintro e w' ⟨rfl,hb⟩;rw [HCB.out];replace HW:=HW.trans hb;clear hb;obtain ⟨p0,p1,p2,g0,g1,gsz⟩:=aAf HW)
    | (go_at_call 102;refine (aI5 _ g _ (HGV.out _ (aA1 HW)) HGL.out).mono ?_;rintro e w' ⟨rfl,hb⟩;rw [hg];replace HW:=HW.trans hb;clear hb))
   go_ret;exact ⟨aA4 HF.out.symm,aA1 HW⟩
  | true =>
   rw [hg,if_neg (by decide)] at HF
   have HGG:=aA0 hg;have HGO:=aA0 ((aCr g).1 hg);clear hg;go_enter func81,ntmps81
   go_wp2_with (first
    | (go_at_call 101;refine (aH9 _ p _ (HPV.out _ (aA1 HW)) HL.out).mono ?_;rintro e w' ⟨rfl,hb⟩;rw [HCB.out];replace HW:=HW.trans hb;clear hb;obtain ⟨p0,p1,p2,g0,g1,gsz⟩:=aAf HW)
    | (go_at_call 102;refine (aI5 _ g _ (HGV.out _ (aA1 HW)) HGL.out).mono ?_;rintro e w' ⟨rfl,hb⟩;rw [HGG.out];replace HW:=HW.trans hb;clear hb p0 p1 p2 g0 g1 gsz;obtain ⟨p0,p1,p2,g0,g1,gsz⟩:=aAf HW))
   clear p0 p1 p2 g0 g1 gsz
   go_loopg [6,7,8,18] p.vars.length (fun m _x _y _u z wr=>∃ j:Nat,j<=p.vars.length/\m=p.vars.length-j/\z = .int .i64 j/\Hid ((p.vars.take j).all (aG4 g)=true)/\Bel ((w.alloc (.cells #[.string p.name,.slice A p.vars.length k,.slice A2 p.rules.length k2] 25)).alloc (.cells #[.slice A3 g.ids.length k3,.slice A4 g.ports.length k4] 29)) wr)
   case atStart=>exact ⟨0,by omega,rfl,rfl,rfl,HW⟩
   case round =>
    clear HW;obtain ⟨i,hi,rfl,rfl,HJ,HW⟩:=hrel
    by_cases hlt:i<p.vars.length
    .have hd0:decide (i<p.vars.length)=true:=by simpa using hlt
     obtain ⟨p0,p1,p2,g0,g1,gsz⟩:=aAf HW;obtain ⟨b,o,rfl,hb,c0,c1,c2,c3,c4,c5⟩:=(HV.out _ (aA1 HW)).at_ i hlt;have HNX:=aA0 (List.all_eq_true.1 HCN.out.1 _ (List.getElem_mem hlt));have hpos:0<g.ports.length:=HGO.out.pos;have hbs:=aGx HNX.out HGO.out hpos;have HFV:Hid (aG4 g p.vars[i]=decide (p.vars[i].kind≠1∨((aAj p.vars[i] g 0).1<=(aAj p.vars[i] g 0).2/\(aAj p.vars[i] g 0).2-(aAj p.vars[i] g 0).1+1<=4096))):=rfl;have HW2:=HW.alloc (.cells #[.string p.vars[i].name,.int .i64 p.vars[i].kind,.int .i64 p.vars[i].lo,.int .i64 p.vars[i].hi,.int .i64 p.vars[i].perNode,.int .i64 p.vars[i].perID] 100)
     by_cases hk:p.vars[i].kind=1
     .have hkb:(p.vars[i].kind != 1)=false:=by simpa using hk
      have HK:=aA0 hk;clear hk;generalize hbd:aAj p.vars[i] g 0=B at *;have HBD:=aA0 hbd;clear hbd;obtain ⟨lo,hi'⟩:=B;dsimp only at hbs HFV
      by_cases hok:lo<=hi'/\hi' - lo+1<=4096
      .have d1:decide (hi' < lo)=false:=by simp;omega
       have d2:decide (4096<hi' - lo+1)=false:=by simp;omega
       have HN:=aA0 (aA9 hlt HJ.out (by rw [HFV.out];simp;omega))
       go_wp2_with (go_at_call 103;refine (aHn p.vars[i] _ g 0 _ (HGV.out _ (aA1 HW2)) HNX.out HGO.out hpos HGL.out).mono ?_;rintro e w' ⟨rfl,hb⟩;rw [HBD.out];replace HW2:=HW2.trans hb;clear hb)
       go_roundg (p.vars.length-(i+1))
       case rel=>exact ⟨i+1,by omega,rfl,by go_num,HN,HW2⟩
       case measure=>omega
      .rw [aAh hlt (by rw [HFV.out,decide_eq_false];have:=HK.out;omega),if_pos rfl] at HF
       by_cases d1:hi' < lo
       .have d1:decide (hi' < lo)=true:=by simpa using d1
        clear hok
        go_wp2_with (go_at_call 103;refine (aHn p.vars[i] _ g 0 _ (HGV.out _ (aA1 HW2)) HNX.out HGO.out hpos HGL.out).mono ?_;rintro e w' ⟨rfl,hb⟩;rw [HBD.out];replace HW2:=HW2.trans hb;clear hb)
        go_ret;exact ⟨aA4 HF.out.symm,aA1 HW2⟩
       .have d2:decide (4096<hi' - lo+1)=true:=by simp;omega
        have d1:decide (hi' < lo)=false:=by simpa using d1
        clear hok
        go_wp2_with (go_at_call 103;refine (aHn p.vars[i] _ g 0 _ (HGV.out _ (aA1 HW2)) HNX.out HGO.out hpos HGL.out).mono ?_;rintro e w' ⟨rfl,hb⟩;rw [HBD.out];replace HW2:=HW2.trans hb;clear hb)
        go_ret;exact ⟨aA4 HF.out.symm,aA1 HW2⟩
     .have hkb:(p.vars[i].kind != 1)=true:=by simpa using hk
      have HN:=aA0 (aA9 hlt HJ.out (by rw [HFV.out];simp [hk]))
      go_wp2_with fail
      go_roundg (p.vars.length-(i+1))
      case rel=>exact ⟨i+1,by omega,rfl,by go_num,HN,HW2⟩
      case measure=>omega
    .have hd0:decide (i<p.vars.length)=false:=by simpa using hlt
     rw [aAi (by omega) HJ.out,if_neg (by decide)] at HF
     go_wp2_with fail
     go_ret;exact ⟨aA4 HF.out.symm,aA1 HW⟩
 .have hcb:decide (aB8 p=0)=false:=by simpa using hc
  rw [if_pos hc] at HF;have HCB:=aA0 hcb;clear hc hcb;go_enter func81,ntmps81
  go_wp2_with (go_at_call 101;refine (aH9 _ p _ (HPV.out _ (aA1 HW)) HL.out).mono ?_;rintro e w' ⟨rfl,hb⟩;rw [HCB.out];replace HW:=HW.trans hb;clear hb)
  go_ret;exact ⟨aA4 HF.out.symm,aA1 HW⟩
theorem aIn (v:Value) (p:Prg) (v2:Value) (g:Graph) (w:World) (h:aEo w v p) (h2:aAm w v2 g) (hL:aAq p=true) (hG:aB2 g=true) :
  Calls prog 90 #[v,v2] w fun e w'=>e = .returned (.int .i64 (aH1 p g))/\Bel w w':=by
 have HPV:=aA0 (fun w' (k:Bel w w')=>h.keep k);have HGV:=aA0 (fun w' (k:Bel w w')=>h2.keep k);obtain ⟨A,k,A2,k2,rfl,hV,_,_,_,_,_⟩:=h;obtain ⟨A3,k3,A4,k4,rfl,_,_,_,_,_,_⟩:=h2;have HV:=aA0 (fun w' (k:Bel w w')=>aHz.keep hV k);clear hV;have HL:=aA0 hL;have HGL:=aA0 hG;clear hL hG;have HW:=Bel.refl ((w.alloc (.cells #[.string p.name,.slice A p.vars.length k,.slice A2 p.rules.length k2] 25)).alloc (.cells #[.slice A3 g.ids.length k3,.slice A4 g.ports.length k4] 29));have HF:Hid (aH1 p g=if aB8 p≠0 then 8 else if aD4 g=false then 1 else if p.vars.all (aG4 g)=false then 9 else 0):=rfl
 by_cases hc:aB8 p=0
 .have hcb:decide (aB8 p=0)=true:=by simpa using hc
  rw [if_neg (by simpa using hc)] at HF
  have HCN:=aA0 (aBj hc);have HCB:=aA0 hcb;clear hc hcb;have hn6:=HCN.out.2.2.1;cases hg:aD4 g with
  | false =>
   rw [hg,if_pos rfl] at HF;go_enter func90,ntmps90
   go_wp2_with (first
    | (go_at_call 114;refine (aF2 _ p _ (HPV.out _ (aA1 HW)) HL.out).mono ?_;rintro e w' ⟨rfl,hb⟩;rw [HCB.out];replace HW:=HW.trans hb;clear hb;obtain ⟨p0,p1,p2,g0,g1,gsz⟩:=aAf HW)
    | (go_at_call 72;refine (aBo _ g _ (HGV.out _ (aA1 HW)) HGL.out).mono ?_;rintro e w' ⟨rfl,hb⟩;rw [hg];replace HW:=HW.trans hb;clear hb))
   go_ret;exact ⟨aA4 HF.out.symm,aA1 HW⟩
  | true =>
   rw [hg,if_neg (by decide)] at HF
   have HGG:=aA0 hg;have HGO:=aA0 ((aCr g).1 hg);clear hg;go_enter func90,ntmps90
   go_wp2_with (first
    | (go_at_call 114;refine (aF2 _ p _ (HPV.out _ (aA1 HW)) HL.out).mono ?_;rintro e w' ⟨rfl,hb⟩;rw [HCB.out];replace HW:=HW.trans hb;clear hb;obtain ⟨p0,p1,p2,g0,g1,gsz⟩:=aAf HW)
    | (go_at_call 72;refine (aBo _ g _ (HGV.out _ (aA1 HW)) HGL.out).mono ?_;rintro e w' ⟨rfl,hb⟩;rw [HGG.out];replace HW:=HW.trans hb;clear hb p0 p1 p2 g0 g1 gsz;obtain ⟨p0,p1,p2,g0,g1,gsz⟩:=aAf HW))
   clear p0 p1 p2 g0 g1 gsz
   go_loopg [5,6,7] p.vars.length (fun m z _y _u wr=>∃ j:Nat,j<=p.vars.length/\m=p.vars.length-j/\z = .int .i64 j/\Hid ((p.vars.take j).all (aG4 g)=true)/\Bel ((w.alloc (.cells #[.string p.name,.slice A p.vars.length k,.slice A2 p.rules.length k2] 25)).alloc (.cells #[.slice A3 g.ids.length k3,.slice A4 g.ports.length k4] 29)) wr)
   case atStart=>exact ⟨0,by omega,rfl,rfl,rfl,HW⟩
   case round =>
    clear HW;obtain ⟨i,hi,rfl,rfl,HJ,HW⟩:=hrel;obtain ⟨p0,p1,p2,g0,g1,gsz⟩:=aAf HW
    by_cases hlt:i<p.vars.length
    .have hd0:decide (i<p.vars.length)=true:=by simpa using hlt
     have HNX:=aA0 (List.all_eq_true.1 HCN.out.1 _ (List.getElem_mem hlt));have hpos:0<g.ports.length:=HGO.out.pos;have hbs:=aGx HNX.out HGO.out hpos;have HFV:Hid (aG4 g p.vars[i]=decide (p.vars[i].kind≠1∨((aAj p.vars[i] g 0).1<=(aAj p.vars[i] g 0).2/\(aAj p.vars[i] g 0).2-(aAj p.vars[i] g 0).1+1<=4096))):=rfl;generalize hbd:aAj p.vars[i] g 0=B at *;have HBD:=aA0 hbd;clear hbd;obtain ⟨lo,hi'⟩:=B;dsimp only at hbs HFV
     go_wp2_with fail
     refine (aSp _ p _ g 0 i _ (HPV.out _ (aA1 HW)) (HGV.out _ (aA1 HW)) hlt HNX.out HGO.out hpos HGL.out).mono ?_
     rintro e w' ⟨rfl,hb⟩;rw [HBD.out];replace HW:=HW.trans hb;clear hb p0 p1 p2 g0 g1 gsz;obtain ⟨p0,p1,p2,g0,g1,gsz⟩:=aAf HW;obtain ⟨b,o,rfl,hb,c0,c1,c2,c3,c4,c5⟩:=(HV.out _ (aA1 HW)).at_ i hlt;dsimp only
     by_cases hk:p.vars[i].kind=1
     .have hkb:(p.vars[i].kind==1)=true:=by simpa using hk
      have HK:=aA0 hk;clear hk
      by_cases hok:lo<=hi'/\hi' - lo+1<=4096
      .have d1:inB (hi' - lo) 0 4095=true:=aDb (by omega) (by omega)
       have HN:=aA0 (aA9 hlt HJ.out (by rw [HFV.out];simp;omega))
       go_wp2_with (go_at_call 92;refine (aCs _ _ _ _).mono ?_;rintro e w' ⟨rfl,rfl⟩)
       go_roundg (p.vars.length-(i+1))
       case rel=>exact ⟨i+1,by omega,rfl,by go_num,HN,HW⟩
       case measure=>omega
      .rw [aAh hlt (by rw [HFV.out,decide_eq_false];have:=HK.out;omega),if_pos rfl] at HF
       have d1:inB (hi' - lo) 0 4095=false:=aJ0 (by omega)
       clear hok
       go_wp2_with (go_at_call 92;refine (aCs _ _ _ _).mono ?_;rintro e w' ⟨rfl,rfl⟩)
       go_ret;exact ⟨aA4 HF.out.symm,aA1 HW⟩
     .have hkb:(p.vars[i].kind==1)=false:=by simpa using hk
      have HN:=aA0 (aA9 hlt HJ.out (by rw [HFV.out];simp [hk]))
      go_wp2_with fail
      go_roundg (p.vars.length-(i+1))
      case rel=>exact ⟨i+1,by omega,rfl,by go_num,HN,HW⟩
      case measure=>omega
    .have hd0:decide (i<p.vars.length)=false:=by simpa using hlt
     rw [aAi (by omega) HJ.out,if_neg (by decide)] at HF
     go_wp2_with fail
     go_ret;exact ⟨aA4 HF.out.symm,aA1 HW⟩
 .have hcb:decide (aB8 p=0)=false:=by simpa using hc
  rw [if_pos hc] at HF;have HCB:=aA0 hcb;clear hc hcb;go_enter func90,ntmps90
  go_wp2_with (go_at_call 114;refine (aF2 _ p _ (HPV.out _ (aA1 HW)) HL.out).mono ?_;rintro e w' ⟨rfl,hb⟩;rw [HCB.out];replace HW:=HW.trans hb;clear hb)
  go_ret;exact ⟨aA4 HF.out.symm,aA1 HW⟩
def Fr (g:Nat) (a b:World):Prop:=a.heap.size<=b.heap.size/\∀ k,k<a.heap.size->k≠g->b.heap[k]?=a.heap[k]?
theorem Fr.refl (g:Nat) (a:World):Fr g a a:=⟨Nat.le_refl _,fun _ _ _=>rfl⟩
theorem Fr.trans {g:Nat} {a b c:World} (h:Fr g a b) (k:Fr g b c):Fr g a c:=⟨Nat.le_trans h.1 k.1,fun i hi hg=>(k.2 i (Nat.lt_of_lt_of_le hi h.1) hg).trans (h.2 i hi hg)⟩
theorem Fr.of_bel {g:Nat} {a b:World} (h:Bel a b):Fr g a b:=⟨h.size,fun k hk _=>h.block k hk⟩
theorem Fr.alloc {g:Nat} {a b:World} (h:Fr g a b) (o:Obj):Fr g a (b.alloc o):=h.trans (Fr.of_bel ((Bel.refl b).alloc o))
theorem Fr.drew {g:Nat} {a b:World} (h:Fr g a b):Fr g a b.drew:=h
theorem Fr.drewN {g:Nat} {a b:World} (h:Fr g a b) (n:Nat):Fr g a (b.drewN n):=h
theorem Fr.set {g:Nat} {a b:World} (h:Fr g a b) (o:Nat) (v:Value):Fr g a (b.setCell ⟨g,o,none⟩ v) :=
 h.trans ⟨by simp,fun k hk hg=>Below.heap_setCell _ _ _ _ hg⟩
theorem Fr.cell {g:Nat} {a b:World} (h:Fr g a b) {k o:Nat} (hk:k<a.heap.size) (hg:k≠g):b.cell? ⟨k,o,none⟩=a.cell? ⟨k,o,none⟩:=by
 unfold World.cell?;rw [h.2 k hk hg]
theorem Fr.newer {g g':Nat} {a b c:World} (h:Fr g a b) (hg:a.heap.size<=g') (k:Fr g' b c):Fr g a c :=
 ⟨Nat.le_trans h.1 k.1,fun i hi hne=>(k.2 i (Nat.lt_of_lt_of_le hi h.1) (by omega)).trans (h.2 i hi hne)⟩
def aLm (w:World) (b o:Nat) (x:Int × Int):Prop:=w.cell? ⟨b,o,none⟩=some (.int .i64 x.1)/\w.cell? ⟨b,o+1,none⟩=some (.int .i64 x.2)
theorem aLm.keeps:aL1 aLm:=fun _ _ _ _ _ k hb h=>⟨(k.cell hb).trans h.1,(k.cell hb).trans h.2⟩
def aKd:=aAc 2 aLm
def aNf:=aAc 1 (aHy 2 aLm)
theorem aNf.keep {w w':World} {A:Option Addr} {n:Nat} {xs:List (List (Int × Int))} (h:aNf w A n xs) (k:Bel w w'):aNf w' A n xs:=aAc.keep (aHy.keeps aLm.keeps) h k
theorem aKd.keep {w w':World} {A:Option Addr} {n:Nat} {xs:List (Int × Int)} (h:aKd w A n xs) (k:Bel w w'):aKd w' A n xs:=aAc.keep aLm.keeps h k
theorem aNf.at_ {w:World} {A:Option Addr} {n:Nat} {xs:List (List (Int × Int))} (h:aNf w A n xs) (k:Nat) (hk:k<xs.length) :
  ∃ b o R c,A=some ⟨b,o,none⟩/\b<w.heap.size/\w.cell? ⟨b,o+k,none⟩=some (.slice R xs[k].length c)/\aKd w R xs[k].length xs[k]/\xs[k].length<=c/\c<=maxLen:=RowsAt.at_ h k hk
theorem aKd.at_ {w:World} {A:Option Addr} {n:Nat} {xs:List (Int × Int)} (h:aKd w A n xs) (k:Nat) (hk:k<xs.length) :
  ∃ b o,A=some ⟨b,o,none⟩/\b<w.heap.size/\w.cell? ⟨b,o+k*2,none⟩=some (.int .i64 xs[k].1)/\w.cell? ⟨b,o+k*2+1,none⟩=some (.int .i64 xs[k].2):=aAc.at_ h k hk
def aI1 (w:World) (v:Value) (t:List (List (Int × Int))):Prop:=∃ A c,v = .slice A t.length c/\aNf w A t.length t/\t.length<=c/\c<=maxLen
theorem aI1.keep {w w':World} {v:Value} {t:List (List (Int × Int))} (h:aI1 w v t) (k:Bel w w'):aI1 w' v t:=by
 obtain ⟨A,c,e,h1,h2⟩:=h;exact ⟨A,c,e,h1.keep k,h2⟩
def aHu (p:Prg) (g:Graph) (v:Nat):List (Int × Int):=p.vars.map fun x=>aAj x g v
def aAo (p:Prg) (g:Graph):List (List (Int × Int)):=(List.range g.ids.length).map (aHu p g)
def aXa (t:List (List (Int × Int))) (w:World) (e:Ending) (w':World):Prop:=∃ v,e = .returned v/\aI1 w' v t/\Bel w w'
def aIu (N:Nat) (w:World) (v:Value) (t:List (List (Int × Int))):Prop:=∀ W,aBl N w W->aI1 W v t
theorem aIu.keep {N:Nat} {w w':World} {v:Value} {t:List (List (Int × Int))} (h:aIu N w v t) (k:Bel w w'):aIu N w' v t:=fun W hW=>h W (hW.back k)
theorem aIu.low {N M:Nat} {w:World} {v:Value} {t:List (List (Int × Int))} (h:aIu N w v t) (hM:M<=N):aIu M w v t:=fun W hW=>h W (hW.up hM)
def aV4 (t:List (List (Int × Int))) (w:World) (e:Ending) (w':World):Prop:=∃ v,e = .returned v/\aIu w.heap.size w' v t/\Bel w w'
def aL9 (w:World) (N m gb v:Nat) (hs:List Value) (t:List (List (Int × Int))):Prop :=
 ∀ u,u<v->∃ gu,hs[u]?=some (.slice (some ⟨gu,0,none⟩) m m)/\gu≠gb/\gu<w.heap.size/\N<=gu/\∀ x i,(t.getD u [])[i]?=some x->aLm w gu (i*2) x
theorem aL9.kept {w w':World} {N m gb v:Nat} {hs:List Value} {t:List (List (Int × Int))} (h:aL9 w N m gb v hs t) (hf:Fr gb w w'):aL9 w' N m gb v hs t:=fun u hu=>by
 obtain ⟨gu,h1,h2,h3,h5,h4⟩:=h u hu;exact ⟨gu,h1,h2,Nat.lt_of_lt_of_le h3 hf.1,h5,fun x i hx=>⟨(hf.cell h3 h2).trans (h4 x i hx).1,(hf.cell h3 h2).trans (h4 x i hx).2⟩⟩
theorem aT2 {w w':World} {base:Nat} {e:TypeId} {size gb n c g:Nat} {xs:List Value} (h:w.ownsRow base e size (.slice (some ⟨gb,0,none⟩) n c) n xs) (hf:Fr g w w') (hne:gb≠g):w'.ownsRow base e size (.slice (some ⟨gb,0,none⟩) n c) n xs:=by
 refine ⟨h.1,?_⟩
 rcases h.2 with ⟨hv,_⟩ | ⟨g',cap,cur,hv,hb,hg,hr⟩
 .cases hv
 .right
  refine ⟨g',cap,cur,hv,hb,?_,hr⟩
  injection hv with hA;injection hA with hA;injection hA with hA;subst hA
  rw [hf.2 gb (lt_of_block hg) hne];exact hg
theorem aH7 {w:World} {base:Nat} {e:TypeId} {g n c:Nat} {xs:List Value} (h:w.ownsRow base e 1 (.slice (some ⟨g,0,none⟩) n c) n xs) (j:Nat) (hj:j<xs.length):w.cell? ⟨g,j,none⟩=some xs[j]:=by
 obtain ⟨g',e1,_,_,h1,_⟩:=aCz h (List.getElem?_eq_getElem hj);obtain rfl:g=g':=by simpa using e1
 exact h1
def aJt (l:List Term) (k:Nat):List Term:=l.take k++List.replicate (l.length-k) ⟨0,0⟩
theorem aTw (l:List Term):aJt l 0=List.replicate l.length ⟨0,0⟩:=by simp [aJt]
theorem aTu (l:List Term) (k:Nat) (h:l.length<=k):aJt l k=l:=by simp [aJt,List.take_of_length_le h,show l.length-k=0 by omega]
theorem aPl (l:List Term) (k:Nat):(aJt l k).length=l.length:=by simp [aJt];omega
theorem aVl (l:List Term) (k:Nat) (h:k<l.length):(aJt l k)[k]?=some ⟨0,0⟩:=by
 unfold aJt;rw [List.getElem?_append_right (by simp;omega)]
 rw [List.length_take,Nat.min_eq_left (Nat.le_of_lt h),Nat.sub_self,List.getElem?_replicate,if_pos (by omega)]
theorem aTv (l:List Term) (k:Nat) (h:k<l.length):(aJt l k).set k l[k]=aJt l (k+1):=by
 unfold aJt;rw [List.set_append_right _ _ (by simp;omega),List.length_take,Nat.min_eq_left (Nat.le_of_lt h),Nat.sub_self,show l.length-k=(l.length-(k+1))+1 by omega,List.replicate_succ,List.set_cons_zero]
 conv=>rhs;rw [List.take_succ_eq_append_getElem h,List.append_assoc]
 rfl
theorem aNb (es:List Term) (k:Nat) (t:Term) (h:k<es.length):((es.flatMap aBx).set (k*2) (.int .i64 t.op)).set (k*2+1) (.int .i64 t.arg)=(es.set k t).flatMap aBx:=by
 induction es generalizing k with
 | nil=>simp at h
 | cons x es ih =>
  cases k with
  | zero=>simp [aBx]
  | succ k =>
   have:=ih k (by simpa using h)
   rw [show (k+1)*2+1=(k*2+1)+1+1 by omega,show (k+1)*2=k*2+1+1 by omega]
   simpa [aBx] using this
theorem aSi (m:Nat):(List.replicate m (⟨0,0⟩:Term)).flatMap aBx=List.replicate (m*2) (.int .i64 0):=by
 induction m with
 | zero=>rfl
 | succ m ih=>rw [List.replicate_succ,List.flatMap_cons,ih,show (m+1)*2=m*2+1+1 by omega,List.replicate_succ,List.replicate_succ];rfl
theorem aW2 (m:Nat):(madeCells (Value.agg #[.int .i64 0,.int .i64 0]).cells (m*2)).toList=(List.replicate m (⟨0,0⟩:Term)).flatMap aBx:=by
 rw [aSi,List.eq_replicate_iff];refine ⟨by simp [madeCells],fun b hb=>?_⟩
 simp [madeCells,Value.cells] at hb
 obtain ⟨i,hi,rfl⟩:=hb
 rcases Nat.mod_two_eq_zero_or_one i with h | h <;> simp [h]
theorem aXx:(prog.info? 147).map (fun i=>(i.zero,i.size,i.bytes))=some (some (.slice none 0 0),1,24):=by kernel_rfl
theorem aWe:(prog.info? 149).map (fun i=>(i.zero,i.size,i.bytes))=some (some (.agg #[.int .i64 0,.int .i64 0]),2,16):=by kernel_rfl
theorem aNw (v:Value) (p:Prg) (v2:Value) (g:Graph) (w:World) (h:aEo w v p) (h2:aAm w v2 g) (hc:aB8 p=0) (hg:GOK g) (hG:aB2 g=true) :
  Calls prog 83 #[v,v2] w (aV4 (aAo p g) w):=by
 have HGV:=aA0 (fun w' (k:Bel w w')=>h2.keep k);obtain ⟨A,k,A2,k2,rfl,hV,_,_,_,_,_⟩:=h;obtain ⟨A3,k3,A4,k4,rfl,_,_,_,_,_,_⟩:=h2;have HV:=aA0 (fun w' (k:Bel w w')=>aHz.keep hV k);clear hV;obtain ⟨cn,c1,c6,_⟩:=aBj hc;have HCN:=aA0 cn;have HGO:=aA0 hg;have HGL:=aA0 hG;have hn:g.ids.length<=24:=by rw [hg.ids];exact hg.le
 obtain ⟨i0,hi0,hz0,hz1,hz2⟩:=info_parts aXx;obtain ⟨j0,hj0,hy0,hy1,hy2⟩:=info_parts aWe
 have HT:Hid (∀ u,u<g.ids.length->(aAo p g).getD u []=aHu p g u):=fun u hu=>by
  unfold aAo;simp [List.getD_eq_getElem?_getD,hu]
 clear cn hc hg hG;go_enter func83,ntmps83
 go_wp2_with (at_make;refine aF5 _ rfl 124 (.tmp 11) (.tmp 11) rfl (w.heap.size+1+1) 147 i0 (.slice none 0 0) 1 underlying124 hi0 hz0 hz1 .i64 .i64 g.ids.length rfl rfl (by rw [hz2];omega) (by unfold maxLen;omega) (by simp) ?_;intro gb w1 hown hb;have HW:=hb;rw [aJ5 _ rfl] at hown;have HO:=aA0 hown;clear hown hb)
 obtain ⟨hgb1,hgb2⟩:=aBf HO.out;obtain ⟨p0,p1,p2,g0,g1,gsz⟩:=aAf HW;go_wp2;clear p0 p1 p2 g0 g1 gsz
 go_loopg [6,7,8,15] g.ids.length (fun m _x _y _u z wr=>∃ (v:Nat) (hs:List Value),v<=g.ids.length/\m=g.ids.length-v/\z = .int .i64 v/\Hid (wr.ownsRow (w.heap.size+1+1) 147 1 (.slice (some ⟨gb,0,none⟩) g.ids.length g.ids.length) g.ids.length hs)/\Hid (aL9 wr w.heap.size p.vars.length gb v hs (aAo p g))/\Bel ((w.alloc (.cells #[.string p.name,.slice A p.vars.length k,.slice A2 p.rules.length k2] 25)).alloc (.cells #[.slice A3 g.ids.length k3,.slice A4 g.ports.length k4] 29)) wr)
 case atStart=>exact ⟨0,_,by omega,rfl,rfl,HO,fun u hu=>absurd hu (by omega),HW⟩
 case round =>
  clear HO HW hgb2;obtain ⟨wo,rfl⟩:∃ wo:World,wo=wr:=⟨_,rfl⟩;obtain ⟨v,hs,hv,rfl,rfl,HO,HD,HW⟩:=hrel
  by_cases hlt:v<g.ids.length
  .have hd0:decide (v<g.ids.length)=true:=by simpa using hlt
   obtain ⟨p0,p1,p2,g0,g1,gsz⟩:=aAf HW;have hwo:w.heap.size+1<wo.heap.size:=gsz;have hsl:hs.length=g.ids.length:=by have:=HO.out.1;omega
   have hfr0:=Fr.refl gb wo;have hvp:v<g.ports.length:=by rw [<- HGO.out.ids];exact hlt
   obtain ⟨row,hrow⟩:∃ row:List Term,row=(aHu p g v).map (fun x=>(⟨x.1,x.2⟩:Term)):=⟨_,rfl⟩;have hrl:row.length=p.vars.length:=by rw [hrow];simp [aHu]
   have HROW:=aA0 hrow;have HRL:=aA0 hrl;clear hrow hrl
   go_wp2_with (at_make;refine aF5 _ rfl 147 (.tmp 22) (.tmp 22) rfl wo.heap.size 149 j0 (.agg #[.int .i64 0,.int .i64 0]) 2 underlying147 hj0 hy0 hy1 .i64 .i64 p.vars.length rfl rfl (by rw [hy2];omega) (by unfold maxLen;omega) (Nat.le_refl _) ?_;intro gr w1 hown hb;rw [aW2] at hown;have HR:=aA0 hown;have HB1:=aA0 hb;have HO1:=aA0 (hb.owns HO.out);have y1:=aH7 HO1.out v (by omega);have y2:=HO1.out.frozenAt v;have ygb:=(aBf HO1.out).2;have hgr:=aBf hown;have HW1:=(HW.trans hb).setCell (p:=⟨gb,v,none⟩) (by simp;omega) (.slice (some ⟨gr,0,none⟩) p.vars.length p.vars.length);clear p0 p1 p2 g0 g1 gsz;obtain ⟨p0,p1,p2,g0,g1,gsz⟩:=aAf HW1;clear hown hb)
   have HO2:=aA0 (HO1.out.stored v (.slice (some ⟨gr,0,none⟩) p.vars.length p.vars.length)).1;have hne:gb≠gr:=by have:=(aBf HO.out).2;omega
   have HF1:=((Fr.of_bel (g:=gb) HB1.out).set v (.slice (some ⟨gr,0,none⟩) p.vars.length p.vars.length));have HR2:=aA0 (aT2 HR.out ((Fr.refl gb w1).set v (.slice (some ⟨gr,0,none⟩) p.vars.length p.vars.length)) (Ne.symm hne));have hgr0:=(aBf HR.out).1;clear HO1 HR HB1 y1 y2 ygb hgr p0 p1 p2 g0 g1 gsz hd0;generalize hw2:w1.setCell ⟨gb,v,none⟩ (.slice (some ⟨gr,0,none⟩) p.vars.length p.vars.length)=w2 at *;clear hw2
   go_loopg [7,8,28] p.vars.length (fun m _x _y z ws=>∃ j:Nat,j<=p.vars.length/\m=p.vars.length-j/\z = .int .i64 j/\Hid (ws.ownsRow wo.heap.size 149 2 (.slice (some ⟨gr,0,none⟩) p.vars.length p.vars.length) p.vars.length ((aJt row j).flatMap aBx))/\Hid (ws.ownsRow (w.heap.size+1+1) 147 1 (.slice (some ⟨gb,0,none⟩) g.ids.length g.ids.length) g.ids.length (hs.set v (.slice (some ⟨gr,0,none⟩) p.vars.length p.vars.length)))/\Fr gb wo ws/\Bel ((w.alloc (.cells #[.string p.name,.slice A p.vars.length k,.slice A2 p.rules.length k2] 25)).alloc (.cells #[.slice A3 g.ids.length k3,.slice A4 g.ports.length k4] 29)) ws)
   case atStart =>
    refine ⟨0,by omega,rfl,rfl,?_,HO2,HF1,HW1⟩
    show World.ownsRow _ _ _ _ _ _ _
    rw [aTw,HRL.out];exact HR2.out
   case round =>
    clear HO2 HF1 HW1 HR2 HW;obtain ⟨j,hj,rfl,rfl,HR,HO2,HF,HW⟩:=hrel
    by_cases hlt2:j<p.vars.length
    .have hd0:decide (j<p.vars.length)=true:=by simpa using hlt2
     obtain ⟨p0,p1,p2,g0,g1,gsz⟩:=aAf HW;obtain ⟨b,o,rfl,hb,c0,c1',c2,c3,c4,c5⟩:=(HV.out _ (aA1 HW)).at_ j hlt2;have HNX:=aA0 (List.all_eq_true.1 HCN.out _ (List.getElem_mem hlt2))
     have hrj:row[j]'(by rw [HRL.out];exact hlt2)=⟨(aAj p.vars[j] g v).1,(aAj p.vars[j] g v).2⟩:=by
      have:=HROW.out;subst this;simp [aHu]
     have HRJ:=aA0 hrj;clear hrj
     have hhd:wr.cell? ⟨gb,v,none⟩=some (.slice (some ⟨gr,0,none⟩) p.vars.length p.vars.length):=by
      have:=aH7 HO2.out v (by simp;omega)
      simpa using this
     have hgbl:=(aBf HO2.out).2;have hgrl:=(aBf HR.out).2;have HW1:=HW.alloc (.cells #[.string p.vars[j].name,.int .i64 p.vars[j].kind,.int .i64 p.vars[j].lo,.int .i64 p.vars[j].hi,.int .i64 p.vars[j].perNode,.int .i64 p.vars[j].perID] 100);have HG:=(Fr.refl gr (wr.alloc (.cells #[.string p.vars[j].name,.int .i64 p.vars[j].kind,.int .i64 p.vars[j].lo,.int .i64 p.vars[j].hi,.int .i64 p.vars[j].perNode,.int .i64 p.vars[j].perID] 100))).drew;have HR1:=aA0 (HR.out.alloc (.cells #[.string p.vars[j].name,.int .i64 p.vars[j].kind,.int .i64 p.vars[j].lo,.int .i64 p.vars[j].hi,.int .i64 p.vars[j].perNode,.int .i64 p.vars[j].perID] 100)).drew
     have hcell:=aA0 (fun w' (kk:Fr gr (wr.alloc (.cells #[.string p.vars[j].name,.int .i64 p.vars[j].kind,.int .i64 p.vars[j].lo,.int .i64 p.vars[j].hi,.int .i64 p.vars[j].perNode,.int .i64 p.vars[j].perID] 100)) w')=>by
      have hB:=(Bel.refl wr).alloc (.cells #[.string p.vars[j].name,.int .i64 p.vars[j].kind,.int .i64 p.vars[j].lo,.int .i64 p.vars[j].hi,.int .i64 p.vars[j].perNode,.int .i64 p.vars[j].perID] 100);have hbx:=Blk.new wr #[.string p.vars[j].name,.int .i64 p.vars[j].kind,.int .i64 p.vars[j].lo,.int .i64 p.vars[j].hi,.int .i64 p.vars[j].perNode,.int .i64 p.vars[j].perID] 100;have hsz:=kk.1;simp only [World.size_alloc] at hsz
      have hn1:wr.heap.size≠gr:=by omega
      have hn2:w.heap.size+1≠gr:=by omega
      exact show w'.cell? ⟨gb,v,none⟩=some (.slice (some ⟨gr,0,none⟩) p.vars.length p.vars.length)/\w'.cell? ⟨wr.heap.size,0,none⟩=some (.string p.vars[j].name)/\w'.cell? ⟨wr.heap.size,1,none⟩=some (.int .i64 p.vars[j].kind)/\w'.cell? ⟨wr.heap.size,2,none⟩=some (.int .i64 p.vars[j].lo)/\w'.cell? ⟨wr.heap.size,3,none⟩=some (.int .i64 p.vars[j].hi)/\w'.cell? ⟨wr.heap.size,4,none⟩=some (.int .i64 p.vars[j].perNode)/\w'.cell? ⟨wr.heap.size,5,none⟩=some (.int .i64 p.vars[j].perID)/\w'.cell? ⟨w.heap.size+1,0,none⟩=some (.slice A3 g.ids.length k3)/\w'.cell? ⟨w.heap.size+1,1,none⟩=some (.slice A4 g.ports.length k4)/\gb<w'.heap.size/\wr.heap.size<w'.heap.size/\w.heap.size+1<w'.heap.size/\gr<w'.heap.size from
       ⟨(kk.cell (by simp;omega) hne).trans ((hB.cell hgbl).trans hhd),(kk.cell (by simp) hn1).trans (hbx.cell 0 rfl),(kk.cell (by simp) hn1).trans (hbx.cell 1 rfl),(kk.cell (by simp) hn1).trans (hbx.cell 2 rfl),(kk.cell (by simp) hn1).trans (hbx.cell 3 rfl),(kk.cell (by simp) hn1).trans (hbx.cell 4 rfl),(kk.cell (by simp) hn1).trans (hbx.cell 5 rfl),(kk.cell (by simp;omega) hn2).trans ((hB.cell (by omega)).trans g0),(kk.cell (by simp;omega) hn2).trans ((hB.cell (by omega)).trans g1),by omega,by omega,by omega,by omega⟩)
     have hfg:=aVl row j (by rw [HRL.out];exact hlt2)
     obtain ⟨f1,f2⟩:=aHj _ j _ hfg;have HF1':=aA0 f1;have HF2':=aA0 f2;have hjm:j*2<p.vars.length*2:=by omega
     have hdv:decide (v<g.ids.length)=true:=by simpa using hlt
     clear hfg f1 f2
     go_wp2_with fail
     replace HW1:=HW1.drew
     go_region_held3 (fun w'=>w'.cell? ⟨gb,v,none⟩=some (.slice (some ⟨gr,0,none⟩) p.vars.length p.vars.length)/\w'.cell? ⟨wr.heap.size,0,none⟩=some (.string p.vars[j].name)/\w'.cell? ⟨wr.heap.size,1,none⟩=some (.int .i64 p.vars[j].kind)/\w'.cell? ⟨wr.heap.size,2,none⟩=some (.int .i64 p.vars[j].lo)/\w'.cell? ⟨wr.heap.size,3,none⟩=some (.int .i64 p.vars[j].hi)/\w'.cell? ⟨wr.heap.size,4,none⟩=some (.int .i64 p.vars[j].perNode)/\w'.cell? ⟨wr.heap.size,5,none⟩=some (.int .i64 p.vars[j].perID)/\w'.cell? ⟨w.heap.size+1,0,none⟩=some (.slice A3 g.ids.length k3)/\w'.cell? ⟨w.heap.size+1,1,none⟩=some (.slice A4 g.ports.length k4)/\gb<w'.heap.size/\wr.heap.size<w'.heap.size/\w.heap.size+1<w'.heap.size/\gr<w'.heap.size)
      (first | exact hcell.out _ HG | exact hcell.out _ (HG.set _ _) | exact hcell.out _ ((HG.set _ _).set _ _))
      (first | (go_simp;go_at_call 103;refine (aHn p.vars[j] _ g v _ (HGV.out _ (aA1 HW1)) HNX.out HGO.out hvp HGL.out).mono ?_;rintro e w4 ⟨rfl,hbb⟩;replace HW1:=HW1.trans hbb;replace HG:=HG.trans (Fr.of_bel hbb);replace HR1:=aA0 (hbb.owns HR1.out);clear hbb;have y1:=(aCz HR1.out HF1'.out);have y2:=(aCz HR1.out HF2'.out);obtain ⟨q1,e1,_,_,y1,z1⟩:=y1;obtain ⟨q2,e2,_,_,y2,z2⟩:=y2;obtain rfl:gr=q1:=(by simpa using e1);obtain rfl:gr=q2:=(by simpa using e2);clear e1 e2))
     go_wp2_with fail
     go_roundg (p.vars.length-(j+1))
     case rel =>
      have hst:=((HR1.out.stored (j*2) (.int .i64 (aAj p.vars[j] g v).1)).1.stored (j*2+1) (.int .i64 (aAj p.vars[j] g v).2)).1;have e2:=aNb (aJt row j) j (row[j]'(by rw [HRL.out];exact hlt2)) (by rw [aPl,HRL.out];exact hlt2)
      rw [aTv _ _ (by rw [HRL.out];exact hlt2),HRJ.out] at e2
      rw [e2] at hst;refine ⟨j+1,by omega,rfl,by go_num,hst,?_,?_,?_⟩
      .exact aT2 (HO2.out.alloc _) ((HG.set _ _).set _ _) hne
      .exact (HF.alloc _).newer hgr0 ((HG.set _ _).set _ _)
      .exact (HW1.setCell (by simp;omega) _).setCell (by simp;omega) _
     case measure=>omega
    .have hd0:decide (j<p.vars.length)=false:=by simpa using hlt2
     obtain rfl:j=p.vars.length:=by omega
     go_wp2_with fail
     go_roundg (g.ids.length-(v+1))
     case rel =>
      refine ⟨v+1,_,by omega,rfl,by go_num,HO2,?_,HW⟩
      intro u hu
      rcases Nat.lt_or_ge u v with h | h
      .obtain ⟨gu,h1,h2,h3,h4⟩:=(HD.out.kept HF) u h
       exact ⟨gu,by rw [List.getElem?_set_ne (by omega)];exact h1,h2,h3,h4⟩
      .obtain rfl:u=v:=by omega
       refine ⟨gr,by rw [List.getElem?_set_self (by omega)],Ne.symm hne,(aBf HR.out).2,by have:=(aBf HR.out).1;omega,fun x i hx=>?_⟩
       have hR:=HR.out;rw [aTu _ _ (by rw [HRL.out];exact Nat.le_refl _)] at hR
       rw [HT.out _ hlt] at hx;obtain ⟨f1,f2⟩:=aHj row i ⟨x.1,x.2⟩ (by rw [HROW.out,List.getElem?_map,hx];rfl)
       obtain ⟨q1,e1,_,_,y1,_⟩:=aCz hR f1;obtain ⟨q2,e2,_,_,y2,_⟩:=aCz hR f2;obtain rfl:gr=q1:=by simpa using e1
       obtain rfl:gr=q2:=by simpa using e2
       exact ⟨y1,y2⟩
     case measure=>omega
  .have hd0:decide (v<g.ids.length)=false:=by simpa using hlt
   go_wp2_with fail
   go_ret;have hl:(aAo p g).length=g.ids.length:=by simp [aAo]
   refine ⟨_,rfl,fun W hW=>⟨some ⟨gb,0,none⟩,g.ids.length,by rw [hl];rfl,⟨rfl,fun u x hx=>?_⟩,by omega,by unfold maxLen;omega⟩,aA1 HW⟩
   have hu:u<g.ids.length:=by have:=(List.getElem?_eq_some_iff.1 hx).1;omega
   obtain ⟨gu,h1,h2,h3,h5,h4⟩:=HD.out u (by omega)
   obtain ⟨g',e1,_,hlt',hcell,_⟩:=aCz HO.out h1;obtain rfl:gb=g':=by simpa using e1
   have hrow:(aAo p g).getD u []=x:=by rw [List.getD_eq_getElem?_getD,hx];rfl
   have hxl:x.length=p.vars.length:=by rw [<- hrow,HT.out u hu];simp [aHu]
   refine ⟨gb,0,rfl,Nat.lt_of_lt_of_le hlt' hW.1,some ⟨gu,0,none⟩,p.vars.length,?_,⟨rfl,fun i y hy=>⟨gu,0,rfl,Nat.lt_of_lt_of_le h3 hW.1,?_⟩⟩,by omega,by unfold maxLen;omega⟩
   .rw [hxl,Nat.zero_add,Nat.mul_one,hW.cell (by omega) hlt'];exact hcell
   .have:=h4 y i (by rw [hrow];exact hy)
    rw [Nat.zero_add];exact ⟨(hW.cell h5 h3).trans this.1,(hW.cell h5 h3).trans this.2⟩
theorem aQv (v:Value) (p:Prg) (v2:Value) (g:Graph) (w:World) (h:aEo w v p) (h2:aAm w v2 g) (hc:aB8 p=0) (hg:GOK g) (hG:aB2 g=true) :
  Calls prog 83 #[v,v2] w (aXa (aAo p g) w):=(aNw v p v2 g w h h2 hc hg hG).mono fun _ _ ⟨v,h1,h2,h3⟩=>⟨v,h1,h2 _ (aBl.refl _ _),h3⟩
def aDv (row:List (Int × Int)) (s:List Int):Bool:=decide (s.length=row.length)&&(List.range s.length).all fun i=>decide ((row.getD i (0,0)).1<=s.getD i 0/\s.getD i 0<=(row.getD i (0,0)).2)
def aG2 (t:List (List (Int × Int))) (c:aA5):Bool:=decide (c.length=t.length)&&(List.range c.length).all fun v=>aDv (t.getD v []) (c.getD v [])
def aD5 (p:Prg) (g:Graph) (c:aA5):Int:=if aH1 p g≠0 then aH1 p g else if aG2 (aAo p g) c=false then 10 else 0
theorem aBv {row:List (Int × Int)} {s:List Int}:aDv row s=true↔s.length=row.length/\∀ i,(h1:i<s.length)->(h2:i<row.length)->row[i].1<=s[i]/\s[i]<=row[i].2:=by
 unfold aDv;simp only [Bool.and_eq_true,decide_eq_true_eq,List.all_eq_true,List.mem_range]
 constructor
 .rintro ⟨h1,h2⟩
  refine ⟨h1,fun i a b=>?_⟩
  have:=h2 i a
  rwa [aA8 a,aA8 b] at this
 .rintro ⟨h1,h2⟩
  refine ⟨h1,fun i a=>?_⟩
  have:=h2 i a (by omega)
  rwa [aA8 a,aA8 (by omega)]
theorem aC4 {t:List (List (Int × Int))} {c:aA5}:aG2 t c=true↔c.length=t.length/\∀ v,(h1:v<c.length)->(h2:v<t.length)->aDv t[v] c[v]=true:=by
 unfold aG2;simp only [Bool.and_eq_true,decide_eq_true_eq,List.all_eq_true,List.mem_range]
 constructor
 .rintro ⟨h1,h2⟩
  refine ⟨h1,fun i a b=>?_⟩
  have:=h2 i a
  rwa [aA8 a,aA8 b] at this
 .rintro ⟨h1,h2⟩
  refine ⟨h1,fun i a=>?_⟩
  have:=h2 i a (by omega)
  rwa [aA8 a,aA8 (by omega)]
theorem aKx {row:List (Int × Int)} {s:List Int} (h:¬ (s.length=row.length/\∀ i,(h1:i<s.length)->(h2:i<row.length)->row[i].1<=s[i]/\s[i]<=row[i].2)):aDv row s=false:=by
 rw [Bool.eq_false_iff];intro hb;exact h (aBv.1 hb)
theorem aEt {t:List (List (Int × Int))} {c:aA5} (h:¬ (c.length=t.length/\∀ v,(h1:v<c.length)->(h2:v<t.length)->aDv t[v] c[v]=true)):aG2 t c=false:=by
 rw [Bool.eq_false_iff];intro hb;exact h (aC4.1 hb)
theorem aOo {a b:Nat} (h:a≠b):(a != b)=true/\((a:Int) != (b:Int))=true:=⟨by simpa using h,by simp;omega⟩
theorem aB4 {c:aA5} (h:aBr c=true):c.length<=30/\∀ r∈c,r.length<=10:=by
 unfold aBr at h;simp at h
 exact h
theorem aQt (A:Option Addr) (c:Nat) (row:List (Int × Int)) (B:Option Addr) (c2:Nat) (s:List Int) (w:World) (h1:aKd w A row.length row) (h2:aBc w B s.length s) (hl:s.length<=1000) :
  Calls prog 104 #[.slice A row.length c,.slice B s.length c2] w fun e w'=>e = .returned (.bool (aDv row s))/\w=w':=by
 have H1:=aA0 h1;clear h1;have H2:=aA0 h2;clear h2
 by_cases hn:s.length=row.length
 .have HN:=aA0 hn
  rw [<- hn] at H1 ⊢;clear hn;have hb:(s.length != s.length)=false:=by simp
  go_enter func104,ntmps104;go_wp2;clear hb
  go_loopg [5,6,14] s.length (fun m _x _y z wr=>∃ j:Nat,j<=s.length/\m=s.length-j/\z = .int .i64 j/\Hid (∀ i,i<j->(h1:i<s.length)->(h2:i<row.length)->row[i].1<=s[i]/\s[i]<=row[i].2)/\w=wr)
  case atStart=>exact ⟨0,by omega,rfl,rfl,fun i hi=>absurd hi (by omega),rfl⟩
  case round =>
   obtain ⟨j,hj,rfl,rfl,HJ,rfl⟩:=hrel
   by_cases hlt:j<s.length
   .have hd0:decide (j<s.length)=true:=by simpa using hlt
    have hlt2:j<row.length:=by rw [<- HN.out];exact hlt
    obtain ⟨b,o,rfl,hb,hc⟩:=H2.out.at_ j hlt;obtain ⟨b',o',rfl,hb',k1,k2⟩:=H1.out.at_ j hlt2
    by_cases hr:row[j].1<=s[j]/\s[j]<=row[j].2
    .have d1:decide (s[j]<row[j].1)=false:=by simp;omega
     have d2:decide (row[j].2<s[j])=false:=by simp;omega
     have HR:=aA0 hr;clear hr
     go_wp2_with fail
     go_roundg (s.length-(j+1))
     case rel =>
      refine ⟨j+1,by omega,rfl,by go_num,?_,rfl⟩
      intro i hi a1 a2
      rcases Nat.lt_or_ge i j with h | h
      .exact HJ.out i h a1 a2
      .obtain rfl:i=j:=by omega
       exact HR.out
     case measure=>omega
    .have HF:Hid (aDv row s=false):=aKx fun h=>hr (h.2 j hlt hlt2)
     by_cases h1:s[j]<row[j].1
     .have d1:decide (s[j]<row[j].1)=true:=by simpa using h1
      clear hr
      go_wp2_with fail
      go_ret;exact ⟨aA2 HF.out.symm,rfl⟩
     .have d1:decide (s[j]<row[j].1)=false:=by simpa using h1
      have d2:decide (row[j].2<s[j])=true:=by simp;omega
      clear hr
      go_wp2_with fail
      go_ret;exact ⟨aA2 HF.out.symm,rfl⟩
   .have hd0:decide (j<s.length)=false:=by simpa using hlt
    go_wp2_with fail
    go_ret;refine ⟨aA2 ?_,rfl⟩
    symm
    rw [aBv];exact ⟨HN.out,fun i a b=>HJ.out i (by omega) a b⟩
 .obtain ⟨n1,n2⟩:=aOo hn
  have HF:Hid (aDv row s=false):=aKx fun h=>hn h.1;clear hn;go_enter func104,ntmps104;go_wp2;go_ret;exact ⟨aA2 HF.out.symm,rfl⟩
theorem aJ6 (v:Value) (t:List (List (Int × Int))) (v2:Value) (c:aA5) (w:World) (h1:aI1 w v t) (h2:aAr w v2 c) (hl:aBr c=true) :
  Calls prog 82 #[v,v2] w fun e w'=>e = .returned (.bool (aG2 t c))/\w=w':=by
 obtain ⟨A,k,rfl,hT,_,_⟩:=h1;obtain ⟨B,k2,rfl,hC,_,_⟩:=h2;have H1:=aA0 hT;clear hT;have H2:=aA0 hC;clear hC;obtain ⟨l1,l2⟩:=aB4 hl;have HL2:=aA0 l2;clear l2 hl
 by_cases hn:c.length=t.length
 .have HN:=aA0 hn
  rw [<- hn] at H1 ⊢;clear hn;have hb:(c.length != c.length)=false:=by simp
  go_enter func82,ntmps82;go_wp2;clear hb
  go_loopg [5,6,14] c.length (fun m _x _y z wr=>∃ j:Nat,j<=c.length/\m=c.length-j/\z = .int .i64 j/\Hid (∀ i,i<j->(h1:i<c.length)->(h2:i<t.length)->aDv t[i] c[i]=true)/\w=wr)
  case atStart=>exact ⟨0,by omega,rfl,rfl,fun i hi=>absurd hi (by omega),rfl⟩
  case round =>
   obtain ⟨j,hj,rfl,rfl,HJ,rfl⟩:=hrel
   by_cases hlt:j<c.length
   .have hd0:decide (j<c.length)=true:=by simpa using hlt
    have hlt2:j<t.length:=by rw [<- HN.out];exact hlt
    obtain ⟨b,o,R,rc,rfl,hb,hc,hI,_,_⟩:=H2.out.at_ j hlt;obtain ⟨b',o',R',rc',rfl,hb',hc',hP,_,_⟩:=H1.out.at_ j hlt2;have HI:=aA0 hI;have HP:=aA0 hP;have hle:=HL2.out _ (List.getElem_mem hlt);clear hI hP;cases hs:aDv t[j] c[j] with
    | true =>
     have HS:=aA0 hs;clear hs
     go_wp2_with (go_at_call 104;refine (aQt _ _ t[j] _ _ c[j] _ HP.out HI.out (by omega)).mono ?_;rintro e w' ⟨rfl,rfl⟩;rw [HS.out])
     go_roundg (c.length-(j+1))
     case rel =>
      refine ⟨j+1,by omega,rfl,by go_num,?_,rfl⟩
      intro i hi a1 a2
      rcases Nat.lt_or_ge i j with h | h
      .exact HJ.out i h a1 a2
      .obtain rfl:i=j:=by omega
       exact HS.out
     case measure=>omega
    | false =>
     have HF:Hid (aG2 t c=false):=aEt fun h=>by have:=h.2 j hlt hlt2;rw [hs] at this;cases this
     have HS:=aA0 hs;clear hs
     go_wp2_with (go_at_call 104;refine (aQt _ _ t[j] _ _ c[j] _ HP.out HI.out (by omega)).mono ?_;rintro e w' ⟨rfl,rfl⟩;rw [HS.out])
     go_ret;exact ⟨aA2 HF.out.symm,rfl⟩
   .have hd0:decide (j<c.length)=false:=by simpa using hlt
    go_wp2_with fail
    go_ret;refine ⟨aA2 ?_,rfl⟩
    symm
    rw [aC4];exact ⟨HN.out,fun i a b=>HJ.out i (by omega) a b⟩
 .obtain ⟨n1,n2⟩:=aOo hn
  have HF:Hid (aG2 t c=false):=aEt fun h=>hn h.1;clear hn;go_enter func82,ntmps82;go_wp2;go_ret;exact ⟨aA2 HF.out.symm,rfl⟩
theorem aAt {p:Prg} {g:Graph} (h:aH1 p g=0):aB8 p=0/\GOK g/\p.vars.all (aG4 g)=true:=by
 unfold aH1 at h;split at h
 .cases h
 .rename_i h1
  split at h
  .cases h
  .rename_i h2
   split at h
   .cases h
   .rename_i h3
    exact ⟨by simpa using h1,(aCr g).1 (by simpa using h2),by simpa using h3⟩
theorem aFc (v:Value) (p:Prg) (v2:Value) (g:Graph) (v3:Value) (c:aA5) (w:World) (h:aEo w v p) (h2:aAm w v2 g) (h3:aAr w v3 c) (hL:aAq p=true) (hG:aB2 g=true) (hC:aBr c=true) :
  Calls prog 58 #[v,v2,v3] w fun e w'=>e = .returned (.int .i64 (aD5 p g c))/\Bel w w':=by
 have HPV:=aA0 (fun w' (k:Bel w w')=>h.keep k);have HGV:=aA0 (fun w' (k:Bel w w')=>h2.keep k);have HCV:=aA0 (fun w' (k:Bel w w')=>h3.keep k);obtain ⟨A,k,A2,k2,rfl,_,_,_,_,_,_⟩:=h;obtain ⟨A3,k3,A4,k4,rfl,_,_,_,_,_,_⟩:=h2;obtain ⟨A5,k5,rfl,_,_,_⟩:=h3;have HL:=aA0 hL;have HGL:=aA0 hG;have HCL:=aA0 hC;clear hL hG hC;have HW:=Bel.refl ((w.alloc (.cells #[.string p.name,.slice A p.vars.length k,.slice A2 p.rules.length k2] 25)).alloc (.cells #[.slice A3 g.ids.length k3,.slice A4 g.ports.length k4] 29))
 by_cases hf:aH1 p g=0
 .obtain ⟨f1,f2,_⟩:=aAt hf
  have HF1:=aA0 f1;have HF2:=aA0 f2;have HFZ:=aA0 hf;have HM:Hid (aD5 p g c=if aG2 (aAo p g) c=false then 10 else 0):=by show aD5 p g c=_;unfold aD5;rw [if_neg (by simpa using hf)]
  clear hf f1 f2;cases hb:aG2 (aAo p g) c with
  | true =>
   rw [hb,if_neg (by decide)] at HM
   have HBB:=aA0 hb;clear hb;go_enter func58,ntmps58
   go_wp2_with (first
    | (go_at_call 81;refine (aOd _ p _ g _ (HPV.out _ (aA1 HW)) (HGV.out _ (aA1 HW)) HL.out HGL.out).mono ?_;rintro e w' ⟨rfl,hb⟩;rw [HFZ.out];replace HW:=HW.trans hb;clear hb;obtain ⟨p0,p1,p2,g0,g1,gsz⟩:=aAf HW)
    | (go_at_call 83;refine (aQv _ p _ g _ (HPV.out _ (aA1 HW)) (HGV.out _ (aA1 HW)) HF1.out HF2.out HGL.out).mono ?_;rintro e w' ⟨tv,rfl,htv,hb⟩;replace HW:=HW.trans hb;have HTV:=aA0 htv;clear hb htv)
    | (go_at_call 82;refine (aJ6 _ (aAo p g) _ c _ HTV.out (HCV.out _ (aA1 HW)) HCL.out).mono ?_;rintro e w' ⟨rfl,rfl⟩;rw [HBB.out]))
   go_ret;exact ⟨aA4 HM.out.symm,aA1 HW⟩
  | false =>
   rw [hb,if_pos rfl] at HM;have HBB:=aA0 hb;clear hb;go_enter func58,ntmps58
   go_wp2_with (first
    | (go_at_call 81;refine (aOd _ p _ g _ (HPV.out _ (aA1 HW)) (HGV.out _ (aA1 HW)) HL.out HGL.out).mono ?_;rintro e w' ⟨rfl,hb⟩;rw [HFZ.out];replace HW:=HW.trans hb;clear hb;obtain ⟨p0,p1,p2,g0,g1,gsz⟩:=aAf HW)
    | (go_at_call 83;refine (aQv _ p _ g _ (HPV.out _ (aA1 HW)) (HGV.out _ (aA1 HW)) HF1.out HF2.out HGL.out).mono ?_;rintro e w' ⟨tv,rfl,htv,hb⟩;replace HW:=HW.trans hb;have HTV:=aA0 htv;clear hb htv)
    | (go_at_call 82;refine (aJ6 _ (aAo p g) _ c _ HTV.out (HCV.out _ (aA1 HW)) HCL.out).mono ?_;rintro e w' ⟨rfl,rfl⟩;rw [HBB.out]))
   go_ret;exact ⟨aA4 HM.out.symm,aA1 HW⟩
 .have HM:Hid (aD5 p g c=aH1 p g):=by show aD5 p g c=_;unfold aD5;rw [if_pos hf]
  have hfb:(aH1 p g != 0)=true:=by simpa using hf
  go_enter func58,ntmps58
  go_wp2_with (go_at_call 81;refine (aOd _ p _ g _ (HPV.out _ (aA1 HW)) (HGV.out _ (aA1 HW)) HL.out HGL.out).mono ?_;rintro e w' ⟨rfl,hb⟩;replace HW:=HW.trans hb;clear hb)
  go_ret;exact ⟨aA4 HM.out.symm,aA1 HW⟩
theorem aCd (p:Prg) (g:Graph):(aAo p g).length=g.ids.length:=by simp [aAo]
theorem aEd {p:Prg} {g:Graph} {v:Nat} (h:v<(aAo p g).length):(aAo p g)[v]=aHu p g v:=by simp [aAo]
theorem aBp (p:Prg) (g:Graph) (v:Nat):(aHu p g v).length=p.vars.length:=by simp [aHu]
theorem aOz {p:Prg} {g:Graph} {v i:Nat} (h:i<(aHu p g v).length):(aHu p g v)[i]=aAj (p.vars[i]'(by rw [aBp] at h;exact h)) g v:=by simp [aHu]
theorem aMn (v:Value) (p:Prg) (v2:Value) (g:Graph) (v3:Value) (c:aA5) (w:World) (h:aEo w v p) (h2:aAm w v2 g) (h3:aAr w v3 c) (hL:aAq p=true) (hG:aB2 g=true) (hC:aBr c=true) :
  Calls prog 64 #[v,v2,v3] w fun e w'=>e = .returned (.int .i64 (aD5 p g c))/\Bel w w':=by
 have HPV:=aA0 (fun w' (k:Bel w w')=>h.keep k);have HGV:=aA0 (fun w' (k:Bel w w')=>h2.keep k);obtain ⟨A,k,A2,k2,rfl,_,_,_,_,_,_⟩:=h;obtain ⟨A3,k3,A4,k4,rfl,_,_,_,_,_,_⟩:=h2;obtain ⟨A5,k5,rfl,hCR,_,_⟩:=h3;have HCR:=aA0 (fun w' (k:Bel w w')=>aP7.keep hCR k);clear hCR;have HL:=aA0 hL;have HGL:=aA0 hG;obtain ⟨l1,l2⟩:=aB4 hC;have HL2:=aA0 l2;clear hL hG hC l2;have HW:=Bel.refl ((w.alloc (.cells #[.string p.name,.slice A p.vars.length k,.slice A2 p.rules.length k2] 25)).alloc (.cells #[.slice A3 g.ids.length k3,.slice A4 g.ports.length k4] 29))
 by_cases hf:aH1 p g=0
 .obtain ⟨f1,f2,_⟩:=aAt hf
  have HF1:=aA0 (aBj f1);have HF2:=aA0 f2;have HFZ:=aA0 hf;have HM:Hid (aD5 p g c=if aG2 (aAo p g) c=false then 10 else 0):=by show aD5 p g c=_;unfold aD5;rw [if_neg (by simpa using hf)]
  have HTL:Hid ((aAo p g).length=g.ports.length):=by show (aAo p g).length=_;rw [aCd,f2.ids]
  clear hf f1 f2;have hv6:=HF1.out.2.2.1
  by_cases hn:c.length=g.ports.length
  .have hb:(c.length != c.length)=false:=by simp
   have HN:=aA0 hn;rw [<- hn] at HGV HW ⊢;clear hn;go_enter func64,ntmps64
   go_wp2_with (go_at_call 90;refine (aIn _ p _ g _ (HPV.out _ (aA1 HW)) (HGV.out _ (aA1 HW)) HL.out HGL.out).mono ?_;rintro e w' ⟨rfl,hb⟩;rw [HFZ.out];replace HW:=HW.trans hb;clear hb;obtain ⟨p0,p1,p2,g0,g1,gsz⟩:=aAf HW)
   clear hb p0 p1 p2 g0 g1 gsz
   go_loopg [8,9,10,11] c.length (fun m z _y _x _u wr=>∃ j:Nat,j<=c.length/\m=c.length-j/\z = .int .i64 j/\Hid (∀ i,i<j->(h1:i<c.length)->aDv (aHu p g i) c[i]=true)/\Bel ((w.alloc (.cells #[.string p.name,.slice A p.vars.length k,.slice A2 p.rules.length k2] 25)).alloc (.cells #[.slice A3 g.ids.length k3,.slice A4 c.length k4] 29)) wr)
   case atStart=>exact ⟨0,by omega,rfl,rfl,fun i hi=>absurd hi (by omega),HW⟩
   case round =>
    clear HW;obtain ⟨v,hv,rfl,rfl,HJ,HW⟩:=hrel;obtain ⟨p0,p1,p2,g0,g1,gsz⟩:=aAf HW
    by_cases hlt:v<c.length
    .have hd0:decide (v<c.length)=true:=by simpa using hlt
     have hvp:v<g.ports.length:=by rw [<- HN.out];exact hlt
     obtain ⟨b,o,R,rc,rfl,hb,hc,hI,_,_⟩:=(HCR.out _ (aA1 HW)).at_ v hlt;have hrl:=HL2.out _ (List.getElem_mem hlt)
     by_cases hnl:c[v].length=p.vars.length
     .have hb1:(c[v].length != p.vars.length)=false:=by simpa using hnl
      have hb2:((c[v].length:Int) != (p.vars.length:Int))=false:=by simp;omega
      have HNL:=aA0 hnl;clear hnl
      go_wp2_with fail
      go_quiet (fail)
      go_wp2_with fail
      clear hb1 hb2 p0 p1 p2 g0 g1 gsz hd0 hb hc hI
      go_loopg [9,10,11] c[v].length (fun m z _y _x ws=>∃ j:Nat,j<=c[v].length/\m=c[v].length-j/\z = .int .i64 j/\Hid (∀ i,i<j->(h1:i<c[v].length)->(h2:i<(aHu p g v).length)->(aHu p g v)[i].1<=c[v][i]/\c[v][i]<=(aHu p g v)[i].2)/\Bel ((w.alloc (.cells #[.string p.name,.slice A p.vars.length k,.slice A2 p.rules.length k2] 25)).alloc (.cells #[.slice A3 g.ids.length k3,.slice A4 c.length k4] 29)) ws)
      case atStart=>exact ⟨0,by omega,rfl,rfl,fun i hi=>absurd hi (by omega),HW.drewN _⟩
      case round =>
       clear HW;obtain ⟨j,hj,rfl,rfl,HQ,HW⟩:=hrel;obtain ⟨p0,p1,p2,g0,g1,gsz⟩:=aAf HW;obtain ⟨b',o',R',rc',e',hb,hc,hI,_,_⟩:=(HCR.out _ (aA1 HW)).at_ v hlt;obtain ⟨rfl,rfl⟩:b=b'/\o=o':=by simpa using e'
       clear e'
       by_cases hlt2:j<c[v].length
       .have hd0:decide (j<c[v].length)=true:=by simpa using hlt2
        have hjv:j<p.vars.length:=by rw [<- HNL.out];exact hlt2
        have hjr:j<(aHu p g v).length:=by rw [aBp];exact hjv
        have HRE:=aA0 (aOz hjr);have HNX:=aA0 (List.all_eq_true.1 HF1.out.1 _ (List.getElem_mem hjv));have hdv:decide (v<c.length)=true:=by simpa using hlt
        go_wp2_with fail
        refine (aSp _ p _ g v j _ (HPV.out _ (aA1 HW)) (HGV.out _ (aA1 HW)) hjv HNX.out HF2.out hvp HGL.out).mono ?_
        rintro e w' ⟨rfl,hbe⟩;rw [<- HRE.out];replace HW:=HW.trans hbe;clear hbe p0 p1 p2 g0 g1 gsz hb hc hI;obtain ⟨p0,p1,p2,g0,g1,gsz⟩:=aAf HW;obtain ⟨b',o',R2,rc2,e',hb,hc,hI,_,_⟩:=(HCR.out _ (aA1 HW)).at_ v hlt;obtain ⟨rfl,rfl⟩:b=b'/\o=o':=by simpa using e'
        clear e';obtain ⟨b3,o3,rfl,hb3,hc3⟩:=hI.at_ j hlt2
        by_cases hin:(aHu p g v)[j].1<=c[v][j]/\c[v][j]<=(aHu p g v)[j].2
        .have d1:inB c[v][j] (aHu p g v)[j].1 (aHu p g v)[j].2=true:=aDb hin.1 hin.2
         have HIN:=aA0 hin;clear hin
         go_wp2_with (go_at_call 92;refine (aCs _ _ _ _).mono ?_;rintro e w' ⟨rfl,rfl⟩)
         go_roundg (c[v].length-(j+1))
         case rel =>
          refine ⟨j+1,by omega,rfl,by go_num,?_,HW⟩
          intro i hi a1 a2
          rcases Nat.lt_or_ge i j with h | h
          .exact HQ.out i h a1 a2
          .obtain rfl:i=j:=by omega
           exact HIN.out
         case measure=>omega
        .have d1:inB c[v][j] (aHu p g v)[j].1 (aHu p g v)[j].2=false:=aJ0 (by omega)
         have HCF:Hid (aG2 (aAo p g) c=false):=aEt fun hh=>by
          have h3:=hh.2 v hlt (by rw [HTL.out];exact hvp)
          rw [aEd] at h3;exact hin ((aBv.1 h3).2 j hlt2 hjr)
         rw [HCF.out,if_pos rfl] at HM;clear hin
         go_wp2_with (go_at_call 92;refine (aCs _ _ _ _).mono ?_;rintro e w' ⟨rfl,rfl⟩)
         go_ret;exact ⟨aA4 HM.out.symm,aA1 HW⟩
       .have hd0:decide (j<c[v].length)=false:=by simpa using hlt2
        have hdv:decide (v<c.length)=true:=by simpa using hlt
        go_wp2_with fail
        go_roundg (c.length-(v+1))
        case rel =>
         refine ⟨v+1,by omega,rfl,by go_num,?_,HW⟩
         intro i hi a1
         rcases Nat.lt_or_ge i v with h | h
         .exact HJ.out i h a1
         .obtain rfl:i=v:=by omega
          rw [aBv];exact ⟨by rw [aBp,HNL.out],fun q b1 b2=>HQ.out q (by omega) b1 b2⟩
        case measure=>omega
     .obtain ⟨n1,n2⟩:=aOo hnl
      have HCF:Hid (aG2 (aAo p g) c=false):=aEt fun hh=>by
       have h3:=hh.2 v hlt (by rw [HTL.out];exact hvp)
       rw [aEd] at h3;have:=(aBv.1 h3).1;rw [aBp] at this;exact hnl this
      rw [HCF.out,if_pos rfl] at HM;clear hnl
      go_wp2_with fail
      go_quiet (fail)
      go_wp2_with fail
      go_ret;exact ⟨aA4 HM.out.symm,(aA1 HW).drewN _⟩
    .have hd0:decide (v<c.length)=false:=by simpa using hlt
     have HCF:Hid (aG2 (aAo p g) c=true):=by
      show aG2 (aAo p g) c=true
      rw [aC4];refine ⟨by rw [HTL.out,HN.out],fun i a1 a2=>?_⟩
      rw [aEd];exact HJ.out i (by omega) a1
     rw [HCF.out,if_neg (by decide)] at HM
     go_wp2_with fail
     go_ret;exact ⟨aA4 HM.out.symm,aA1 HW⟩
  .obtain ⟨n1,n2⟩:=aOo hn
   have HCF:Hid (aG2 (aAo p g) c=false):=aEt fun hh=>hn (by rw [hh.1,HTL.out])
   rw [HCF.out,if_pos rfl] at HM;clear hn;go_enter func64,ntmps64
   go_wp2_with (go_at_call 90;refine (aIn _ p _ g _ (HPV.out _ (aA1 HW)) (HGV.out _ (aA1 HW)) HL.out HGL.out).mono ?_;rintro e w' ⟨rfl,hb⟩;rw [HFZ.out];replace HW:=HW.trans hb;clear hb;obtain ⟨p0,p1,p2,g0,g1,gsz⟩:=aAf HW)
   go_ret;exact ⟨aA4 HM.out.symm,aA1 HW⟩
 .have HM:Hid (aD5 p g c=aH1 p g):=by show aD5 p g c=_;unfold aD5;rw [if_pos hf]
  have hfb:(aH1 p g != 0)=true:=by simpa using hf
  go_enter func64,ntmps64
  go_wp2_with (go_at_call 90;refine (aIn _ p _ g _ (HPV.out _ (aA1 HW)) (HGV.out _ (aA1 HW)) HL.out HGL.out).mono ?_;rintro e w' ⟨rfl,hb⟩;replace HW:=HW.trans hb;clear hb)
  go_ret;exact ⟨aA4 HM.out.symm,aA1 HW⟩
theorem aMo (v:Value) (p:Prg) (v2:Value) (g:Graph) (v3:Value) (c:aA5) (w:World) (h:aEo w v p) (h2:aAm w v2 g) (h3:aAr w v3 c) (hL:aAq p=true) (hG:aB2 g=true) (hC:aBr c=true) :
  Calls prog 42 #[v,v2,v3] w fun e w'=>e = .returned (.bool (decide (aD5 p g c=0)))/\Bel w w':=by
 have HPV:=aA0 (fun w' (k:Bel w w')=>h.keep k);have HGV:=aA0 (fun w' (k:Bel w w')=>h2.keep k);have HCV:=aA0 (fun w' (k:Bel w w')=>h3.keep k);obtain ⟨A,k,A2,k2,rfl,_,_,_,_,_,_⟩:=h;obtain ⟨A3,k3,A4,k4,rfl,_,_,_,_,_,_⟩:=h2;obtain ⟨A5,k5,rfl,_,_,_⟩:=h3;have HW:=Bel.refl ((w.alloc (.cells #[.string p.name,.slice A p.vars.length k,.slice A2 p.rules.length k2] 25)).alloc (.cells #[.slice A3 g.ids.length k3,.slice A4 g.ports.length k4] 29));go_enter func42,ntmps42
 go_wp2_with (go_at_call 64;refine (aMn _ p _ g _ c _ (HPV.out _ (aA1 HW)) (HGV.out _ (aA1 HW)) (HCV.out _ (aA1 HW)) hL hG hC).mono ?_;rintro e w' ⟨rfl,hb⟩;replace HW:=HW.trans hb;clear hb)
 go_ret;exact ⟨aA2 (by rw [Bool.eq_iff_iff];simp),aA1 HW⟩
def aJ3 (g:Graph) (v:Nat) (port:Int):Link:=(g.ports.getD v []).getD port.toNat default
def aGq (g:Graph) (op:Int) (v:Nat) (port:Int):Int :=
 if op=6 then g.ids.length else if op=7 then aD0 g.ids else if op=8 then g.ids.getD v 0 else if op=9 then (g.ports.getD v []).length
 else if op=10 then aC0 (decide (v=0)) else if op=11 then port
 else if op=13 then g.ids.getD (aJ3 g v port).to.toNat 0
 else if op=14 then (g.ports.getD (aJ3 g v port).to.toNat []).length
 else if op=15 then aC0 (decide ((aJ3 g v port).to=0))
 else if op=16 then (aJ3 g v port).weight
 else aDl (g.ports.getD (aJ3 g v port).to.toNat []) v
def aL3 (g:Graph) (c:aA5) (v:Nat) (port:Int) (t:Term):Int :=
 if t.op=1 then t.arg else if t.op=2 then 1 else if t.op=3 then 0 else if t.op=4 then -1
 else if t.op=5 then (c.getD v []).getD t.arg.toNat 0
 else if t.op=12 then (c.getD (aJ3 g v port).to.toNat []).getD t.arg.toNat 0
 else aGq g t.op v port
def aBk (g:Graph) (c:aA5) (v:Nat):Int->Ex->Int
 | port,.leaf t=>aL3 g c v port t
 | port,.un t a=>if aAa t.op then aM1 t.op ((List.range (g.ports.getD v []).length).map fun (k:Nat)=>aBk g c v (k:Int) a) else aKz t.op (aBk g c v port a)
 | port,.bin t a b=>aDw t.op (aBk g c v port a) (aBk g c v port b)
 | port,.tri _ a b d=>if aBk g c v port a≠0 then aBk g c v port b else aBk g c v port d
def aBg:Bool->Ex->Prop
 | b,.leaf t=>aDi t.op=true->b=true
 | b,.un t a=>aBg (b||aAa t.op) a
 | b,.bin _ x y=>aBg b x/\aBg b y
 | b,.tri _ x y z=>aBg b x/\aBg b y/\aBg b z
theorem aYu {b:Bool} {k:Int} (h:ifK b k≠0):b=true/\k≠0:=by
 unfold ifK at h;cases b
 .exact absurd rfl h
 .exact ⟨rfl,h⟩
theorem aUn {op a:Int} (h:aFm op a≠0):a≠0:=by
 unfold aFm at h;rintro rfl
 repeat' split at h
 all_goals exact h rfl
theorem aTm {op a b:Int} (h:aGy op a b≠0):a≠0/\b≠0:=by
 unfold aGy at h
 repeat' split at h
 all_goals
  have:=(aYu h).1;simp at this
  omega
theorem aNl {kinds:List Int} {x:Ex}:∀ {b:Bool},aAv kinds b x≠0->aBg b x:=by
 induction x with
 | leaf t =>
  intro b h hn
  simp only [aAv] at h
  cases b
  .rw [hn] at h;exact absurd rfl h
  .rfl
 | un t a ih=>intro b h;exact ih (aUn h)
 | bin t x y ihx ihy=>intro b h;obtain ⟨h1,h2⟩:=aTm h;exact ⟨ihx h1,ihy h2⟩
 | tri t x y z ihx ihy ihz =>
  intro b h
  obtain ⟨h1,h2⟩:=aYu h;simp at h1
  refine ⟨ihx (by omega),ihy h2,ihz ?_⟩
  rw [<- h1.2];exact h2
theorem aOc (l:List Int):∀ i:Int,aH0 l i = -1∨(i<=aH0 l i/\aH0 l i<i+l.length):=by
 induction l with
 | nil=>intro i;left;rfl
 | cons a l ih =>
  intro i
  simp only [aH0]
  split
  .right;simp;omega
  .rcases ih (i+1) with h | h
   .left;exact h
   .right;simp;omega
theorem aOg (l:List Int):∀ z:Int,Num z->(∀ x∈l,Num x)->Num (l.foldl min z):=by
 induction l with
 | nil=>intro z hz _;exact hz
 | cons a l ih =>
  intro z hz h
  refine ih _ ?_ (fun x hx=>h x (by simp [hx]))
  have:=h a (by simp)
  unfold Num at *;omega
theorem aR0 (l:List Int):∀ a b:Int,Num a->Num b->(∀ x∈l,Num x)->Num (aKa l a b).1/\Num (aKa l a b).2:=by
 induction l with
 | nil=>intro a b ha hb _;exact ⟨ha,hb⟩
 | cons x l ih =>
  intro a b ha hb h
  have hx:=h x (by simp)
  have hr:∀ y∈l,Num y:=fun y hy=>h y (by simp [hy])
  simp only [aKa]
  split
  .exact ih _ _ hx ha hr
  .refine ih _ _ ha ?_ hr
   unfold Num at *;omega
theorem aVo {op:Int} {l:List Int} (hn:∀ x∈l,Num x) (hl:l.length<=1000):Num (aM1 op l):=by
 unfold aM1;split
 .exact aE5 _
 split
 .exact aE5 _
 split
 .have:=aVh l;unfold Num;omega
 split
 .have:=aOc l 0;unfold Num;omega
 split
 .exact aOg l _ (by unfold Num;omega) hn
 split
 .exact (aR0 l _ _ (by unfold Num;omega) (by unfold Num;omega) hn).1
 split
 .exact aT8 _
 split
 .have h1:=aY4 l (aMz l 0) 0 (Nat.le_refl _)
  have h2:=aSo l 0;unfold bA0 Num;omega
 split
 .exact (aR0 l _ _ (by unfold Num;omega) (by unfold Num;omega) hn).2
 .cases l with
  | nil=>unfold Num;simp
  | cons a l=>exact hn a (by simp)
theorem aUs {op a:Int} (h:Num a):Num (aKz op a):=by
 unfold aKz;split
 .unfold Num at *;omega
 .exact aE5 _
theorem aRa {op a b:Int}:Num (aDw op a b):=aT8 _
structure SOK (p:Prg) (g:Graph) (c:aA5) (v:Nat):Prop where
 fits:aH1 p g=0
 conf:aG2 (aAo p g) c=true
 node:v<g.ports.length
theorem SOK.gok {p:Prg} {g:Graph} {c:aA5} {v:Nat} (h:SOK p g c v):GOK g:=(aAt h.fits).2.1
theorem SOK.len {p:Prg} {g:Graph} {c:aA5} {v:Nat} (h:SOK p g c v):c.length=g.ports.length:=by
 rw [(aC4.1 h.conf).1,aCd,h.gok.ids]
theorem SOK.row {p:Prg} {g:Graph} {c:aA5} {v:Nat} (h:SOK p g c v) {u:Nat} (hu:u<g.ports.length):(c[u]'(by rw [h.len];exact hu)).length=p.vars.length:=by
 have:=(aC4.1 h.conf).2 u (by rw [h.len];exact hu) (by rw [aCd,h.gok.ids];exact hu)
 rw [aEd] at this;have:=(aBv.1 this).1
 rwa [aBp] at this
theorem SOK.val {p:Prg} {g:Graph} {c:aA5} {v:Nat} (h:SOK p g c v) {u i:Nat} (hu:u<g.ports.length) (hi:i<p.vars.length) :
  (aAj p.vars[i] g u).1<=(c[u]'(by rw [h.len];exact hu))[i]'(by rw [h.row hu];exact hi)/\(c[u]'(by rw [h.len];exact hu))[i]'(by rw [h.row hu];exact hi)<=(aAj p.vars[i] g u).2:=by
 have h1:=(aC4.1 h.conf).2 u (by rw [h.len];exact hu) (by rw [aCd,h.gok.ids];exact hu)
 rw [aEd] at h1;have:=(aBv.1 h1).2 i (by rw [h.row hu];exact hi) (by rw [aBp];exact hi)
 rwa [aOz] at this
theorem SOK.small {p:Prg} {g:Graph} {c:aA5} {v:Nat} (h:SOK p g c v) {u i:Nat} (hu:u<g.ports.length) (hi:i<p.vars.length):Num ((c.getD u []).getD i 0):=by
 have h1:=h.val hu hi;have h2:=aGx (List.all_eq_true.1 (aBj (aAt h.fits).1).1 _ (List.getElem_mem hi)) h.gok hu;have e1:c.getD u []=c[u]'(by rw [h.len];exact hu):=aA8 (by rw [h.len];exact hu)
 rw [e1,aA8 (by rw [h.row hu];exact hi)]
 unfold Num;omega
theorem aMb {g:Graph} (hg:GOK g) {v k:Nat} (hv:v<g.ports.length) (hk:k<g.ports[v].length) :
  aJ3 g v (k:Int)=g.ports[v][k]/\∃ t:Nat,g.ports[v][k].to=(t:Int)/\t<g.ports.length/\1<=g.ports[v][k].weight/\g.ports[v][k].weight<=15/\g.ports[v].length<g.ports.length:=by
 have h1:=hg.links v hv;obtain ⟨a1,a2,a3,a4,a5⟩:=aBd.1 ((aB3.1 h1).1 _ (List.getElem_mem hk));obtain ⟨t,ht⟩:=Int.eq_ofNat_of_zero_le a1;refine ⟨?_,t,ht,by omega,a4,a5,aCa hv h1⟩
 unfold aJ3;rw [aA8 hv,Int.toNat_natCast,aA8 hk]
def aJe (g:Graph) (v:Nat) (b:Bool) (port:Int):Prop:=b=true->∃ k:Nat,port=(k:Int)/\k<(g.ports.getD v []).length
theorem aRp {l:List Int} {k:Nat} {P:Int->Prop} (h0:P 0) (h:∀ x∈l,P x):P (l.getD k 0):=by
 rw [List.getD_eq_getElem?_getD];cases hx:l[k]? with
 | none=>exact h0
 | some x=>exact h x (List.mem_of_getElem? hx)
theorem aXv {g:Graph} (hg:GOK g) {op:Int} {v:Nat} {port:Int} {b:Bool} (hv:v<g.ports.length) (hop:6<=op/\op<=17/\op≠12) (hb:aDi op=true->b=true) (hp:aJe g v b port):Num (aGq g op v port):=by
 have hle:=hg.le;have hids:=hg.ids;obtain ⟨g1,g2⟩:=aHp hg;have hid:∀ k,Num (g.ids.getD k 0):=fun k=>aRp (P:=Num) (by unfold Num;omega) (fun x hx=>by have:=hg.idr x hx;unfold Num;omega)
 have hlen:∀ u,(g.ports.getD u []).length<=24:=fun u=>by
  rcases Nat.lt_or_ge u g.ports.length with h | h
  .rw [aA8 h];have:=aCa h (hg.links u h);omega
  .rw [List.getD_eq_getElem?_getD,List.getElem?_eq_none h];simp
 by_cases hn:11<=op
 .have hnear:aDi op=true:=by unfold aDi;simp;omega
  obtain ⟨k,rfl,hk⟩:=hp (hb hnear);rw [aA8 hv] at hk;obtain ⟨e,t,ht,htl,w1,w2,hl⟩:=aMb hg hv hk;have hr:=aMl (g.ports.getD t []) (v:Int);have:=hlen t;have hlv:=hlen v;unfold aGq;rw [e,ht,Int.toNat_natCast];generalize g.ports[v][k].weight=wt at *;generalize (g.ports.getD t []).length=len at *;generalize aDl (g.ports.getD t []) (v:Int)=pf at *;generalize (g.ports.getD v []).length=lv at *;generalize aD0 g.ids=gm at *;have n0:Num (g.ids.length:Int):=by unfold Num;omega
  have n1:Num gm:=by unfold Num;omega
  have n2:Num (lv:Int):=by unfold Num;omega
  have n3:Num (k:Int):=by unfold Num;omega
  have n4:Num (len:Int):=by unfold Num;omega
  have n5:Num wt:=by unfold Num;omega
  have n6:Num pf:=by unfold Num;omega
  by_cases c1:op=6
  .rw [if_pos c1];exact n0
  rw [if_neg c1]
  by_cases c2:op=7
  .rw [if_pos c2];exact n1
  rw [if_neg c2]
  by_cases c3:op=8
  .rw [if_pos c3];exact hid _
  rw [if_neg c3]
  by_cases c4:op=9
  .rw [if_pos c4];exact n2
  rw [if_neg c4]
  by_cases c5:op=10
  .rw [if_pos c5];exact aE5 _
  rw [if_neg c5]
  by_cases c6:op=11
  .rw [if_pos c6];exact n3
  rw [if_neg c6]
  by_cases c7:op=13
  .rw [if_pos c7];exact hid _
  rw [if_neg c7]
  by_cases c8:op=14
  .rw [if_pos c8];exact n4
  rw [if_neg c8]
  by_cases c9:op=15
  .rw [if_pos c9];exact aE5 _
  rw [if_neg c9]
  by_cases c10:op=16
  .rw [if_pos c10];exact n5
  rw [if_neg c10];exact n6
 .unfold aGq
  have hlv:=hlen v
  by_cases c1:op=6
  .rw [if_pos c1];unfold Num;omega
  rw [if_neg c1]
  by_cases c2:op=7
  .rw [if_pos c2];unfold Num;omega
  rw [if_neg c2]
  by_cases c3:op=8
  .rw [if_pos c3];exact hid _
  rw [if_neg c3]
  by_cases c4:op=9
  .rw [if_pos c4];unfold Num;omega
  rw [if_neg c4]
  by_cases c5:op=10
  .rw [if_pos c5];exact aE5 _
  exfalso;omega
theorem aY2 {p:Prg} {g:Graph} {c:aA5} {v:Nat} (h:SOK p g c v) {t:Term} {port:Int} {b:Bool} (har:aAd t.op=0) (ha:aFo t p.vars.length=true) (hb:aDi t.op=true->b=true) (hp:aJe g v b port):Num (aL3 g c v port t):=by
 have hr:=(aBa t.op).1 har;obtain ⟨op,arg⟩:=t;dsimp only at *;unfold aL3;dsimp only
 by_cases h1:op=1
 .rw [if_pos h1]
  subst h1;have hd:decide (0<=arg/\arg<=1073741824)=true:=ha;have:=of_decide_eq_true hd;unfold Num;omega
 rw [if_neg h1];split
 .unfold Num;omega
 split
 .unfold Num;omega
 split
 .unfold Num;omega
 split
 .rename_i h5
  obtain ⟨a1,a2⟩:=aJr ha (.inl h5);obtain ⟨a,rfl⟩:=Int.eq_ofNat_of_zero_le a1;rw [Int.toNat_natCast];exact h.small h.node (by omega)
 split
 .rename_i h12
  obtain ⟨a1,a2⟩:=aJr ha (.inr h12);obtain ⟨a,rfl⟩:=Int.eq_ofNat_of_zero_le a1;obtain ⟨k,rfl,hk⟩:=hp (hb (by unfold aDi;simp;omega))
  rw [aA8 h.node] at hk;obtain ⟨e,t,ht,htl,_⟩:=aMb h.gok h.node hk;rw [e,ht,Int.toNat_natCast,Int.toNat_natCast];exact h.small htl (by omega)
 .rename_i h2 h3 h4 h5 h12
  exact aXv h.gok h.node (by omega) hb hp
theorem aWj {g:Graph} (hg:GOK g) {v:Nat} (hv:v<g.ports.length):(g.ports.getD v []).length<24:=by
 rw [aA8 hv];have:=aCa hv (hg.links v hv);have:=hg.le;omega
theorem aLc {p:Prg} {g:Graph} {c:aA5} {v:Nat} (h:SOK p g c v) {x:Ex} (hx:x.ok) (ha:∀ t∈x.terms,aFo t p.vars.length=true):∀ {b:Bool} {port:Int},aBg b x->aJe g v b port->Num (aBk g c v port x):=by
 induction x with
 | leaf t=>intro b port hb hp;exact aY2 h hx (ha t (by simp [Ex.terms])) hb hp
 | un t a ih =>
  intro b port hb hp
  have ha':∀ s∈a.terms,aFo s p.vars.length=true:=fun s hs=>ha s (by simp [Ex.terms,hs])
  simp only [aBk]
  split
  .rename_i hag
   refine aVo (fun y hy=>?_) (by rw [List.length_map,List.length_range];have:=aWj h.gok h.node;omega)
   obtain ⟨k,hk,rfl⟩:=List.mem_map.1 hy;rw [List.mem_range] at hk;refine ih hx.2 ha' (b:=true) ?_ (fun _=>⟨k,rfl,hk⟩)
   have hb':aBg (b||aAa t.op) a:=hb
   rwa [hag,Bool.or_true] at hb'
  .rename_i hag
   refine aUs (ih hx.2 ha' (b:=b) ?_ hp)
   have hb':aBg (b||aAa t.op) a:=hb
   rwa [show aAa t.op=false by simpa using hag,Bool.or_false] at hb'
 | bin t x y ihx ihy=>intro b port hb hp;exact aRa
 | tri t x y z ihx ihy ihz =>
  intro b port hb hp
  simp only [aBk]
  obtain ⟨_,_,o2,o3⟩:=hx;split
  .exact ihy o2 (fun s hs=>ha s (by simp [Ex.terms,hs])) hb.2.1 hp
  .exact ihz o3 (fun s hs=>ha s (by simp [Ex.terms,hs])) hb.2.2 hp
end Go.Proofs.YtdcjnhoabbdanaaGreatDoor

