/- Merged. -/
import Derived.Test.YtmoebklkkjbigaaGreatDoorZ08
import Derived.Test.YtmoebklkkjbigaaGreatDoorZ09
import Derived.Laws.EntriesVeiled
import Derived.Test.YtmoebklkkjbigaaGreatDoorZ07
set_option linter.unusedSimpArgs false
set_option linter.unnecessarySimpa false
set_option linter.unusedVariables false
set_option maxRecDepth 100000
set_option maxHeartbeats 4000000
open Go.Proofs.Tryz

namespace Go.Proofs.YtmoebklkkjbigaaGreatDoor
open Go.RowKit
theorem aWr (v:Value) (p:Prg) (w:World) (h:aK5 w v p) (hL:aCc p=true) :
  Calls prog 29 #[v] w fun e w'=>e = .returned (.int .i64 (aC6 p))/\Bel w w':=by
 have HPV:=aA0 (fun w' (k:Bel w w')=>h.keep k);obtain ⟨A,k,A2,k2,rfl,hV,_,_,hR,_,_⟩:=h;have HV:=aA0 (fun w' (k:Bel w w')=>aNh.keep hV k);clear hV;have HR:=aA0 (fun w' (k:Bel w w')=>aJ7.keep hR k);clear hR;obtain ⟨p1,p2,p3,p4,p5⟩:=aBl hL;have HP5:=aA0 p5;have HL:=aA0 hL;clear p4 p5 hL;have HB:=Bel.refl (w.alloc (.cells #[.string p.name,.slice A p.vars.length k,.slice A2 p.rules.length k2] 31))
 by_cases hn:1<=p.vars.length/\p.vars.length<=6/\p.rules.length<=12
 .obtain ⟨n1,n2,n3⟩:=hn
  have hz:((p.vars.length:Int)==0)=false:=aMi n1;have hz':(p.vars.length==0)=false:=aMt n1;have hz2:decide (6<p.vars.length)=false:=by simp;omega
  have hz3:decide (12<p.rules.length)=false:=by simp;omega
  have HC1:Hid (aC6 p=if aFv p=false then 5 else if p.vars.all aDq=false then 2 else if p.rules.all (aEy p.vars.length)=false then 7 else if p.rules.all (aFg (aDp p))=false then 6 else 0):=by
   show aC6 p=_
   unfold aC6;rw [if_neg (by omega)]
  cases hnm:aFv p with
  | false =>
   rw [hnm,if_pos rfl] at HC1;go_enter func29,ntmps29
   go_wp2_with (go_at_call 63;refine (aYc _ p _ (HPV.out _ (aA6 HB)) HL.out).mono ?_;rintro e w' ⟨rfl,hb⟩;rw [hnm];replace HB:=HB.trans hb;clear hb)
   go_ret;exact ⟨aA9 HC1.out.symm,aA6 HB⟩
  | true =>
   rw [hnm,if_neg (by decide)] at HC1
   have HNM:=aA0 hnm;clear hnm;go_enter func29,ntmps29
   go_wp2_with (go_at_call 63;refine (aYc _ p _ (HPV.out _ (aA6 HB)) HL.out).mono ?_;rintro e w' ⟨rfl,hb⟩;rw [HNM.out];replace HB:=HB.trans hb;clear hb;have q1:=aAq HB 1 rfl;have q2:=aDd HB)
   clear hz hz' hz2 hz3 q1 q2
   go_loopg [4,32] p.vars.length (fun m _x z wr=>∃ j:Nat,j<=p.vars.length/\m=p.vars.length-j/\z = .int .i64 j/\Hid ((p.vars.take j).all aDq=true)/\Bel (w.alloc (.cells #[.string p.name,.slice A p.vars.length k,.slice A2 p.rules.length k2] 31)) wr)
   case atStart=>exact ⟨0,by omega,rfl,rfl,rfl,HB⟩
   case round =>
    clear HB;obtain ⟨i,hi,rfl,rfl,HJ,HB⟩:=hrel
    by_cases hlt:i<p.vars.length
    .have hd0:decide (i<p.vars.length)=true:=by simpa using hlt
     obtain ⟨b,o,rfl,hb,c0,c1,c2,c3,c4,c5⟩:=(HV.out _ (aA6 HB)).at_ i hlt;have HB2:=HB.alloc (.cells #[.string p.vars[i].name,.int .i64 p.vars[i].kind,.int .i64 p.vars[i].lo,.int .i64 p.vars[i].hi,.int .i64 p.vars[i].perNode,.int .i64 p.vars[i].perID] 132);cases hnn:aDq p.vars[i] with
     | false =>
      rw [aCh hlt hnn,if_pos rfl] at HC1
      go_wp2_with (go_at_call 64;refine (aRb p.vars[i] _).mono ?_;rintro e w' ⟨rfl,hbb⟩;rw [hnn];replace HB2:=HB2.trans hbb;clear hbb)
      go_ret;exact ⟨aA9 HC1.out.symm,aA6 HB2⟩
     | true =>
      have HN:=aA0 (aAp hlt HJ.out hnn);have HNN:=aA0 hnn;clear hnn
      go_wp2_with (go_at_call 64;refine (aRb p.vars[i] _).mono ?_;rintro e w' ⟨rfl,hbb⟩;rw [HNN.out];replace HB2:=HB2.trans hbb;clear hbb)
      go_roundg (p.vars.length-(i+1))
      case rel=>exact ⟨i+1,by omega,rfl,by go_num,HN,HB2⟩
      case measure=>omega
    .have hd0:decide (i<p.vars.length)=false:=by simpa using hlt
     rw [aC1 (by omega) HJ.out,if_neg (by decide)] at HC1
     have HNA:=aA0 (aR0 (aC1 (by omega) HJ.out))
     have q1:=aAq HB 2 rfl;have q2:=aDd HB;clear HJ
     go_wp2_with fail
     clear hd0 q1 q2 hi hlt
     go_loopg [6,43] p.rules.length (fun m _x z wr=>∃ j:Nat,j<=p.rules.length/\m=p.rules.length-j/\z = .int .i64 j/\Hid ((p.rules.take j).all (aEy p.vars.length)=true)/\Bel (w.alloc (.cells #[.string p.name,.slice A p.vars.length k,.slice A2 p.rules.length k2] 31)) wr)
     case atStart=>exact ⟨0,by omega,rfl,rfl,rfl,HB⟩
     case round =>
      clear HB;obtain ⟨i,hi,rfl,rfl,HJ,HB⟩:=hrel;have q1:=aAq HB 1 rfl;have q2:=aDd HB
      by_cases hlt:i<p.rules.length
      .have hd0:decide (i<p.rules.length)=true:=by simpa using hlt
       have HLr:=aA0 (HP5.out _ (List.getElem_mem hlt));obtain ⟨b,o,G,c,S,c2,rfl,hb,c0,c1,c2',hRV⟩:=(HR.out _ (aA6 HB)).at_V i hlt;have HB2:=HB.alloc (.cells #[.string p.rules[i].name,.slice G p.rules[i].guard.length c,.slice S p.rules[i].sets.length c2] 137);have HRV:=aA0 (hRV.keep ((Bel.refl wr).alloc (.cells #[.string p.rules[i].name,.slice G p.rules[i].guard.length c,.slice S p.rules[i].sets.length c2] 137)));clear hRV;cases hff:aEy p.vars.length p.rules[i] with
       | false =>
        rw [aCh hlt hff,if_pos rfl] at HC1
        go_wp2_with (go_at_call 65;refine (aSt _ p.rules[i] p.vars.length _ HRV.out (by omega) HLr.out).mono ?_;rintro e w' ⟨rfl,hbb⟩;rw [hff];replace HB2:=HB2.trans hbb;clear hbb)
        go_ret;exact ⟨aA9 HC1.out.symm,aA6 HB2⟩
       | true =>
        have HN:=aA0 (aAp hlt HJ.out hff);have HFF:=aA0 hff;clear hff
        go_wp2_with (go_at_call 65;refine (aSt _ p.rules[i] p.vars.length _ HRV.out (by omega) HLr.out).mono ?_;rintro e w' ⟨rfl,hbb⟩;rw [HFF.out];replace HB2:=HB2.trans hbb;clear hbb)
        go_roundg (p.rules.length-(i+1))
        case rel=>exact ⟨i+1,by omega,rfl,by go_num,HN,HB2⟩
        case measure=>omega
      .have hd0:decide (i<p.rules.length)=false:=by simpa using hlt
       have HALL:=aA0 (aC1 (by omega) HJ.out)
       rw [HALL.out,if_neg (by decide)] at HC1
       have q0:=aAq HB 0 rfl;have q3:=aAq HB 2 rfl;clear HJ
       go_wp2_with (go_at_call 66;refine (bI1 _ p _ (HPV.out _ (aA6 HB)) (by omega)).mono ?_;rintro e w' ⟨KA,kc,rfl,hK,_,_,hbb⟩;replace HB:=HB.trans hbb;clear hbb q0 q1 q3 q2;have q3:=aAq HB 2 rfl;have q2:=aDd HB)
       have HK:=aA0 (fun w2 (k:Bel w' w2)=>aCr.keep hK k);clear hK;have HW:=Bel.refl w';clear hd0 q3 q2 hi hlt
       go_loopg [9,59] p.rules.length (fun m _x z wr=>∃ j:Nat,j<=p.rules.length/\m=p.rules.length-j/\z = .int .i64 j/\Hid ((p.rules.take j).all (aFg (aDp p))=true)/\Bel w' wr)
       case atStart=>exact ⟨0,by omega,rfl,rfl,rfl,HW⟩
       case round =>
        clear HW;obtain ⟨i,hi,rfl,rfl,HJ,HW⟩:=hrel
        by_cases hlt:i<p.rules.length
        .have hd0:decide (i<p.rules.length)=true:=by simpa using hlt
         have HLr:=aA0 (HP5.out _ (List.getElem_mem hlt));have hfo:=(aI9 _ _).1 (List.all_eq_true.1 HALL.out _ (List.getElem_mem hlt));rw [<- aF2 p] at hfo;have HFO:=aA0 hfo;clear hfo;obtain ⟨b,o,G,c,S,c2,rfl,hb,c0,c1,c2',hRV⟩:=(HR.out _ ((aA6 HB).trans HW)).at_V i hlt;have HW2:=HW.alloc (.cells #[.string p.rules[i].name,.slice G p.rules[i].guard.length c,.slice S p.rules[i].sets.length c2] 137);have HRV:=aA0 (hRV.keep ((Bel.refl wr).alloc (.cells #[.string p.rules[i].name,.slice G p.rules[i].guard.length c,.slice S p.rules[i].sets.length c2] 137)));clear hRV;cases htv:aFg (aDp p) p.rules[i] with
         | false =>
          rw [aCh hlt htv,if_pos rfl] at HC1
          go_wp2_with (go_at_call 67;refine (aZ9 _ p.rules[i] _ _ (aDp p) _ HRV.out (HK.out _ HW2) (by rw [aF2];exact n2) HNA.out HFO.out HLr.out).mono ?_;rintro e w2 ⟨rfl,hbb⟩;rw [htv];replace HW2:=HW2.trans hbb;clear hbb)
          go_ret;exact ⟨aA9 HC1.out.symm,(aA6 HB).trans HW2⟩
         | true =>
          have HN:=aA0 (aAp hlt HJ.out htv);have HTV:=aA0 htv;clear htv
          go_wp2_with (go_at_call 67;refine (aZ9 _ p.rules[i] _ _ (aDp p) _ HRV.out (HK.out _ HW2) (by rw [aF2];exact n2) HNA.out HFO.out HLr.out).mono ?_;rintro e w2 ⟨rfl,hbb⟩;rw [HTV.out];replace HW2:=HW2.trans hbb;clear hbb)
          go_roundg (p.rules.length-(i+1))
          case rel=>exact ⟨i+1,by omega,rfl,by go_num,HN,HW2⟩
          case measure=>omega
        .have hd0:decide (i<p.rules.length)=false:=by simpa using hlt
         rw [aC1 (by omega) HJ.out,if_neg (by decide)] at HC1
         go_wp2_with fail
         go_ret;exact ⟨aA9 HC1.out.symm,(aA6 HB).trans HW⟩
 .have HF:Hid (aC6 p=3):=by show aC6 p=3;unfold aC6;rw [if_pos hn]
  rcases (show p.vars.length=0∨6<p.vars.length∨(1<=p.vars.length/\p.vars.length<=6/\12<p.rules.length) by omega) with h0 | h0 | ⟨h0,h1,h2⟩
  .have hz:((p.vars.length:Int)==0)=true:=by simp [h0]
   have hz':(p.vars.length==0)=true:=by simp [h0]
   clear hn;have HH:=aA0 h0;clear h0;go_enter func29,ntmps29
   go_wp2_with fail
   go_ret;exact ⟨aA9 HF.out.symm,aA6 HB⟩
  .have hz:((p.vars.length:Int)==0)=false:=aMi (by omega)
   have hz':(p.vars.length==0)=false:=aMt (by omega)
   have hz2:decide (6<p.vars.length)=true:=by simpa using h0
   clear hn;go_enter func29,ntmps29
   go_wp2_with fail
   go_ret;exact ⟨aA9 HF.out.symm,aA6 HB⟩
  .have hz:((p.vars.length:Int)==0)=false:=aMi h0
   have hz':(p.vars.length==0)=false:=aMt h0;have hz2:decide (6<p.vars.length)=false:=by simp;omega
   have hz3:decide (12<p.rules.length)=true:=by simpa using h2
   clear hn;go_enter func29,ntmps29
   go_wp2_with fail
   go_ret;exact ⟨aA9 HF.out.symm,aA6 HB⟩
theorem aJr (v:Value) (p:Prg) (w:World) (h:aK5 w v p) (hL:aCc p=true) :
  Calls prog 118 #[v] w fun e w'=>e = .returned (.bool (decide (aC6 p=0)))/\Bel w w':=by
 have HPV:=aA0 (fun w' (k:Bel w w')=>h.keep k);obtain ⟨A,k,A2,k2,rfl,_,_,_,_,_,_⟩:=h;have HB:=(Bel.refl w).alloc (.cells #[.string p.name,.slice A p.vars.length k,.slice A2 p.rules.length k2] 31);go_enter func118,ntmps118
 go_wp2_with (go_at_call 29;refine (aWr _ p _ (HPV.out _ HB) hL).mono ?_;rintro e w' ⟨rfl,hb⟩;replace HB:=HB.trans hb;clear hb)
 go_ret;exact ⟨aA1 (by rw [Bool.eq_iff_iff];simp),HB⟩
theorem bAv {n:Nat} (h:1<=n):decide (n<1)=false:=by simp;omega
theorem bAk {n:Nat} (h:1<=n):decide ((n:Int)<1)=false:=by simp;omega
theorem bLv {n:Nat} (h:n<1):decide (n<1)=true:=by simp;omega
theorem bLo {n:Nat} (h:n<1):decide ((n:Int)<1)=true:=by simp;omega
theorem aHf (v:Value) (g:Graph) (w:World) (h:aB2 w v g) (hlg:aBt g=true) :
  Calls prog 30 #[v] w fun e w'=>e = .returned (.bool (aG5 g))/\Bel w w':=by
 obtain ⟨A,k,A2,k2,rfl,hI,_,_,hP,_,_⟩:=h;have HI:=aA0 (fun w' (k:Bel w w')=>aCr.keep hI k);clear hI;have HP:=aA0 (fun w' (k:Bel w w')=>aHk.keep hP k);clear hP;obtain ⟨hl1,hl2,hl3⟩:=aH2 hlg;have HL3:=aA0 hl3;clear hl3 hlg;have HG:=aA0 (bEu g);have HB:=Bel.refl (w.alloc (.cells #[.slice A g.ids.length k,.slice A2 g.ports.length k2] 25))
 by_cases hn:1<=g.ports.length/\g.ports.length<=24/\g.ids.length=g.ports.length
 .have hd1:decide (g.ids.length<1)=false:=bAv (by omega)
  have hd2:decide (24<g.ids.length)=false:=by simp;omega
  have hd3:(g.ports.length != g.ids.length)=false:=by simp;omega
  have hd3':((g.ports.length:Int) != (g.ids.length:Int))=false:=by simp;omega
  have hd1':decide ((g.ids.length:Int)<1)=false:=bAk (by omega)
  rw [decide_eq_true hn] at HG;have hn1:1<=g.ids.length:=by omega
  have hn2:g.ids.length<=24:=by omega
  clear hn;cases hi:aS9 g.ids with
  | false =>
   go_enter func30,ntmps30
   go_wp2_with (go_at_call 68;refine (aIr _ _ g.ids _ (HI.out _ (aA6 HB)) (by omega)).mono ?_;rintro e w' ⟨rfl,hb⟩;rw [hi];replace HB:=HB.trans hb;clear hb)
   go_ret;exact ⟨aA1 (by rw [HG.out,hi];rfl),aA6 HB⟩
  | true =>
   have HII:=aA0 hi;clear hi;go_enter func30,ntmps30
   go_wp2_with (first
    | (go_at_call 68;refine (aIr _ _ g.ids _ (HI.out _ (aA6 HB)) (by omega)).mono ?_;rintro e w' ⟨rfl,hb⟩;rw [HII.out];replace HB:=HB.trans hb;clear hb;have q1:=aAq HB 1 rfl;have q2:=aDd HB)
    | (go_at_call 69;refine (aVz _ _ g.ports _ (HP.out _ (aA6 HB)) (by omega) HL3.out).mono ?_;rintro e w' ⟨rfl,hb⟩;replace HB:=HB.trans hb;clear hb))
   go_ret;exact ⟨aA1 (by rw [HG.out,HII.out];rfl),aA6 HB⟩
 .rw [decide_eq_false hn] at HG
  by_cases h1:g.ids.length<1
  .have hd1:decide (g.ids.length<1)=true:=bLv h1
   have hd1':decide ((g.ids.length:Int)<1)=true:=bLo h1;clear hn;go_enter func30,ntmps30
   go_wp2_with fail
   go_ret;exact ⟨aA1 (by rw [HG.out];rfl),aA6 HB⟩
  .have hd1:decide (g.ids.length<1)=false:=bAv (by omega)
   have hd1':decide ((g.ids.length:Int)<1)=false:=bAk (by omega)
   by_cases h2:24<g.ids.length
   .have hd2:decide (24<g.ids.length)=true:=by simpa using h2
    clear hn;go_enter func30,ntmps30
    go_wp2_with fail
    go_ret;exact ⟨aA1 (by rw [HG.out];rfl),aA6 HB⟩
   .have hd2:decide (24<g.ids.length)=false:=by simpa using h2
    have hd3:(g.ports.length != g.ids.length)=true:=by simp;omega
    have hd3':((g.ports.length:Int) != (g.ids.length:Int))=true:=by simp;omega
    clear hn;go_enter func30,ntmps30
    go_wp2_with fail
    go_ret;exact ⟨aA1 (by rw [HG.out];rfl),aA6 HB⟩
theorem aKw {l:List Int} {k:Nat} (h:k<l.length):aFc (l.take (k+1))=max (aFc (l.take k)) l[k]:=by
 unfold aFc;rw [List.take_succ_eq_append_getElem h,List.foldl_append];rfl
theorem aVv (A:Option Addr) (c:Nat) (ids:List Int) (w:World) (h:aCr w A ids.length ids) (hl:ids.length<=1000) (hp:1<=ids.length) (h0:∀ i∈ids,0<=i) :
  Calls prog 150 #[.slice A ids.length c] w fun e w'=>e = .returned (.int .i64 (aFc ids))/\w=w':=by
 have H:=aA0 h;clear h;have hz:decide (ids.length<1)=false:=bAv hp;have hz':decide ((ids.length:Int)<1)=false:=bAk hp;obtain ⟨b,o,rfl,hb,hc⟩:=H.out.at_ 0 (by omega)
 have hpos:0<ids.length:=by omega
 simp only [Nat.add_zero] at hc
 have HS:Hid (aFc (ids.take 1)=ids[0]):=by
  show aFc (ids.take 1)=ids[0]
  rw [aKw (k:=0) (by omega)]
  have:=h0 ids[0] (List.getElem_mem _);simp [aFc];omega
 clear h0;go_enter func150,ntmps150;go_wp2;clear hz hz' hc
 go_loopg [3,4] (ids.length-1) (fun m s z wr=>∃ j:Nat,j<=ids.length/\m=ids.length-j/\z = .int .i64 j/\s = .int .i64 (aFc (ids.take j))/\w=wr)
 case atStart=>exact ⟨1,by omega,rfl,rfl,by rw [HS.out],rfl⟩
 case round =>
  obtain ⟨j,hj,rfl,rfl,rfl,rfl⟩:=hrel
  by_cases hlt:j<ids.length
  .have hd0:decide (j<ids.length)=true:=by simpa using hlt
   obtain ⟨b',o',e',_,hc⟩:=H.out.at_ j hlt;obtain ⟨rfl,rfl⟩:b=b'/\o=o':=by simpa using e'
   have HN:=aA0 (aKw hlt);generalize aFc (ids.take j)=G at *;obtain ⟨m,hm,hm'⟩:=bHz G ids[j];have HM:=aA0 hm';clear hm' e';go_wp2
   go_roundg (ids.length-(j+1))
   case rel=>exact ⟨j+1,by omega,rfl,by go_num,by rw [HN.out,<- HM.out],rfl⟩
   case measure=>omega
  .have hd0:decide (j<ids.length)=false:=by simpa using hlt
   go_wp2;go_ret;exact ⟨aA9 (by rw [List.take_of_length_le (by omega)]),rfl⟩
def aAw (x:Var) (g:Graph) (v:Nat):Int × Int :=
 if x.kind=2 then (0,1) else if x.kind=3 then (-1,((g.ports.getD v []).length:Int)-1) else (x.lo,x.hi+x.perNode*g.ids.length+x.perID*aFc g.ids)
theorem aNr {g:Graph} (hg:GOK g):0<=aFc g.ids/\aFc g.ids<=255:=⟨aLh _,bAe _ _ (by omega) (fun x hx=>(hg.idr x hx).2)⟩
theorem aHr {a b A B:Int} (h1:0<=a) (h2:a<=A) (h3:0<=b) (h4:b<=B):0<=a*b/\a*b<=A*B :=
 ⟨Int.mul_nonneg h1 h3,Int.mul_le_mul h2 h4 h3 (by omega)⟩
theorem box3 {w wr:World} {cs ds es:Array Value} {t u s:TypeId} (h:Bel (((w.alloc (.cells cs t)).alloc (.cells ds u)).alloc (.cells es s)) wr) :
  (∀ i v,cs[i]?=some v->wr.cell? ⟨w.heap.size,i,none⟩=some v)/\(∀ i v,ds[i]?=some v->wr.cell? ⟨w.heap.size+1,i,none⟩=some v)/\(∀ i v,es[i]?=some v->wr.cell? ⟨w.heap.size+1+1,i,none⟩=some v)/\w.heap.size+1+1<wr.heap.size:=by
 have h2:=bL2 (w:=w.alloc (.cells cs t)) h;simp only [World.size_alloc] at h2
 refine ⟨fun i v hv=>?_,h2.1,h2.2.1,h2.2.2⟩
 exact (h.cell (by simp;omega)).trans ((((Blk.new w cs t).alloc _).alloc _).cell i hv)
theorem box3v {w wr:World} {a0 a1 a2 a3 a4 a5 b0 b1 d0 d1 d2 d3 d4 d5:Value} {t u s:TypeId} (h:Bel (((w.alloc (.cells #[a0,a1,a2,a3,a4,a5] t)).alloc (.cells #[b0,b1] u)).alloc (.cells #[d0,d1,d2,d3,d4,d5] s)) wr) :
  (wr.cell? ⟨w.heap.size,0,none⟩=some a0/\wr.cell? ⟨w.heap.size,1,none⟩=some a1/\wr.cell? ⟨w.heap.size,2,none⟩=some a2/\wr.cell? ⟨w.heap.size,3,none⟩=some a3/\wr.cell? ⟨w.heap.size,4,none⟩=some a4/\wr.cell? ⟨w.heap.size,5,none⟩=some a5) /\
  (wr.cell? ⟨w.heap.size+1,0,none⟩=some b0/\wr.cell? ⟨w.heap.size+1,1,none⟩=some b1) /\
  (wr.cell? ⟨w.heap.size+1+1,0,none⟩=some d0/\wr.cell? ⟨w.heap.size+1+1,1,none⟩=some d1/\wr.cell? ⟨w.heap.size+1+1,2,none⟩=some d2/\wr.cell? ⟨w.heap.size+1+1,3,none⟩=some d3/\wr.cell? ⟨w.heap.size+1+1,4,none⟩=some d4/\wr.cell? ⟨w.heap.size+1+1,5,none⟩=some d5) /\
  w.heap.size<wr.heap.size/\w.heap.size+1<wr.heap.size/\w.heap.size+1+1<wr.heap.size:=by
 obtain ⟨c1,c2,c3,c4⟩:=box3 h;exact ⟨⟨c1 0 _ rfl,c1 1 _ rfl,c1 2 _ rfl,c1 3 _ rfl,c1 4 _ rfl,c1 5 _ rfl⟩,⟨c2 0 _ rfl,c2 1 _ rfl⟩,⟨c3 0 _ rfl,c3 1 _ rfl,c3 2 _ rfl,c3 3 _ rfl,c3 4 _ rfl,c3 5 _ rfl⟩,by omega,by omega,c4⟩
theorem aGe {x:Var} (h:aDq x=true):(x.kind=2/\x.lo=0/\x.hi=0/\x.perNode=0/\x.perID=0)∨(x.kind=3/\x.lo=0/\x.hi=0/\x.perNode=0/\x.perID=0)∨(x.kind=1/\(0<=x.lo/\x.lo<=4096)/\(0<=x.perNode/\x.perNode<=255)/\(0<=x.perID/\x.perID<=255) /\ -4096<=x.hi/\x.hi<=4096):=by
 unfold aDq at h;have:=of_decide_eq_true h;omega
theorem aZy (x:Var) (v2:Value) (g:Graph) (i:Int) (w:World) (h2:aB2 w v2 g) (hx:aDq x=true) (hg:GOK g) :
  Calls prog 149 #[bKg x,v2,.int .i64 i] w fun e w'=>e = .returned (.tuple #[.int .i64 x.lo,.int .i64 (x.hi+x.perNode*g.ids.length+x.perID*aFc g.ids)])/\Bel w w':=by
 obtain ⟨A,k,A2,k2,rfl,hI,_,_,hP,_,_⟩:=h2;have HI:=aA0 (fun w' (k:Bel w w')=>aCr.keep hI k)
 have hb:(0<=x.perNode/\x.perNode<=255)/\(0<=x.perID/\x.perID<=255) /\ -4096<=x.hi/\x.hi<=4096:=by
  rcases aGe hx with h | h | h <;> omega
 have hle:=hg.le;have hids:=hg.ids;obtain ⟨g1,g2⟩:=aNr hg;obtain ⟨m1,m2⟩:=aHr hb.1.1 hb.1.2 (show (0:Int)<=g.ids.length by omega) (show (g.ids.length:Int)<=24 by omega)
 obtain ⟨m3,m4⟩:=aHr hb.2.1.1 hb.2.1.2 g1 g2;have w1:IntKind.i64.wrap (x.perNode*(g.ids.length:Int))=x.perNode*g.ids.length:=IntWalk.i64_in _ (by omega)
 have w2:IntKind.i64.wrap (x.hi+x.perNode*(g.ids.length:Int))=x.hi+x.perNode*g.ids.length:=IntWalk.i64_in _ (by omega)
 have w3:IntKind.i64.wrap (x.perID*aFc g.ids)=x.perID*aFc g.ids:=IntWalk.i64_in _ (by omega)
 have w4:IntKind.i64.wrap (x.hi+x.perNode*(g.ids.length:Int)+x.perID*aFc g.ids)=x.hi+x.perNode*g.ids.length+x.perID*aFc g.ids:=IntWalk.i64_in _ (by omega)
 have hpos:1<=g.ids.length:=by have:=hg.pos;omega
 have hn24:g.ids.length<=24:=by omega
 have HR:=aA0 (fun i hi=>(hg.idr i hi).1);clear hI hP hx hg m1 m2 m3 m4 hids hle;obtain ⟨name,kind,lo,hi,pn,pi⟩:=x;unfold bKg;dsimp only at *;have HW:=Bel.refl ((w.alloc (.cells #[.string name,.int .i64 kind,.int .i64 lo,.int .i64 hi,.int .i64 pn,.int .i64 pi] 132)).alloc (.cells #[.slice A g.ids.length k,.slice A2 g.ports.length k2] 25));have hcell:=aA0 (fun w' (kk:Bel ((w.alloc (.cells #[.string name,.int .i64 kind,.int .i64 lo,.int .i64 hi,.int .i64 pn,.int .i64 pi] 132)).alloc (.cells #[.slice A g.ids.length k,.slice A2 g.ports.length k2] 25)) w')=>And.intro ((bL2 kk).1 2 _ rfl) (And.intro ((bL2 kk).1 3 _ rfl) (And.intro ((bL2 kk).1 4 _ rfl) (And.intro ((bL2 kk).1 5 _ rfl) (And.intro ((bL2 kk).2.1 0 _ rfl) (bL2 kk).2.2)))));go_enter func149,ntmps149;go_wp2;replace HW:=HW.drew
 go_region_held3 (fun w'=>w'.cell? ⟨w.heap.size,2,none⟩=some (.int .i64 lo)/\w'.cell? ⟨w.heap.size,3,none⟩=some (.int .i64 hi)/\w'.cell? ⟨w.heap.size,4,none⟩=some (.int .i64 pn)/\w'.cell? ⟨w.heap.size,5,none⟩=some (.int .i64 pi)/\w'.cell? ⟨w.heap.size+1,0,none⟩=some (.slice A g.ids.length k)/\w.heap.size+1<w'.heap.size) (exact hcell.out _ HW) (first | (go_simp;go_at_call 150;refine (aVv _ _ g.ids _ (HI.out _ (aA2 HW)) (by omega) hpos HR.out).mono ?_;rintro e w' ⟨rfl,rfl⟩))
 go_wp2
 go_ret2
 exact ⟨rfl,aA2 HW⟩
theorem aZz (x:Var) (v2:Value) (g:Graph) (i:Int) (w:World) (h2:aB2 w v2 g) :
  Calls prog 151 #[bKg x,v2,.int .i64 i] w fun e w'=>e = .returned (.tuple #[.int .i64 0,.int .i64 1])/\Bel w w':=by
 obtain ⟨A,k,A2,k2,rfl,_,_,_,_,_,_⟩:=h2;unfold bKg;go_enter func151,ntmps151;go_wp2
 go_ret2
 exact ⟨rfl,((Bel.refl _).alloc _).alloc _⟩
theorem bA0 (x:Var) (v2:Value) (g:Graph) (i:Nat) (w:World) (h2:aB2 w v2 g) (hi:i<g.ports.length) (hl:aBt g=true) :
  Calls prog 152 #[bKg x,v2,.int .i64 i] w fun e w'=>e = .returned (.tuple #[.int .i64 (-1),.int .i64 ((g.ports[i].length:Int)-1)])/\Bel w w':=by
 obtain ⟨A,k,A2,k2,rfl,_,_,_,hP,_,_⟩:=h2;obtain ⟨b,o,R,c1,rfl,hb,hc1,_,_,_⟩:=hP.at_ i hi;obtain ⟨_,l2,l3⟩:=aH2 hl;have hlen:=l3 _ (List.getElem_mem hi);have hd:decide (i<g.ports.length)=true:=by simpa using hi
 have hw:IntKind.i64.wrap ((g.ports[i].length:Int)-1)=(g.ports[i].length:Int)-1:=IntWalk.i64_in _ (by omega)
 clear hP l3 hl;unfold bKg;go_enter func152,ntmps152;go_wp2
 go_quiet (fail)
 go_wp2
 go_ret2
 exact ⟨rfl,(((Bel.refl _).alloc _).alloc _).drewN _⟩
theorem aK8 (x:Var) (v2:Value) (g:Graph) (i:Nat) (w:World) (h2:aB2 w v2 g) (hx:aDq x=true) (hg:GOK g) (hi:i<g.ports.length) (hl:aBt g=true) :
  Calls prog 119 #[bKg x,v2,.int .i64 i] w fun e w'=>e = .returned (.tuple #[.int .i64 (aAw x g i).1,.int .i64 (aAw x g i).2])/\Bel w w':=by
 have HGV:=aA0 (fun w' (k:Bel w w')=>h2.keep k);obtain ⟨A,k,A2,k2,rfl,hI,_,_,hP,_,_⟩:=h2;have HX:=aA0 hx;have HG:=aA0 hg;have HL:=aA0 hl;have hk:x.kind=1∨x.kind=2∨x.kind=3:=by rcases aGe hx with h | h | h <;> omega
 have HF:Hid (aAw x g i=if x.kind=2 then (0,1) else if x.kind=3 then (-1,(g.ports[i].length:Int)-1) else (x.lo,x.hi+x.perNode*g.ids.length+x.perID*aFc g.ids)):=by
  show aAw x g i=_
  unfold aAw;rw [aA8 hi]
 clear hI hP hx hg hl;unfold bKg;go_enter func119,ntmps119;go_wp2
 go_loopg [10,17] 3 (fun m _y z wr=>∃ j:Nat,j<3/\m=3-j/\z = .int .i64 j/\(j:Int)+1<=x.kind/\Bel (((w.alloc (.cells #[.string x.name,.int .i64 x.kind,.int .i64 x.lo,.int .i64 x.hi,.int .i64 x.perNode,.int .i64 x.perID] 132)).alloc (.cells #[.slice A g.ids.length k,.slice A2 g.ports.length k2] 25)).alloc (.cells #[.int .i64 1,.func (.func 149) #[] #[],.int .i64 2,.func (.func 151) #[] #[],.int .i64 3,.func (.func 152) #[] #[]] 243)) wr)
 case atStart=>exact ⟨0,by omega,rfl,rfl,by omega,Bel.refl _⟩
 case round =>
  obtain ⟨j,hj,rfl,rfl,hjk,HB⟩:=hrel;obtain ⟨⟨x0,x1,x2,x3,x4,x5⟩,⟨y0,y1⟩,⟨z0,z1,z2,z3,z4,z5⟩,s1,s2,s3⟩:=box3v HB;have HB0:Bel w wr:=aA6 (aA6 (aA6 HB))
  rcases (show j=0∨j=1∨j=2 by omega) with rfl | rfl | rfl
  .have HB2:=HB.alloc (.cells #[.int .i64 1,.func (.func 149) #[] #[]] 243)
   have HW2:=HB0.alloc (.cells #[.int .i64 1,.func (.func 149) #[] #[]] 243)
   by_cases hkk:x.kind=1
   .have hb1:((1:Int)==x.kind)=true:=by simp [hkk]
    rw [if_neg (by omega),if_neg (by omega)] at HF
    have HKK:=aA0 hkk;clear hkk hk hjk
    go_wp2_with (go_at_call 149;refine (aZy x _ g _ _ (HGV.out _ HW2) HX.out HG.out).mono ?_;rintro e w' ⟨rfl,hb⟩;replace HW2:=HW2.trans hb;clear hb)
    go_ret2
    rw [HF.out];exact ⟨rfl,HW2⟩
   .have hb1:((1:Int)==x.kind)=false:=by simp;omega
    go_wp2_with fail
    go_roundg 2
    case rel=>exact ⟨1,by omega,rfl,rfl,by omega,HB2⟩
    case measure=>omega
  .have HB2:=HB.alloc (.cells #[.int .i64 2,.func (.func 151) #[] #[]] 243)
   have HW2:=HB0.alloc (.cells #[.int .i64 2,.func (.func 151) #[] #[]] 243)
   by_cases hkk:x.kind=2
   .have hb1:((2:Int)==x.kind)=true:=by simp [hkk]
    rw [if_pos hkk] at HF;have HKK:=aA0 hkk;clear hkk hk hjk
    go_wp2_with (go_at_call 151;refine (aZz x _ g _ _ (HGV.out _ HW2)).mono ?_;rintro e w' ⟨rfl,hb⟩;replace HW2:=HW2.trans hb;clear hb)
    go_ret2
    rw [HF.out];exact ⟨rfl,HW2⟩
   .have hb1:((2:Int)==x.kind)=false:=by simp;omega
    go_wp2_with fail
    go_roundg 1
    case rel=>exact ⟨2,by omega,rfl,rfl,by omega,HB2⟩
    case measure=>omega
  .have hkk:x.kind=3:=by omega
   have HW2:=HB0.alloc (.cells #[.int .i64 3,.func (.func 152) #[] #[]] 243);have hb1:((3:Int)==x.kind)=true:=by simp [hkk]
   rw [if_neg (by omega),if_pos hkk] at HF
   have HKK:=aA0 hkk;clear hkk hk hjk
   go_wp2_with (go_at_call 152;refine (bA0 x _ g i _ (HGV.out _ HW2) hi HL.out).mono ?_;rintro e w' ⟨rfl,hb⟩;replace HW2:=HW2.trans hb;clear hb)
   go_ret2
   rw [HF.out];exact ⟨rfl,HW2⟩
def aNp (g:Graph) (x:Var):Bool:=decide (x.kind≠1∨((aAw x g 0).1<=(aAw x g 0).2/\(aAw x g 0).2-(aAw x g 0).1+1<=4096))
def aCw (p:Prg) (g:Graph):Int :=
 if aC6 p≠0 then 8 else if aG5 g=false then 1 else if p.vars.all (aNp g)=false then 9 else 0
theorem aJc {x:Var} {g:Graph} {v:Nat} (hx:aDq x=true) (hg:GOK g) (hv:v<g.ports.length) : -4096<=(aAw x g v).1/\(aAw x g v).1<=4096 /\ -4096<=(aAw x g v).2/\(aAw x g v).2<=80000:=by
 have hle:=hg.le;have hids:=hg.ids;obtain ⟨g1,g2⟩:=aNr hg;have hlen:=aDv hv (hg.links v hv);unfold aAw;rw [aA8 hv]
 rcases aGe hx with h | h | h
 .rw [if_pos h.1];simp
 .rw [if_neg (by omega),if_pos h.1];simp;omega
 .rw [if_neg (by omega),if_neg (by omega)]
  obtain ⟨_,a1,a2,a3,a4,a5⟩:=h;obtain ⟨m1,m2⟩:=aHr a2.1 a2.2 (show (0:Int)<=g.ids.length by omega) (show (g.ids.length:Int)<=24 by omega)
  obtain ⟨m3,m4⟩:=aHr a3.1 a3.2 g1 g2;simp only []
  omega
theorem aCj {p:Prg} (h:aC6 p=0):p.vars.all aDq=true/\1<=p.vars.length/\p.vars.length<=6/\p.rules.length<=12/\aFv p=true/\(∀ r∈p.rules,FOK p.vars.length r)/\(∀ r∈p.rules,aFg (aDp p) r=true):=by
 unfold aC6 at h;split at h
 .cases h
 .rename_i hn
  split at h
  .cases h
  .rename_i h1
   split at h
   .cases h
   .rename_i h2
    split at h
    .cases h
    .rename_i h3
     split at h
     .cases h
     .rename_i h4
      refine ⟨by simpa using h2,by omega,by omega,by omega,by simpa using h1,fun r hr=>?_,fun r hr=>?_⟩
      .exact (aI9 _ _).1 (List.all_eq_true.1 (by simpa using h3:p.rules.all (aEy p.vars.length)=true) r hr)
      .exact List.all_eq_true.1 (by simpa using h4:p.rules.all (aFg (aDp p))=true) r hr
theorem aKa (v:Value) (p:Prg) (v2:Value) (g:Graph) (w:World) (h:aK5 w v p) (h2:aB2 w v2 g) (hL:aCc p=true) (hG:aBt g=true) :
  Calls prog 75 #[v,v2] w fun e w'=>e = .returned (.int .i64 (aCw p g))/\Bel w w':=by
 have HPV:=aA0 (fun w' (k:Bel w w')=>h.keep k);have HGV:=aA0 (fun w' (k:Bel w w')=>h2.keep k);obtain ⟨A,k,A2,k2,rfl,hV,_,_,_,_,_⟩:=h;obtain ⟨A3,k3,A4,k4,rfl,_,_,_,_,_,_⟩:=h2;have HV:=aA0 (fun w' (k:Bel w w')=>aNh.keep hV k);clear hV;have HL:=aA0 hL;have HGL:=aA0 hG;clear hL hG;have HW:=Bel.refl ((w.alloc (.cells #[.string p.name,.slice A p.vars.length k,.slice A2 p.rules.length k2] 31)).alloc (.cells #[.slice A3 g.ids.length k3,.slice A4 g.ports.length k4] 25));have HF:Hid (aCw p g=if aC6 p≠0 then 8 else if aG5 g=false then 1 else if p.vars.all (aNp g)=false then 9 else 0):=rfl
 by_cases hc:aC6 p=0
 .have hcb:decide (aC6 p=0)=true:=by simpa using hc
  rw [if_neg (by simpa using hc)] at HF
  have HCN:=aA0 (aCj hc);have HCB:=aA0 hcb;clear hc hcb;have hn6:=HCN.out.2.2.1;cases hg:aG5 g with
  | false =>
   rw [hg,if_pos rfl] at HF;go_enter func75,ntmps75
   go_wp2_with (first
    | (go_at_call 118;refine (aJr _ p _ (HPV.out _ (aA2 HW)) HL.out).mono ?_;rintro e w' ⟨rfl,hb⟩;rw [HCB.out];replace HW:=HW.trans hb;clear hb;obtain ⟨p0,p1,p2,g0,g1,gsz⟩:=aDh HW)
    | (go_at_call 30;refine (aHf _ g _ (HGV.out _ (aA2 HW)) HGL.out).mono ?_;rintro e w' ⟨rfl,hb⟩;rw [hg];replace HW:=HW.trans hb;clear hb))
   go_ret;exact ⟨aA9 HF.out.symm,aA2 HW⟩
  | true =>
   rw [hg,if_neg (by decide)] at HF
   have HGG:=aA0 hg;have HGO:=aA0 ((aE6 g).1 hg);clear hg;go_enter func75,ntmps75
   go_wp2_with (first
    | (go_at_call 118;refine (aJr _ p _ (HPV.out _ (aA2 HW)) HL.out).mono ?_;rintro e w' ⟨rfl,hb⟩;rw [HCB.out];replace HW:=HW.trans hb;clear hb;obtain ⟨p0,p1,p2,g0,g1,gsz⟩:=aDh HW)
    | (go_at_call 30;refine (aHf _ g _ (HGV.out _ (aA2 HW)) HGL.out).mono ?_;rintro e w' ⟨rfl,hb⟩;rw [HGG.out];replace HW:=HW.trans hb;clear hb p0 p1 p2 g0 g1 gsz;obtain ⟨p0,p1,p2,g0,g1,gsz⟩:=aDh HW))
   clear p0 p1 p2 g0 g1 gsz
   go_loopg [6,7,8,18] p.vars.length (fun m _x _y _u z wr=>∃ j:Nat,j<=p.vars.length/\m=p.vars.length-j/\z = .int .i64 j/\Hid ((p.vars.take j).all (aNp g)=true)/\Bel ((w.alloc (.cells #[.string p.name,.slice A p.vars.length k,.slice A2 p.rules.length k2] 31)).alloc (.cells #[.slice A3 g.ids.length k3,.slice A4 g.ports.length k4] 25)) wr)
   case atStart=>exact ⟨0,by omega,rfl,rfl,rfl,HW⟩
   case round =>
    clear HW;obtain ⟨i,hi,rfl,rfl,HJ,HW⟩:=hrel
    by_cases hlt:i<p.vars.length
    .have hd0:decide (i<p.vars.length)=true:=by simpa using hlt
     obtain ⟨p0,p1,p2,g0,g1,gsz⟩:=aDh HW;obtain ⟨b,o,rfl,hb,c0,c1,c2,c3,c4,c5⟩:=(HV.out _ (aA2 HW)).at_ i hlt;have HNX:=aA0 (List.all_eq_true.1 HCN.out.1 _ (List.getElem_mem hlt));have hpos:0<g.ports.length:=HGO.out.pos;have hbs:=aJc HNX.out HGO.out hpos;have HFV:Hid (aNp g p.vars[i]=decide (p.vars[i].kind≠1∨((aAw p.vars[i] g 0).1<=(aAw p.vars[i] g 0).2/\(aAw p.vars[i] g 0).2-(aAw p.vars[i] g 0).1+1<=4096))):=rfl;have HW2:=HW.alloc (.cells #[.string p.vars[i].name,.int .i64 p.vars[i].kind,.int .i64 p.vars[i].lo,.int .i64 p.vars[i].hi,.int .i64 p.vars[i].perNode,.int .i64 p.vars[i].perID] 132)
     by_cases hk:p.vars[i].kind=1
     .have hkb:(p.vars[i].kind != 1)=false:=by simpa using hk
      have HK:=aA0 hk;clear hk;generalize hbd:aAw p.vars[i] g 0=B at *;have HBD:=aA0 hbd;clear hbd;obtain ⟨lo,hi'⟩:=B;dsimp only at hbs HFV
      by_cases hok:lo<=hi'/\hi' - lo+1<=4096
      .have d1:decide (hi' < lo)=false:=by simp;omega
       have d2:decide (4096<hi' - lo+1)=false:=by simp;omega
       have HN:=aA0 (aAp hlt HJ.out (by rw [HFV.out];simp;omega))
       go_wp2_with (go_at_call 119;refine (aK8 p.vars[i] _ g 0 _ (HGV.out _ (aA2 HW2)) HNX.out HGO.out hpos HGL.out).mono ?_;rintro e w' ⟨rfl,hb⟩;rw [HBD.out];replace HW2:=HW2.trans hb;clear hb)
       go_roundg (p.vars.length-(i+1))
       case rel=>exact ⟨i+1,by omega,rfl,by go_num,HN,HW2⟩
       case measure=>omega
      .rw [aCh hlt (by rw [HFV.out,decide_eq_false];have:=HK.out;omega),if_pos rfl] at HF
       by_cases d1:hi' < lo
       .have d1:decide (hi' < lo)=true:=by simpa using d1
        clear hok
        go_wp2_with (go_at_call 119;refine (aK8 p.vars[i] _ g 0 _ (HGV.out _ (aA2 HW2)) HNX.out HGO.out hpos HGL.out).mono ?_;rintro e w' ⟨rfl,hb⟩;rw [HBD.out];replace HW2:=HW2.trans hb;clear hb)
        go_ret;exact ⟨aA9 HF.out.symm,aA2 HW2⟩
       .have d2:decide (4096<hi' - lo+1)=true:=by simp;omega
        have d1:decide (hi' < lo)=false:=by simpa using d1
        clear hok
        go_wp2_with (go_at_call 119;refine (aK8 p.vars[i] _ g 0 _ (HGV.out _ (aA2 HW2)) HNX.out HGO.out hpos HGL.out).mono ?_;rintro e w' ⟨rfl,hb⟩;rw [HBD.out];replace HW2:=HW2.trans hb;clear hb)
        go_ret;exact ⟨aA9 HF.out.symm,aA2 HW2⟩
     .have hkb:(p.vars[i].kind != 1)=true:=by simpa using hk
      have HN:=aA0 (aAp hlt HJ.out (by rw [HFV.out];simp [hk]))
      go_wp2_with fail
      go_roundg (p.vars.length-(i+1))
      case rel=>exact ⟨i+1,by omega,rfl,by go_num,HN,HW2⟩
      case measure=>omega
    .have hd0:decide (i<p.vars.length)=false:=by simpa using hlt
     rw [aC1 (by omega) HJ.out,if_neg (by decide)] at HF
     go_wp2_with fail
     go_ret;exact ⟨aA9 HF.out.symm,aA2 HW⟩
 .have hcb:decide (aC6 p=0)=false:=by simpa using hc
  rw [if_pos hc] at HF;have HCB:=aA0 hcb;clear hc hcb;go_enter func75,ntmps75
  go_wp2_with (go_at_call 118;refine (aJr _ p _ (HPV.out _ (aA2 HW)) HL.out).mono ?_;rintro e w' ⟨rfl,hb⟩;rw [HCB.out];replace HW:=HW.trans hb;clear hb)
  go_ret;exact ⟨aA9 HF.out.symm,aA2 HW⟩
def Fr (g:Nat) (a b:World):Prop:=a.heap.size<=b.heap.size/\∀ k,k<a.heap.size->k≠g->b.heap[k]?=a.heap[k]?
theorem Fr.refl (g:Nat) (a:World):Fr g a a:=⟨Nat.le_refl _,fun _ _ _=>rfl⟩
theorem Fr.trans {g:Nat} {a b c:World} (h:Fr g a b) (k:Fr g b c):Fr g a c:=⟨Nat.le_trans h.1 k.1,fun i hi hg=>(k.2 i (Nat.lt_of_lt_of_le hi h.1) hg).trans (h.2 i hi hg)⟩
theorem Fr.of_bel {g:Nat} {a b:World} (h:Bel a b):Fr g a b:=⟨h.size,fun k hk _=>h.block k hk⟩
theorem Fr.alloc {g:Nat} {a b:World} (h:Fr g a b) (o:Obj):Fr g a (b.alloc o):=h.trans (Fr.of_bel ((Bel.refl b).alloc o))
theorem Fr.drew {g:Nat} {a b:World} (h:Fr g a b):Fr g a b.drew:=h
theorem Fr.drewN {g:Nat} {a b:World} (h:Fr g a b) (n:Nat):Fr g a (b.drewN n):=h
theorem Fr.set {g:Nat} {a b:World} (h:Fr g a b) (o:Nat) (v:Value):Fr g a (b.setCell ⟨g,o,none⟩ v) :=
 h.trans ⟨by simp,fun k hk hg=>Below.heap_setCell _ _ _ _ hg⟩
theorem Fr.setNew {g:Nat} {a b:World} (h:Fr g a b) {p:Addr} (hp:a.heap.size<=p.block) (v:Value):Fr g a (b.setCell p v) :=
 ⟨by have:=h.1;simpa using this,fun k hk hg=>(Below.heap_setCell _ _ _ _ (by omega)).trans (h.2 k hk hg)⟩
theorem Fr.cell {g:Nat} {a b:World} (h:Fr g a b) {k o:Nat} (hk:k<a.heap.size) (hg:k≠g):b.cell? ⟨k,o,none⟩=a.cell? ⟨k,o,none⟩:=by
 unfold World.cell?;rw [h.2 k hk hg]
theorem Fr.newer {g g':Nat} {a b c:World} (h:Fr g a b) (hg:a.heap.size<=g') (k:Fr g' b c):Fr g a c :=
 ⟨Nat.le_trans h.1 k.1,fun i hi hne=>(k.2 i (Nat.lt_of_lt_of_le hi h.1) (by omega)).trans (h.2 i hi hne)⟩
def aQ3 (w:World) (b o:Nat) (x:Int × Int):Prop:=w.cell? ⟨b,o,none⟩=some (.int .i64 x.1)/\w.cell? ⟨b,o+1,none⟩=some (.int .i64 x.2)
theorem aQ3.keeps:aNg aQ3:=fun _ _ _ _ _ k hb h=>⟨(k.cell hb).trans h.1,(k.cell hb).trans h.2⟩
def aJ5:=aAc 2 aQ3
def aFe:=aAc 1 (aG7 2 aQ3)
theorem aFe.keep {w w':World} {A:Option Addr} {n:Nat} {xs:List (List (Int × Int))} (h:aFe w A n xs) (k:Bel w w'):aFe w' A n xs:=aAc.keep (aG7.keeps aQ3.keeps) h k
theorem aJ5.keep {w w':World} {A:Option Addr} {n:Nat} {xs:List (Int × Int)} (h:aJ5 w A n xs) (k:Bel w w'):aJ5 w' A n xs:=aAc.keep aQ3.keeps h k
theorem aFe.at_ {w:World} {A:Option Addr} {n:Nat} {xs:List (List (Int × Int))} (h:aFe w A n xs) (k:Nat) (hk:k<xs.length) :
  ∃ b o R c,A=some ⟨b,o,none⟩/\b<w.heap.size/\w.cell? ⟨b,o+k,none⟩=some (.slice R xs[k].length c)/\aJ5 w R xs[k].length xs[k]/\xs[k].length<=c/\c<=maxLen:=RowsAt.at_ h k hk
theorem aJ5.at_ {w:World} {A:Option Addr} {n:Nat} {xs:List (Int × Int)} (h:aJ5 w A n xs) (k:Nat) (hk:k<xs.length) :
  ∃ b o,A=some ⟨b,o,none⟩/\b<w.heap.size/\w.cell? ⟨b,o+k*2,none⟩=some (.int .i64 xs[k].1)/\w.cell? ⟨b,o+k*2+1,none⟩=some (.int .i64 xs[k].2):=aAc.at_ h k hk
def aHl (w:World) (v:Value) (t:List (List (Int × Int))):Prop:=∃ A c,v = .slice A t.length c/\aFe w A t.length t/\t.length<=c/\c<=maxLen
theorem aHl.keep {w w':World} {v:Value} {t:List (List (Int × Int))} (h:aHl w v t) (k:Bel w w'):aHl w' v t:=by
 obtain ⟨A,c,e,h1,h2⟩:=h;exact ⟨A,c,e,h1.keep k,h2⟩
def aJ3 (p:Prg) (g:Graph) (v:Nat):List (Int × Int):=p.vars.map fun x=>aAw x g v
def aAb (p:Prg) (g:Graph):List (List (Int × Int)):=(List.range g.ids.length).map (aJ3 p g)
def bKk (t:List (List (Int × Int))) (w:World) (e:Ending) (w':World):Prop:=∃ v,e = .returned v/\aHl w' v t/\Bel w w'
def aM1 (N:Nat) (w:World) (v:Value) (t:List (List (Int × Int))):Prop:=∀ W,aC3 N w W->aHl W v t
theorem aM1.keep {N:Nat} {w w':World} {v:Value} {t:List (List (Int × Int))} (h:aM1 N w v t) (k:Bel w w'):aM1 N w' v t:=fun W hW=>h W (hW.back k)
theorem aM1.low {N M:Nat} {w:World} {v:Value} {t:List (List (Int × Int))} (h:aM1 N w v t) (hM:M<=N):aM1 M w v t:=fun W hW=>h W (hW.up hM)
def bGr (t:List (List (Int × Int))) (w:World) (e:Ending) (w':World):Prop:=∃ v,e = .returned v/\aM1 w.heap.size w' v t/\Bel w w'
def aPi (w:World) (N m gb v:Nat) (hs:List Value) (t:List (List (Int × Int))):Prop :=
 ∀ u,u<v->∃ gu,hs[u]?=some (.slice (some ⟨gu,0,none⟩) m m)/\gu≠gb/\gu<w.heap.size/\N<=gu/\∀ x i,(t.getD u [])[i]?=some x->aQ3 w gu (i*2) x
theorem aPi.kept {w w':World} {N m gb v:Nat} {hs:List Value} {t:List (List (Int × Int))} (h:aPi w N m gb v hs t) (hf:Fr gb w w'):aPi w' N m gb v hs t:=fun u hu=>by
 obtain ⟨gu,h1,h2,h3,h5,h4⟩:=h u hu;exact ⟨gu,h1,h2,Nat.lt_of_lt_of_le h3 hf.1,h5,fun x i hx=>⟨(hf.cell h3 h2).trans (h4 x i hx).1,(hf.cell h3 h2).trans (h4 x i hx).2⟩⟩
theorem aH8 {w w':World} {base:Nat} {e:TypeId} {size gb n c g:Nat} {xs:List Value} (h:w.ownsRow base e size (.slice (some ⟨gb,0,none⟩) n c) n xs) (hf:Fr g w w') (hne:gb≠g):w'.ownsRow base e size (.slice (some ⟨gb,0,none⟩) n c) n xs:=by
 refine ⟨h.1,?_⟩
 rcases h.2 with ⟨hv,_⟩ | ⟨g',cap,cur,hv,hb,hg,hr⟩
 .cases hv
 .right
  refine ⟨g',cap,cur,hv,hb,?_,hr⟩
  injection hv with hA;injection hA with hA;injection hA with hA;subst hA
  rw [hf.2 gb (lt_of_block hg) hne];exact hg
theorem aDy {w:World} {base:Nat} {e:TypeId} {g n c:Nat} {xs:List Value} (h:w.ownsRow base e 1 (.slice (some ⟨g,0,none⟩) n c) n xs) (j:Nat) (hj:j<xs.length):w.cell? ⟨g,j,none⟩=some xs[j]:=by
 obtain ⟨g',e1,_,_,h1,_⟩:=aAj h (List.getElem?_eq_getElem hj);obtain rfl:g=g':=by simpa using e1
 exact h1
def aNn (l:List Term) (k:Nat):List Term:=l.take k++List.replicate (l.length-k) ⟨0,0⟩
theorem bEq (l:List Term):aNn l 0=List.replicate l.length ⟨0,0⟩:=by simp [aNn]
theorem bEo (l:List Term) (k:Nat) (h:l.length<=k):aNn l k=l:=by simp [aNn,List.take_of_length_le h,show l.length-k=0 by omega]
theorem aXd (l:List Term) (k:Nat):(aNn l k).length=l.length:=by simp [aNn];omega
theorem bHk (l:List Term) (k:Nat) (h:k<l.length):(aNn l k)[k]?=some ⟨0,0⟩:=by
 unfold aNn;rw [List.getElem?_append_right (by simp;omega)]
 rw [List.length_take,Nat.min_eq_left (Nat.le_of_lt h),Nat.sub_self,List.getElem?_replicate,if_pos (by omega)]
theorem bEp (l:List Term) (k:Nat) (h:k<l.length):(aNn l k).set k l[k]=aNn l (k+1):=by
 unfold aNn;rw [List.set_append_right _ _ (by simp;omega),List.length_take,Nat.min_eq_left (Nat.le_of_lt h),Nat.sub_self,show l.length-k=(l.length-(k+1))+1 by omega,List.replicate_succ,List.set_cons_zero]
 conv=>rhs;rw [List.take_succ_eq_append_getElem h,List.append_assoc]
 rfl
theorem aSj (es:List Term) (k:Nat) (t:Term) (h:k<es.length):((es.flatMap aBo).set (k*2) (.int .i64 t.op)).set (k*2+1) (.int .i64 t.arg)=(es.set k t).flatMap aBo:=by
 induction es generalizing k with
 | nil=>simp at h
 | cons x es ih =>
  cases k with
  | zero=>simp [aBo]
  | succ k =>
   have:=ih k (by simpa using h)
   rw [show (k+1)*2+1=(k*2+1)+1+1 by omega,show (k+1)*2=k*2+1+1 by omega]
   simpa [aBo] using this
theorem bBu (m:Nat):(List.replicate m (⟨0,0⟩:Term)).flatMap aBo=List.replicate (m*2) (.int .i64 0):=by
 induction m with
 | zero=>rfl
 | succ m ih=>rw [List.replicate_succ,List.flatMap_cons,ih,show (m+1)*2=m*2+1+1 by omega,List.replicate_succ,List.replicate_succ];rfl
theorem bI8 (m:Nat):(madeCells (Value.agg #[.int .i64 0,.int .i64 0]).cells (m*2)).toList=(List.replicate m (⟨0,0⟩:Term)).flatMap aBo:=by
 rw [bBu,List.eq_replicate_iff];refine ⟨by simp [madeCells],fun b hb=>?_⟩
 simp [madeCells,Value.cells] at hb
 obtain ⟨i,hi,rfl⟩:=hb
 rcases Nat.mod_two_eq_zero_or_one i with h | h <;> simp [h]
theorem bLk:(prog.info? 158).map (fun i=>(i.zero,i.size,i.bytes))=some (some (.slice none 0 0),1,24):=by kernel_rfl
theorem bIx:(prog.info? 159).map (fun i=>(i.zero,i.size,i.bytes))=some (some (.agg #[.int .i64 0,.int .i64 0]),2,16):=by kernel_rfl
theorem aTi (v:Value) (p:Prg) (v2:Value) (g:Graph) (w:World) (h:aK5 w v p) (h2:aB2 w v2 g) (hc:aC6 p=0) (hg:GOK g) (hG:aBt g=true) :
  Calls prog 77 #[v,v2] w (bGr (aAb p g) w):=by
 have HGV:=aA0 (fun w' (k:Bel w w')=>h2.keep k);obtain ⟨A,k,A2,k2,rfl,hV,_,_,_,_,_⟩:=h;obtain ⟨A3,k3,A4,k4,rfl,_,_,_,_,_,_⟩:=h2;have HV:=aA0 (fun w' (k:Bel w w')=>aNh.keep hV k);clear hV;obtain ⟨cn,c1,c6,_⟩:=aCj hc;have HCN:=aA0 cn;have HGO:=aA0 hg;have HGL:=aA0 hG;have hn:g.ids.length<=24:=by rw [hg.ids];exact hg.le
 obtain ⟨i0,hi0,hz0,hz1,hz2⟩:=info_parts bLk;obtain ⟨j0,hj0,hy0,hy1,hy2⟩:=info_parts bIx
 have HT:Hid (∀ u,u<g.ids.length->(aAb p g).getD u []=aJ3 p g u):=fun u hu=>by
  unfold aAb;simp [List.getD_eq_getElem?_getD,hu]
 clear cn hc hg hG;go_enter func77,ntmps77
 go_wp2_with (at_make;refine aB7 _ rfl 99 (.tmp 11) (.tmp 11) rfl (w.heap.size+1+1) 158 i0 (.slice none 0 0) 1 underlying99 hi0 hz0 hz1 .i64 .i64 g.ids.length rfl rfl (by rw [hz2];omega) (by unfold maxLen;omega) (by simp) ?_;intro gb w1 hown hb;have HW:=hb;rw [aB3 _ rfl] at hown;have HO:=aA0 hown;clear hown hb)
 obtain ⟨hgb1,hgb2⟩:=aAa HO.out;obtain ⟨p0,p1,p2,g0,g1,gsz⟩:=aDh HW;go_wp2;clear p0 p1 p2 g0 g1 gsz
 go_loopg [6,7,8,15] g.ids.length (fun m _x _y _u z wr=>∃ (v:Nat) (hs:List Value),v<=g.ids.length/\m=g.ids.length-v/\z = .int .i64 v/\Hid (wr.ownsRow (w.heap.size+1+1) 158 1 (.slice (some ⟨gb,0,none⟩) g.ids.length g.ids.length) g.ids.length hs)/\Hid (aPi wr w.heap.size p.vars.length gb v hs (aAb p g))/\Bel ((w.alloc (.cells #[.string p.name,.slice A p.vars.length k,.slice A2 p.rules.length k2] 31)).alloc (.cells #[.slice A3 g.ids.length k3,.slice A4 g.ports.length k4] 25)) wr)
 case atStart=>exact ⟨0,_,by omega,rfl,rfl,HO,fun u hu=>absurd hu (by omega),HW⟩
 case round =>
  clear HO HW hgb2;obtain ⟨wo,rfl⟩:∃ wo:World,wo=wr:=⟨_,rfl⟩;obtain ⟨v,hs,hv,rfl,rfl,HO,HD,HW⟩:=hrel
  by_cases hlt:v<g.ids.length
  .have hd0:decide (v<g.ids.length)=true:=by simpa using hlt
   obtain ⟨p0,p1,p2,g0,g1,gsz⟩:=aDh HW;have hwo:w.heap.size+1<wo.heap.size:=gsz;have hsl:hs.length=g.ids.length:=by have:=HO.out.1;omega
   have hfr0:=Fr.refl gb wo;have hvp:v<g.ports.length:=by rw [<- HGO.out.ids];exact hlt
   obtain ⟨row,hrow⟩:∃ row:List Term,row=(aJ3 p g v).map (fun x=>(⟨x.1,x.2⟩:Term)):=⟨_,rfl⟩;have hrl:row.length=p.vars.length:=by rw [hrow];simp [aJ3]
   have HROW:=aA0 hrow;have HRL:=aA0 hrl;clear hrow hrl
   go_wp2_with (at_make;refine aB7 _ rfl 158 (.tmp 22) (.tmp 22) rfl wo.heap.size 159 j0 (.agg #[.int .i64 0,.int .i64 0]) 2 underlying158 hj0 hy0 hy1 .i64 .i64 p.vars.length rfl rfl (by rw [hy2];omega) (by unfold maxLen;omega) (Nat.le_refl _) ?_;intro gr w1 hown hb;rw [bI8] at hown;have HR:=aA0 hown;have HB1:=aA0 hb;have HO1:=aA0 (hb.owns HO.out);have y1:=aDy HO1.out v (by omega);have y2:=HO1.out.frozenAt v;have ygb:=(aAa HO1.out).2;have hgr:=aAa hown;have HW1:=(HW.trans hb).setCell (p:=⟨gb,v,none⟩) (by simp;omega) (.slice (some ⟨gr,0,none⟩) p.vars.length p.vars.length);clear p0 p1 p2 g0 g1 gsz;obtain ⟨p0,p1,p2,g0,g1,gsz⟩:=aDh HW1;clear hown hb)
   have HO2:=aA0 (HO1.out.stored v (.slice (some ⟨gr,0,none⟩) p.vars.length p.vars.length)).1;have hne:gb≠gr:=by have:=(aAa HO.out).2;omega
   have HF1:=((Fr.of_bel (g:=gb) HB1.out).set v (.slice (some ⟨gr,0,none⟩) p.vars.length p.vars.length));have HR2:=aA0 (aH8 HR.out ((Fr.refl gb w1).set v (.slice (some ⟨gr,0,none⟩) p.vars.length p.vars.length)) (Ne.symm hne));have hgr0:=(aAa HR.out).1;clear HO1 HR HB1 y1 y2 ygb hgr p0 p1 p2 g0 g1 gsz hd0;generalize hw2:w1.setCell ⟨gb,v,none⟩ (.slice (some ⟨gr,0,none⟩) p.vars.length p.vars.length)=w2 at *;clear hw2
   go_loopg [7,8,28] p.vars.length (fun m _x _y z ws=>∃ j:Nat,j<=p.vars.length/\m=p.vars.length-j/\z = .int .i64 j/\Hid (ws.ownsRow wo.heap.size 159 2 (.slice (some ⟨gr,0,none⟩) p.vars.length p.vars.length) p.vars.length ((aNn row j).flatMap aBo))/\Hid (ws.ownsRow (w.heap.size+1+1) 158 1 (.slice (some ⟨gb,0,none⟩) g.ids.length g.ids.length) g.ids.length (hs.set v (.slice (some ⟨gr,0,none⟩) p.vars.length p.vars.length)))/\Fr gb wo ws/\Bel ((w.alloc (.cells #[.string p.name,.slice A p.vars.length k,.slice A2 p.rules.length k2] 31)).alloc (.cells #[.slice A3 g.ids.length k3,.slice A4 g.ports.length k4] 25)) ws)
   case atStart =>
    refine ⟨0,by omega,rfl,rfl,?_,HO2,HF1,HW1⟩
    show World.ownsRow _ _ _ _ _ _ _
    rw [bEq,HRL.out];exact HR2.out
   case round =>
    clear HO2 HF1 HW1 HR2 HW;obtain ⟨j,hj,rfl,rfl,HR,HO2,HF,HW⟩:=hrel
    by_cases hlt2:j<p.vars.length
    .have hd0:decide (j<p.vars.length)=true:=by simpa using hlt2
     obtain ⟨p0,p1,p2,g0,g1,gsz⟩:=aDh HW;obtain ⟨b,o,rfl,hb,c0,c1',c2,c3,c4,c5⟩:=(HV.out _ (aA2 HW)).at_ j hlt2;have HNX:=aA0 (List.all_eq_true.1 HCN.out _ (List.getElem_mem hlt2))
     have hrj:row[j]'(by rw [HRL.out];exact hlt2)=⟨(aAw p.vars[j] g v).1,(aAw p.vars[j] g v).2⟩:=by
      have:=HROW.out;subst this;simp [aJ3]
     have HRJ:=aA0 hrj;clear hrj
     have hhd:wr.cell? ⟨gb,v,none⟩=some (.slice (some ⟨gr,0,none⟩) p.vars.length p.vars.length):=by
      have:=aDy HO2.out v (by simp;omega)
      simpa using this
     have hgbl:=(aAa HO2.out).2;have hgrl:=(aAa HR.out).2;have HW1:=HW.alloc (.cells #[.string p.vars[j].name,.int .i64 p.vars[j].kind,.int .i64 p.vars[j].lo,.int .i64 p.vars[j].hi,.int .i64 p.vars[j].perNode,.int .i64 p.vars[j].perID] 132);have HG:=(Fr.refl gr (wr.alloc (.cells #[.string p.vars[j].name,.int .i64 p.vars[j].kind,.int .i64 p.vars[j].lo,.int .i64 p.vars[j].hi,.int .i64 p.vars[j].perNode,.int .i64 p.vars[j].perID] 132))).drew;have HR1:=aA0 (HR.out.alloc (.cells #[.string p.vars[j].name,.int .i64 p.vars[j].kind,.int .i64 p.vars[j].lo,.int .i64 p.vars[j].hi,.int .i64 p.vars[j].perNode,.int .i64 p.vars[j].perID] 132)).drew
     have hcell:=aA0 (fun w' (kk:Fr gr (wr.alloc (.cells #[.string p.vars[j].name,.int .i64 p.vars[j].kind,.int .i64 p.vars[j].lo,.int .i64 p.vars[j].hi,.int .i64 p.vars[j].perNode,.int .i64 p.vars[j].perID] 132)) w')=>by
      have hB:=(Bel.refl wr).alloc (.cells #[.string p.vars[j].name,.int .i64 p.vars[j].kind,.int .i64 p.vars[j].lo,.int .i64 p.vars[j].hi,.int .i64 p.vars[j].perNode,.int .i64 p.vars[j].perID] 132);have hbx:=Blk.new wr #[.string p.vars[j].name,.int .i64 p.vars[j].kind,.int .i64 p.vars[j].lo,.int .i64 p.vars[j].hi,.int .i64 p.vars[j].perNode,.int .i64 p.vars[j].perID] 132;have hsz:=kk.1;simp only [World.size_alloc] at hsz
      have hn1:wr.heap.size≠gr:=by omega
      have hn2:w.heap.size+1≠gr:=by omega
      exact show w'.cell? ⟨gb,v,none⟩=some (.slice (some ⟨gr,0,none⟩) p.vars.length p.vars.length)/\w'.cell? ⟨wr.heap.size,0,none⟩=some (.string p.vars[j].name)/\w'.cell? ⟨wr.heap.size,1,none⟩=some (.int .i64 p.vars[j].kind)/\w'.cell? ⟨wr.heap.size,2,none⟩=some (.int .i64 p.vars[j].lo)/\w'.cell? ⟨wr.heap.size,3,none⟩=some (.int .i64 p.vars[j].hi)/\w'.cell? ⟨wr.heap.size,4,none⟩=some (.int .i64 p.vars[j].perNode)/\w'.cell? ⟨wr.heap.size,5,none⟩=some (.int .i64 p.vars[j].perID)/\w'.cell? ⟨w.heap.size+1,0,none⟩=some (.slice A3 g.ids.length k3)/\w'.cell? ⟨w.heap.size+1,1,none⟩=some (.slice A4 g.ports.length k4)/\gb<w'.heap.size/\wr.heap.size<w'.heap.size/\w.heap.size+1<w'.heap.size/\gr<w'.heap.size from
       ⟨(kk.cell (by simp;omega) hne).trans ((hB.cell hgbl).trans hhd),(kk.cell (by simp) hn1).trans (hbx.cell 0 rfl),(kk.cell (by simp) hn1).trans (hbx.cell 1 rfl),(kk.cell (by simp) hn1).trans (hbx.cell 2 rfl),(kk.cell (by simp) hn1).trans (hbx.cell 3 rfl),(kk.cell (by simp) hn1).trans (hbx.cell 4 rfl),(kk.cell (by simp) hn1).trans (hbx.cell 5 rfl),(kk.cell (by simp;omega) hn2).trans ((hB.cell (by omega)).trans g0),(kk.cell (by simp;omega) hn2).trans ((hB.cell (by omega)).trans g1),by omega,by omega,by omega,by omega⟩)
     have hfg:=bHk row j (by rw [HRL.out];exact hlt2)
     obtain ⟨f1,f2⟩:=aHa _ j _ hfg;have HF1':=aA0 f1;have HF2':=aA0 f2;have hjm:j*2<p.vars.length*2:=by omega
     have hdv:decide (v<g.ids.length)=true:=by simpa using hlt
     clear hfg f1 f2
     go_wp2_with fail
     replace HW1:=HW1.drew
     go_region_held3 (fun w'=>w'.cell? ⟨gb,v,none⟩=some (.slice (some ⟨gr,0,none⟩) p.vars.length p.vars.length)/\w'.cell? ⟨wr.heap.size,0,none⟩=some (.string p.vars[j].name)/\w'.cell? ⟨wr.heap.size,1,none⟩=some (.int .i64 p.vars[j].kind)/\w'.cell? ⟨wr.heap.size,2,none⟩=some (.int .i64 p.vars[j].lo)/\w'.cell? ⟨wr.heap.size,3,none⟩=some (.int .i64 p.vars[j].hi)/\w'.cell? ⟨wr.heap.size,4,none⟩=some (.int .i64 p.vars[j].perNode)/\w'.cell? ⟨wr.heap.size,5,none⟩=some (.int .i64 p.vars[j].perID)/\w'.cell? ⟨w.heap.size+1,0,none⟩=some (.slice A3 g.ids.length k3)/\w'.cell? ⟨w.heap.size+1,1,none⟩=some (.slice A4 g.ports.length k4)/\gb<w'.heap.size/\wr.heap.size<w'.heap.size/\w.heap.size+1<w'.heap.size/\gr<w'.heap.size)
      (first | exact hcell.out _ HG | exact hcell.out _ (HG.set _ _) | exact hcell.out _ ((HG.set _ _).set _ _))
      (first | (go_simp;go_at_call 119;refine (aK8 p.vars[j] _ g v _ (HGV.out _ (aA2 HW1)) HNX.out HGO.out hvp HGL.out).mono ?_;rintro e w4 ⟨rfl,hbb⟩;replace HW1:=HW1.trans hbb;replace HG:=HG.trans (Fr.of_bel hbb);replace HR1:=aA0 (hbb.owns HR1.out);clear hbb;have y1:=(aAj HR1.out HF1'.out);have y2:=(aAj HR1.out HF2'.out);obtain ⟨q1,e1,_,_,y1,z1⟩:=y1;obtain ⟨q2,e2,_,_,y2,z2⟩:=y2;obtain rfl:gr=q1:=(by simpa using e1);obtain rfl:gr=q2:=(by simpa using e2);clear e1 e2))
     go_wp2_with fail
     go_roundg (p.vars.length-(j+1))
     case rel =>
      have hst:=((HR1.out.stored (j*2) (.int .i64 (aAw p.vars[j] g v).1)).1.stored (j*2+1) (.int .i64 (aAw p.vars[j] g v).2)).1;have e2:=aSj (aNn row j) j (row[j]'(by rw [HRL.out];exact hlt2)) (by rw [aXd,HRL.out];exact hlt2)
      rw [bEp _ _ (by rw [HRL.out];exact hlt2),HRJ.out] at e2
      rw [e2] at hst;refine ⟨j+1,by omega,rfl,by go_num,hst,?_,?_,?_⟩
      .exact aH8 (HO2.out.alloc _) ((HG.set _ _).set _ _) hne
      .exact (HF.alloc _).newer hgr0 ((HG.set _ _).set _ _)
      .exact (HW1.setCell (by simp;omega) _).setCell (by simp;omega) _
     case measure=>omega
    .have hd0:decide (j<p.vars.length)=false:=by simpa using hlt2
     obtain rfl:j=p.vars.length:=by omega
     go_wp2_with fail
     go_roundg (g.ids.length-(v+1))
     case rel =>
      refine ⟨v+1,_,by omega,rfl,by go_num,HO2,?_,HW⟩
      intro u hu
      rcases Nat.lt_or_ge u v with h | h
      .obtain ⟨gu,h1,h2,h3,h4⟩:=(HD.out.kept HF) u h
       exact ⟨gu,by rw [List.getElem?_set_ne (by omega)];exact h1,h2,h3,h4⟩
      .obtain rfl:u=v:=by omega
       refine ⟨gr,by rw [List.getElem?_set_self (by omega)],Ne.symm hne,(aAa HR.out).2,by have:=(aAa HR.out).1;omega,fun x i hx=>?_⟩
       have hR:=HR.out;rw [bEo _ _ (by rw [HRL.out];exact Nat.le_refl _)] at hR
       rw [HT.out _ hlt] at hx;obtain ⟨f1,f2⟩:=aHa row i ⟨x.1,x.2⟩ (by rw [HROW.out,List.getElem?_map,hx];rfl)
       obtain ⟨q1,e1,_,_,y1,_⟩:=aAj hR f1;obtain ⟨q2,e2,_,_,y2,_⟩:=aAj hR f2;obtain rfl:gr=q1:=by simpa using e1
       obtain rfl:gr=q2:=by simpa using e2
       exact ⟨y1,y2⟩
     case measure=>omega
  .have hd0:decide (v<g.ids.length)=false:=by simpa using hlt
   go_wp2_with fail
   go_ret;have hl:(aAb p g).length=g.ids.length:=by simp [aAb]
   refine ⟨_,rfl,fun W hW=>⟨some ⟨gb,0,none⟩,g.ids.length,by rw [hl];rfl,⟨rfl,fun u x hx=>?_⟩,by omega,by unfold maxLen;omega⟩,aA2 HW⟩
   have hu:u<g.ids.length:=by have:=(List.getElem?_eq_some_iff.1 hx).1;omega
   obtain ⟨gu,h1,h2,h3,h5,h4⟩:=HD.out u (by omega)
   obtain ⟨g',e1,_,hlt',hcell,_⟩:=aAj HO.out h1;obtain rfl:gb=g':=by simpa using e1
   have hrow:(aAb p g).getD u []=x:=by rw [List.getD_eq_getElem?_getD,hx];rfl
   have hxl:x.length=p.vars.length:=by rw [<- hrow,HT.out u hu];simp [aJ3]
   refine ⟨gb,0,rfl,Nat.lt_of_lt_of_le hlt' hW.1,some ⟨gu,0,none⟩,p.vars.length,?_,⟨rfl,fun i y hy=>⟨gu,0,rfl,Nat.lt_of_lt_of_le h3 hW.1,?_⟩⟩,by omega,by unfold maxLen;omega⟩
   .rw [hxl,Nat.zero_add,Nat.mul_one,hW.cell (by omega) hlt'];exact hcell
   .have:=h4 y i (by rw [hrow];exact hy)
    rw [Nat.zero_add];exact ⟨(hW.cell h5 h3).trans this.1,(hW.cell h5 h3).trans this.2⟩
theorem aJz (v:Value) (p:Prg) (v2:Value) (g:Graph) (w:World) (h:aK5 w v p) (h2:aB2 w v2 g) (hc:aC6 p=0) (hg:GOK g) (hG:aBt g=true) :
  Calls prog 77 #[v,v2] w (bKk (aAb p g) w):=(aTi v p v2 g w h h2 hc hg hG).mono fun _ _ ⟨v,h1,h2,h3⟩=>⟨v,h1,h2 _ (aC3.refl _ _),h3⟩
def aFz (row:List (Int × Int)) (s:List Int):Bool:=decide (s.length=row.length)&&(List.range s.length).all fun i=>decide ((row.getD i (0,0)).1<=s.getD i 0/\s.getD i 0<=(row.getD i (0,0)).2)
def aNj (t:List (List (Int × Int))) (c:aA3):Bool:=decide (c.length=t.length)&&(List.range c.length).all fun v=>aFz (t.getD v []) (c.getD v [])
def aC4 (p:Prg) (g:Graph) (c:aA3):Int:=if aCw p g≠0 then aCw p g else if aNj (aAb p g) c=false then 10 else 0
theorem aCz {row:List (Int × Int)} {s:List Int}:aFz row s=true↔s.length=row.length/\∀ i,(h1:i<s.length)->(h2:i<row.length)->row[i].1<=s[i]/\s[i]<=row[i].2:=by
 unfold aFz;simp only [Bool.and_eq_true,decide_eq_true_eq,List.all_eq_true,List.mem_range]
 constructor
 .rintro ⟨h1,h2⟩
  refine ⟨h1,fun i a b=>?_⟩
  have:=h2 i a
  rwa [aA8 a,aA8 b] at this
 .rintro ⟨h1,h2⟩
  refine ⟨h1,fun i a=>?_⟩
  have:=h2 i a (by omega)
  rwa [aA8 a,aA8 (by omega)]
theorem aDe {t:List (List (Int × Int))} {c:aA3}:aNj t c=true↔c.length=t.length/\∀ v,(h1:v<c.length)->(h2:v<t.length)->aFz t[v] c[v]=true:=by
 unfold aNj;simp only [Bool.and_eq_true,decide_eq_true_eq,List.all_eq_true,List.mem_range]
 constructor
 .rintro ⟨h1,h2⟩
  refine ⟨h1,fun i a b=>?_⟩
  have:=h2 i a
  rwa [aA8 a,aA8 b] at this
 .rintro ⟨h1,h2⟩
  refine ⟨h1,fun i a=>?_⟩
  have:=h2 i a (by omega)
  rwa [aA8 a,aA8 (by omega)]
theorem aP5 {row:List (Int × Int)} {s:List Int} (h:¬ (s.length=row.length/\∀ i,(h1:i<s.length)->(h2:i<row.length)->row[i].1<=s[i]/\s[i]<=row[i].2)):aFz row s=false:=by
 rw [Bool.eq_false_iff];intro hb;exact h (aCz.1 hb)
theorem aQf {t:List (List (Int × Int))} {c:aA3} (h:¬ (c.length=t.length/\∀ v,(h1:v<c.length)->(h2:v<t.length)->aFz t[v] c[v]=true)):aNj t c=false:=by
 rw [Bool.eq_false_iff];intro hb;exact h (aDe.1 hb)
theorem bIc {a b:Nat} (h:a≠b):(a != b)=true/\((a:Int) != (b:Int))=true:=⟨by simpa using h,by simp;omega⟩
theorem aJi {c:aA3} (h:aHq c=true):c.length<=30/\∀ r∈c,r.length<=10:=by
 unfold aHq at h;simp at h
 exact h
theorem aYy (A:Option Addr) (c:Nat) (row:List (Int × Int)) (B:Option Addr) (c2:Nat) (s:List Int) (w:World) (h1:aJ5 w A row.length row) (h2:aCr w B s.length s) (hl:s.length<=1000) :
  Calls prog 156 #[.slice A row.length c,.slice B s.length c2] w fun e w'=>e = .returned (.bool (aFz row s))/\w=w':=by
 have H1:=aA0 h1;clear h1;have H2:=aA0 h2;clear h2
 by_cases hn:s.length=row.length
 .have HN:=aA0 hn
  rw [<- hn] at H1 ⊢;clear hn;have hb:(s.length != s.length)=false:=by simp
  go_enter func156,ntmps156;go_wp2;clear hb
  go_loopg [5,6,14] s.length (fun m _x _y z wr=>∃ j:Nat,j<=s.length/\m=s.length-j/\z = .int .i64 j/\Hid (∀ i,i<j->(h1:i<s.length)->(h2:i<row.length)->row[i].1<=s[i]/\s[i]<=row[i].2)/\w=wr)
  case atStart=>exact ⟨0,by omega,rfl,rfl,fun i hi=>absurd hi (by omega),rfl⟩
  case round =>
   obtain ⟨j,hj,rfl,rfl,HJ,rfl⟩:=hrel
   by_cases hlt:j<s.length
   .have hd0:decide (j<s.length)=true:=by simpa using hlt
    have hlt2:j<row.length:=by rw [<- HN.out];exact hlt
    obtain ⟨b,o,rfl,hb,hc⟩:=H2.out.at_ j hlt;obtain ⟨b',o',rfl,hb',k1,k2⟩:=H1.out.at_ j hlt2
    by_cases hr:row[j].1<=s[j]/\s[j]<=row[j].2
    .have d1:decide (s[j]<row[j].1)=false:=by simp;omega
     have d2:decide (row[j].2<s[j])=false:=by simp;omega
     have HR:=aA0 hr;clear hr
     go_wp2_with fail
     go_roundg (s.length-(j+1))
     case rel =>
      refine ⟨j+1,by omega,rfl,by go_num,?_,rfl⟩
      intro i hi a1 a2
      rcases Nat.lt_or_ge i j with h | h
      .exact HJ.out i h a1 a2
      .obtain rfl:i=j:=by omega
       exact HR.out
     case measure=>omega
    .have HF:Hid (aFz row s=false):=aP5 fun h=>hr (h.2 j hlt hlt2)
     by_cases h1:s[j]<row[j].1
     .have d1:decide (s[j]<row[j].1)=true:=by simpa using h1
      clear hr
      go_wp2_with fail
      go_ret;exact ⟨aA1 HF.out.symm,rfl⟩
     .have d1:decide (s[j]<row[j].1)=false:=by simpa using h1
      have d2:decide (row[j].2<s[j])=true:=by simp;omega
      clear hr
      go_wp2_with fail
      go_ret;exact ⟨aA1 HF.out.symm,rfl⟩
   .have hd0:decide (j<s.length)=false:=by simpa using hlt
    go_wp2_with fail
    go_ret;refine ⟨aA1 ?_,rfl⟩
    symm
    rw [aCz];exact ⟨HN.out,fun i a b=>HJ.out i (by omega) a b⟩
 .obtain ⟨n1,n2⟩:=bIc hn
  have HF:Hid (aFz row s=false):=aP5 fun h=>hn h.1;clear hn;go_enter func156,ntmps156;go_wp2;go_ret;exact ⟨aA1 HF.out.symm,rfl⟩
theorem aMn (v:Value) (t:List (List (Int × Int))) (v2:Value) (c:aA3) (w:World) (h1:aHl w v t) (h2:aD2 w v2 c) (hl:aHq c=true) :
  Calls prog 131 #[v,v2] w fun e w'=>e = .returned (.bool (aNj t c))/\w=w':=by
 obtain ⟨A,k,rfl,hT,_,_⟩:=h1;obtain ⟨B,k2,rfl,hC,_,_⟩:=h2;have H1:=aA0 hT;clear hT;have H2:=aA0 hC;clear hC;obtain ⟨l1,l2⟩:=aJi hl;have HL2:=aA0 l2;clear l2 hl
 by_cases hn:c.length=t.length
 .have HN:=aA0 hn
  rw [<- hn] at H1 ⊢;clear hn;have hb:(c.length != c.length)=false:=by simp
  go_enter func131,ntmps131;go_wp2;clear hb
  go_loopg [5,6,14] c.length (fun m _x _y z wr=>∃ j:Nat,j<=c.length/\m=c.length-j/\z = .int .i64 j/\Hid (∀ i,i<j->(h1:i<c.length)->(h2:i<t.length)->aFz t[i] c[i]=true)/\w=wr)
  case atStart=>exact ⟨0,by omega,rfl,rfl,fun i hi=>absurd hi (by omega),rfl⟩
  case round =>
   obtain ⟨j,hj,rfl,rfl,HJ,rfl⟩:=hrel
   by_cases hlt:j<c.length
   .have hd0:decide (j<c.length)=true:=by simpa using hlt
    have hlt2:j<t.length:=by rw [<- HN.out];exact hlt
    obtain ⟨b,o,R,rc,rfl,hb,hc,hI,_,_⟩:=H2.out.at_ j hlt;obtain ⟨b',o',R',rc',rfl,hb',hc',hP,_,_⟩:=H1.out.at_ j hlt2;have HI:=aA0 hI;have HP:=aA0 hP;have hle:=HL2.out _ (List.getElem_mem hlt);clear hI hP;cases hs:aFz t[j] c[j] with
    | true =>
     have HS:=aA0 hs;clear hs
     go_wp2_with (go_at_call 156;refine (aYy _ _ t[j] _ _ c[j] _ HP.out HI.out (by omega)).mono ?_;rintro e w' ⟨rfl,rfl⟩;rw [HS.out])
     go_roundg (c.length-(j+1))
     case rel =>
      refine ⟨j+1,by omega,rfl,by go_num,?_,rfl⟩
      intro i hi a1 a2
      rcases Nat.lt_or_ge i j with h | h
      .exact HJ.out i h a1 a2
      .obtain rfl:i=j:=by omega
       exact HS.out
     case measure=>omega
    | false =>
     have HF:Hid (aNj t c=false):=aQf fun h=>by have:=h.2 j hlt hlt2;rw [hs] at this;cases this
     have HS:=aA0 hs;clear hs
     go_wp2_with (go_at_call 156;refine (aYy _ _ t[j] _ _ c[j] _ HP.out HI.out (by omega)).mono ?_;rintro e w' ⟨rfl,rfl⟩;rw [HS.out])
     go_ret;exact ⟨aA1 HF.out.symm,rfl⟩
   .have hd0:decide (j<c.length)=false:=by simpa using hlt
    go_wp2_with fail
    go_ret;refine ⟨aA1 ?_,rfl⟩
    symm
    rw [aDe];exact ⟨HN.out,fun i a b=>HJ.out i (by omega) a b⟩
 .obtain ⟨n1,n2⟩:=bIc hn
  have HF:Hid (aNj t c=false):=aQf fun h=>hn h.1;clear hn;go_enter func131,ntmps131;go_wp2;go_ret;exact ⟨aA1 HF.out.symm,rfl⟩
theorem aAt {p:Prg} {g:Graph} (h:aCw p g=0):aC6 p=0/\GOK g/\p.vars.all (aNp g)=true:=by
 unfold aCw at h;split at h
 .cases h
 .rename_i h1
  split at h
  .cases h
  .rename_i h2
   split at h
   .cases h
   .rename_i h3
    exact ⟨by simpa using h1,(aE6 g).1 (by simpa using h2),by simpa using h3⟩
theorem aH3 (v:Value) (p:Prg) (v2:Value) (g:Graph) (v3:Value) (c:aA3) (w:World) (h:aK5 w v p) (h2:aB2 w v2 g) (h3:aD2 w v3 c) (hL:aCc p=true) (hG:aBt g=true) (hC:aHq c=true) :
  Calls prog 92 #[v,v2,v3] w fun e w'=>e = .returned (.int .i64 (aC4 p g c))/\Bel w w':=by
 have HPV:=aA0 (fun w' (k:Bel w w')=>h.keep k);have HGV:=aA0 (fun w' (k:Bel w w')=>h2.keep k);have HCV:=aA0 (fun w' (k:Bel w w')=>h3.keep k);obtain ⟨A,k,A2,k2,rfl,_,_,_,_,_,_⟩:=h;obtain ⟨A3,k3,A4,k4,rfl,_,_,_,_,_,_⟩:=h2;obtain ⟨A5,k5,rfl,_,_,_⟩:=h3;have HL:=aA0 hL;have HGL:=aA0 hG;have HCL:=aA0 hC;clear hL hG hC;have HW:=Bel.refl ((w.alloc (.cells #[.string p.name,.slice A p.vars.length k,.slice A2 p.rules.length k2] 31)).alloc (.cells #[.slice A3 g.ids.length k3,.slice A4 g.ports.length k4] 25))
 by_cases hf:aCw p g=0
 .obtain ⟨f1,f2,_⟩:=aAt hf
  have HF1:=aA0 f1;have HF2:=aA0 f2;have HFZ:=aA0 hf;have HM:Hid (aC4 p g c=if aNj (aAb p g) c=false then 10 else 0):=by show aC4 p g c=_;unfold aC4;rw [if_neg (by simpa using hf)]
  clear hf f1 f2;cases hb:aNj (aAb p g) c with
  | true =>
   rw [hb,if_neg (by decide)] at HM
   have HBB:=aA0 hb;clear hb;go_enter func92,ntmps92
   go_wp2_with (first
    | (go_at_call 75;refine (aKa _ p _ g _ (HPV.out _ (aA2 HW)) (HGV.out _ (aA2 HW)) HL.out HGL.out).mono ?_;rintro e w' ⟨rfl,hb⟩;rw [HFZ.out];replace HW:=HW.trans hb;clear hb;obtain ⟨p0,p1,p2,g0,g1,gsz⟩:=aDh HW)
    | (go_at_call 77;refine (aJz _ p _ g _ (HPV.out _ (aA2 HW)) (HGV.out _ (aA2 HW)) HF1.out HF2.out HGL.out).mono ?_;rintro e w' ⟨tv,rfl,htv,hb⟩;replace HW:=HW.trans hb;have HTV:=aA0 htv;clear hb htv)
    | (go_at_call 131;refine (aMn _ (aAb p g) _ c _ HTV.out (HCV.out _ (aA2 HW)) HCL.out).mono ?_;rintro e w' ⟨rfl,rfl⟩;rw [HBB.out]))
   go_ret;exact ⟨aA9 HM.out.symm,aA2 HW⟩
  | false =>
   rw [hb,if_pos rfl] at HM;have HBB:=aA0 hb;clear hb;go_enter func92,ntmps92
   go_wp2_with (first
    | (go_at_call 75;refine (aKa _ p _ g _ (HPV.out _ (aA2 HW)) (HGV.out _ (aA2 HW)) HL.out HGL.out).mono ?_;rintro e w' ⟨rfl,hb⟩;rw [HFZ.out];replace HW:=HW.trans hb;clear hb;obtain ⟨p0,p1,p2,g0,g1,gsz⟩:=aDh HW)
    | (go_at_call 77;refine (aJz _ p _ g _ (HPV.out _ (aA2 HW)) (HGV.out _ (aA2 HW)) HF1.out HF2.out HGL.out).mono ?_;rintro e w' ⟨tv,rfl,htv,hb⟩;replace HW:=HW.trans hb;have HTV:=aA0 htv;clear hb htv)
    | (go_at_call 131;refine (aMn _ (aAb p g) _ c _ HTV.out (HCV.out _ (aA2 HW)) HCL.out).mono ?_;rintro e w' ⟨rfl,rfl⟩;rw [HBB.out]))
   go_ret;exact ⟨aA9 HM.out.symm,aA2 HW⟩
 .have HM:Hid (aC4 p g c=aCw p g):=by show aC4 p g c=_;unfold aC4;rw [if_pos hf]
  have hfb:(aCw p g != 0)=true:=by simpa using hf
  go_enter func92,ntmps92
  go_wp2_with (go_at_call 75;refine (aKa _ p _ g _ (HPV.out _ (aA2 HW)) (HGV.out _ (aA2 HW)) HL.out HGL.out).mono ?_;rintro e w' ⟨rfl,hb⟩;replace HW:=HW.trans hb;clear hb)
  go_ret;exact ⟨aA9 HM.out.symm,aA2 HW⟩
theorem aAr (p:Prg) (g:Graph):(aAb p g).length=g.ids.length:=by simp [aAb]
theorem aJy {p:Prg} {g:Graph} {v:Nat} (h:v<(aAb p g).length):(aAb p g)[v]=aJ3 p g v:=by simp [aAb]
theorem aE1 (p:Prg) (g:Graph) (v:Nat):(aJ3 p g v).length=p.vars.length:=by simp [aJ3]
theorem bBh {p:Prg} {g:Graph} {v i:Nat} (h:i<(aJ3 p g v).length):(aJ3 p g v)[i]=aAw (p.vars[i]'(by rw [aE1] at h;exact h)) g v:=by simp [aJ3]
def aLl (g:Graph) (v:Nat) (port:Int):Link:=(g.ports.getD v []).getD port.toNat default
def aIu (g:Graph) (op:Int) (v:Nat) (port:Int):Int :=
 if op=6 then g.ids.length else if op=7 then aFc g.ids else if op=8 then g.ids.getD v 0 else if op=9 then (g.ports.getD v []).length
 else if op=10 then aB6 (decide (v=0)) else if op=11 then port
 else if op=13 then g.ids.getD (aLl g v port).to.toNat 0
 else if op=14 then (g.ports.getD (aLl g v port).to.toNat []).length
 else if op=15 then aB6 (decide ((aLl g v port).to=0))
 else if op=16 then (aLl g v port).weight
 else aEv (g.ports.getD (aLl g v port).to.toNat []) v
def aPb (g:Graph) (c:aA3) (v:Nat) (port:Int) (t:Term):Int :=
 if t.op=1 then t.arg else if t.op=2 then 1 else if t.op=3 then 0 else if t.op=4 then -1
 else if t.op=5 then (c.getD v []).getD t.arg.toNat 0
 else if t.op=12 then (c.getD (aLl g v port).to.toNat []).getD t.arg.toNat 0
 else aIu g t.op v port
def aBd (g:Graph) (c:aA3) (v:Nat):Int->Ex->Int
 | port,.leaf t=>aPb g c v port t
 | port,.un t a=>if aAo t.op then aIv t.op ((List.range (g.ports.getD v []).length).map fun (k:Nat)=>aBd g c v (k:Int) a) else aIt t.op (aBd g c v port a)
 | port,.bin t a b=>aBm t.op (aBd g c v port a) (aBd g c v port b)
 | port,.tri _ a b d=>if aBd g c v port a≠0 then aBd g c v port b else aBd g c v port d
def aC2:Bool->Ex->Prop
 | b,.leaf t=>aG6 t.op=true->b=true
 | b,.un t a=>aC2 (b||aAo t.op) a
 | b,.bin _ x y=>aC2 b x/\aC2 b y
 | b,.tri _ x y z=>aC2 b x/\aC2 b y/\aC2 b z
theorem bN0 {b:Bool} {k:Int} (h:ifK b k≠0):b=true/\k≠0:=by
 unfold ifK at h;cases b
 .exact absurd rfl h
 .exact ⟨rfl,h⟩
theorem bG4 {op a:Int} (h:aOh op a≠0):a≠0:=by
 unfold aOh at h;rintro rfl
 repeat' split at h
 all_goals exact h rfl
theorem bEd {op a b:Int} (h:aNm op a b≠0):a≠0/\b≠0:=by
 unfold aNm at h
 repeat' split at h
 all_goals
  have:=(bN0 h).1;simp at this
  omega
theorem aSw {kinds:List Int} {x:Ex}:∀ {b:Bool},aCx kinds b x≠0->aC2 b x:=by
 induction x with
 | leaf t =>
  intro b h hn
  simp only [aCx] at h
  cases b
  .rw [hn] at h;exact absurd rfl h
  .rfl
 | un t a ih=>intro b h;exact ih (bG4 h)
 | bin t x y ihx ihy=>intro b h;obtain ⟨h1,h2⟩:=bEd h;exact ⟨ihx h1,ihy h2⟩
 | tri t x y z ihx ihy ihz =>
  intro b h
  obtain ⟨h1,h2⟩:=bN0 h;simp at h1
  refine ⟨ihx (by omega),ihy h2,ihz ?_⟩
  rw [<- h1.2];exact h2
theorem aUe (l:List Int):∀ i:Int,aJf l i = -1∨(i<=aJf l i/\aJf l i<i+l.length):=by
 induction l with
 | nil=>intro i;left;rfl
 | cons a l ih =>
  intro i
  simp only [aJf]
  split
  .right;simp;omega
  .rcases ih (i+1) with h | h
   .left;exact h
   .right;simp;omega
theorem aUg (l:List Int):∀ z:Int,Num z->(∀ x∈l,Num x)->Num (l.foldl min z):=by
 induction l with
 | nil=>intro z hz _;exact hz
 | cons a l ih =>
  intro z hz h
  refine ih _ ?_ (fun x hx=>h x (by simp [hx]))
  have:=h a (by simp)
  unfold Num at *;omega
theorem aZ8 (l:List Int):∀ a b:Int,Num a->Num b->(∀ x∈l,Num x)->Num (aOo l a b).1/\Num (aOo l a b).2:=by
 induction l with
 | nil=>intro a b ha hb _;exact ⟨ha,hb⟩
 | cons x l ih =>
  intro a b ha hb h
  have hx:=h x (by simp)
  have hr:∀ y∈l,Num y:=fun y hy=>h y (by simp [hy])
  simp only [aOo]
  split
  .exact ih _ _ hx ha hr
  .refine ih _ _ ha ?_ hr
   unfold Num at *;omega
theorem bHn {op:Int} {l:List Int} (hn:∀ x∈l,Num x) (hl:l.length<=1000):Num (aIv op l):=by
 unfold aIv;split
 .exact aFm _
 split
 .exact aFm _
 split
 .have:=bHf l;unfold Num;omega
 split
 .have:=aUe l 0;unfold Num;omega
 split
 .exact aUg l _ (by unfold Num;omega) hn
 split
 .exact (aZ8 l _ _ (by unfold Num;omega) (by unfold Num;omega) hn).1
 split
 .exact bDd _
 split
 .have h1:=bLs l (aS7 l 0) 0 (Nat.le_refl _)
  have h2:=bCa l 0;unfold bOv Num;omega
 split
 .exact (aZ8 l _ _ (by unfold Num;omega) (by unfold Num;omega) hn).2
 .cases l with
  | nil=>unfold Num;simp
  | cons a l=>exact hn a (by simp)
theorem bGe {op a:Int} (h:Num a):Num (aIt op a):=by
 unfold aIt;split
 .unfold Num at *;omega
 .exact aFm _
theorem aZu {op a b:Int}:Num (aBm op a b):=bDd _
structure SOK (p:Prg) (g:Graph) (c:aA3) (v:Nat):Prop where
 fits:aCw p g=0
 conf:aNj (aAb p g) c=true
 node:v<g.ports.length
theorem SOK.gok {p:Prg} {g:Graph} {c:aA3} {v:Nat} (h:SOK p g c v):GOK g:=(aAt h.fits).2.1
theorem SOK.len {p:Prg} {g:Graph} {c:aA3} {v:Nat} (h:SOK p g c v):c.length=g.ports.length:=by
 rw [(aDe.1 h.conf).1,aAr,h.gok.ids]
theorem SOK.row {p:Prg} {g:Graph} {c:aA3} {v:Nat} (h:SOK p g c v) {u:Nat} (hu:u<g.ports.length):(c[u]'(by rw [h.len];exact hu)).length=p.vars.length:=by
 have:=(aDe.1 h.conf).2 u (by rw [h.len];exact hu) (by rw [aAr,h.gok.ids];exact hu)
 rw [aJy] at this;have:=(aCz.1 this).1
 rwa [aE1] at this
theorem SOK.val {p:Prg} {g:Graph} {c:aA3} {v:Nat} (h:SOK p g c v) {u i:Nat} (hu:u<g.ports.length) (hi:i<p.vars.length) :
  (aAw p.vars[i] g u).1<=(c[u]'(by rw [h.len];exact hu))[i]'(by rw [h.row hu];exact hi)/\(c[u]'(by rw [h.len];exact hu))[i]'(by rw [h.row hu];exact hi)<=(aAw p.vars[i] g u).2:=by
 have h1:=(aDe.1 h.conf).2 u (by rw [h.len];exact hu) (by rw [aAr,h.gok.ids];exact hu)
 rw [aJy] at h1;have:=(aCz.1 h1).2 i (by rw [h.row hu];exact hi) (by rw [aE1];exact hi)
 rwa [bBh] at this
theorem SOK.small {p:Prg} {g:Graph} {c:aA3} {v:Nat} (h:SOK p g c v) {u i:Nat} (hu:u<g.ports.length) (hi:i<p.vars.length):Num ((c.getD u []).getD i 0):=by
 have h1:=h.val hu hi;have h2:=aJc (List.all_eq_true.1 (aCj (aAt h.fits).1).1 _ (List.getElem_mem hi)) h.gok hu;have e1:c.getD u []=c[u]'(by rw [h.len];exact hu):=aA8 (by rw [h.len];exact hu)
 rw [e1,aA8 (by rw [h.row hu];exact hi)]
 unfold Num;omega
theorem aR2 {g:Graph} (hg:GOK g) {v k:Nat} (hv:v<g.ports.length) (hk:k<g.ports[v].length) :
  aLl g v (k:Int)=g.ports[v][k]/\∃ t:Nat,g.ports[v][k].to=(t:Int)/\t<g.ports.length/\1<=g.ports[v][k].weight/\g.ports[v][k].weight<=15/\g.ports[v].length<g.ports.length:=by
 have h1:=hg.links v hv;obtain ⟨a1,a2,a3,a4,a5⟩:=aBg.1 ((aBa.1 h1).1 _ (List.getElem_mem hk));obtain ⟨t,ht⟩:=Int.eq_ofNat_of_zero_le a1;refine ⟨?_,t,ht,by omega,a4,a5,aDv hv h1⟩
 unfold aLl;rw [aA8 hv,Int.toNat_natCast,aA8 hk]
def aN3 (g:Graph) (v:Nat) (b:Bool) (port:Int):Prop:=b=true->∃ k:Nat,port=(k:Int)/\k<(g.ports.getD v []).length
theorem bAd {l:List Int} {k:Nat} {P:Int->Prop} (h0:P 0) (h:∀ x∈l,P x):P (l.getD k 0):=by
 rw [List.getD_eq_getElem?_getD];cases hx:l[k]? with
 | none=>exact h0
 | some x=>exact h x (List.mem_of_getElem? hx)
theorem bLf {g:Graph} (hg:GOK g) {op:Int} {v:Nat} {port:Int} {b:Bool} (hv:v<g.ports.length) (hop:6<=op/\op<=17/\op≠12) (hb:aG6 op=true->b=true) (hp:aN3 g v b port):Num (aIu g op v port):=by
 have hle:=hg.le;have hids:=hg.ids;obtain ⟨g1,g2⟩:=aNr hg;have hid:∀ k,Num (g.ids.getD k 0):=fun k=>bAd (P:=Num) (by unfold Num;omega) (fun x hx=>by have:=hg.idr x hx;unfold Num;omega)
 have hlen:∀ u,(g.ports.getD u []).length<=24:=fun u=>by
  rcases Nat.lt_or_ge u g.ports.length with h | h
  .rw [aA8 h];have:=aDv h (hg.links u h);omega
  .rw [List.getD_eq_getElem?_getD,List.getElem?_eq_none h];simp
 by_cases hn:11<=op
 .have hnear:aG6 op=true:=by unfold aG6;simp;omega
  obtain ⟨k,rfl,hk⟩:=hp (hb hnear);rw [aA8 hv] at hk;obtain ⟨e,t,ht,htl,w1,w2,hl⟩:=aR2 hg hv hk;have hr:=aRm (g.ports.getD t []) (v:Int);have:=hlen t;have hlv:=hlen v;unfold aIu;rw [e,ht,Int.toNat_natCast];generalize g.ports[v][k].weight=wt at *;generalize (g.ports.getD t []).length=len at *;generalize aEv (g.ports.getD t []) (v:Int)=pf at *;generalize (g.ports.getD v []).length=lv at *;generalize aFc g.ids=gm at *;have n0:Num (g.ids.length:Int):=by unfold Num;omega
  have n1:Num gm:=by unfold Num;omega
  have n2:Num (lv:Int):=by unfold Num;omega
  have n3:Num (k:Int):=by unfold Num;omega
  have n4:Num (len:Int):=by unfold Num;omega
  have n5:Num wt:=by unfold Num;omega
  have n6:Num pf:=by unfold Num;omega
  by_cases c1:op=6
  .rw [if_pos c1];exact n0
  rw [if_neg c1]
  by_cases c2:op=7
  .rw [if_pos c2];exact n1
  rw [if_neg c2]
  by_cases c3:op=8
  .rw [if_pos c3];exact hid _
  rw [if_neg c3]
  by_cases c4:op=9
  .rw [if_pos c4];exact n2
  rw [if_neg c4]
  by_cases c5:op=10
  .rw [if_pos c5];exact aFm _
  rw [if_neg c5]
  by_cases c6:op=11
  .rw [if_pos c6];exact n3
  rw [if_neg c6]
  by_cases c7:op=13
  .rw [if_pos c7];exact hid _
  rw [if_neg c7]
  by_cases c8:op=14
  .rw [if_pos c8];exact n4
  rw [if_neg c8]
  by_cases c9:op=15
  .rw [if_pos c9];exact aFm _
  rw [if_neg c9]
  by_cases c10:op=16
  .rw [if_pos c10];exact n5
  rw [if_neg c10];exact n6
 .unfold aIu
  have hlv:=hlen v
  by_cases c1:op=6
  .rw [if_pos c1];unfold Num;omega
  rw [if_neg c1]
  by_cases c2:op=7
  .rw [if_pos c2];unfold Num;omega
  rw [if_neg c2]
  by_cases c3:op=8
  .rw [if_pos c3];exact hid _
  rw [if_neg c3]
  by_cases c4:op=9
  .rw [if_pos c4];unfold Num;omega
  rw [if_neg c4]
  by_cases c5:op=10
  .rw [if_pos c5];exact aFm _
  exfalso;omega
theorem bLq {p:Prg} {g:Graph} {c:aA3} {v:Nat} (h:SOK p g c v) {t:Term} {port:Int} {b:Bool} (har:aB1 t.op=0) (ha:aM3 t p.vars.length=true) (hb:aG6 t.op=true->b=true) (hp:aN3 g v b port):Num (aPb g c v port t):=by
 have hr:=(aC5 t.op).1 har;obtain ⟨op,arg⟩:=t;dsimp only at *;unfold aPb;dsimp only
 by_cases h1:op=1
 .rw [if_pos h1]
  subst h1;have hd:decide (0<=arg/\arg<=1073741824)=true:=ha;have:=of_decide_eq_true hd;unfold Num;omega
 rw [if_neg h1];split
 .unfold Num;omega
 split
 .unfold Num;omega
 split
 .unfold Num;omega
 split
 .rename_i h5
  obtain ⟨a1,a2⟩:=aQb ha (.inl h5);obtain ⟨a,rfl⟩:=Int.eq_ofNat_of_zero_le a1;rw [Int.toNat_natCast];exact h.small h.node (by omega)
 split
 .rename_i h12
  obtain ⟨a1,a2⟩:=aQb ha (.inr h12);obtain ⟨a,rfl⟩:=Int.eq_ofNat_of_zero_le a1;obtain ⟨k,rfl,hk⟩:=hp (hb (by unfold aG6;simp;omega))
  rw [aA8 h.node] at hk;obtain ⟨e,t,ht,htl,_⟩:=aR2 h.gok h.node hk;rw [e,ht,Int.toNat_natCast,Int.toNat_natCast];exact h.small htl (by omega)
 .rename_i h2 h3 h4 h5 h12
  exact bLf h.gok h.node (by omega) hb hp
theorem bJ5 {g:Graph} (hg:GOK g) {v:Nat} (hv:v<g.ports.length):(g.ports.getD v []).length<24:=by
 rw [aA8 hv];have:=aDv hv (hg.links v hv);have:=hg.le;omega
theorem aPn {p:Prg} {g:Graph} {c:aA3} {v:Nat} (h:SOK p g c v) {x:Ex} (hx:x.ok) (ha:∀ t∈x.terms,aM3 t p.vars.length=true):∀ {b:Bool} {port:Int},aC2 b x->aN3 g v b port->Num (aBd g c v port x):=by
 induction x with
 | leaf t=>intro b port hb hp;exact bLq h hx (ha t (by simp [Ex.terms])) hb hp
 | un t a ih =>
  intro b port hb hp
  have ha':∀ s∈a.terms,aM3 s p.vars.length=true:=fun s hs=>ha s (by simp [Ex.terms,hs])
  simp only [aBd]
  split
  .rename_i hag
   refine bHn (fun y hy=>?_) (by rw [List.length_map,List.length_range];have:=bJ5 h.gok h.node;omega)
   obtain ⟨k,hk,rfl⟩:=List.mem_map.1 hy;rw [List.mem_range] at hk;refine ih hx.2 ha' (b:=true) ?_ (fun _=>⟨k,rfl,hk⟩)
   have hb':aC2 (b||aAo t.op) a:=hb
   rwa [hag,Bool.or_true] at hb'
  .rename_i hag
   refine bGe (ih hx.2 ha' (b:=b) ?_ hp)
   have hb':aC2 (b||aAo t.op) a:=hb
   rwa [show aAo t.op=false by simpa using hag,Bool.or_false] at hb'
 | bin t x y ihx ihy=>intro b port hb hp;exact aZu
 | tri t x y z ihx ihy ihz =>
  intro b port hb hp
  simp only [aBd]
  obtain ⟨_,_,o2,o3⟩:=hx;split
  .exact ihy o2 (fun s hs=>ha s (by simp [Ex.terms,hs])) hb.2.1 hp
  .exact ihz o3 (fun s hs=>ha s (by simp [Ex.terms,hs])) hb.2.2 hp
theorem bNs {op:Int} (h:6<=op/\op<=17/\op≠12):(op=6∨op=7∨op=8∨op=9∨op=10∨op=11)∨(op=13∨op=14∨op=15∨op=16∨op=17):=by omega
theorem bO3 {op:Int} (h:1<=op/\op<=17):(op=1∨op=2∨op=3∨op=4)∨op=5∨op=12∨(6<=op/\op<=17/\op≠12):=by omega
theorem aN9 {es:List Term} {k:Nat} {x:Ex} (h:x.At es k):∀ t∈x.terms,t∈es:=by
 obtain ⟨_,r,hr⟩:=h;intro t ht
 have:t∈es.drop k:=by rw [hr];exact List.mem_append_left _ ht
 exact List.mem_of_mem_drop this
theorem aBy {p:Prg} {g:Graph} {c:aA3} (h:aC4 p g c=0):aCw p g=0/\aNj (aAb p g) c=true:=by
 unfold aC4 at h;split at h
 .rename_i h1;exact absurd h h1
 .rename_i h1
  split at h
  .cases h
  .rename_i h2;exact ⟨by simpa using h1,by simpa using h2⟩
theorem aUr {p:Prg} {g:Graph} {c:aA3} (h:aC4 p g c=0) {v:Nat} (hv:v<c.length):SOK p g c v:=by
 obtain ⟨h1,h2⟩:=aBy h;refine ⟨h1,h2,?_⟩
 have:=(aDe.1 h2).1;rw [aAr,(aAt h1).2.1.ids] at this;omega
theorem aYs {g:Graph} {v:Nat} {port:Int}:aN3 g v false port:=fun h=>by cases h
theorem bEz {p:Prg} (hc:aC6 p=0) {r:Rule} (hr:r∈p.rules):(aB9 r.guard).ok/\(aB9 r.guard).terms=r.guard/\(∀ t∈r.guard,aM3 t p.vars.length=true)/\aC2 false (aB9 r.guard):=by
 obtain ⟨_,_,_,_,_,h1,h2⟩:=aCj hc;obtain ⟨t1,t2,_,t4,_,_⟩:=aK1 (h1 r hr).guard;refine ⟨t1,t2,t4,aSw (kinds:=aDp p) ?_⟩
 have:=h2 r hr;unfold aFg at this;simp at this
 rw [this.1];omega
end Go.Proofs.YtmoebklkkjbigaaGreatDoor

