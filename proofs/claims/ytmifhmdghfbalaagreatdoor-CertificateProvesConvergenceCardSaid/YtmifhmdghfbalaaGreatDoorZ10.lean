/- Merged. -/
import Derived.Test.YtmifhmdghfbalaaGreatDoorZ08
import Derived.ProofKit
import Derived.OpenShut
import Derived.Deep.Slices
import Derived.Deep.Fields
import Derived.ChangeSame
import Derived.Carry
set_option linter.unusedSimpArgs false
set_option linter.unnecessarySimpa false
set_option linter.unusedVariables false
set_option maxRecDepth 100000
set_option maxHeartbeats 4000000
open Go.Proofs.Tryz

namespace Go.Proofs.YtmifhmdghfbalaaGreatDoor
open Go.RowKit
theorem bAc {n v:Nat} {ls:List Link} {i:Nat} (h:i<ls.length) (hb:aNd n v ls[i]=false):aDm n v ls=false:=by
 unfold aDm;rw [aAv h hb];rfl
theorem bAd {n v:Nat} {ls:List Link} {j i:Nat} (hj:j<i) (h:i<ls.length) (he:ls[j].to=ls[i].to):aDm n v ls=false:=by
 unfold aDm
 have:decide ((ls.map Link.to).Nodup)=false:=by
  simp only [decide_eq_false_iff_not]
  exact aGq hj (by simpa using h) (by simpa using he)
 rw [this];simp
theorem aM7 (A:Option Addr) (c:Nat) (ls:List Link) (v n:Nat) (w:World) (h:aIt w A ls.length ls) (hl:ls.length<=1000000) (hn:n<=1000000) :
  Calls prog 175 #[.slice A ls.length c,.int .i64 v,.int .i64 n] w fun e w'=>e = .returned (.bool (aDm n v ls))/\Bel w w':=by
 have H:=aA1 (fun w' (k:Bel w w')=>aIt.keep h k);clear h;go_enter func175,ntmps175;go_wp2
 go_loopg [7,8] ls.length (fun m x _y wr=>∃ j:Nat,j<=ls.length/\m=ls.length-j/\Hid ((ls.take j).all (aNd n v)=true/\((ls.map Link.to).take j).Nodup)/\x = .int .i64 j/\Bel w wr)
 case atStart=>exact ⟨0,by omega,rfl,⟨rfl,by simp⟩,rfl,Bel.refl _⟩
 case round =>
  obtain ⟨i,hi,rfl,HK,rfl,HB⟩:=hrel
  by_cases hlt:i<ls.length
  .obtain ⟨b,o,rfl,hb,hl1,hl2⟩:=(H.out _ HB).at_ i hlt
   cases hok:aNd n v ls[i] with
   | false =>
    have HF:=aA1 (bAc hlt hok);have HO:=aA1 hok;clear hok
    go_wp2_with (go_at_call 110;refine (aBs _ _ _ _).mono ?_;rintro e w' ⟨rfl,rfl⟩)
    all_goals first
     | (go_ret;exact ⟨aA2 HF.out.symm,HB⟩)
     | (exfalso
        have a1:inB ls[i].to 0 (↑n-1)=true:=by assumption
        obtain ⟨a2,a3'⟩:(ls[i].to==(v:Int))=false/\(!inB ls[i].weight 1 15)=false:=by assumption
        have a3:inB ls[i].weight 1 15=true:=by simpa using a3'
        rw [aIn] at a1 a3;have a4:ls[i].to≠(v:Int):=by simpa using a2
        have:=HO.out;rw [aCb.2 ⟨by omega,by omega,a4,by omega,by omega⟩] at this
        cases this)
   | true =>
    obtain ⟨q1,q2,q3,q4,q5⟩:=aCb.1 hok;have a1:inB ls[i].to 0 (↑n-1)=true:=aEi (by omega) (by omega)
    have a2:(ls[i].to==(v:Int))=false:=by simpa using q3
    have a3:inB ls[i].weight 1 15=true:=aEi (by omega) (by omega)
    have HO:=aA1 hok;clear hok q3
    go_wp2_with (go_at_call 110;refine (aBs _ _ _ _).mono ?_;rintro e w' ⟨rfl,rfl⟩)
    clear a1 a2 a3
    go_loopg [8] i (fun m x ws=>∃ j:Nat,j<=i/\m=i-j/\Hid (∀ q,(hq:q<j)->(hq':q<ls.length)->ls[q].to≠ls[i].to)/\x = .int .i64 j/\Bel wr ws)
    case atStart=>exact ⟨0,by omega,rfl,fun q hq=>absurd hq (by omega),rfl,Bel.refl _⟩
    case round =>
     obtain ⟨j,hj,rfl,HJ,rfl,HB2⟩:=hrel
     by_cases hlt2:j<i
     .have hji:j<ls.length:=by omega
      obtain ⟨b',o',e',hb',hj1,_⟩:=(H.out _ (HB.trans HB2)).at_ j hji;obtain ⟨rfl,rfl⟩:b=b'/\o=o':=by simpa using e'
      clear e';have hi1:=(HB2.cell hb).trans hl1;have hd:decide (j<i)=true:=by simpa using hlt2
      go_wp2
      go_quiet (fail)
      go_wp2
      .have he:(ls[j].to==ls[i].to)=true:=by assumption
       go_ret;exact ⟨aA2 (bAd hlt2 hlt (by simpa using he)).symm,(HB.trans HB2).drewN _⟩
      .have he:(ls[j].to==ls[i].to)=false:=by assumption
       go_roundg (i-(j+1))
       case rel =>
        refine ⟨j+1,by omega,rfl,?_,by go_num,HB2.drewN _⟩
        intro q hq hq'
        rcases Nat.lt_or_ge q j with h | h
        .exact HJ.out q h hq'
        .obtain rfl:q=j:=by omega
         simpa using he
       case measure=>omega
     .have hd:decide (j<i)=false:=by simpa using hlt2
      go_wp2
      go_roundg (ls.length-(i+1))
      case rel =>
       refine ⟨i+1,by omega,rfl,⟨aAb hlt HK.out.1 HO.out,aFp (by simpa using hlt) HK.out.2 ?_⟩,by go_num,HB.trans HB2⟩
       intro q hq
       have:=HJ.out q (by omega) (by omega)
       simpa using this
      case measure=>omega
  .go_wp2
   go_ret;refine ⟨aA2 ?_,HB⟩
   symm
   rw [aC1];have h1:=HK.out;rw [List.take_of_length_le (by omega),List.take_of_length_le (by simp;omega)] at h1
   exact ⟨List.all_eq_true.1 h1.1,h1.2⟩
theorem aFf {g:Graph} (h:¬ GOK g):aFz g=false:=by
 rw [Bool.eq_false_iff];intro hb;exact h ((aG7 g).1 hb)
theorem aBw (v:Value) (g:Graph) (w:World) (h:aAl w v g) (hlg:aB3 g=true) :
  Calls prog 124 #[v] w fun e w'=>e = .returned (.bool (aFz g))/\Bel w w':=by
 have HG:=aA1 (fun w' (k:Bel w w')=>h.keep k);obtain ⟨A,k,A2,k2,rfl,hI,_,_,hP,_,_⟩:=h;have HI:=aA1 (fun w' (k:Bel w w')=>aB7.keep hI k);clear hI;have HP:=aA1 (fun w' (k:Bel w w')=>aH0.keep hP k);clear hP;obtain ⟨hl1,hl2,hl3⟩:=aE2 hlg;have HL3:=aA1 hl3;clear hl3 hlg
 by_cases hn:1<=g.ports.length/\g.ports.length<=24/\g.ids.length=g.ports.length
 .obtain ⟨hn1,hn2,hn3⟩:=hn
  have hb1:inB (g.ports.length:Int) 1 24=true:=aEi (by omega) (by omega)
  rw [hn3] at HI HG ⊢;have HN:=aA1 hn3;clear hn3;have hb2:(g.ports.length != g.ports.length)=false:=by simp
  have HW:=Bel.refl (w.alloc (.cells #[.slice A g.ports.length k,.slice A2 g.ports.length k2] 29));go_enter func124,ntmps124
  go_wp2_with (go_at_call 110;refine (aBs _ _ _ _).mono ?_;rintro e w' ⟨rfl,rfl⟩)
  clear hb1 hb2
  go_loopg [4,5] g.ports.length (fun m x _y wr=>∃ j:Nat,j<=g.ports.length/\m=g.ports.length-j/\Hid ((g.ids.take j).all (fun i=>decide (0<=i/\i<=255))=true/\(g.ids.take j).Nodup/\∀ q,q<j->(hq:q<g.ports.length)->aDm g.ports.length q g.ports[q]=true)/\x = .int .i64 j/\Bel (w.alloc (.cells #[.slice A g.ports.length k,.slice A2 g.ports.length k2] 29)) wr)
  case atStart=>exact ⟨0,by omega,rfl,⟨rfl,by simp,fun q hq=>absurd hq (by omega)⟩,rfl,HW⟩
  case round =>
   clear HW;obtain ⟨i,hi,rfl,HK,rfl,HB⟩:=hrel;have b0:=aA9 HB 0 rfl;have b1:=aA9 HB 1 rfl;have bs:=aAz HB
   by_cases hlt:i<g.ports.length
   .have hd0:decide (i<g.ports.length)=true:=by simpa using hlt
    have hlt':i<g.ids.length:=by rw [HN.out];exact hlt
    obtain ⟨b,o,rfl,hb,hid⟩:=(HI.out _ (aA3 HB)).at_ i hlt';obtain ⟨b',o',R,c',rfl,hb',hrow,hL,_,_⟩:=(HP.out _ (aA3 HB)).at_ i hlt;have HL:=aA1 hL;clear hL;have hle:=HL3.out g.ports[i] (List.getElem_mem hlt);cases hio:decide (0<=g.ids[i]/\g.ids[i]<=255) with
    | false =>
     have hio':=of_decide_eq_false hio;have HF:Hid (aFz g=false):=aFf fun hg=>hio' (hg.idr _ (List.getElem_mem hlt'));have hin:inB g.ids[i] 0 255=false:=aHr (by omega)
     clear hio hio'
     go_wp2_with (go_at_call 110;refine (aBs _ _ _ _).mono ?_;rintro e w' ⟨rfl,rfl⟩)
     go_ret;exact ⟨aA2 HF.out.symm,aA3 HB⟩
    | true =>
     have hio':=of_decide_eq_true hio;have hin:inB g.ids[i] 0 255=true:=aEi hio'.1 hio'.2;have HIO:=aA1 hio;clear hio hio';cases hok:aDm g.ports.length i g.ports[i] with
     | false =>
      have HF:Hid (aFz g=false):=aFf fun hg=>by have:=hg.links i hlt;rw [hok] at this;cases this
      by_cases hge:g.ports.length<=g.ports[i].length
      .have hd:decide (g.ports.length<=g.ports[i].length)=true:=by simpa using hge
       go_wp2_with (go_at_call 110;refine (aBs _ _ _ _).mono ?_;rintro e w' ⟨rfl,rfl⟩)
       go_ret;exact ⟨aA2 HF.out.symm,aA3 HB⟩
      .have hd:decide (g.ports.length<=g.ports[i].length)=false:=by simpa using hge
       go_wp2_with (first
        | (go_at_call 110;refine (aBs _ _ _ _).mono ?_;rintro e w' ⟨rfl,rfl⟩)
        | (go_at_call 175;refine (aM7 _ _ g.ports[i] i g.ports.length _ HL.out (by omega) (by omega)).mono ?_;rintro e w' ⟨rfl,hbb⟩;replace HB:=HB.trans hbb;clear hbb))
       go_ret;exact ⟨aA2 HF.out.symm,aA3 HB⟩
     | true =>
      have hge:=aD7 hlt hok;have hd:decide (g.ports.length<=g.ports[i].length)=false:=by simp;omega
      have HOK:=aA1 hok
      go_wp2_with (first
       | (go_at_call 110;refine (aBs _ _ _ _).mono ?_;rintro e w' ⟨rfl,rfl⟩)
       | (go_at_call 175;refine (aM7 _ _ g.ports[i] i g.ports.length _ HL.out (by omega) (by omega)).mono ?_;rintro e w' ⟨rfl,hbb⟩;replace HB:=HB.trans hbb;clear hbb hb hb' hid hrow;clear HL b0 b1 bs;have b0:=aA9 HB 0 rfl;have b1:=aA9 HB 1 rfl;have bs:=aAz HB))
      clear hok hin hd hd0 hge hle
      go_loopg [5] i (fun m x ws=>∃ j:Nat,j<=i/\m=i-j/\Hid (∀ q,(hq:q<j)->(hq':q<g.ids.length)->g.ids[q]≠g.ids[i])/\x = .int .i64 j/\Bel (w.alloc (.cells #[.slice (some ⟨b,o,none⟩) g.ports.length k,.slice (some ⟨b',o',none⟩) g.ports.length k2] 29)) ws)
      case atStart=>exact ⟨0,by omega,rfl,fun q hq=>absurd hq (by omega),rfl,HB⟩
      case round =>
       clear HB b0 b1 bs;obtain ⟨j,hj,rfl,HJ,rfl,HB⟩:=hrel;have b0:=aA9 HB 0 rfl;have bs:=aAz HB
       by_cases hlt2:j<i
       .have hji:j<g.ids.length:=by omega
        have hjn:j<g.ports.length:=by omega
        obtain ⟨b2,o2,e2,hb2,hj1⟩:=(HI.out _ (aA3 HB)).at_ j hji;obtain ⟨rfl,rfl⟩:b=b2/\o=o2:=by simpa using e2
        obtain ⟨b2,o2,e2,_,hi1⟩:=(HI.out _ (aA3 HB)).at_ i hlt';obtain ⟨rfl,rfl⟩:b=b2/\o=o2:=by simpa using e2
        clear e2;have hd:decide (j<i)=true:=by simpa using hlt2
        go_wp2
        go_quiet (fail)
        go_wp2
        .have he:(g.ids[j]==g.ids[i])=true:=by assumption
         go_ret;refine ⟨aA2 ?_,(aA3 HB).drewN _⟩
         symm
         refine aFf fun hg=>?_
         exact aGq hlt2 hlt' (by simpa using he) hg.idn
        .have he:(g.ids[j]==g.ids[i])=false:=by assumption
         go_roundg (i-(j+1))
         case rel =>
          refine ⟨j+1,by omega,rfl,?_,by go_num,HB.drewN _⟩
          intro q hq hq'
          rcases Nat.lt_or_ge q j with h | h
          .exact HJ.out q h hq'
          .obtain rfl:q=j:=by omega
           simpa using he
         case measure=>omega
       .have hd:decide (j<i)=false:=by simpa using hlt2
        go_wp2
        go_roundg (g.ports.length-(i+1))
        case rel =>
         refine ⟨i+1,by omega,rfl,⟨aAb hlt' HK.out.1 HIO.out,aFp hlt' HK.out.2.1 (fun q hq=>HJ.out q (by omega) (by omega)),?_⟩,by go_num,HB⟩
         intro q hq hq'
         rcases Nat.lt_or_ge q i with h | h
         .exact HK.out.2.2 q h hq'
         .obtain rfl:q=i:=by omega
          exact HOK.out
        case measure=>omega
   .have hd0:decide (i<g.ports.length)=false:=by simpa using hlt
    have HK1:Hid (g.ids.all (fun i=>decide (0<=i/\i<=255))=true/\g.ids.Nodup/\∀ q,(hq:q<g.ports.length)->aDm g.ports.length q g.ports[q]=true):=by
     obtain ⟨a1,a2,a3⟩:=HK.out;rw [List.take_of_length_le (by rw [HN.out];omega)] at a1 a2
     exact ⟨a1,a2,fun q hq=>a3 q (by omega) hq⟩
    clear HK;go_wp2;clear hd0
    go_loopg [6,7,8,9] g.ports.length (fun m x _y _z _u ws=>∃ j:Nat,j<=g.ports.length/\m=g.ports.length-j/\Hid (∀ q,q<j->(hq:q<g.ports.length)->∀ l∈g.ports[q],aIw g q l=true)/\x = .int .i64 j/\Bel (w.alloc (.cells #[.slice A g.ports.length k,.slice A2 g.ports.length k2] 29)) ws)
    case atStart=>exact ⟨0,by omega,rfl,fun q hq=>absurd hq (by omega),rfl,HB⟩
    case round =>
     clear HB b0 b1 bs hlt hi;obtain ⟨v,hv,rfl,HQ,rfl,HB⟩:=hrel
     by_cases hlt:v<g.ports.length
     .have hd0:decide (v<g.ports.length)=true:=by simpa using hlt
      go_wp2;clear hd0
      go_loopg [7,8,9] g.ports[v].length (fun m x _y _z ws=>∃ j:Nat,j<=g.ports[v].length/\m=g.ports[v].length-j/\Hid ((g.ports[v].take j).all (aIw g v)=true)/\x = .int .i64 j/\Bel (w.alloc (.cells #[.slice A g.ports.length k,.slice A2 g.ports.length k2] 29)) ws)
      case atStart=>exact ⟨0,by omega,rfl,rfl,rfl,HB⟩
      case round =>
       clear HB;obtain ⟨j,hj,rfl,HJ,rfl,HB⟩:=hrel;have b0:=aA9 HB 0 rfl;have b1:=aA9 HB 1 rfl;have bs:=aAz HB;obtain ⟨b',o',R,c',rfl,hb',hrow,hL,_,_⟩:=(HP.out _ (aA3 HB)).at_ v hlt;have hle:=HL3.out g.ports[v] (List.getElem_mem hlt)
       by_cases hlt2:j<g.ports[v].length
       .obtain ⟨b2,o2,rfl,hb2,hto,hwe⟩:=hL.at_ j hlt2
        obtain ⟨hv1,hv2⟩:=aC1.1 (HK1.out.2.2 v hlt);obtain ⟨l1,l2,l3,l4,l5⟩:=aCb.1 (hv1 _ (List.getElem_mem hlt2));obtain ⟨t,ht⟩:=Int.eq_ofNat_of_zero_le l1;have htl:t<g.ports.length:=by omega
        have HBK:Hid (aIw g v g.ports[v][j]=(g.ports[t].any fun k=>k.to==(v:Int)&&k.weight==g.ports[v][j].weight)):=by
         show aIw g v g.ports[v][j]=_
         unfold aIw;rw [ht,Int.toNat_natCast,aA7 htl]
        have hnd:=(aC1.1 (HK1.out.2.2 t htl)).2;rw [ht] at hto;have HB2:=HB.alloc (.cells #[.int .i64 (t:Int),.int .i64 g.ports[v][j].weight] 161);clear hL hv1 hv2 l1 l2 l3 ht
        go_wp2_with fail
        refine (aU0 _ g t (v:Int) _ (HG.out _ (aA3 HB2)) htl).mono ?_
        rintro e w2 ⟨rfl,hbb⟩;have bx0:=aA9 hbb 0 rfl;have bx1:=aA9 hbb 1 rfl;have bxs:=aAz hbb;have hbw:=aA3 hbb;have b1':=(hbw.cell bs).trans b1;have hrange:=aRw g.ports[t] (v:Int)
        by_cases hk:aEw g.ports[t] (v:Int)<0
        .have hd1:decide (aEw g.ports[t] (v:Int)<0)=true:=by simpa using hk
         have HF:Hid (aFz g=false):=aFf fun hg=>by
          have:=hg.back v hlt _ (List.getElem_mem hlt2);rw [HBK.out,bF6 hk] at this;cases this
         go_wp2_with fail
         go_quiet (fail)
         go_wp2_with fail
         go_ret;exact ⟨aA2 HF.out.symm,((aA3 HB).trans hbw).drewN _⟩
        .obtain ⟨q,hq,hqe,hqt⟩:=bE1 (Int.not_lt.1 hk)
         rw [hqe];have hd1:decide ((q:Int)<0)=false:=by simp
         have HW1:=aA1 (aZl (x:=g.ports[v][j].weight) hnd q hq hqt);obtain ⟨b4,o4,R4,c4,e4,hb4,hrow4,hL4,_,_⟩:=(HP.out _ ((aA3 HB).trans hbw)).at_ t htl;obtain ⟨rfl,rfl⟩:b'=b4/\o'=o4:=by simpa using e4
         obtain ⟨b5,o5,rfl,hb5,_,hwe5⟩:=hL4.at_ q hq;have hd2:decide (t<g.ports.length)=true:=by simpa using htl
         clear e4 hL4 hk hrange hqe hqt hnd
         go_wp2_with fail
         go_quiet (fail)
         go_wp2_with fail
         .have he:(g.ports[t][q].weight != g.ports[v][j].weight)=true:=by assumption
          go_ret;refine ⟨aA2 ?_,((aA3 HB).trans hbw).drewN _⟩
          symm
          refine aFf fun hg=>?_
          have:=hg.back v hlt _ (List.getElem_mem hlt2);rw [HBK.out,HW1.out] at this;simp at this he
          exact he this
         .have he:(g.ports[t][q].weight != g.ports[v][j].weight)=false:=by assumption
          go_roundg (g.ports[v].length-(j+1))
          case rel =>
           refine ⟨j+1,by omega,rfl,aAb hlt2 HJ.out ?_,by go_num,(HB.trans hbw).drewN _⟩
           rw [HBK.out,HW1.out];simpa using he
          case measure=>omega
       .go_wp2
        go_roundg (g.ports.length-(v+1))
        case rel =>
         refine ⟨v+1,by omega,rfl,?_,by go_num,HB⟩
         intro q hq hq'
         rcases Nat.lt_or_ge q v with h | h
         .exact HQ.out q h hq'
         .obtain rfl:q=v:=by omega
          exact List.all_eq_true.1 (aAy (by omega) HJ.out)
        case measure=>omega
     .have hd0:decide (v<g.ports.length)=false:=by simpa using hlt
      go_wp2;go_ret;refine ⟨aA2 ?_,aA3 HB⟩
      symm
      rw [aG7];refine ⟨hn1,hn2,HN.out,?_,HK1.out.2.1,HK1.out.2.2,fun q hq=>HQ.out q (by omega) hq⟩
      intro i hi
      have:=List.all_eq_true.1 HK1.out.1 i hi;simpa using this
 .have HF:Hid (aFz g=false):=aFf fun hg=>hn ⟨hg.pos,hg.le,hg.ids⟩
  by_cases hn2:1<=g.ports.length/\g.ports.length<=24
  .have hb1:inB (g.ports.length:Int) 1 24=true:=aEi (by omega) (by omega)
   have hb2:(g.ids.length != g.ports.length)=true:=by simp;omega
   have hb3:((g.ids.length:Int) != (g.ports.length:Int))=true:=by simp;omega
   go_enter func124,ntmps124
   go_wp2_with (go_at_call 110;refine (aBs _ _ _ _).mono ?_;rintro e w' ⟨rfl,rfl⟩)
   go_ret;exact ⟨aA2 HF.out.symm,(Bel.refl _).alloc _⟩
  .have hb1:inB (g.ports.length:Int) 1 24=false:=aHr (by omega)
   go_enter func124,ntmps124
   go_wp2_with (go_at_call 110;refine (aBs _ _ _ _).mono ?_;rintro e w' ⟨rfl,rfl⟩)
   go_ret;exact ⟨aA2 HF.out.symm,(Bel.refl _).alloc _⟩
open Go.RowKit Go.Maps
theorem aXj (ids:List Int):aSs ids=true↔(∀ i∈ids,0<=i/\i<=255)/\ids.Nodup:=by
 unfold aSs;simp only [Bool.and_eq_true,List.all_eq_true,decide_eq_true_eq]
theorem aR1 {ids:List Int} (h:¬ ((∀ i∈ids,0<=i/\i<=255)/\ids.Nodup)):aSs ids=false:=by
 rw [Bool.eq_false_iff];intro hb;exact h ((aXj ids).1 hb)
theorem aK6 (A:Option Addr) (c:Nat) (ids:List Int) (w:World) (h:aB7 w A ids.length ids) (hl:ids.length<=1000) :
  Calls prog 243 #[.slice A ids.length c] w fun e w'=>e = .returned (.bool (aSs ids))/\Bel w w':=by
 have H:=aA1 (fun w' (k:Bel w w')=>aB7.keep h k);clear h;have HZ:=aA1 (show Tryz.zeroCells283=Array.replicate 256 (Value.bool false) by kernel_rfl)
 have HB:=(Bel.refl w).alloc (.cells Tryz.zeroCells283 283);have HK:=aA1 (Blk.new w Tryz.zeroCells283 283);go_enter func243,ntmps243;go_wp2
 go_loopg [5,8] ids.length (fun m _x z wr=>∃ (j:Nat) (cs:Array Value),j<=ids.length/\m=ids.length-j/\z = .int .i64 j/\Hid ((∀ i∈ids.take j,0<=i/\i<=255)/\(ids.take j).Nodup)/\Hid (Blk wr w.heap.size cs 283/\∀ i:Nat,i<256->cs[i]?=some (.bool (decide ((i:Int)∈ids.take j))))/\Bel w wr)
 case atStart =>
  refine ⟨0,Tryz.zeroCells283,by omega,rfl,rfl,⟨by simp,by simp⟩,⟨HK.out,fun i hi=>?_⟩,HB⟩
  rw [HZ.out,Array.getElem?_replicate,if_pos hi];simp
 case round =>
  clear HB HK;obtain ⟨j,cs,hj,rfl,rfl,HJ,HC,HB⟩:=hrel
  by_cases hlt:j<ids.length
  .have hd0:decide (j<ids.length)=true:=by simpa using hlt
   obtain ⟨b,o,rfl,hb,hc⟩:=(H.out _ HB).at_ j hlt
   by_cases hr:0<=ids[j]/\ids[j]<=255
   .obtain ⟨q,hq⟩:=Int.eq_ofNat_of_zero_le hr.1
    have hq256:q<256:=by omega
    have y1:=HC.out.1.cell q (HC.out.2 q hq256);have y2:=HC.out.1.frozen q;have y3:=HC.out.1.lt;have HM:Hid (ids[j]=(q:Int)):=hq;rw [hq] at hc;have hd1:decide ((q:Int)<0)=false:=by simp
    have hd2:decide (255<(q:Int))=false:=by simp;omega
    by_cases hin:(q:Int)∈ids.take j
    .have HF:Hid (aSs ids=false):=aR1 fun h=>by
      obtain ⟨i,hi1,hi3⟩:=List.mem_take_iff_getElem.1 hin;exact aGq (j:=i) (by omega) hlt (by rw [hi3,HM.out]) h.2
     rw [decide_eq_true hin] at y1;clear hr hq
     go_wp2_with fail
     go_ret;exact ⟨aA2 HF.out.symm,HB⟩
    .rw [decide_eq_false hin] at y1
     have HIN:=aA1 hin;clear hr hq hin
     go_wp2_with fail
     go_roundg (ids.length-(j+1))
     case rel =>
      refine ⟨j+1,cs.setIfInBounds q (.bool true),by omega,rfl,by go_num,⟨?_,aFp hlt HJ.out.2 ?_⟩,⟨HC.out.1.set q _,fun i hi=>?_⟩,HB.setCell (by simp) _⟩
      .intro i hi
       rw [List.take_succ_eq_append_getElem hlt,List.mem_append] at hi
       rcases hi with hi | hi
       .exact HJ.out.1 i hi
       .simp at hi;subst hi;rw [HM.out];omega
      .intro i hi he
       exact HIN.out (by rw [<- HM.out,<- he,List.mem_take_iff_getElem];exact ⟨i,by omega,rfl⟩)
      .have hs:q<cs.size:=by
        have:=HC.out.2 q hq256;rw [Array.getElem?_eq_some_iff] at this;exact this.1
       rw [Array.getElem?_setIfInBounds,List.take_succ_eq_append_getElem hlt,HM.out]
       by_cases hqi:q=i
       .subst hqi;rw [if_pos rfl,if_pos hs];simp
       .rw [if_neg hqi,HC.out.2 i hi]
        congr 2
        rw [Bool.eq_iff_iff];simp;omega
     case measure=>omega
   .have HF:Hid (aSs ids=false):=aR1 fun h=>hr (h.1 _ (List.getElem_mem hlt))
    by_cases hneg:ids[j]<0
    .have hd1:decide (ids[j]<0)=true:=by simpa using hneg
     clear hr
     go_wp2_with fail
     go_ret;exact ⟨aA2 HF.out.symm,HB⟩
    .have hd1:decide (ids[j]<0)=false:=by simpa using hneg
     have hd2:decide (255<ids[j])=true:=by simp;omega
     clear hr
     go_wp2_with fail
     go_ret;exact ⟨aA2 HF.out.symm,HB⟩
  .have hd0:decide (j<ids.length)=false:=by simpa using hlt
   go_wp2_with fail
   go_ret;refine ⟨aA2 ?_,HB⟩
   symm
   rw [aXj];have:=HJ.out;rw [List.take_of_length_le (by omega)] at this
   exact this
theorem pairK:PairK prog 237 3:=⟨underlying237,underlying3,by kernel_rfl,by kernel_rfl,by kernel_rfl,⟨_,rfl⟩⟩
theorem bFz (w:World):(zeroValue 3).run prog w = .ok (.int .i64 0) w:=by kernel_rfl
theorem aW4 (A:Option Addr) (c:Nat) (ports:List (List Link)) (w:World) (h:aH0 w A ports.length ports) (hl:ports.length<=30) (hl2:∀ r∈ports,r.length<=30) :
  Calls prog 244 #[.slice A ports.length c] w fun e w'=>e = .returned (.bool (bJt ports))/\Bel w w':=by
 have HP:=aA1 (fun w' (k:Bel w w')=>aH0.keep h k);clear h;have HL2:=aA1 hl2;clear hl2;have hmm:=@run_makeMap prog;have HM0:=aA1 (aIi.made prog 237 3 w);have HB:=(Bel.refl w).alloc (.map #[] 0);go_enter func244,ntmps244;go_wp2;clear hmm
 go_loopg [4,5,7,8,9,10,16] ports.length (fun m _x1 _x2 _x3 _x4 _x5 _x6 z wr=>∃ (v n:Nat) (D:DataW Unit),v<=ports.length/\m=ports.length-v/\z = .int .i64 v/\n<=40*v/\Hid (∀ u,u<v->(hu:u<ports.length)->aDm ports.length u ports[u]=true)/\Hid (aIi prog 237 3 wr w.heap.size n D (mOf ports v 0))/\Bel w wr)
 case atStart =>
  refine ⟨0,0,.map [],by omega,rfl,rfl,by omega,fun u hu=>absurd hu (by omega),?_,HB⟩
  have:(fun _ _=>0)=mOf ports 0 0:=by funext a b;rw [bG9]
  rw [<- this];exact HM0
 case round =>
  clear HB HM0;obtain ⟨v,n,D,hv,rfl,rfl,hn,HV,HM,HB⟩:=hrel
  by_cases hlt:v<ports.length
  .have hd0:decide (v<ports.length)=true:=by simpa using hlt
   obtain ⟨b,o,R,c1,rfl,hb,hrow,hL,_,_⟩:=(HP.out _ HB).at_ v hlt;have HL:=aA1 (fun w' (k:Bel wr w')=>aIt.keep hL k);clear hL;have hrl:=HL2.out _ (List.getElem_mem hlt);go_wp2;clear hd0 hrow hb;have HW:=Bel.refl wr;have hmn:w.heap.size<wr.heap.size:=HM.out.1.lt
   go_loopg [7,8,9,10,23] ports[v].length (fun m _x3 _x4 _x5 _x6 z ws=>∃ (j n:Nat) (D:DataW Unit),j<=ports[v].length/\m=ports[v].length-j/\z = .int .i64 j/\n<=40*v+j/\Hid ((ports[v].take j).all (aNd ports.length v)=true/\((ports[v].map Link.to).take j).Nodup)/\Hid (aIi prog 237 3 ws w.heap.size n D (mOf ports v j))/\Bel w ws/\Hid (aIt ws R ports[v].length ports[v]))
   case atStart=>exact ⟨0,n,D,by omega,rfl,rfl,by omega,⟨rfl,by simp⟩,HM,HB,HL.out _ HW⟩
   case round =>
    clear HB HM HW HL hmn;obtain ⟨j,n,D,hj,rfl,rfl,hn,HJ,HM,HB,HL⟩:=hrel
    by_cases hlt2:j<ports[v].length
    .have hd0:decide (j<ports[v].length)=true:=by simpa using hlt2
     obtain ⟨b2,o2,rfl,hb2,l1,l2⟩:=HL.out.at_ j hlt2;cases hok:aNd ports.length v ports[v][j] with
     | false =>
      have HF:Hid (bJt ports=false):=aOu fun h=>by
       have:=(aC1.1 (h.links v hlt)).1 _ (List.getElem_mem hlt2);rw [hok] at this;cases this
      have HB2:=HB.alloc (.cells #[.int .i64 ports[v][j].to,.int .i64 ports[v][j].weight] 161);have HO:=aA1 hok;clear hok
      by_cases hq:0<=ports[v][j].to/\ports[v][j].to<(ports.length:Int)/\ports[v][j].to≠(v:Int)
      .obtain ⟨q1,q2,q3⟩:=hq
       have hw:ports[v][j].weight<1∨15<ports[v][j].weight:=by
        rcases Int.lt_or_le ports[v][j].weight 1 with h | h
        .exact .inl h
        .rcases Int.lt_or_le 15 ports[v][j].weight with h' | h'
         .exact .inr h'
         .have:=HO.out
          rw [aCb.2 ⟨q1,q2,q3,h,h'⟩] at this;cases this
       have d1:decide (ports[v][j].to<0)=false:=by simp;omega
       have d2:decide ((ports.length:Int)<=ports[v][j].to)=false:=by simp;omega
       have d3:(ports[v][j].to==(v:Int))=false:=by simpa using q3
       clear q1 q2 q3
       rcases hw with hw | hw
       .have d4:decide (ports[v][j].weight<1)=true:=by simpa using hw
        go_wp2_with fail
        go_ret;exact ⟨aA2 HF.out.symm,HB2⟩
       .have d4:decide (ports[v][j].weight<1)=false:=by simp;omega
        have d5:decide (15<ports[v][j].weight)=true:=by simpa using hw
        go_wp2_with fail
        go_ret;exact ⟨aA2 HF.out.symm,HB2⟩
      .have hcase:ports[v][j].to<0∨(0<=ports[v][j].to/\(ports.length:Int)<=ports[v][j].to)∨(0<=ports[v][j].to/\ports[v][j].to<(ports.length:Int)/\ports[v][j].to=(v:Int)):=by omega
       clear hq
       rcases hcase with h1 | ⟨h1,h2⟩ | ⟨h1,h2,h3⟩
       .have d1:decide (ports[v][j].to<0)=true:=by simpa using h1
        go_wp2_with fail
        go_ret;exact ⟨aA2 HF.out.symm,HB2⟩
       .have d1:decide (ports[v][j].to<0)=false:=by simp;omega
        have d2:decide ((ports.length:Int)<=ports[v][j].to)=true:=by simpa using h2
        go_wp2_with fail
        go_ret;exact ⟨aA2 HF.out.symm,HB2⟩
       .have d1:decide (ports[v][j].to<0)=false:=by simp;omega
        have d2:decide ((ports.length:Int)<=ports[v][j].to)=false:=by simp;omega
        have d3:(ports[v][j].to==(v:Int))=true:=by simpa using h3
        have HH:=aA1 h3;clear h3
        go_wp2_with fail
        go_ret;exact ⟨aA2 HF.out.symm,HB2⟩
     | true =>
      obtain ⟨q1,q2,q3,q4,q5⟩:=aCb.1 hok;obtain ⟨t,ht⟩:=Int.eq_ofNat_of_zero_le q1;have HO:=aA1 hok;have HTE:=aA1 ht;have d1:decide ((t:Int)<0)=false:=by simp
      have d2:decide (ports.length<=t)=false:=by simp;omega
      have d2':decide ((ports.length:Int)<=(t:Int))=false:=by simp;omega
      have d3:((t:Int)==(v:Int))=false:=by simp;omega
      have d3':(t==v)=false:=by simp;omega
      have d4:decide (ports[v][j].weight<1)=false:=by simp;omega
      have d5:decide (15<ports[v][j].weight)=false:=by simp;omega
      have wt:(Lit.int .i64 (t:Int)).wf=true:=WalkArith.wf_i64 (by omega)
      have wv:(Lit.int .i64 (v:Int)).wf=true:=WalkArith.wf_i64 (by omega)
      have ww:(Lit.int .i64 ports[v][j].weight).wf=true:=WalkArith.wf_i64 (by omega)
      have hwne:ports[v][j].weight≠0:=by omega
      rw [ht] at l1;have HB2:=(HB.alloc (.cells #[.int .i64 (t:Int),.int .i64 ports[v][j].weight] 161)).alloc (.cells #[.int .i64 (v:Int),.int .i64 (t:Int)] 237);have HW2:=((Bel.refl wr).alloc (.cells #[.int .i64 (t:Int),.int .i64 ports[v][j].weight] 161)).alloc (.cells #[.int .i64 (v:Int),.int .i64 (t:Int)] 237);have HM2:=aA1 (HM.out.keep HW2);have hlook:=aIi.lookOk pairK underlying284 HM2.out (bFz _) wv wt;unfold aSy at hlook;dsimp only at hlook
      have hwpos:∀ l∈ports[v].take j,1<=l.weight:=fun l hl=>by
       have:=List.all_eq_true.1 HJ.out.1 l hl;exact (aCb.1 this).2.2.2.1
      have hmv:mOf ports v j (v:Int) (t:Int)=wOf (ports[v].take j) (t:Int):=by
       unfold mOf;rw [if_neg (by omega),if_pos rfl,aA7 hlt]
      by_cases hdup:mOf ports v j (v:Int) (t:Int)=0
      .have hno:∀ l∈ports[v].take j,l.to≠ports[v][j].to:=by
        rw [ht];exact bLd hwpos (by rw [<- hmv];exact hdup)
       have hdd:decide (mOf ports v j (v:Int) (t:Int)≠0)=false:=by simpa using hdup
       rw [hdd,hdup] at hlook;have HNO:=aA1 hno;have HWL:=aA1 (fun w' (k:Bel wr w')=>HL.out.keep k);have hms:w.heap.size<wr.heap.size:=HM.out.1.lt;clear hdup hdd hno hwpos hmv q1 q2 q3 hok ht
       go_wp2_with (at_mapUpdate;refine wpList_mapUpdate_own _ rfl (.tmp 62) (.tmp 63) (.tmp 65) 284 rfl 237 3 pairK.law underlying284 _ w.heap.size n D rfl HM2.out.1 (by unfold maxLen;omega) _ _ _ rfl rfl (pairK.keyOf wv wt) _ [] (plainElem_int underlying3 ww) ?_;intro w3 hown hgr;have HB3:=HB2.map (Nat.le_refl _) hgr;have HP3:=aA1 (aIi.put pairK wv wt hwne HM2.out.2 hown);have HG3:=aA1 hgr;clear hown hgr)
       go_roundg (ports[v].length-(j+1))
       case rel =>
        refine ⟨j+1,n+1,D.put (pk (v:Int) (t:Int)) (.lit (.int .i64 ports[v][j].weight)),by omega,rfl,by go_num,by omega,⟨aAb hlt2 HJ.out.1 HO.out,?_⟩,?_,HB3,?_⟩
        .refine aFp (by simpa using hlt2) HJ.out.2 (fun q hq he=>?_)
         simp at he
         exact HNO.out (ports[v][q]'(by omega)) (by rw [List.mem_take_iff_getElem];exact ⟨q,by omega,rfl⟩) he
        .have e:bM3 (mOf ports v j) (v:Int) (t:Int) ports[v][j].weight=mOf ports v (j+1):=by
          funext a b
          rw [bJ8 hlt hlt2 HNO.out,HTE.out];rfl
         rw [<- e];exact HP3
        .have hk:=HWL.out _ HW2
         refine ⟨hk.1,fun i x hx=>?_⟩
         obtain ⟨bb,oo,e,hlt',hE⟩:=HL.out.2 i x hx
         have hbb:bb≠w.heap.size:=by
          intro hh
          obtain ⟨es,clock,hb',_⟩:=HM.out.1;subst hh;have h1:=hE.1;unfold World.cell? at h1;rw [hb'] at h1;simp at h1
         have hblk:w3.heap[bb]?=wr.heap[bb]?:=by
          rw [HG3.out.block bb (by have:=HW2.size;omega) (by simpa using hbb)]
          exact HW2.block bb hlt'
         have hcell:∀ o',w3.cell? ⟨bb,o',none⟩=wr.cell? ⟨bb,o',none⟩:=fun o'=>by unfold World.cell?;rw [hblk]
         refine ⟨bb,oo,e,?_,(hcell _).trans hE.1,(hcell _).trans hE.2⟩
         have:=HW2.size;have:=HG3.out.size;omega
       case measure=>omega
      .have HF:Hid (bJt ports=false):=aOu fun h=>by
        obtain ⟨l,hlm,hlt',_⟩:=aQ6 (ls:=ports[v].take j) (b:=(t:Int)) (by rw [<- hmv];exact hdup)
        obtain ⟨q,hq,rfl⟩:=List.mem_take_iff_getElem.1 hlm;exact aGq (j:=q) (k:=j) (by omega) (by simpa using hlt2) (by simp [hlt',ht]) (aC1.1 (h.links v hlt)).2
       rw [decide_eq_true hdup] at hlook;clear hdup hwpos hmv q1 q2 q3 hok ht
       go_wp2_with fail
       go_ret;exact ⟨aA2 HF.out.symm,HB2⟩
    .have hd0:decide (j<ports[v].length)=false:=by simpa using hlt2
     have HLV:Hid (aDm ports.length v ports[v]=true):=by
      show aDm ports.length v ports[v]=true
      rw [aC1];have h1:=HJ.out;rw [List.take_of_length_le (by omega),List.take_of_length_le (by simp;omega)] at h1
      exact ⟨List.all_eq_true.1 h1.1,h1.2⟩
     go_wp2_with fail
     go_roundg (ports.length-(v+1))
     case rel =>
      refine ⟨v+1,n,D,by omega,rfl,by go_num,by omega,?_,?_,HB⟩
      .intro u hu hu'
       rcases Nat.lt_or_ge u v with h | h
       .exact HV.out u h hu'
       .obtain rfl:u=v:=by omega
        exact HLV.out
      .have e:mOf ports v j=mOf ports (v+1) 0:=by funext a b;exact bKz hlt (by omega) a b
       rw [<- e];exact HM
     case measure=>omega
  .obtain rfl:v=ports.length:=by omega
   have hd0:decide (ports.length<ports.length)=false:=by simp
   have HSM:=aA1 (bEf (fun u hu=>HV.out u (by omega) hu))
   have HLK:=aA1 (fun u (hu:u<ports.length)=>HV.out u (by omega) hu)
   clear HV hlt hv
   go_wp2_with (at_range;refine wpList_range_own _ rfl (.tmp 68) 284 rfl 237 3 pairK.law underlying284 _ w.heap.size n D rfl HM.out.1 ?_;intro w1 hrg hgr hsz;have HB1:=HB.grown hgr (fun k hk=>by cases hk);have HRG:=aA1 hrg;clear hrg hgr hsz;go_frame)
   have hr0:w.heap.size<wr.heap.size:=HM.out.1.lt;have HM2:=aA1 HM.out.2;clear hd0 HM;generalize hrr:wr.heap.size=r at *;clear hrr
   go_loopg [11,12] (size D) (fun m _x _y ws=>∃ (left:Lit->Bool) (cnt:Nat),m=cnt/\Hid (ws.ranges prog 237 (plainElem prog 3) w.heap.size r n D left cnt)/\Hid (∀ a b,(Lit.int .i64 a).wf=true->(Lit.int .i64 b).wf=true->mOf ports ports.length 0 a b≠0->left (pk a b)=false->mOf ports ports.length 0 b a=mOf ports ports.length 0 a b)/\Bel w ws)
   case atStart =>
    refine ⟨_,_,rfl,HRG,?_,HB1⟩
    intro a b wa wb hne hlf
    have:=((HM2.out.2 a b wa wb).2).2 hne;rw [this] at hlf;cases hlf
   case round =>
    clear HB HB1 HRG;obtain ⟨left,cnt,rfl,HRG,HI,HB⟩:=hrel
    go_wp2_with (at_next;refine wpList_next_ranges _ rfl (.tmp 69) rfl 237 pairK.law (plainElem prog 3) aSy (Value.int .i64) (fun key kl hkey=>by obtain ⟨x,hx,_⟩:=pairK.inv hkey;exact ⟨x,hx⟩) (fun v y hv=>by obtain ⟨c,hc,_⟩:=plainElem_int_inv underlying3 hv;exact ⟨c,hc⟩) w.heap.size r n D left _ rfl HRG.out ?_ ?_)
    .intro _ hl0
     have HL0:=aA1 hl0;clear hl0
     go_wp2_with fail
     go_ret;refine ⟨aA2 ?_,HB⟩
     symm
     rw [bCd,HSM.out];intro a b hne
     obtain ⟨h0,h1⟩:=bG8 hne;obtain ⟨a',rfl⟩:=Int.eq_ofNat_of_zero_le h0;have hlt:a' < ports.length:=by omega
     have hne2:=hne;rw [aXu hlt hlt] at hne2;obtain ⟨l,hlm,rfl,_⟩:=aQ6 hne2;obtain ⟨t1,t2,_⟩:=aCb.1 ((aC1.1 (HLK.out a' hlt)).1 l hlm);exact HI.out _ _ (WalkArith.wf_i64 (by omega)) (WalkArith.wf_i64 (by omega)) hne (HL0.out _)
    .intro x1 x2 cw kl y1 y2 w2 cnt2 hkey hlk hv hat hrg2 hlt2 hg2 hs2 hen
     obtain ⟨⟨x1',x2'⟩,hx,wx1,wx2,rfl⟩:=pairK.inv hkey;simp [aSy] at hx
     obtain ⟨rfl,rfl⟩:=hx;obtain ⟨c',hc',hy,wc⟩:=plainElem_int_inv underlying3 hv;injection hc' with _ hc'
     subst hc'
     have hM:mOf ports ports.length 0 x1 x2=cw:=by
      have h1:=(HM2.out.2 x1 x2 wx1 wx2).1;have hy1:y1 = .lit (.int .i64 cw):=congrArg Prod.fst hy;rw [hat,hy1] at h1;simp at h1
      exact h1.symm
     have hMne:mOf ports ports.length 0 x1 x2≠0:=by
      have h1:=(HM2.out.2 x1 x2 wx1 wx2).2;rw [<- h1];exact has_true_of_atKey (y:=y1) hat
     have HB2:Bel w w2:=HB.grown hg2 (fun k hk=>by injection hk with hk;omega)
     have HB3:=HB2.alloc (.cells #[.int .i64 x1,.int .i64 x2] 237);have HR3:=aA1 (hrg2.alloc (.cells #[.int .i64 x1,.int .i64 x2] 237));have hlook:=aIi.look pairK underlying284 (⟨HR3.out.owns,HM2.out⟩:aIi prog 237 3 _ _ _ _ _) (bFz _) wx2 wx1;unfold aSy at hlook hen;dsimp only at hlook hen;have HMM:=aA1 hM;have HME:=aA1 hMne;have HLT:=aA1 hlt2;have HLKK:=aA1 hlk;have hrl:=HR3.out.lt;clear hM hMne hkey hv hat hrg2 hg2 hy hlt2 hlk;generalize hmx:mOf ports ports.length 0 x2 x1=mx at *;have HMX:=aA1 hmx;clear hmx
     by_cases he:mx=cw
     .have heb:(mx != cw)=false:=by simpa using he
      have HE:=aA1 he;clear he
      go_wp2_with fail
      go_roundg cnt2
      case rel =>
       refine ⟨_,cnt2,rfl,HR3,?_,HB3⟩
       intro a b wa wb hne hlf
       rw [Bool.and_eq_false_iff] at hlf
       rcases hlf with hlf | hlf
       .exact HI.out a b wa wb hne hlf
       .simp at hlf
        have:=WideAt.sameKey_eq hlf;obtain ⟨rfl,rfl⟩:=bK9 pairK wa wb wx1 wx2 this;rw [HMX.out,HE.out,HMM.out]
      case measure=>exact HLT.out
     .have heb:(mx != cw)=true:=by simpa using he
      have HF:Hid (bJt ports=false):=aOu fun h=>by
       have:=HSM.out.1 h x1 x2 HME.out;rw [HMX.out,HMM.out] at this;exact he this
      clear he
      go_wp2_with fail
      go_ret;exact ⟨aA2 HF.out.symm,HB3⟩
theorem aKo (a b:Int):∃ m,(if b<a then b else a)=m/\m=min a b:=⟨_,rfl,by split <;> omega⟩
theorem aJk (a b:Int):∃ m,(if a<b then b else a)=m/\m=max a b:=⟨_,rfl,by split <;> omega⟩
theorem bFr (a:Int) (w:World):Calls prog 276 #[.int .i64 a] w fun e w'=>e = .returned (.bool (a != 0))/\w=w':=by
 go_enter func276,ntmps276;go_wp2;go_ret;exact ⟨rfl,rfl⟩
theorem aQq (A:Option Addr) (n c:Nat) (l:List Int) (w:World) (h:aB7 w A n l) (hl:n<=1000) :
  Calls prog 274 #[.slice A n c] w fun e w'=>e = .returned (.int .i64 (aDw l))/\w=w':=by
 obtain rfl:=h.1;have H:=aA1 h;clear h;go_enter func274,ntmps274
 go_wp2_with fail
 go_loopg [3,8] l.length (fun g cv iv wr=>∃ (k:Nat) (z:Int),k+g=l.length/\0<=z/\z<=k/\Hid (z+aDw (l.drop k)=aDw l)/\cv = .int .i64 z/\iv = .int .i64 k/\w=wr)
 case atStart=>exact ⟨0,0,by omega,by omega,by omega,by show _=_;simp,rfl,rfl,rfl⟩
 case round =>
  obtain ⟨k,z,hk,hz0,hz1,HZ,rfl,rfl,rfl⟩:=hrel
  by_cases hlt:k<l.length
  .obtain ⟨b,o,rfl,hb,hc⟩:=H.out.at_ k hlt
   have hstep:Hid (aDw (l.drop k)=(if l[k]=0 then 0 else 1)+aDw (l.drop (k+1))):=by
    show aDw (l.drop k)=_
    rw [List.drop_eq_getElem_cons hlt,aQp]
   by_cases h0:l[k]=0
   .have hz:(l[k] != 0)=false:=by simpa using h0
    have HZ2:Hid (z+aDw (l.drop (k+1))=aDw l):=by show _=_;rw [<- HZ.out,hstep.out,if_pos h0];omega
    clear h0
    go_wp2_with fail
    go_roundg (gk-1)
    case rel=>exact ⟨k+1,z,by omega,by omega,by omega,HZ2,rfl,by go_num,rfl⟩
    case measure=>omega
   .have hz:(l[k] != 0)=true:=by simpa using h0
    have HZ2:Hid (z+1+aDw (l.drop (k+1))=aDw l):=by show _=_;rw [<- HZ.out,hstep.out,if_neg h0];omega
    clear h0
    go_wp2_with fail
    go_roundg (gk-1)
    case rel=>exact ⟨k+1,z+1,by omega,by omega,by omega,HZ2,rfl,by go_num,rfl⟩
    case measure=>omega
  .go_wp2_with fail
   go_ret;refine ⟨aA4 ?_,rfl⟩
   have:=HZ.out;rw [List.drop_eq_nil_of_le (by omega)] at this
   simpa [aDw] using this
theorem bHk (A:Option Addr) (n c:Nat) (l:List Int) (w:World) (h:aB7 w A n l) (hl:n<=1000) :
  Calls prog 277 #[.slice A n c] w fun e w'=>e = .returned (.tuple #[.int .i64 (bJu l).1,.int .i64 (bJu l).2])/\w=w':=by
 obtain rfl:=h.1;have H:=aA1 h;clear h;go_enter func277,ntmps277
 go_wp2_with fail
 go_loopg [2,3,8] l.length (fun g av sv iv wr=>∃ (k:Nat) (a s:Int),k+g=l.length/\Hid (aMx (l.drop k) a s=bJu l)/\av = .int .i64 a/\sv = .int .i64 s/\iv = .int .i64 k/\w=wr)
 case atStart=>exact ⟨0,_,_,by omega,rfl,rfl,rfl,rfl,rfl⟩
 case round =>
  obtain ⟨k,a,s,hk,HZ,rfl,rfl,rfl,rfl⟩:=hrel
  by_cases hlt:k<l.length
  .obtain ⟨b,o,rfl,hb,hc⟩:=H.out.at_ k hlt
   have hstep:Hid (aMx (l.drop k) a s=if a<l[k] then aMx (l.drop (k+1)) l[k] a else aMx (l.drop (k+1)) a (max s l[k])):=by
    show aMx (l.drop k) a s=_
    rw [List.drop_eq_getElem_cons hlt];rfl
   obtain ⟨m,hm,hm'⟩:=aJk s l[k];have HM:=aA1 hm';clear hm'
   by_cases h0:a<l[k]
   .have hd:decide (a<l[k])=true:=by simpa using h0
    have HZ2:Hid (aMx (l.drop (k+1)) l[k] a=bJu l):=by show _=_;rw [<- HZ.out,hstep.out,if_pos h0]
    clear h0
    go_wp2_with fail
    go_roundg (gk-1)
    case rel=>exact ⟨k+1,l[k],a,by omega,HZ2,rfl,rfl,by go_num,rfl⟩
    case measure=>omega
   .have hd:decide (a<l[k])=false:=by simpa using h0
    have HZ2:Hid (aMx (l.drop (k+1)) a m=bJu l):=by show _=_;rw [<- HZ.out,hstep.out,if_neg h0,HM.out]
    clear h0
    go_wp2_with fail
    go_roundg (gk-1)
    case rel=>exact ⟨k+1,a,m,by omega,HZ2,rfl,rfl,by go_num,rfl⟩
    case measure=>omega
  .go_wp2_with fail
   go_ret2
   have hz:=HZ.out;rw [List.drop_eq_nil_of_le (by omega)] at hz
   exact ⟨aHa hz.symm,rfl⟩
def aGo:List Int->(Int->Bool)->Int->Int
 | [],_,_ => -1
 | a :: l,f,i=>if f a then i else aGo l f (i+1)
theorem bA6 (l:List Int):∀ i,aGo l (fun a=>a != 0) i=aFk l i:=by
 induction l with
 | nil=>intro i;rfl
 | cons a l ih =>
  intro i
  simp only [aGo,aFk]
  by_cases h:a=0
  .simp [h,ih]
  .simp [h]
theorem bFw (l:List Int) (x:Int):∀ i,0<=i->(0<=aGo l (fun a=>x==a) i↔x∈l):=by
 induction l with
 | nil=>intro i _;simp [aGo]
 | cons a l ih =>
  intro i hi
  simp only [aGo]
  by_cases h:x=a
  .simp [h,hi]
  .simp [h,ih (i+1) (by omega)]
theorem bFy (A:Option Addr) (n c:Nat) (l:List Int) (x:Int) (w:World) (h:aB7 w A n l) (hl:n<=1000) :
  Calls prog 281 #[.slice A n c,.int .i64 x] w fun e w'=>e = .returned (.int .i64 (aGo l (fun a=>x==a) 0))/\w=w':=by
 obtain rfl:=h.1;have H:=aA1 h;clear h;go_enter func281,ntmps281
 go_wp2_with fail
 go_loopg [8] l.length (fun g iv wr=>∃ (k:Nat),k+g=l.length/\Hid (aGo (l.drop k) (fun a=>x==a) k=aGo l (fun a=>x==a) 0)/\iv = .int .i64 k/\w=wr)
 case atStart=>exact ⟨0,by omega,rfl,rfl,rfl⟩
 case round =>
  obtain ⟨k,hk,HZ,rfl,rfl⟩:=hrel
  by_cases hlt:k<l.length
  .obtain ⟨b,o,rfl,hb,hc⟩:=H.out.at_ k hlt
   have hstep:Hid (aGo (l.drop k) (fun a=>x==a) k=if (x==l[k])=true then (k:Int) else aGo (l.drop (k+1)) (fun a=>x==a) ((k:Int)+1)):=by
    show aGo (l.drop k) (fun a=>x==a) k=_
    rw [List.drop_eq_getElem_cons hlt];rfl
   cases h0:(x==l[k]) with
   | true =>
    have HZ2:Hid ((k:Int)=aGo l (fun a=>x==a) 0):=by show _=_;rw [<- HZ.out,hstep.out,if_pos h0]
    go_wp2_with fail
    go_ret;exact ⟨aA4 HZ2.out,rfl⟩
   | false =>
    have HZ2:Hid (aGo (l.drop (k+1)) (fun a=>x==a) ((k+1:Nat):Int)=aGo l (fun a=>x==a) 0):=by show _=_;rw [<- HZ.out,hstep.out,if_neg (by rw [h0];decide)];rfl
    go_wp2_with fail
    go_roundg (gk-1)
    case rel=>exact ⟨k+1,by omega,HZ2,by go_num,rfl⟩
    case measure=>omega
  .go_wp2_with fail
   go_ret;have hz:=HZ.out;rw [List.drop_eq_nil_of_le (by omega)] at hz
   exact ⟨aA4 hz,rfl⟩
theorem aP3 (A:Option Addr) (n c:Nat) (l:List Int) (x:Int) (w:World) (h:aB7 w A n l) (hl:n<=1000) :
  Calls prog 280 #[.slice A n c,.int .i64 x] w fun e w'=>e = .returned (.bool (decide (x∈l)))/\w=w':=by
 obtain rfl:=h.1;have H:=aA1 h;clear h
 have HF:Hid (decide (x∈l)=decide (0<=aGo l (fun a=>x==a) 0)):=by
  show decide (x∈l)=_
  rw [Bool.eq_iff_iff];simp [bFw l x 0 (by omega)]
 go_enter func280,ntmps280
 go_wp2_with (go_at_call 281;refine (bFy _ _ _ l _ _ H.out hl).mono ?_;rintro e w' ⟨rfl,rfl⟩)
 go_ret;exact ⟨aA2 HF.out.symm,rfl⟩
theorem bL0 (A:Option Addr) (n c:Nat) (l:List Int) (w:World) (h:aB7 w A n l) (hl:n<=1000) :
  Calls prog 278 #[.slice A n c] w fun e w'=>e = .returned (.int .i64 (bJ9 l))/\w=w':=by
 obtain rfl:=h.1;have H:=aA1 h;clear h;have hcl:=aUx l 0;go_enter func278,ntmps278
 go_wp2_with fail
 go_loopg [3] (aO8 l 0) (fun g rv wr=>∃ (k:Int),0<=k/\k+g=aO8 l 0/\aO8 l k<=g/\Hid (aKs l g k=bJ9 l)/\rv = .int .i64 k/\w=wr)
 case atStart=>exact ⟨0,by omega,by omega,Nat.le_refl _,rfl,rfl,rfl⟩
 case round =>
  obtain ⟨k,hk0,hk,hg,HZ,rfl,rfl⟩:=hrel
  by_cases hm:k∈l
  .have hc:=aPw hm
   obtain ⟨g,rfl⟩:∃ g,gk=g+1:=⟨gk-1,by omega⟩
   have HZ2:Hid (aKs l g (k+1)=bJ9 l):=by
    have:=HZ.out;simp only [aKs] at this
    rw [if_pos hm] at this;exact this
   have hd:decide (k∈l)=true:=decide_eq_true hm;have hk6:k<=1000000:=by omega
   clear hm
   go_wp2_with (go_at_call 280;refine (aP3 _ _ _ l _ _ H.out hl).mono ?_;rintro e w' ⟨rfl,rfl⟩;rw [hd])
   go_roundg g
   case rel=>exact ⟨k+1,by omega,by omega,by omega,HZ2,rfl,rfl⟩
   case measure=>omega
  .have HZ2:Hid (k=bJ9 l):=by
    have:=HZ.out;cases gk with
    | zero=>exact this
    | succ g=>simp only [aKs] at this;rw [if_neg hm] at this;exact this
   have hd:decide (k∈l)=false:=decide_eq_false hm;clear hm
   go_wp2_with (go_at_call 280;refine (aP3 _ _ _ l _ _ H.out hl).mono ?_;rintro e w' ⟨rfl,rfl⟩;rw [hd])
   go_ret;exact ⟨aA4 HZ2.out,rfl⟩
theorem aVe (f:FuncId) (p:Int->Bool) (hf:∀ a w,Calls prog f #[.int .i64 a] w fun e w'=>e = .returned (.bool (p a))/\w=w') (hcall:∀ a w,(callFunc f #[a]).run prog w = .ok (.enter f #[a]) w)
  (A:Option Addr) (n c:Nat) (l:List Int) (w:World) (h:aB7 w A n l) (hl:n<=1000) :
  Calls prog 275 #[.slice A n c,.func (.func f) #[] #[]] w fun e w'=>e = .returned (.int .i64 (aGo l p 0))/\w=w':=by
 obtain rfl:=h.1;have H:=aA1 h;clear h;have HF:=aA1 hf;clear hf;go_enter func275,ntmps275
 go_wp2_with fail
 go_loopg [8] l.length (fun g iv wr=>∃ (k:Nat),k+g=l.length/\Hid (aGo (l.drop k) p k=aGo l p 0)/\iv = .int .i64 k/\w=wr)
 case atStart=>exact ⟨0,by omega,rfl,rfl,rfl⟩
 case round =>
  obtain ⟨k,hk,HZ,rfl,rfl⟩:=hrel
  by_cases hlt:k<l.length
  .obtain ⟨b,o,rfl,hb,hc⟩:=H.out.at_ k hlt
   have hstep:Hid (aGo (l.drop k) p k=if p l[k]=true then (k:Int) else aGo (l.drop (k+1)) p ((k:Int)+1)):=by
    show aGo (l.drop k) p k=_
    rw [List.drop_eq_getElem_cons hlt];rfl
   cases h0:p l[k] with
   | true =>
    have HZ2:Hid ((k:Int)=aGo l p 0):=by show _=_;rw [<- HZ.out,hstep.out,if_pos h0]
    go_wp2_with (((with_reducible refine (HF.out _ _).mono ?_);rintro e w' ⟨rfl,rfl⟩;rw [h0]))
    go_ret;exact ⟨aA4 HZ2.out,rfl⟩
   | false =>
    have HZ2:Hid (aGo (l.drop (k+1)) p ((k+1:Nat):Int)=aGo l p 0):=by show _=_;rw [<- HZ.out,hstep.out,if_neg (by rw [h0];decide)];rfl
    go_wp2_with (((with_reducible refine (HF.out _ _).mono ?_);rintro e w' ⟨rfl,rfl⟩;rw [h0]))
    go_roundg (gk-1)
    case rel=>exact ⟨k+1,by omega,HZ2,by go_num,rfl⟩
    case measure=>omega
  .go_wp2_with fail
   go_ret;have hz:=HZ.out;rw [List.drop_eq_nil_of_le (by omega)] at hz
   exact ⟨aA4 hz,rfl⟩
theorem aTx (A:Option Addr) (n c:Nat) (l:List Int) (x:Int) (w:World) (h:aB7 w A n l) (hl:n<=1000) :
  Calls prog 221 #[.slice A n c,.int .i64 x] w fun e w'=>e = .returned (.bool (decide (x∈l)))/\w=w':=by
 obtain rfl:=h.1;have H:=aA1 h;clear h;go_enter func221,ntmps221
 go_wp2_with fail
 go_loopg [5] l.length (fun g iv wr=>∃ (k:Nat),k+g=l.length/\Hid (decide (x∈l.drop k)=decide (x∈l))/\iv = .int .i64 k/\w=wr)
 case atStart=>exact ⟨0,by omega,rfl,rfl,rfl⟩
 case round =>
  obtain ⟨k,hk,HZ,rfl,rfl⟩:=hrel
  by_cases hlt:k<l.length
  .obtain ⟨b,o,rfl,hb,hc⟩:=H.out.at_ k hlt
   have hstep:Hid (decide (x∈l.drop k)=((l[k]==x)||decide (x∈l.drop (k+1)))):=by
    show decide (x∈l.drop k)=_
    rw [List.drop_eq_getElem_cons hlt,Bool.eq_iff_iff];simp only [List.mem_cons,decide_eq_true_eq,Bool.or_eq_true,beq_iff_eq]
    exact ⟨fun h=>h.elim (fun e => .inl e.symm) .inr,fun h=>h.elim (fun e => .inl e.symm) .inr⟩
   cases h0:(l[k]==x) with
   | true =>
    have HZ2:Hid (true=decide (x∈l)):=by show _=_;rw [<- HZ.out,hstep.out,h0];rfl
    go_wp2_with fail
    go_ret;exact ⟨aA2 HZ2.out,rfl⟩
   | false =>
    have HZ2:Hid (decide (x∈l.drop (k+1))=decide (x∈l)):=by show _=_;rw [<- HZ.out,hstep.out,h0];rfl
    go_wp2_with fail
    go_roundg (gk-1)
    case rel=>exact ⟨k+1,by omega,HZ2,by go_num,rfl⟩
    case measure=>omega
  .go_wp2_with fail
   go_ret;have hz:=HZ.out;rw [List.drop_eq_nil_of_le (by omega)] at hz
   exact ⟨aA2 (by simpa using hz),rfl⟩
theorem bBs (A:Option Addr) (n c:Nat) (l:List Int) (op:Int) (w:World) (h:aB7 w A n l) (hl:n<=1000) (h1:20<=op) (h2:op<=29) (hn:∀ x∈l,Num x) :
  Calls prog 266 #[.int .i64 op,.slice A n c] w fun e w'=>e = .returned (.int .i64 (aLu op l))/\w=w':=by
 obtain rfl:=h.1;have H:=aA1 h;clear h;have HN:=aA1 hn;clear hn;have hcase:op=20∨op=21∨op=22∨op=23∨op=24∨op=25∨op=26∨op=27∨op=28∨op=29:=by omega
 clear h1 h2
 rcases hcase with h | h | h | h | h | h | h | h | h | h
 .subst h
  go_enter func266,ntmps266
  go_wp2_with (first
   | (go_at_call 274;refine (aQq _ _ _ l _ H.out hl).mono ?_;rintro e w' ⟨rfl,rfl⟩)
   | (go_at_call 265;refine (aEz _ _).mono ?_;rintro e w' ⟨rfl,rfl⟩))
  go_ret;exact ⟨rfl,rfl⟩
 .subst h
  go_enter func266,ntmps266
  go_wp2_with (first
   | (go_at_call 274;refine (aQq _ _ _ l _ H.out hl).mono ?_;rintro e w' ⟨rfl,rfl⟩)
   | (go_at_call 265;refine (aEz _ _).mono ?_;rintro e w' ⟨rfl,rfl⟩))
  go_ret;exact ⟨rfl,rfl⟩
 .subst h
  go_enter func266,ntmps266
  go_wp2_with (first
   | (go_at_call 274;refine (aQq _ _ _ l _ H.out hl).mono ?_;rintro e w' ⟨rfl,rfl⟩))
  go_ret;exact ⟨rfl,rfl⟩
 .subst h
  have HF:Hid (aGo l (fun a=>a != 0) 0=aLu 23 l):=bA6 l 0;go_enter func266,ntmps266
  go_wp2_with (go_at_call 275;refine (aVe 276 (fun a=>a != 0) (fun a w=>bFr a w) (fun _ _=>by kernel_rfl) _ _ _ l _ H.out hl).mono ?_;rintro e w' ⟨rfl,rfl⟩)
  go_ret;exact ⟨aA4 HF.out,rfl⟩
 .subst h
  go_enter func266,ntmps266
  go_wp2_with fail
  go_loopg [5,42] l.length (fun g mv iv wr=>∃ (k:Nat) (z:Int),k+g=l.length/\Hid ((l.drop k).foldl min z=aLu 24 l)/\mv = .int .i64 z/\iv = .int .i64 k/\w=wr)
  case atStart=>exact ⟨0,_,by omega,rfl,rfl,rfl,rfl⟩
  case round =>
   obtain ⟨k,z,hk,HZ,rfl,rfl,rfl⟩:=hrel
   by_cases hlt:k<l.length
   .obtain ⟨b,o,rfl,hb,hc⟩:=H.out.at_ k hlt
    obtain ⟨m,hm,hm'⟩:=aKo z l[k]
    have HZ2:Hid ((l.drop (k+1)).foldl min m=aLu 24 l):=by
     have:=HZ.out;rw [List.drop_eq_getElem_cons hlt,List.foldl_cons,<- hm'] at this;exact this
    clear hm'
    go_wp2_with fail
    go_roundg (gk-1)
    case rel=>exact ⟨k+1,m,by omega,HZ2,rfl,by go_num,rfl⟩
    case measure=>omega
   .go_wp2_with fail
    go_ret;have hz:=HZ.out;rw [List.drop_eq_nil_of_le (by omega)] at hz
    exact ⟨aA4 hz,rfl⟩
 .subst h
  go_enter func266,ntmps266
  go_wp2_with (first
   | (go_at_call 277;refine (bHk _ _ _ l _ H.out hl).mono ?_;rintro e w' ⟨rfl,rfl⟩))
  go_ret;exact ⟨rfl,rfl⟩
 .subst h
  go_enter func266,ntmps266
  go_wp2_with fail
  go_loopg [10,63] l.length (fun g sv iv wr=>∃ (k:Nat) (z:Int),k+g=l.length /\ -(1073741824*k)<=z/\z<=1073741824*k/\Hid (bAy ((l.drop k).foldl (·+·) z)=aLu 26 l)/\sv = .int .i64 z/\iv = .int .i64 k/\w=wr)
  case atStart=>exact ⟨0,0,by omega,by omega,by omega,rfl,rfl,rfl,rfl⟩
  case round =>
   obtain ⟨k,z,hk,hz1,hz2,HZ,rfl,rfl,rfl⟩:=hrel
   by_cases hlt:k<l.length
   .obtain ⟨b,o,rfl,hb,hc⟩:=H.out.at_ k hlt
    have hx:=HN.out l[k] (List.getElem_mem _);unfold Num at hx;obtain ⟨hx1,hx2⟩:=hx
    have HZ2:Hid (bAy ((l.drop (k+1)).foldl (·+·) (z+l[k]))=aLu 26 l):=by
     have:=HZ.out;rw [List.drop_eq_getElem_cons hlt,List.foldl_cons] at this;exact this
    go_wp2_with fail
    go_roundg (gk-1)
    case rel=>exact ⟨k+1,z+l[k],by omega,by omega,by omega,HZ2,rfl,by go_num,rfl⟩
    case measure=>omega
   .have hz:=HZ.out
    rw [List.drop_eq_nil_of_le (by omega)] at hz
    have HZ2:=aA1 hz;clear hz
    go_wp2_with (go_at_call 267;refine (aEl _ _).mono ?_;rintro e w' ⟨rfl,rfl⟩)
    go_ret;exact ⟨aA4 HZ2.out,rfl⟩
 .subst h
  go_enter func266,ntmps266
  go_wp2_with (first
   | (go_at_call 278;refine (bL0 _ _ _ l _ H.out hl).mono ?_;rintro e w' ⟨rfl,rfl⟩))
  go_ret;exact ⟨rfl,rfl⟩
 .subst h
  go_enter func266,ntmps266
  go_wp2_with (first
   | (go_at_call 277;refine (bHk _ _ _ l _ H.out hl).mono ?_;rintro e w' ⟨rfl,rfl⟩))
  go_ret;exact ⟨rfl,rfl⟩
 .subst h
  rcases l with _ | ⟨x,l⟩
  .go_enter func266,ntmps266
   go_wp2_with fail
   go_ret;exact ⟨rfl,rfl⟩
  .obtain ⟨b,o,rfl,hb,hc⟩:=H.out.at_ 0 (by simp)
   have hc':w.cell? ⟨b,o,none⟩=some (.int .i64 x):=by simpa using hc
   clear hc;have hne:(((x :: l).length:Int)==0)=false:=by simp;omega
   go_enter func266,ntmps266
   go_wp2_with fail
   go_ret;exact ⟨rfl,rfl⟩
structure Gathered (l:List Int) (k:Nat) (yes first least great second sum:Int):Prop where
 yes:yes+aDw (l.drop k)=aDw l
 first:(first<0->first = -1/\aFk (l.drop k) k=aFk l 0)/\(0<=first->first=aFk l 0)
 least:(l.drop k).foldl min least=minF l
 two:aMx (l.drop k) great second=bJu l
 ord:second<=great
 sum:(l.drop k).foldl (·+·) sum=sumF l
theorem aVa (l:List Int):Gathered l 0 0 (-1) 1073741824 (-1073741824) (-1073741824) 0 :=
 ⟨by simp,⟨fun _=>⟨rfl,rfl⟩,fun h=>by omega⟩,rfl,rfl,by omega,rfl⟩
theorem aV9 {l:List Int} {k:Nat} {yes first least great second sum:Int} (h:Gathered l k yes first least great second sum) (hk:k<l.length) :
  Gathered l (k+1) (if l[k]=0 then yes else yes+1) (if l[k]≠0/\first<0 then (k:Int) else first) (min least l[k]) (max great l[k]) (max second (min great l[k])) (sum+l[k]):=by
 have hd:=List.drop_eq_getElem_cons hk;obtain ⟨h1,⟨h2a,h2b⟩,h3,h4,h5,h6⟩:=h;rw [hd] at h1 h3 h4 h6;rw [aQp] at h1;refine ⟨?_,?_,?_,?_,?_,?_⟩
 .split <;> simp_all <;> omega
 .constructor
  .intro hf
   split at hf
   .omega
   .rename_i hc
    rw [if_neg hc];obtain ⟨e1,e2⟩:=h2a hf;refine ⟨e1,?_⟩
    rw [hd] at e2;simp only [aFk] at e2
    rw [if_neg (by intro h0;exact hc ⟨h0,hf⟩)] at e2
    exact e2
  .intro hf
   split
   .rename_i hc
    obtain ⟨e1,e2⟩:=h2a hc.2;rw [hd] at e2;simp only [aFk] at e2
    rw [if_pos hc.1] at e2;exact e2
   .rename_i hc
    rw [if_neg hc] at hf;exact h2b hf
 .rw [List.foldl_cons] at h3;exact h3
 .simp only [aMx] at h4
  by_cases hg:great<l[k]
  .rw [if_pos hg] at h4
   rw [show max great l[k]=l[k] by omega,show max second (min great l[k])=great by omega]
   exact h4
  .rw [if_neg hg] at h4
   rw [show max great l[k]=great by omega,show max second (min great l[k])=max second l[k] by omega]
   exact h4
 .omega
 .rw [List.foldl_cons] at h6;exact h6
theorem bAw (A:Option Addr) (n c:Nat) (l:List Int) (op:Int) (w:World) (h:aB7 w A n l) (hl:n<=1000) (h1:20<=op) (h2:op<=29) (hn:∀ x∈l,Num x) :
  Calls prog 164 #[.int .i64 op,.slice A n c] w fun e w'=>e = .returned (.int .i64 (aLu op l))/\w=w':=by
 obtain rfl:=h.1;have H:=aA1 h;clear h;have HN:=aA1 hn;clear hn;have HC:Hid (op=20∨op=21∨op=22∨op=23∨op=24∨op=25∨op=26∨op=27∨op=28∨op=29):=by show _∨_;omega
 clear h1 h2;go_enter func164,ntmps164
 go_wp2_with fail
 go_loopg [5,6,7,8,9,10,11] l.length (fun g yv fv lv gv sv mv iv wr=>∃ (k:Nat) (yes first least great second sum:Int),k+g=l.length/\0<=yes/\yes<=k /\ -(1073741824*k)<=sum/\sum<=1073741824*k/\Hid (Gathered l k yes first least great second sum) /\
  yv = .int .i64 yes/\fv = .int .i64 first/\lv = .int .i64 least/\gv = .int .i64 great/\sv = .int .i64 second/\mv = .int .i64 sum/\iv = .int .i64 k/\w=wr)
 case atStart=>exact ⟨0,0,-1,_,_,_,0,by omega,by omega,by omega,by omega,by omega,aVa l,rfl,rfl,rfl,rfl,rfl,rfl,rfl,rfl⟩
 case round =>
  obtain ⟨k,yes,first,least,great,second,sum,hk,hy1,hy2,hs1,hs2,HG,rfl,rfl,rfl,rfl,rfl,rfl,rfl,rfl⟩:=hrel
  by_cases hlt:k<l.length
  .obtain ⟨b,o,rfl,hb,hc⟩:=H.out.at_ k hlt
   have HS:=aA1 (aV9 HG.out hlt);have hx:=HN.out l[k] (List.getElem_mem _);unfold Num at hx;obtain ⟨hx1,hx2⟩:=hx;generalize l[k]=x at *;obtain ⟨m1,hm1,hm1'⟩:=aKo least x;obtain ⟨m2,hm2,hm2'⟩:=aKo great x;obtain ⟨m3,hm3,hm3'⟩:=aJk second m2;obtain ⟨m4,hm4,hm4'⟩:=aJk great x;have HS2:=HS.out;rw [<- hm1',<- hm2',<- hm3',<- hm4'] at HS2;have HS3:=aA1 HS2;clear HS2 HS hm1' hm2' hm3' hm4'
   by_cases h0:x=0
   .have hz:(x != 0)=false:=by simpa using h0
    have HS4:Hid (Gathered l (k+1) yes first m1 m4 m3 (sum+x)):=by
     have:=HS3.out;rw [if_pos h0,if_neg (by simp [h0])] at this
     exact this
    clear h0
    go_wp2_with fail
    go_roundg (gk-1)
    case rel=>exact ⟨k+1,yes,first,m1,m4,m3,sum+x,by omega,by omega,by omega,by omega,by omega,HS4,rfl,rfl,rfl,rfl,rfl,rfl,by go_num,rfl⟩
    case measure=>omega
   .have hz:(x != 0)=true:=by simpa using h0
    by_cases hf:first<0
    .have hfd:decide (first<0)=true:=by simpa using hf
     have HS4:Hid (Gathered l (k+1) (yes+1) k m1 m4 m3 (sum+x)):=by
      have:=HS3.out;rw [if_neg h0,if_pos ⟨h0,hf⟩] at this;exact this
     clear h0 hf
     go_wp2_with fail
     go_roundg (gk-1)
     case rel=>exact ⟨k+1,yes+1,k,m1,m4,m3,sum+x,by omega,by omega,by omega,by omega,by omega,HS4,rfl,rfl,rfl,rfl,rfl,rfl,by go_num,rfl⟩
     case measure=>omega
    .have hfd:decide (first<0)=false:=by simpa using hf
     have HS4:Hid (Gathered l (k+1) (yes+1) first m1 m4 m3 (sum+x)):=by
      have:=HS3.out;rw [if_neg h0,if_neg (fun h=>hf h.2)] at this;exact this
     clear h0 hf
     go_wp2_with fail
     go_roundg (gk-1)
     case rel=>exact ⟨k+1,yes+1,first,m1,m4,m3,sum+x,by omega,by omega,by omega,by omega,by omega,HS4,rfl,rfl,rfl,rfl,rfl,rfl,by go_num,rfl⟩
     case measure=>omega
  .obtain ⟨g1,⟨g2a,g2b⟩,g3,g4,g5,g6⟩:=HG.out
   rw [List.drop_eq_nil_of_le (by omega)] at g1 g2a g3 g4 g6
   have e1:yes=aDw l:=by simpa [aDw] using g1
   have e2:first=aFk l 0:=by
    by_cases hf:first<0
    .obtain ⟨a,b⟩:=g2a hf;rw [a,<- b];rfl
    .exact g2b (by omega)
   have e3:least=minF l:=g3;have e4:bJu l=(great,second):=g4.symm;have e5:sum=sumF l:=g6;clear g1 g2a g2b g3 g4 g5 g6 HG;have E1:=aA1 e1;have E2:=aA1 e2;have E3:=aA1 e3;have E4:=aA1 e4;have E5:=aA1 e5;clear e1 e2 e3 e4 e5;have hcl:=aUx l 0
   rcases HC.out with h | h | h | h | h | h | h | h | h | h
   case inr.inr.inr.inr.inr.inr.inr.inl =>
    subst h
    go_wp2_with fail
    go_loopg [12] (aO8 l 0) (fun g rv wr=>∃ (q:Int),0<=q/\q+g=aO8 l 0/\aO8 l q<=g/\Hid (aKs l g q=bJ9 l)/\rv = .int .i64 q/\w=wr)
    case atStart=>exact ⟨0,by omega,by omega,Nat.le_refl _,rfl,rfl,rfl⟩
    case round =>
     obtain ⟨q,hq0,hq,hg,HZ,rfl,rfl⟩:=hrel
     by_cases hm:q∈l
     .have hc:=aPw hm
      obtain ⟨g,rfl⟩:∃ g,gk=g+1:=⟨gk-1,by omega⟩
      have HZ2:Hid (aKs l g (q+1)=bJ9 l):=by
       have:=HZ.out;simp only [aKs] at this
       rw [if_pos hm] at this;exact this
      have hd:decide (q∈l)=true:=decide_eq_true hm;have hk6:q<=1000000:=by omega
      clear hm
      go_wp2_with (go_at_call 221;refine (aTx _ _ _ l _ _ H.out hl).mono ?_;rintro e w' ⟨rfl,rfl⟩;rw [hd])
      go_roundg g
      case rel=>exact ⟨q+1,by omega,by omega,by omega,HZ2,rfl,rfl⟩
      case measure=>omega
     .have HZ2:Hid (q=bJ9 l):=by
       have:=HZ.out;cases gk with
       | zero=>exact this
       | succ g=>simp only [aKs] at this;rw [if_neg hm] at this;exact this
      have hd:decide (q∈l)=false:=decide_eq_false hm;clear hm
      go_wp2_with (go_at_call 221;refine (aTx _ _ _ l _ _ H.out hl).mono ?_;rintro e w' ⟨rfl,rfl⟩;rw [hd])
      go_ret;exact ⟨aA4 HZ2.out,rfl⟩
   case inr.inr.inr.inr.inr.inr.inr.inr.inr =>
    subst h;clear E1 E2 E3 E4 E5
    by_cases h0:l.length=0
    .have HZ:Hid ((0:Int)=aLu 29 l):=by show _=_;rw [List.length_eq_zero_iff.1 h0];rfl
     have hb0:((l.length:Int)==0)=true:=by simp;exact List.length_eq_zero_iff.1 h0
     go_wp2_with fail
     go_ret;exact ⟨aA4 HZ.out,rfl⟩
    .obtain ⟨b,o,rfl,hb,hc⟩:=H.out.at_ 0 (by omega)
     have HZ:Hid (l[0]'(by omega)=aLu 29 l):=by
      show _=_
      cases l with
      | nil=>simp at h0
      | cons x l=>rfl
     have hc':w.cell? ⟨b,o,none⟩=some (.int .i64 (l[0]'(by omega))):=by simpa using hc
     clear hc;have hb0:((l.length:Int)==0)=false:=by simp;intro hh;rw [hh] at h0;exact h0 rfl
     have hpos:0<l.length:=by omega
     generalize (l[0]'(by omega):Int)=x0 at *
     clear h0
     go_wp2_with fail
     go_ret;exact ⟨aA4 HZ.out,rfl⟩
   all_goals
    subst h
    go_wp2_with (first
     | (go_at_call 219;refine (aD3 _ _).mono ?_;rintro e w' ⟨rfl,rfl⟩)
     | (go_at_call 220;refine (aL3 _ _).mono ?_;rintro e w' ⟨rfl,rfl⟩))
    go_ret;refine ⟨aA4 ?_,rfl⟩
    simp only [aLu]
    first
     | (rw [E1.out];rfl)
     | (rw [E2.out];rfl)
     | (rw [E3.out];rfl)
     | (rw [E4.out];rfl)
     | (rw [E5.out];rfl)
def aT9:List (Int × Int)->Int->List Int × Int
 | [],k=>([],k)
 | b :: bs,k=>((b.1+(aT9 bs k).2 % (b.2-b.1+1)) :: (aT9 bs k).1,(aT9 bs k).2 / (b.2-b.1+1))
def aU6:List (List (Int × Int))->Int->List (List Int) × Int
 | [],k=>([],k)
 | t :: T,k=>((aT9 t (aU6 T k).2).1 :: (aU6 T k).1,(aT9 t (aU6 T k).2).2)
theorem aQu {k s S:Int} (hs:0<s) (hS:0<S) (_:0<=k):k % (s*S) / S=k / S % s/\k % (s*S) % S=k % S:=by
 have h1:k % (s*S)=k % (S*s):=by rw [Int.mul_comm]
 have hq:=Int.emod_add_mul_ediv k S;have hq2:=Int.emod_add_mul_ediv (k / S) s;have h0:=Int.emod_nonneg k (show S≠0 by omega)
 have h0':=Int.emod_lt_of_pos k hS;have h2:=Int.emod_nonneg (k / S) (show s≠0 by omega)
 have h2':=Int.emod_lt_of_pos (k / S) hs
 have e:k=(S*(k / S % s)+k % S)+(s*S)*(k / S / s):=by
  have h3:S*(k / S)=S*(k / S % s)+S*(s*(k / S / s)):=by rw [<- Int.mul_add,hq2]
  have h4:(s*S)*(k / S / s)=S*(s*(k / S / s)):=by rw [Int.mul_comm s S,Int.mul_assoc]
  omega
 have e2:k % (s*S)=S*(k / S % s)+k % S:=by
  have hlt:S*(k / S % s)+k % S<s*S:=by
   have:S*(k / S % s)+S<=S*s:=by
    have:=Int.mul_le_mul_of_nonneg_left (show k / S % s+1<=s by omega) (Int.le_of_lt hS)
    rw [Int.mul_add,Int.mul_one] at this;exact this
   rw [Int.mul_comm s S];omega
  have hnn:0<=S*(k / S % s)+k % S:=by
   have:=Int.mul_nonneg (Int.le_of_lt hS) h2;omega
  conv=>lhs;rw [e]
  rw [Int.add_mul_emod_self_left,Int.emod_eq_of_lt hnn hlt]
 rw [e2];constructor
 .rw [Int.add_comm,Int.add_mul_ediv_left _ _ (by omega),Int.ediv_eq_zero_of_lt h0 h0',Int.zero_add]
 .rw [Int.add_comm,Int.add_mul_emod_self_left,Int.emod_eq_of_lt h0 h0']
theorem bH2:∀ {bs:List (Int × Int)} {k:Int},okL bs->0<=k->aT9 bs k=(aO9 bs (k % aAp bs),k / aAp bs)
 | [],k,_,_=>by simp [aT9,aO9,aAp]
 | b :: bs,k,ho,hk=>by
  obtain ⟨hb,ho'⟩:=aF2 ho;have hS:=aCs ho';have ih:=bH2 ho' hk;obtain ⟨e1,e2⟩:=aQu (s:=b.2-b.1+1) (by omega) hS hk
  show (_ :: _,_)=((b.1+k % ((b.2-b.1+1)*aAp bs) / aAp bs) :: aO9 bs (k % ((b.2-b.1+1)*aAp bs) % aAp bs),k / ((b.2-b.1+1)*aAp bs))
  rw [ih,e1,e2,Int.mul_comm,<- Int.ediv_ediv_of_nonneg (Int.le_of_lt hS)]
theorem bH4:∀ {T:List (List (Int × Int))} {k:Int},okN T->0<=k->aU6 T k=(aLt T (k % aAq T),k / aAq T)
 | [],k,_,_=>by simp [aU6,aLt,aAq]
 | t :: T,k,ho,hk=>by
  obtain ⟨hb,ho'⟩:=aDx ho;have hS:=aEx ho';have ih:=bH4 ho' hk;have hs:=aCs hb;obtain ⟨e1,e2⟩:=aQu (s:=aAp t) hs hS hk;have hq:0<=k / aAq T:=Int.ediv_nonneg hk (by omega)
  show ((aT9 t (aU6 T k).2).1 :: (aU6 T k).1,(aT9 t (aU6 T k).2).2)=(aO9 t (k % (aAp t*aAq T) / aAq T) :: aLt T (k % (aAp t*aAq T) % aAq T),k / (aAp t*aAq T))
  rw [ih,bH2 hb hq,e1,e2,Int.mul_comm,<- Int.ediv_ediv_of_nonneg (Int.le_of_lt hS)]
theorem bH3 {T:List (List (Int × Int))} {k:Int} (ho:okN T) (h0:0<=k) (hk:k<aAq T):(aU6 T k).1=aLt T k:=by
 rw [bH4 ho h0];show aLt T (k % aAq T)=_
 rw [Int.emod_eq_of_lt h0 hk]
def aSz (t:List (Int × Int)) (k:Int) (x:Nat):List Int:=(aBt t).take x++(aT9 (t.drop x) k).1
def aT0 (T:List (List (Int × Int))) (k:Int) (v:Nat):List (List Int):=(aC3 T).take v++(aU6 (T.drop v) k).1
theorem aH5 (t:List (Int × Int)):(aBt t).length=t.length:=by simp [aBt]
theorem aCg (T:List (List (Int × Int))):(aC3 T).length=T.length:=by simp [aC3]
theorem bAn (t:List (Int × Int)) (k:Int):aSz t k t.length=aBt t:=by
 unfold aSz;rw [List.drop_length,List.take_of_length_le (by rw [aH5];exact Nat.le_refl _)];simp [aT9]
theorem bAo (T:List (List (Int × Int))) (k:Int):aT0 T k T.length=aC3 T:=by
 unfold aT0;rw [List.drop_length,List.take_of_length_le (by rw [aCg];exact Nat.le_refl _)];simp [aU6]
theorem bDv (t:List (Int × Int)) (k:Int):aSz t k 0=(aT9 t k).1:=by simp [aSz]
theorem bDx (T:List (List (Int × Int))) (k:Int):aT0 T k 0=(aU6 T k).1:=by simp [aT0]
theorem bDu {t:List (Int × Int)} {k:Int} {x:Nat} (hx:x<t.length) :
  aSz t k x=(aSz t k (x+1)).set x (t[x].1+(aT9 (t.drop (x+1)) k).2 % (t[x].2-t[x].1+1))/\(aT9 (t.drop x) k).2=(aT9 (t.drop (x+1)) k).2 / (t[x].2-t[x].1+1) /\
   (aSz t k (x+1))[x]?=some t[x].1:=by
 have hd:t.drop x=t[x] :: t.drop (x+1):=(List.drop_eq_getElem_cons hx);have hl:x<(aBt t).length:=by rw [aH5];exact hx
 have ht:(aBt t).take (x+1)=(aBt t).take x++[t[x].1]:=by
  rw [List.take_succ_eq_append_getElem hl];simp [aBt]
 have hlen:((aBt t).take x).length=x:=by rw [List.length_take];omega
 unfold aSz;rw [hd,ht];refine ⟨?_,rfl,?_⟩
 .rw [List.append_assoc,List.set_append_right _ _ (by omega),hlen,Nat.sub_self];rfl
 .rw [List.append_assoc,List.getElem?_append_right (by omega),hlen,Nat.sub_self];rfl
theorem bDw {T:List (List (Int × Int))} {k:Int} {v:Nat} (hv:v<T.length) :
  aT0 T k v=(aT0 T k (v+1)).set v (aT9 T[v] (aU6 (T.drop (v+1)) k).2).1/\(aU6 (T.drop v) k).2=(aT9 T[v] (aU6 (T.drop (v+1)) k).2).2 /\
   (aT0 T k (v+1))[v]?=some (aBt T[v]):=by
 have hd:T.drop v=T[v] :: T.drop (v+1):=(List.drop_eq_getElem_cons hv);have hl:v<(aC3 T).length:=by rw [aCg];exact hv
 have ht:(aC3 T).take (v+1)=(aC3 T).take v++[aBt T[v]]:=by
  rw [List.take_succ_eq_append_getElem hl];simp [aC3]
 have hlen:((aC3 T).take v).length=v:=by rw [List.length_take];omega
 unfold aT0;rw [hd,ht];refine ⟨?_,rfl,?_⟩
 .rw [List.append_assoc,List.set_append_right _ _ (by omega),hlen,Nat.sub_self];rfl
 .rw [List.append_assoc,List.getElem?_append_right (by omega),hlen,Nat.sub_self];rfl
theorem aS8:∀ {bs:List (Int × Int)} {k:Int},okL bs->0<=k->0<=(aT9 bs k).2/\(aT9 bs k).2<=k
 | [],k,_,hk=>⟨hk,Int.le_refl _⟩
 | b :: bs,k,ho,hk=>by
  obtain ⟨hb,ho'⟩:=aF2 ho;obtain ⟨h1,h2⟩:=aS8 ho' hk;have h3:=Int.ediv_nonneg h1 (show 0<=b.2-b.1+1 by omega)
  have h4:=Int.ediv_le_self (b.2-b.1+1) h1;exact ⟨h3,Int.le_trans h4 h2⟩
theorem aYx:∀ {T:List (List (Int × Int))} {k:Int},okN T->0<=k->0<=(aU6 T k).2/\(aU6 T k).2<=k
 | [],k,_,hk=>⟨hk,Int.le_refl _⟩
 | t :: T,k,ho,hk=>by
  obtain ⟨hb,ho'⟩:=aDx ho;obtain ⟨h1,h2⟩:=aYx ho' hk;obtain ⟨h3,h4⟩:=aS8 hb h1;exact ⟨h3,Int.le_trans h4 h2⟩
theorem aNm {t:List (Int × Int)} (h:okL t) (x:Nat):okL (t.drop x):=fun b hb=>h b (List.mem_of_mem_drop hb)
theorem aQ2 {T:List (List (Int × Int))} (h:okN T) (x:Nat):okN (T.drop x):=fun b hb=>h b (List.mem_of_mem_drop hb)
theorem aQc (b:Int × Int) (bs:List (Int × Int)) (c:Int) (cs:List Int):aGg (b :: bs) (c :: cs)=if (aGg bs cs).2 then (if c<b.2 then ((c+1) :: (aGg bs cs).1,false) else (b.1 :: (aGg bs cs).1,true)) else (c :: (aGg bs cs).1,false):=rfl
theorem aQd (t:List (Int × Int)) (T:List (List (Int × Int))) (c:List Int) (C:List (List Int)):aI3 (t :: T) (c :: C)=if (aI3 T C).2 then ((aGg t c).1 :: (aI3 T C).1,(aGg t c).2) else (c :: (aI3 T C).1,false):=rfl
theorem bBb:∀ (x:Nat) (bs:List (Int × Int)) (cs:List Int),cs.length=bs.length->(aGg (bs.drop x) (cs.drop x)).2=false->aGg bs cs=(cs.take x++(aGg (bs.drop x) (cs.drop x)).1,false)
 | 0,bs,cs,_,h=>by
  simp only [List.drop_zero,List.take_zero,List.nil_append] at *
  rw [<- h]
 | x+1,[],cs,_,h=>by simp [aGg] at h
 | x+1,b :: bs,[],hl,_=>by simp at hl
 | x+1,b :: bs,c :: cs,hl,h=>by
  have ih:=bBb x bs cs (by simpa using hl) h
  simp only [List.drop_succ_cons,List.take_succ_cons]
  rw [aQc,ih];rfl
theorem bBc:∀ (v:Nat) (T:List (List (Int × Int))) (C:List (List Int)),C.length=T.length->(aI3 (T.drop v) (C.drop v)).2=false->aI3 T C=(C.take v++(aI3 (T.drop v) (C.drop v)).1,false)
 | 0,bs,cs,_,h=>by
  simp only [List.drop_zero,List.take_zero,List.nil_append] at *
  rw [<- h]
 | x+1,[],cs,_,h=>by simp [aI3] at h
 | x+1,b :: bs,[],hl,_=>by simp at hl
 | x+1,b :: bs,c :: cs,hl,h=>by
  have ih:=bBc x bs cs (by simpa using hl) h
  simp only [List.drop_succ_cons,List.take_succ_cons]
  rw [aQd,ih];rfl
def aLs (t:List (Int × Int)) (c:List Int) (x:Nat):List Int:=c.take x++(aBt t).drop x
def aIv (T:List (List (Int × Int))) (C:List (List Int)) (v:Nat):List (List Int):=C.take v++(aC3 T).drop v
theorem bEw {bs:List (Int × Int)} {cs:List Int} (hin:inL bs cs) (h:(aGg bs cs).2=true):aGg bs cs=(aBt bs,true):=by
 have:=((aUn hin).2.1 h).2;rw [<- this,<- h]
theorem aTf {T:List (List (Int × Int))} {C:List (List Int)} (hin:inN T C) (h:(aI3 T C).2=true):aI3 T C=(aC3 T,true):=by
 have:=((aUo hin).2.1 h).2;rw [<- this,<- h]
theorem aIy:∀ {bs:List (Int × Int)} {cs:List Int},inL bs cs->cs.length=bs.length
 | [],[],_=>rfl
 | [],_ :: _,h=>h.elim
 | _ :: _,[],h=>h.elim
 | _ :: _,_ :: _,h=>by simpa using aIy h.2.2
theorem aLg:∀ {bs:List (List (Int × Int))} {cs:List (List Int)},inN bs cs->cs.length=bs.length
 | [],[],_=>rfl
 | [],_ :: _,h=>h.elim
 | _ :: _,[],h=>h.elim
 | _ :: _,_ :: _,h=>by simpa using aLg h.2
theorem aQ1:∀ {bs:List (Int × Int)} {cs:List Int} (x:Nat),inL bs cs->inL (bs.drop x) (cs.drop x)
 | _,_,0,h=>by simpa using h
 | [],[],_+1,_=>by simp [inL]
 | [],_ :: _,_,h=>h.elim
 | _ :: _,[],_,h=>h.elim
 | _ :: bs,_ :: cs,x+1,h=>by simpa using aQ1 x h.2.2
theorem aVd:∀ {bs:List (List (Int × Int))} {cs:List (List Int)} (x:Nat),inN bs cs->inN (bs.drop x) (cs.drop x)
 | _,_,0,h=>by simpa using h
 | [],[],_+1,_=>by simp [inN]
 | [],_ :: _,_,h=>h.elim
 | _ :: _,[],_,h=>h.elim
 | _ :: bs,_ :: cs,x+1,h=>by simpa using aVd x h.2
theorem aZj {t:List (Int × Int)} {c:List Int} (h:c.length=t.length):aLs t c t.length=c:=by
 unfold aLs;rw [List.take_of_length_le (by omega),List.drop_eq_nil_of_le (by rw [aH5];exact Nat.le_refl _),List.append_nil]
theorem aZk {T:List (List (Int × Int))} {C:List (List Int)} (h:C.length=T.length):aIv T C T.length=C:=by
 unfold aIv;rw [List.take_of_length_le (by omega),List.drop_eq_nil_of_le (by rw [aCg];exact Nat.le_refl _),List.append_nil]
theorem bCn {t:List (Int × Int)} {c:List Int}:aLs t c 0=aBt t:=by simp [aLs]
theorem bCp {T:List (List (Int × Int))} {C:List (List Int)}:aIv T C 0=aC3 T:=by simp [aIv]
theorem aWj {T:List (List (Int × Int))} {C:List (List Int)} (h:C.length=T.length) {x:Nat} (hx:x<=T.length):(aIv T C x).length=T.length:=by
 unfold aIv;rw [List.length_append,List.length_take,List.length_drop,aCg];omega
theorem bCm {t:List (Int × Int)} {c:List Int} (h:c.length=t.length) {x:Nat} (hx:x<t.length):(aLs t c (x+1)).set x t[x].1=aLs t c x/\(aLs t c (x+1))[x]?=some (c[x]'(by omega)):=by
 have hl:x<(aBt t).length:=by rw [aH5];exact hx
 have hd:(aBt t).drop x=t[x].1 :: (aBt t).drop (x+1):=by rw [List.drop_eq_getElem_cons hl];simp [aBt]
 have ht:c.take (x+1)=c.take x++[c[x]'(by omega)]:=List.take_succ_eq_append_getElem _
 have hlen:(c.take x).length=x:=by rw [List.length_take];omega
 unfold aLs;rw [hd,ht];refine ⟨?_,?_⟩
 .rw [List.append_assoc,List.set_append_right _ _ (by omega),hlen,Nat.sub_self];rfl
 .rw [List.append_assoc,List.getElem?_append_right (by omega),hlen,Nat.sub_self];rfl
theorem bCo {T:List (List (Int × Int))} {C:List (List Int)} (h:C.length=T.length) {x:Nat} (hx:x<T.length):(aIv T C (x+1)).set x (aBt T[x])=aIv T C x/\(aIv T C (x+1))[x]?=some (C[x]'(by omega)):=by
 have hl:x<(aC3 T).length:=by rw [aCg];exact hx
 have hd:(aC3 T).drop x=aBt T[x] :: (aC3 T).drop (x+1):=by rw [List.drop_eq_getElem_cons hl];simp [aC3]
 have ht:C.take (x+1)=C.take x++[C[x]'(by omega)]:=List.take_succ_eq_append_getElem _
 have hlen:(C.take x).length=x:=by rw [List.length_take];omega
 unfold aIv;rw [hd,ht];refine ⟨?_,?_⟩
 .rw [List.append_assoc,List.set_append_right _ _ (by omega),hlen,Nat.sub_self];rfl
 .rw [List.append_assoc,List.getElem?_append_right (by omega),hlen,Nat.sub_self];rfl
theorem bEu {t:List (Int × Int)} {c:List Int} (hin:inL t c) {x:Nat} (hx:x<t.length) (hc:x<c.length) (hb:(aGg (t.drop (x+1)) (c.drop (x+1))).2=true) (hlt:c[x]<t[x].2) :
  aGg t c=((aLs t c (x+1)).set x (c[x]+1),false):=by
 have h1:=bEw (aQ1 (x+1) hin) hb
 have e:aGg (t.drop x) (c.drop x)=((c[x]+1) :: aBt (t.drop (x+1)),false):=by
  rw [List.drop_eq_getElem_cons hx,List.drop_eq_getElem_cons hc];rw [aQc];rw [h1,if_pos rfl,if_pos hlt]
 rw [bBb x t c (aIy hin) (by rw [e]),e]
 have ht:c.take (x+1)=c.take x++[c[x]]:=List.take_succ_eq_append_getElem hc;have hlen:(c.take x).length=x:=by rw [List.length_take];omega
 unfold aLs;rw [ht,List.append_assoc,List.set_append_right _ _ (by omega),hlen,Nat.sub_self]
 simp [aBt]
theorem bKj {t:List (Int × Int)} {c:List Int} {x:Nat} (hx:x<t.length) (hc:x<c.length) (hb:(aGg (t.drop (x+1)) (c.drop (x+1))).2=true) (hlt:¬ c[x]<t[x].2) :
  (aGg (t.drop x) (c.drop x)).2=true:=by
 rw [List.drop_eq_getElem_cons hx,List.drop_eq_getElem_cons hc];rw [aQc,hb,if_pos rfl,if_neg hlt]
theorem bEv {T:List (List (Int × Int))} {C:List (List Int)} (hin:inN T C) {v:Nat} (hv:v<T.length) (hc:v<C.length) (hb:(aI3 (T.drop (v+1)) (C.drop (v+1))).2=true) (hlt:(aGg T[v] C[v]).2=false) :
  (aI3 T C).1=(aIv T C (v+1)).set v (aGg T[v] C[v]).1:=by
 have h1:=aTf (aVd (v+1) hin) hb
 have e:aI3 (T.drop v) (C.drop v)=((aGg T[v] C[v]).1 :: aC3 (T.drop (v+1)),false):=by
  rw [List.drop_eq_getElem_cons hv,List.drop_eq_getElem_cons hc];rw [aQd];rw [h1,if_pos rfl,hlt]
 rw [bBc v T C (aLg hin) (by rw [e]),e]
 have ht:C.take (v+1)=C.take v++[C[v]]:=List.take_succ_eq_append_getElem hc;have hlen:(C.take v).length=v:=by rw [List.length_take];omega
 unfold aIv;rw [ht,List.append_assoc,List.set_append_right _ _ (by omega),hlen,Nat.sub_self]
 simp [aC3]
theorem bKk {T:List (List (Int × Int))} {C:List (List Int)} {v:Nat} (hv:v<T.length) (hc:v<C.length) (hb:(aI3 (T.drop (v+1)) (C.drop (v+1))).2=true) (hlt:(aGg T[v] C[v]).2=true) :
  (aI3 (T.drop v) (C.drop v)).2=true:=by
 rw [List.drop_eq_getElem_cons hv,List.drop_eq_getElem_cons hc];rw [aQd,hb,if_pos rfl,hlt]
theorem bI6 (t:List (Int × Int)) (c:List Int):(aGg (t.drop t.length) (c.drop t.length)).2=true:=by
 rw [List.drop_length];simp [aGg]
theorem bI7 (T:List (List (Int × Int))) (C:List (List Int)):(aI3 (T.drop T.length) (C.drop T.length)).2=true:=by
 rw [List.drop_length];simp [aI3]
theorem aU9:∀ {bs:List (Int × Int)} (x:Nat),okL bs->aAp (bs.drop x)<=aAp bs
 | bs,0,_=>by simp
 | [],_+1,_=>by simp
 | b :: bs,x+1,ho=>by
  obtain ⟨hb,ho'⟩:=aF2 ho;have ih:=aU9 x ho';have hp:=aCs ho';have:=aK7 (r:=aAp bs) (s:=b.2-b.1+1) (by omega) (by omega)
  rw [Int.mul_comm] at this;show aAp (bs.drop x)<=(b.2-b.1+1)*aAp bs
  omega
theorem aUa:∀ {T:List (List (Int × Int))} (v:Nat),okN T->aAq (T.drop v)<=aAq T
 | T,0,_=>by simp
 | [],_+1,_=>by simp
 | t :: T,x+1,ho=>by
  obtain ⟨hb,ho'⟩:=aDx ho;have ih:=aUa x ho';have hp:=aEx ho';have hq:=aCs hb;have:=aK7 (r:=aAq T) (s:=aAp t) (by omega) (by omega)
  rw [Int.mul_comm] at this;show aAq (T.drop x)<=aAp t*aAq T
  omega
theorem aSc {T:List (List (Int × Int))} (ho:okN T) {M:Int} (hM:aAq T<=M) {v:Nat} (hv:v<T.length) (x:Nat) :
  1<=aAp (T[v].drop x)*aAq (T.drop (v+1))/\aAp (T[v].drop x)*aAq (T.drop (v+1))<=M:=by
 have hok:okL T[v]:=ho _ (List.getElem_mem hv);have h1:=aCs (aNm hok x);have h2:=aEx (aQ2 ho (v+1));have h3:=aU9 x hok;have h4:=aUa v ho;rw [List.drop_eq_getElem_cons hv] at h4;have h5:aAq (T[v] :: T.drop (v+1))=aAp T[v]*aAq (T.drop (v+1)):=rfl;rw [h5] at h4;have h6:=Int.mul_le_mul_of_nonneg_right h3 (Int.le_of_lt h2);have h7:=Int.mul_pos h1 h2;omega
def aOq (t:List (Int × Int)) (M:Int) (x:Nat):List Int:=List.replicate x 0++aE5 M (t.drop x)
theorem aEv:∀ (M:Int) (t:List (Int × Int)),(aE5 M t).length=t.length
 | _,[]=>rfl
 | M,_ :: t=>by show _+1=_+1;rw [aEv M t]
theorem aD8:∀ (T:List (List (Int × Int))),(aF8 T).length=T.length
 | []=>rfl
 | _ :: T=>by show _+1=_+1;rw [aD8 T]
theorem aYg {t:List (Int × Int)} {M:Int} {x:Nat} (hx:x<=t.length):(aOq t M x).length=t.length:=by
 unfold aOq;rw [List.length_append,List.length_replicate,aEv,List.length_drop];omega
theorem bAs (t:List (Int × Int)) (M:Int):aOq t M t.length=List.replicate t.length 0:=by
 unfold aOq;rw [List.drop_length];simp [aE5]
theorem bE0 (t:List (Int × Int)) (M:Int):aOq t M 0=aE5 M t:=by simp [aOq]
theorem bGt {t:List (Int × Int)} {M:Int} {x:Nat} (hx:x<t.length):(aOq t M (x+1)).set x (aAp (t.drop (x+1))*M)=aOq t M x:=by
 unfold aOq;have hd:t.drop x=t[x] :: t.drop (x+1):=(List.drop_eq_getElem_cons hx);rw [hd,List.replicate_succ',List.append_assoc,List.set_append_right _ _ (by simp),List.length_replicate,Nat.sub_self]
 rfl
theorem aLp:∀ {T:List (List (Int × Int))} {v:Nat} (hv:v<T.length),(aF8 T)[v]?=some (aE5 (aAq (T.drop (v+1))) T[v])
 | t :: T,0,_=>by simp [aF8]
 | t :: T,v+1,hv=>by
  have:=aLp (T:=T) (v:=v) (by simpa using hv)
  simpa [aF8] using this
theorem aRt:∀ (M:Int) (t:List (Int × Int)) (x:Nat) (h:x<(aE5 M t).length),(aE5 M t)[x]=aAp (t.drop (x+1))*M
 | _,[],_,h=>by simp [aE5] at h
 | _,_ :: _,0,_=>rfl
 | M,_ :: t,x+1,h=>aRt M t x (by simpa [aE5] using h)
theorem bBp {n x:Nat} {pre:List Nat} (h:pre++[x] <+: (List.range n).reverse):x+pre.length+1=n:=by
 obtain ⟨t,ht⟩:=h;have hl:=congrArg List.length ht;simp at hl
 have hx:((List.range n).reverse)[pre.length]?=some x:=by
  rw [<- ht,List.append_assoc,List.getElem?_append_right (Nat.le_refl _),Nat.sub_self];rfl
 rw [List.getElem?_reverse (by simp;omega),List.length_range] at hx
 have:=(List.getElem?_eq_some_iff.1 hx).2;simp at this
 omega
theorem aX7 (n:Nat):(List.range n).reverse.length=n:=by simp
section
variable {P:Program} {ops:Array Oper} {Q:Exit->Act->World->Prop} {md:Region.Mode} {S:World->Prop} {Ls:List Nat}
def aCl (P:Program) (md:Region.Mode) (ops:Array Oper) (Q:Exit->Act->World->Prop) (S:World->Prop) (Ls:List Nat):Nat->Array Bool->Act->World->Prop
 | 0,listed,a,w=>Region.ready md ops listed=[]/\Q .normal a w
 | fuel+1,listed,a,w=>(Region.ready md ops listed=[]->Q .normal a w) /\
   ∀ i∈Region.ready md ops listed,wpOp P ops Q i (fun a' w'=>(i ∉ Ls->S w')/\aCl P md ops Q S Ls fuel (listed.setIfInBounds i true) a' w') a w
theorem aCl.any:∀ (fuel:Nat) (listed:Array Bool) (a:Act) (w:World),aCl P md ops Q S Ls fuel listed a w->wpAny P md ops Q fuel listed a w
 | 0,_,_,_,h=>h
 | fuel+1,_,_,_,h=>⟨h.1,fun i hi=>wpOp_mono (fun a' w' k=>aCl.any fuel _ a' w' k.2) (h.2 i hi)⟩
theorem aCl.first {i:Nat} {oi:Oper} {v:Value} (cs:List Nat) (hi:ops[i]?=some oi) (hsel:∀ (j:Nat) (o:Oper) cs b,ops[j]?=some o->o.op ≠ .select cs b)
  (hL:∀ l∈Ls,l∈cs) (hw:aPr md ops i cs=true)
  (hQ:∀ c a w,Q (.panic c) (a.put oi.dst v) w->Q (.panic c) a w) (fuel:Nat):∀ (listed:Array Bool) (a:Act) (w:World),
   (∀ j oj,ops[j]?=some oj->j≠i->listed.getD j true=false->(∀ e∈oj.after,Region.binds md e=true->e.on≠i)->oi.apart ops oj=true) ->
   i∈Region.ready md ops listed->aGl listed cs=true->YieldsIf P ops S oi v a->S w ->
   aCl P md ops Q S Ls fuel (listed.setIfInBounds i true) (a.put oi.dst v) w->aCl P md ops Q S Ls (fuel+1) listed a w:=by
 induction fuel with
 | zero =>
  intro listed a w _ hr _ hy hS H
  refine And.intro (fun h=>?_) (fun j hj=>?_)
  .rw [h] at hr;exact absurd hr (by simp)
  by_cases hji:j=i
  .subst hji;exact hy.wpOp hi hS ⟨fun _=>hS,H⟩
  .have:=ready_mono hj hji
   rw [H.1] at this;exact absurd this (by simp)
 | succ fuel ih =>
  intro listed a w hfree hr hun hy hS H
  refine And.intro (fun h=>?_) (fun j hj=>?_)
  .rw [h] at hr;exact absurd hr (by simp)
  by_cases hji:j=i
  .subst hji;exact hy.wpOp hi hS ⟨fun _=>hS,H⟩
  have hi0:=(mem_ready.1 hr).1;have hjc:=aY7 hj cs i hi0 hw hun;have hjL:j ∉ Ls:=fun e=>hjc (hL j e);obtain ⟨hjun,oj,hoj,hall⟩:=mem_ready.1 hj
  have hnot:∀ e∈oj.after,Region.binds md e=true->e.on≠i:=fun e he hb heq=>by
   have h1:=hall e he hb;rw [heq] at h1
   rcases Nat.lt_or_ge i listed.size with h' | h'
   .simp [h'] at hi0 h1;rw [hi0] at h1;cases h1
   .simp [Array.getElem?_eq_none h'] at h1
  have h2:=wpOp_putIf hoj (hfree j oj hoj hji hjun hnot) (fun cs b=>hsel i oi cs b hi) (fun cs b=>hsel j oj cs b hoj) hQ hy (H.2 j (ready_mono hj hji));refine wpOp_mono (fun a' w' h3=>?_) h2
  obtain ⟨hy',hS',hrest⟩:=h3;have hs':=hS' hjL;refine ⟨fun _=>hs',ih _ a' w' ?_ (ready_mono hr (Ne.symm hji)) ?_ hy' hs' (by rw [Array.setIfInBounds_comm _ _ hji];exact hrest)⟩
  .intro k ok hk hki hunk hno
   refine hfree k ok hk hki ?_ hno
   by_cases hjk:j=k
   .subst hjk;exact hjun
   .rw [getD_set_ne true hjk] at hunk;exact hunk
  .unfold aGl at hun ⊢
   rw [List.all_eq_true] at hun ⊢;intro c hc
   rw [getD_set_ne true (show j≠c from fun e=>hjc (by rw [e];exact hc))]
   exact hun c hc
theorem aCl.t {L:Nat} {oi:Oper} {v:Value} {fuel:Nat} {listed:Array Bool} {a:Act} {w:World} (i d:Nat) (hi:ops[i]?=some oi) (hd:oi.dst=some d)
  (hc:(Region.noSelect ops&&Region.free md ops listed i&&(Region.ready md ops listed).contains i&&((L :: Ls).all (aK5 md ops L 60 i).contains&&aPr md ops i (aK5 md ops L 60 i)&&aGl listed (aK5 md ops L 60 i)))=true)
  (hQ:∀ c a w,Q (.panic c) (a.put (some d) v) w->Q (.panic c) a w) (hS:S w) (hy:YieldsIf P ops S oi v a)
  (h:aCl P md ops Q S (L :: Ls) fuel (listed.setIfInBounds i true) (a.put (some d) v) w):aCl P md ops Q S (L :: Ls) (fuel+1) listed a w:=by
 rw [Bool.and_eq_true,Bool.and_eq_true,Bool.and_eq_true,Bool.and_eq_true,Bool.and_eq_true] at hc;exact aCl.first (aK5 md ops L 60 i) hi (Region.noSelect_spec hc.1.1.1) (fun l hl=>by have:=List.all_eq_true.1 hc.2.1.1 l hl;simpa using this) hc.2.1.2 (by rw [hd];exact hQ) fuel listed a w (Region.free_spec hi hc.1.1.2) (by simpa using hc.1.2) hc.2.2 hy hS (by rw [hd];exact h)
theorem aCl.one {i:Nat} {o:Oper} {fuel:Nat} {listed:Array Bool} {a:Act} {w:World} (hr:Region.ready md ops listed=[i]) (ho:ops[i]?=some o)
  (h:∀ K':Act->World->Prop,Shut (∀ a w,(i ∉ Ls->S w)->aCl P md ops Q S Ls fuel (listed.setIfInBounds i true) a w->K' a w)->if Region.wanted o (yielded ops a.tmps)=true then Oper.wp P o a w K' Q else K' (a.put o.dst undef) w) :
  aCl P md ops Q S Ls (fuel+1) listed a w:=by
 refine And.intro (fun h=>by rw [h] at hr;exact absurd hr (by simp)) (fun j hj=>?_)
 rw [hr] at hj;obtain rfl:j=i:=by simpa using hj
 exact wpOp_step ho (fun K' hK=>h K' (fun a w hS hW=>hK a w ⟨hS,hW⟩))
theorem aCl.two {i j:Nat} {o o2:Oper} {fuel:Nat} {listed:Array Bool} {a:Act} {w:World} (hr:Region.ready md ops listed=[i,j]) (ho:ops[i]?=some o) (ho2:ops[j]?=some o2)
  (h:∀ K':Act->World->Prop,Shut (∀ a w,(i ∉ Ls->S w)->aCl P md ops Q S Ls fuel (listed.setIfInBounds i true) a w->K' a w)->if Region.wanted o (yielded ops a.tmps)=true then Oper.wp P o a w K' Q else K' (a.put o.dst undef) w)
  (h2:∀ K':Act->World->Prop,Shut (∀ a w,(j ∉ Ls->S w)->aCl P md ops Q S Ls fuel (listed.setIfInBounds j true) a w->K' a w)->if Region.wanted o2 (yielded ops a.tmps)=true then Oper.wp P o2 a w K' Q else K' (a.put o2.dst undef) w) :
  aCl P md ops Q S Ls (fuel+1) listed a w:=by
 refine And.intro (fun h=>by rw [h] at hr;exact absurd hr (by simp)) (fun k hk=>?_)
 rw [hr] at hk;have hk':k=i∨k=j:=by simpa using hk
 rcases hk' with rfl | rfl
 .exact wpOp_step ho (fun K' hK=>h K' (fun a w hS hW=>hK a w ⟨hS,hW⟩))
 .exact wpOp_step ho2 (fun K' hK=>h2 K' (fun a w hS hW=>hK a w ⟨hS,hW⟩))
theorem aCl.done {listed:Array Bool} {a:Act} {w:World} (hr:Region.ready md ops listed=[]) (h:Q .normal a w):∀ fuel,aCl P md ops Q S Ls fuel listed a w
 | 0=>⟨hr,h⟩
 | _+1=>⟨fun _=>h,by rw [hr];simp⟩
theorem aCl.start (S:World->Prop) (Ls:List Nat) {id:Nat} {a:Act} {w:World} (hm:P.follows .mixedOrders=true)
  (h:aCl P .any ops Q S Ls ops.size (Array.replicate ops.size false) a w.drew):(Code.region id ops true).wp P Q a w :=
 wp_region_any hm (aCl.any _ _ _ _ h)
end
open Go.ChangeShapes Go.WideShapes Go.ChangeAt Go.RowKit Go.Deep
theorem Tryz.own:ownKnob prog.godebug=none:=by kernel_rfl
theorem Tryz.laidOut:laidOutB prog=true:=by kernel_rfl
theorem Tryz.cells_int:prog.cellsOf 3=1:=by kernel_rfl
section
variable {H:Type} {enc:TypeId × Value->H} {P:Program} {w:World} {base:Nat} {spare:Nat->Bool} {held:Bool}
theorem bIg {w:World} {a:Addr} {v:Value} (h:w.cell? a=some v):a.block<w.heap.size/\a.spot=none:=by
 unfold World.cell? at h;split at h
 .rename_i c e f hh
  refine ⟨?_,?_⟩
  .rcases Nat.lt_or_ge a.block w.heap.size with hlt | hge
   .exact hlt
   .rw [Array.getElem?_eq_none hge] at hh;cases hh
  .cases hs:a.spot with
   | none=>rfl
   | some s=>rw [hs] at h;simp at h
 .cases h
theorem bBa {b o k:Nat}:(⟨b,o,none⟩:Addr).add k=⟨b,o+k,none⟩:=by
 unfold Addr.add;split
 .rename_i h;subst h;rfl
 .rfl
theorem aMo {α:Type} [Inhabited α] {t e:TypeId} {size:Nat} {E:World->Nat->Nat->α->Prop} {Good:α->Prop} (ht:P.underlying t=some (.slice e)) (hC:P.cellsOf e=size) (hsz:0<size)
  (hE:∀ n cs y b o,(∀ j,j<size->w.cell? ⟨b,o+j,none⟩=cs[j]?)->cs.length=size->DataW.trod enc P w base spare held n e cs=some y->∃ x,E w b o x/\Good x)
  {fuel:Nat} {cs:List Value} {x:DataW H × List MemPlace} (h:DataW.trod enc P w base spare held fuel t cs=some x) :
  ∃ (A:Option Addr) (n c:Nat) (xs:List α),cs=[.slice A n c]/\aAh size E w A n xs/\(∀ x∈xs,Good x)/\n<=c/\c<=maxLen:=by
 rcases open_slice ht h with ⟨hcs,_⟩ | ⟨a,len,cap,m,n,D,Pl,hcs,hb,hl,hm,hmm,hx,hi⟩
 .exact ⟨none,0,0,[],hcs,aAh.nil,fun _ h=>by simp at h,Nat.le_refl _,by unfold maxLen;omega⟩
 .have hlm:len<=m:=by rw [hmm];split <;> omega
  rw [hC] at hi
  rcases Nat.eq_zero_or_pos len with h0 | h0
  .subst h0
   exact ⟨some a,0,cap,[],hcs,aAh.nil,fun _ h=>by simp at h,hl,hm⟩
  .have ha:a=⟨a.block,a.off,none⟩/\a.block<w.heap.size:=by
    obtain ⟨cs',hc,_⟩:=hi 0 (by omega)
    obtain ⟨_,hcl,hat⟩:=World.cells?_some hc;have h1:=hat 0 (by omega)
    rw [List.getElem?_eq_getElem (by omega)] at h1
    simp [Addr.add] at h1
    obtain ⟨h2,h3⟩:=bIg h1;exact ⟨by rw [<- h3],h2⟩
   obtain ⟨hae,hab⟩:=ha;generalize a.block=b at *;generalize a.off=o at *;subst hae
   have hch:∀ i,i<len->∃ x,E w b (o+i*size) x/\Good x:=by
    intro i hi'
    obtain ⟨cs',hc,htr⟩:=hi i (by omega)
    obtain ⟨_,hcl,hat⟩:=World.cells?_some hc;refine hE n cs' _ b (o+i*size) (fun j hj=>?_) hcl htr
    have:=hat j hj;rw [bBa,bBa] at this;exact this
   obtain ⟨f,hf⟩:=choose_lt hch;refine ⟨some ⟨b,o,none⟩,len,cap,(List.range len).map f,hcs,⟨by simp,fun i x hx=>?_⟩,fun x hx=>?_,hl,hm⟩
   .have hil:i<len:=by
     have:=(List.getElem?_eq_some_iff.1 hx).1;simpa using this
    rw [List.getElem?_map,List.getElem?_range hil] at hx;simp at hx
    subst hx;exact ⟨b,o,rfl,hab,(hf i hil).1⟩
   .obtain ⟨i,hi',rfl⟩:=List.mem_map.1 hx
    exact (hf i (List.mem_range.1 hi')).2
def aZd (x:Int):Prop := -9223372036854775808<=x/\x<=9223372036854775807
theorem aMh {x:Int} (h:(Lit.int .i64 x).wf=true):aZd x:=by
 simpa [aZd,Lit.wf,IntKind.min,IntKind.max,IntKind.signed,IntKind.bits] using h
theorem aRo {e:TypeId} (he:P.underlying e=some (.int .i64)):∀ n cs y b o,(∀ j,j<1->w.cell? ⟨b,o+j,none⟩=cs[j]?)->cs.length=1->DataW.trod enc P w base spare held n e cs=some y->∃ x,aKc w b o x/\aZd x:=by
 intro n cs y b o hat hl h
 obtain ⟨x,rfl,_,hwf⟩:=DataW.trod_int he h;refine ⟨x,?_,aMh hwf⟩
 have:=hat 0 (by omega)
 simpa [aKc] using this
theorem aOp {t e:TypeId} (ht:P.underlying t=some (.slice e)) (hC:P.cellsOf e=1) (he:P.underlying e=some (.int .i64)) {v:Value} {d:DataW H} {p:List MemPlace} {r:Reach} {b0:Nat} (h:DataW.Trod enc P w base spare held t v d p) (hv:Value.okWide P w r b0 t v) :
  ∃ (A:Option Addr) (n c:Nat) (xs:List Int),v = .slice A n c/\aB7 w A n xs/\(∀ x∈xs,aZd x)/\n<=c/\c<=maxLen:=by
 obtain ⟨a,l,c',rfl⟩:=okWide_slice ht hv;obtain ⟨fuel,h⟩:=h;obtain ⟨A,n,c,xs,hcs,hr,hg,h1,h2⟩:=aMo (E:=aKc) (Good:=aZd) ht hC (by decide) (aRo he) h
 exact ⟨A,n,c,xs,by simpa [Value.cells] using hcs,hr,hg,h1,h2⟩
end
section
variable {H:Type} {enc:TypeId × Value->H} {P:Program}
theorem aO1 (hl:laidOutB P=true) {W W':World} {sp:Nat->Bool} (hb:Below W.heap.size W W'):∀ {ts:List TypeId} {vs:List Value} {ds:List (DataW H)} {ps:List MemPlace},
  (∀ t∈ts,P.readableRec t=true/\t<P.types.size)->DataW.TrodAll enc P W 0 (fun _=>true) true ts vs ds ps->(∀ x∈ps,x.block<W.heap.size)->(∀ x∈ps,sp x.block=true)->DataW.TrodAll enc P W' 0 sp true ts vs ds ps
 | [],vs,ds,ps,_,h,_,_=>by
  obtain ⟨rfl,rfl,rfl⟩:=trodAll_nil h;exact trodAll_mk0
 | t :: ts,vs,ds,ps,hr,h,hlt,hsp=>by
  obtain ⟨v,vs',d,ds',p,q,rfl,rfl,rfl,hd,hrest⟩:=trodAll_cons h;refine trodAll_cons_mk ?_ (aO1 hl hb (fun t ht=>hr t (by simp [ht])) hrest (fun x hx=>hlt x (by simp [hx])) (fun x hx=>hsp x (by simp [hx])))
  exact WideElems.Trod_stays hl (hr t (by simp)).1 (hr t (by simp)).2 hd (fun x hx=>hb.same (hlt x (by simp [hx]))) (fun x hx=>hsp x (by simp [hx]))
theorem aLj {f:Func} {s:ChangeSpec} {apart fresh handsOn again:Bool} {W W':World} {args:Array Value} {ds gs:List (DataW H)} {before:List MemPlace} {tb:TypeId}
  (hl:laidOutB P=true) (hvs:s.vars=[]) (hr0:(f.params.toList.all fun t=>P.readableRec t&&decide (t<P.types.size))=true) (hres:f.resultTypes=#[tb]) (htb:P.underlying tb=some .bool)
  (hW:DataW.Whole enc P f.params.toList s.vars apart W args.toList ds gs before)
  (hfn:(s.fn H (ds++gs)).results=[.lit (.bool true)]/\(s.fn H (ds++gs)).args=ds/\(s.fn H (ds++gs)).vars=[])
  (hb:Bel W W'):s.post enc P f apart fresh handsOn again W args (.bool true) W':=by
 have hr:∀ t∈f.params.toList,P.readableRec t=true/\t<P.types.size:=fun t ht=>by
  have:=List.all_eq_true.1 hr0 t ht;simpa using this
 have hb':Below W.heap.size W W':=hb;have hlt:∀ p∈before,p.block<W.heap.size:=fun p hp=>hW.lt p hp;have hold:∀ p∈before,(fun b=>decide (b<W.heap.size)) p.block=true:=fun p hp=>by simpa using hlt p hp
 have hWh:=hW;obtain ⟨pa,pv,hA,hV,hps,hz,hn⟩:=hW;rw [hvs] at hV;obtain ⟨hg,hpv⟩:=trodVars_none hV;subst hg;subst hpv;have hps':before=pa:=by simpa using hps
 subst hps'
 have hargs:∀ sp:Nat->Bool,(∀ p∈before,sp p.block=true)->DataW.TrodAll enc P W' 0 sp true f.params.toList args.toList (s.fn H (ds++[])).args before:=fun sp hsp=>by
  rw [hfn.2.1];exact aO1 hl hb' hr hA hlt hsp
 have hvars:∀ sp:Nat->Bool,DataW.TrodVars enc P W' sp s.vars (s.fn H (ds++[])).vars []:=fun sp=>by
  rw [hvs,hfn.2.2];exact rfl
 have hresT:∀ (b:Nat) (sp:Nat->Bool) (hd:Bool),DataW.TrodAll enc P W' b sp hd f.resultTypes.toList ((Value.bool true).resultList f.resultTypes.size) (s.fn H (ds++[])).results []:=fun b sp hd=>by
  rw [hres,hfn.1];exact trodAll_cons_mk (shut_bool htb _) trodAll_mk0
 refine ⟨ds,[],before,[],before,[],hWh,hresT _ _ _,hargs _ hold,hvars _,World.keptBut_mono (fun p hp=>⟨hp,?_⟩) (hb'.frame (·∈before)),fun _=>?_⟩
 .right;simpa using hp
 .refine ⟨ok_one hres rfl (okWide_bool_mk htb _),_,_,([]++before)++[],⟨[]++before,[],trodAll_append (hargs _ (fun _ _=>rfl)) (hresT _ _ _),hvars _,rfl,?_,?_⟩,?_⟩
  .intro b off hp
   have hin:MemPlace.cell b off∈before:=by simpa using hp
   rw [hb'.frozen (hlt _ hin)];exact hz b off hin
  .intro ha
   have:=hn ha;simpa using this
  .intro p hp _
   simpa using hp
end
theorem Tryz.cells_term:prog.cellsOf 115=2:=by kernel_rfl
def GoodT (t:Term):Prop:=aZd t.op/\aZd t.arg
theorem aEm {H:Type} {enc:TypeId × Value->H} {P:Program} {w:World} {base:Nat} {spare:Nat->Bool} {held:Bool} {m i n:Nat} {f:TypeId} {cs us:List Value} {xs:List (DataW H × List MemPlace)}
  (h:DataW.trod enc P w base spare held m f cs=xs[i]?) (hl:xs.length=n) (hi:i<n) (hcs:cs=us):∃ y,DataW.trod enc P w base spare held m f us=some y:=by
 subst hcs;rw [List.getElem?_eq_getElem (by omega)] at h
 exact ⟨_,h⟩
theorem aYe {H:Type} {enc:TypeId × Value->H} {w:World} {base:Nat} {spare:Nat->Bool} {held:Bool}:∀ n cs y b o,(∀ j,j<2->w.cell? ⟨b,o+j,none⟩=cs[j]?)->cs.length=2->DataW.trod enc prog w base spare held n 115 cs=some y->∃ x,aK3 w b o x/\GoodT x:=by
 intro n cs y b o hat hl h
 obtain ⟨xs,m,_,_,_,hxl,hf⟩:=DataW.trod_struct underlying115 h
 match cs,hl with
 | [u,v],_ =>
  obtain ⟨y0,h0⟩:=aEm (us:=[u]) (hf 0 _ rfl) hxl (by decide) (by simp [Tryz.cells_int])
  obtain ⟨y1,h1⟩:=aEm (us:=[v]) (hf 1 _ rfl) hxl (by decide) (by simp [Tryz.cells_int])
  obtain ⟨x0,hx0,_,wf0⟩:=DataW.trod_int underlying3 h0;obtain ⟨x1,hx1,_,wf1⟩:=DataW.trod_int underlying3 h1;simp at hx0 hx1
  subst hx0;subst hx1;exact ⟨⟨x0,x1⟩,⟨by simpa using hat 0 (by omega),by simpa using hat 1 (by omega)⟩,aMh wf0,aMh wf1⟩
end Go.Proofs.YtmifhmdghfbalaaGreatDoor

