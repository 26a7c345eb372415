/- Merged. -/
import Derived.Test.YtmoebklkkjbigaaGreatDoorZ05
set_option linter.unusedSimpArgs false
set_option linter.unnecessarySimpa false
set_option linter.unusedVariables false
set_option maxRecDepth 100000
set_option maxHeartbeats 4000000
open Go.Proofs.Tryz

namespace Go.Proofs.YtmoebklkkjbigaaGreatDoor
open Go.RowKit
theorem bAo {n v:Nat} {ls:List Link} {i:Nat} (h:i<ls.length) (hb:aMm n v ls[i]=false):aD8 n v ls=false:=by
 unfold aD8;rw [aCh h hb];rfl
theorem bAp {n v:Nat} {ls:List Link} {j i:Nat} (hj:j<i) (h:i<ls.length) (he:ls[j].to=ls[i].to):aD8 n v ls=false:=by
 unfold aD8
 have:decide ((ls.map Link.to).Nodup)=false:=by
  simp only [decide_eq_false_iff_not]
  exact aFw hj (by simpa using h) (by simpa using he)
 rw [this];simp
theorem aL2 (A:Option Addr) (c:Nat) (ls:List Link) (v n:Nat) (w:World) (h:aHj w A ls.length ls) (hl:ls.length<=1000000) (hn:n<=1000000) :
  Calls prog 22 #[.slice A ls.length c,.int .i64 v,.int .i64 n] w fun e w'=>e = .returned (.bool (aD8 n v ls))/\Bel w w':=by
 have H:=aA0 (fun w' (k:Bel w w')=>aHj.keep h k);clear h;go_enter func22,ntmps22;go_wp2
 go_loopg [7,8] ls.length (fun m x _y wr=>∃ j:Nat,j<=ls.length/\m=ls.length-j/\Hid ((ls.take j).all (aMm n v)=true/\((ls.map Link.to).take j).Nodup)/\x = .int .i64 j/\Bel w wr)
 case atStart=>exact ⟨0,by omega,rfl,⟨rfl,by simp⟩,rfl,Bel.refl _⟩
 case round =>
  obtain ⟨i,hi,rfl,HK,rfl,HB⟩:=hrel
  by_cases hlt:i<ls.length
  .obtain ⟨b,o,rfl,hb,hl1,hl2⟩:=(H.out _ HB).at_ i hlt
   cases hok:aMm n v ls[i] with
   | false =>
    have HF:=aA0 (bAo hlt hok);have HO:=aA0 hok;clear hok
    go_wp2_with (go_at_call 21;refine (aDo _ _ _ _).mono ?_;rintro e w' ⟨rfl,rfl⟩)
    all_goals first
     | (go_ret;exact ⟨aA1 HF.out.symm,HB⟩)
     | (exfalso
        have a1:inB ls[i].to 0 (↑n-1)=true:=by assumption
        obtain ⟨a2,a3'⟩:(ls[i].to==(v:Int))=false/\(!inB ls[i].weight 1 15)=false:=by assumption
        have a3:inB ls[i].weight 1 15=true:=by simpa using a3'
        rw [aQu] at a1 a3;have a4:ls[i].to≠(v:Int):=by simpa using a2
        have:=HO.out;rw [aBg.2 ⟨by omega,by omega,a4,by omega,by omega⟩] at this
        cases this)
   | true =>
    obtain ⟨q1,q2,q3,q4,q5⟩:=aBg.1 hok;have a1:inB ls[i].to 0 (↑n-1)=true:=aKb (by omega) (by omega)
    have a2:(ls[i].to==(v:Int))=false:=by simpa using q3
    have a3:inB ls[i].weight 1 15=true:=aKb (by omega) (by omega)
    have HO:=aA0 hok;clear hok q3
    go_wp2_with (go_at_call 21;refine (aDo _ _ _ _).mono ?_;rintro e w' ⟨rfl,rfl⟩)
    clear a1 a2 a3
    go_loopg [8] i (fun m x ws=>∃ j:Nat,j<=i/\m=i-j/\Hid (∀ q,(hq:q<j)->(hq':q<ls.length)->ls[q].to≠ls[i].to)/\x = .int .i64 j/\Bel wr ws)
    case atStart=>exact ⟨0,by omega,rfl,fun q hq=>absurd hq (by omega),rfl,Bel.refl _⟩
    case round =>
     obtain ⟨j,hj,rfl,HJ,rfl,HB2⟩:=hrel
     by_cases hlt2:j<i
     .have hji:j<ls.length:=by omega
      obtain ⟨b',o',e',hb',hj1,_⟩:=(H.out _ (HB.trans HB2)).at_ j hji;obtain ⟨rfl,rfl⟩:b=b'/\o=o':=by simpa using e'
      clear e';have hi1:=(HB2.cell hb).trans hl1;have hd:decide (j<i)=true:=by simpa using hlt2
      go_wp2
      go_quiet (fail)
      go_wp2
      .have he:(ls[j].to==ls[i].to)=true:=by assumption
       go_ret;exact ⟨aA1 (bAp hlt2 hlt (by simpa using he)).symm,(HB.trans HB2).drewN _⟩
      .have he:(ls[j].to==ls[i].to)=false:=by assumption
       go_roundg (i-(j+1))
       case rel =>
        refine ⟨j+1,by omega,rfl,?_,by go_num,HB2.drewN _⟩
        intro q hq hq'
        rcases Nat.lt_or_ge q j with h | h
        .exact HJ.out q h hq'
        .obtain rfl:q=j:=by omega
         simpa using he
       case measure=>omega
     .have hd:decide (j<i)=false:=by simpa using hlt2
      go_wp2
      go_roundg (ls.length-(i+1))
      case rel =>
       refine ⟨i+1,by omega,rfl,⟨aAp hlt HK.out.1 HO.out,aF4 (by simpa using hlt) HK.out.2 ?_⟩,by go_num,HB.trans HB2⟩
       intro q hq
       have:=HJ.out q (by omega) (by omega)
       simpa using this
      case measure=>omega
  .go_wp2
   go_ret;refine ⟨aA1 ?_,HB⟩
   symm
   rw [aBa];have h1:=HK.out;rw [List.take_of_length_le (by omega),List.take_of_length_le (by simp;omega)] at h1
   exact ⟨List.all_eq_true.1 h1.1,h1.2⟩
theorem aEs {g:Graph} (h:¬ GOK g):aG5 g=false:=by
 rw [Bool.eq_false_iff];intro hb;exact h ((aE6 g).1 hb)
theorem aE9 (v:Value) (g:Graph) (w:World) (h:aB2 w v g) (hlg:aBt g=true) :
  Calls prog 7 #[v] w fun e w'=>e = .returned (.bool (aG5 g))/\Bel w w':=by
 have HG:=aA0 (fun w' (k:Bel w w')=>h.keep k);obtain ⟨A,k,A2,k2,rfl,hI,_,_,hP,_,_⟩:=h;have HI:=aA0 (fun w' (k:Bel w w')=>aCr.keep hI k);clear hI;have HP:=aA0 (fun w' (k:Bel w w')=>aHk.keep hP k);clear hP;obtain ⟨hl1,hl2,hl3⟩:=aH2 hlg;have HL3:=aA0 hl3;clear hl3 hlg
 by_cases hn:1<=g.ports.length/\g.ports.length<=24/\g.ids.length=g.ports.length
 .obtain ⟨hn1,hn2,hn3⟩:=hn
  have hb1:inB (g.ports.length:Int) 1 24=true:=aKb (by omega) (by omega)
  rw [hn3] at HI HG ⊢;have HN:=aA0 hn3;clear hn3;have hb2:(g.ports.length != g.ports.length)=false:=by simp
  have HW:=Bel.refl (w.alloc (.cells #[.slice A g.ports.length k,.slice A2 g.ports.length k2] 25));go_enter func7,ntmps7
  go_wp2_with (go_at_call 21;refine (aDo _ _ _ _).mono ?_;rintro e w' ⟨rfl,rfl⟩)
  clear hb1 hb2
  go_loopg [4,5] g.ports.length (fun m x _y wr=>∃ j:Nat,j<=g.ports.length/\m=g.ports.length-j/\Hid ((g.ids.take j).all (fun i=>decide (0<=i/\i<=255))=true/\(g.ids.take j).Nodup/\∀ q,q<j->(hq:q<g.ports.length)->aD8 g.ports.length q g.ports[q]=true)/\x = .int .i64 j/\Bel (w.alloc (.cells #[.slice A g.ports.length k,.slice A2 g.ports.length k2] 25)) wr)
  case atStart=>exact ⟨0,by omega,rfl,⟨rfl,by simp,fun q hq=>absurd hq (by omega)⟩,rfl,HW⟩
  case round =>
   clear HW;obtain ⟨i,hi,rfl,HK,rfl,HB⟩:=hrel;have b0:=aAq HB 0 rfl;have b1:=aAq HB 1 rfl;have bs:=aDd HB
   by_cases hlt:i<g.ports.length
   .have hd0:decide (i<g.ports.length)=true:=by simpa using hlt
    have hlt':i<g.ids.length:=by rw [HN.out];exact hlt
    obtain ⟨b,o,rfl,hb,hid⟩:=(HI.out _ (aA6 HB)).at_ i hlt';obtain ⟨b',o',R,c',rfl,hb',hrow,hL,_,_⟩:=(HP.out _ (aA6 HB)).at_ i hlt;have HL:=aA0 hL;clear hL;have hle:=HL3.out g.ports[i] (List.getElem_mem hlt);cases hio:decide (0<=g.ids[i]/\g.ids[i]<=255) with
    | false =>
     have hio':=of_decide_eq_false hio;have HF:Hid (aG5 g=false):=aEs fun hg=>hio' (hg.idr _ (List.getElem_mem hlt'));have hin:inB g.ids[i] 0 255=false:=aQt (by omega)
     clear hio hio'
     go_wp2_with (go_at_call 21;refine (aDo _ _ _ _).mono ?_;rintro e w' ⟨rfl,rfl⟩)
     go_ret;exact ⟨aA1 HF.out.symm,aA6 HB⟩
    | true =>
     have hio':=of_decide_eq_true hio;have hin:inB g.ids[i] 0 255=true:=aKb hio'.1 hio'.2;have HIO:=aA0 hio;clear hio hio';cases hok:aD8 g.ports.length i g.ports[i] with
     | false =>
      have HF:Hid (aG5 g=false):=aEs fun hg=>by have:=hg.links i hlt;rw [hok] at this;cases this
      by_cases hge:g.ports.length<=g.ports[i].length
      .have hd:decide (g.ports.length<=g.ports[i].length)=true:=by simpa using hge
       go_wp2_with (go_at_call 21;refine (aDo _ _ _ _).mono ?_;rintro e w' ⟨rfl,rfl⟩)
       go_ret;exact ⟨aA1 HF.out.symm,aA6 HB⟩
      .have hd:decide (g.ports.length<=g.ports[i].length)=false:=by simpa using hge
       go_wp2_with (first
        | (go_at_call 21;refine (aDo _ _ _ _).mono ?_;rintro e w' ⟨rfl,rfl⟩)
        | (go_at_call 22;refine (aL2 _ _ g.ports[i] i g.ports.length _ HL.out (by omega) (by omega)).mono ?_;rintro e w' ⟨rfl,hbb⟩;replace HB:=HB.trans hbb;clear hbb))
       go_ret;exact ⟨aA1 HF.out.symm,aA6 HB⟩
     | true =>
      have hge:=aDv hlt hok;have hd:decide (g.ports.length<=g.ports[i].length)=false:=by simp;omega
      have HOK:=aA0 hok
      go_wp2_with (first
       | (go_at_call 21;refine (aDo _ _ _ _).mono ?_;rintro e w' ⟨rfl,rfl⟩)
       | (go_at_call 22;refine (aL2 _ _ g.ports[i] i g.ports.length _ HL.out (by omega) (by omega)).mono ?_;rintro e w' ⟨rfl,hbb⟩;replace HB:=HB.trans hbb;clear hbb hb hb' hid hrow;clear HL b0 b1 bs;have b0:=aAq HB 0 rfl;have b1:=aAq HB 1 rfl;have bs:=aDd HB))
      clear hok hin hd hd0 hge hle
      go_loopg [5] i (fun m x ws=>∃ j:Nat,j<=i/\m=i-j/\Hid (∀ q,(hq:q<j)->(hq':q<g.ids.length)->g.ids[q]≠g.ids[i])/\x = .int .i64 j/\Bel (w.alloc (.cells #[.slice (some ⟨b,o,none⟩) g.ports.length k,.slice (some ⟨b',o',none⟩) g.ports.length k2] 25)) ws)
      case atStart=>exact ⟨0,by omega,rfl,fun q hq=>absurd hq (by omega),rfl,HB⟩
      case round =>
       clear HB b0 b1 bs;obtain ⟨j,hj,rfl,HJ,rfl,HB⟩:=hrel;have b0:=aAq HB 0 rfl;have bs:=aDd HB
       by_cases hlt2:j<i
       .have hji:j<g.ids.length:=by omega
        have hjn:j<g.ports.length:=by omega
        obtain ⟨b2,o2,e2,hb2,hj1⟩:=(HI.out _ (aA6 HB)).at_ j hji;obtain ⟨rfl,rfl⟩:b=b2/\o=o2:=by simpa using e2
        obtain ⟨b2,o2,e2,_,hi1⟩:=(HI.out _ (aA6 HB)).at_ i hlt';obtain ⟨rfl,rfl⟩:b=b2/\o=o2:=by simpa using e2
        clear e2;have hd:decide (j<i)=true:=by simpa using hlt2
        go_wp2
        go_quiet (fail)
        go_wp2
        .have he:(g.ids[j]==g.ids[i])=true:=by assumption
         go_ret;refine ⟨aA1 ?_,(aA6 HB).drewN _⟩
         symm
         refine aEs fun hg=>?_
         exact aFw hlt2 hlt' (by simpa using he) hg.idn
        .have he:(g.ids[j]==g.ids[i])=false:=by assumption
         go_roundg (i-(j+1))
         case rel =>
          refine ⟨j+1,by omega,rfl,?_,by go_num,HB.drewN _⟩
          intro q hq hq'
          rcases Nat.lt_or_ge q j with h | h
          .exact HJ.out q h hq'
          .obtain rfl:q=j:=by omega
           simpa using he
         case measure=>omega
       .have hd:decide (j<i)=false:=by simpa using hlt2
        go_wp2
        go_roundg (g.ports.length-(i+1))
        case rel =>
         refine ⟨i+1,by omega,rfl,⟨aAp hlt' HK.out.1 HIO.out,aF4 hlt' HK.out.2.1 (fun q hq=>HJ.out q (by omega) (by omega)),?_⟩,by go_num,HB⟩
         intro q hq hq'
         rcases Nat.lt_or_ge q i with h | h
         .exact HK.out.2.2 q h hq'
         .obtain rfl:q=i:=by omega
          exact HOK.out
        case measure=>omega
   .have hd0:decide (i<g.ports.length)=false:=by simpa using hlt
    have HK1:Hid (g.ids.all (fun i=>decide (0<=i/\i<=255))=true/\g.ids.Nodup/\∀ q,(hq:q<g.ports.length)->aD8 g.ports.length q g.ports[q]=true):=by
     obtain ⟨a1,a2,a3⟩:=HK.out;rw [List.take_of_length_le (by rw [HN.out];omega)] at a1 a2
     exact ⟨a1,a2,fun q hq=>a3 q (by omega) hq⟩
    clear HK;go_wp2;clear hd0
    go_loopg [6,7,8,9] g.ports.length (fun m x _y _z _u ws=>∃ j:Nat,j<=g.ports.length/\m=g.ports.length-j/\Hid (∀ q,q<j->(hq:q<g.ports.length)->∀ l∈g.ports[q],aGz g q l=true)/\x = .int .i64 j/\Bel (w.alloc (.cells #[.slice A g.ports.length k,.slice A2 g.ports.length k2] 25)) ws)
    case atStart=>exact ⟨0,by omega,rfl,fun q hq=>absurd hq (by omega),rfl,HB⟩
    case round =>
     clear HB b0 b1 bs hlt hi;obtain ⟨v,hv,rfl,HQ,rfl,HB⟩:=hrel
     by_cases hlt:v<g.ports.length
     .have hd0:decide (v<g.ports.length)=true:=by simpa using hlt
      go_wp2;clear hd0
      go_loopg [7,8,9] g.ports[v].length (fun m x _y _z ws=>∃ j:Nat,j<=g.ports[v].length/\m=g.ports[v].length-j/\Hid ((g.ports[v].take j).all (aGz g v)=true)/\x = .int .i64 j/\Bel (w.alloc (.cells #[.slice A g.ports.length k,.slice A2 g.ports.length k2] 25)) ws)
      case atStart=>exact ⟨0,by omega,rfl,rfl,rfl,HB⟩
      case round =>
       clear HB;obtain ⟨j,hj,rfl,HJ,rfl,HB⟩:=hrel;have b0:=aAq HB 0 rfl;have b1:=aAq HB 1 rfl;have bs:=aDd HB;obtain ⟨b',o',R,c',rfl,hb',hrow,hL,_,_⟩:=(HP.out _ (aA6 HB)).at_ v hlt;have hle:=HL3.out g.ports[v] (List.getElem_mem hlt)
       by_cases hlt2:j<g.ports[v].length
       .obtain ⟨b2,o2,rfl,hb2,hto,hwe⟩:=hL.at_ j hlt2
        obtain ⟨hv1,hv2⟩:=aBa.1 (HK1.out.2.2 v hlt);obtain ⟨l1,l2,l3,l4,l5⟩:=aBg.1 (hv1 _ (List.getElem_mem hlt2));obtain ⟨t,ht⟩:=Int.eq_ofNat_of_zero_le l1;have htl:t<g.ports.length:=by omega
        have HBK:Hid (aGz g v g.ports[v][j]=(g.ports[t].any fun k=>k.to==(v:Int)&&k.weight==g.ports[v][j].weight)):=by
         show aGz g v g.ports[v][j]=_
         unfold aGz;rw [ht,Int.toNat_natCast,aA8 htl]
        have hnd:=(aBa.1 (HK1.out.2.2 t htl)).2;rw [ht] at hto;have HB2:=HB.alloc (.cells #[.int .i64 (t:Int),.int .i64 g.ports[v][j].weight] 64);clear hL hv1 hv2 l1 l2 l3 ht
        go_wp2_with fail
        refine (bFn _ g t (v:Int) _ (HG.out _ (aA6 HB2)) htl).mono ?_
        rintro e w2 ⟨rfl,hbb⟩;have bx0:=aAq hbb 0 rfl;have bx1:=aAq hbb 1 rfl;have bxs:=aDd hbb;have hbw:=aA6 hbb;have b1':=(hbw.cell bs).trans b1;have hrange:=aRm g.ports[t] (v:Int)
        by_cases hk:aEv g.ports[t] (v:Int)<0
        .have hd1:decide (aEv g.ports[t] (v:Int)<0)=true:=by simpa using hk
         have HF:Hid (aG5 g=false):=aEs fun hg=>by
          have:=hg.back v hlt _ (List.getElem_mem hlt2);rw [HBK.out,bH6 hk] at this;cases this
         go_wp2_with fail
         go_quiet (fail)
         go_wp2_with fail
         go_ret;exact ⟨aA1 HF.out.symm,((aA6 HB).trans hbw).drewN _⟩
        .obtain ⟨q,hq,hqe,hqt⟩:=bFo (Int.not_lt.1 hk)
         rw [hqe];have hd1:decide ((q:Int)<0)=false:=by simp
         have HW1:=aA0 (aZt (x:=g.ports[v][j].weight) hnd q hq hqt);obtain ⟨b4,o4,R4,c4,e4,hb4,hrow4,hL4,_,_⟩:=(HP.out _ ((aA6 HB).trans hbw)).at_ t htl;obtain ⟨rfl,rfl⟩:b'=b4/\o'=o4:=by simpa using e4
         obtain ⟨b5,o5,rfl,hb5,_,hwe5⟩:=hL4.at_ q hq;have hd2:decide (t<g.ports.length)=true:=by simpa using htl
         clear e4 hL4 hk hrange hqe hqt hnd
         go_wp2_with fail
         go_quiet (fail)
         go_wp2_with fail
         .have he:(g.ports[t][q].weight != g.ports[v][j].weight)=true:=by assumption
          go_ret;refine ⟨aA1 ?_,((aA6 HB).trans hbw).drewN _⟩
          symm
          refine aEs fun hg=>?_
          have:=hg.back v hlt _ (List.getElem_mem hlt2);rw [HBK.out,HW1.out] at this;simp at this he
          exact he this
         .have he:(g.ports[t][q].weight != g.ports[v][j].weight)=false:=by assumption
          go_roundg (g.ports[v].length-(j+1))
          case rel =>
           refine ⟨j+1,by omega,rfl,aAp hlt2 HJ.out ?_,by go_num,(HB.trans hbw).drewN _⟩
           rw [HBK.out,HW1.out];simpa using he
          case measure=>omega
       .go_wp2
        go_roundg (g.ports.length-(v+1))
        case rel =>
         refine ⟨v+1,by omega,rfl,?_,by go_num,HB⟩
         intro q hq hq'
         rcases Nat.lt_or_ge q v with h | h
         .exact HQ.out q h hq'
         .obtain rfl:q=v:=by omega
          exact List.all_eq_true.1 (aC1 (by omega) HJ.out)
        case measure=>omega
     .have hd0:decide (v<g.ports.length)=false:=by simpa using hlt
      go_wp2;go_ret;refine ⟨aA1 ?_,aA6 HB⟩
      symm
      rw [aE6];refine ⟨hn1,hn2,HN.out,?_,HK1.out.2.1,HK1.out.2.2,fun q hq=>HQ.out q (by omega) hq⟩
      intro i hi
      have:=List.all_eq_true.1 HK1.out.1 i hi;simpa using this
 .have HF:Hid (aG5 g=false):=aEs fun hg=>hn ⟨hg.pos,hg.le,hg.ids⟩
  by_cases hn2:1<=g.ports.length/\g.ports.length<=24
  .have hb1:inB (g.ports.length:Int) 1 24=true:=aKb (by omega) (by omega)
   have hb2:(g.ids.length != g.ports.length)=true:=by simp;omega
   have hb3:((g.ids.length:Int) != (g.ports.length:Int))=true:=by simp;omega
   go_enter func7,ntmps7
   go_wp2_with (go_at_call 21;refine (aDo _ _ _ _).mono ?_;rintro e w' ⟨rfl,rfl⟩)
   go_ret;exact ⟨aA1 HF.out.symm,(Bel.refl _).alloc _⟩
  .have hb1:inB (g.ports.length:Int) 1 24=false:=aQt (by omega)
   go_enter func7,ntmps7
   go_wp2_with (go_at_call 21;refine (aDo _ _ _ _).mono ?_;rintro e w' ⟨rfl,rfl⟩)
   go_ret;exact ⟨aA1 HF.out.symm,(Bel.refl _).alloc _⟩
open Go.RowKit Go.Maps
theorem aXr (ids:List Int):aS9 ids=true↔(∀ i∈ids,0<=i/\i<=255)/\ids.Nodup:=by
 unfold aS9;simp only [Bool.and_eq_true,List.all_eq_true,decide_eq_true_eq]
theorem aQr {ids:List Int} (h:¬ ((∀ i∈ids,0<=i/\i<=255)/\ids.Nodup)):aS9 ids=false:=by
 rw [Bool.eq_false_iff];intro hb;exact h ((aXr ids).1 hb)
theorem aIr (A:Option Addr) (c:Nat) (ids:List Int) (w:World) (h:aCr w A ids.length ids) (hl:ids.length<=1000) :
  Calls prog 68 #[.slice A ids.length c] w fun e w'=>e = .returned (.bool (aS9 ids))/\Bel w w':=by
 have H:=aA0 (fun w' (k:Bel w w')=>aCr.keep h k);clear h;have HZ:=aA0 (show Tryz.zeroCells202=Array.replicate 256 (Value.bool false) by kernel_rfl)
 have HB:=(Bel.refl w).alloc (.cells Tryz.zeroCells202 202);have HK:=aA0 (Blk.new w Tryz.zeroCells202 202);go_enter func68,ntmps68;go_wp2
 go_loopg [5,8] ids.length (fun m _x z wr=>∃ (j:Nat) (cs:Array Value),j<=ids.length/\m=ids.length-j/\z = .int .i64 j/\Hid ((∀ i∈ids.take j,0<=i/\i<=255)/\(ids.take j).Nodup)/\Hid (Blk wr w.heap.size cs 202/\∀ i:Nat,i<256->cs[i]?=some (.bool (decide ((i:Int)∈ids.take j))))/\Bel w wr)
 case atStart =>
  refine ⟨0,Tryz.zeroCells202,by omega,rfl,rfl,⟨by simp,by simp⟩,⟨HK.out,fun i hi=>?_⟩,HB⟩
  rw [HZ.out,Array.getElem?_replicate,if_pos hi];simp
 case round =>
  clear HB HK;obtain ⟨j,cs,hj,rfl,rfl,HJ,HC,HB⟩:=hrel
  by_cases hlt:j<ids.length
  .have hd0:decide (j<ids.length)=true:=by simpa using hlt
   obtain ⟨b,o,rfl,hb,hc⟩:=(H.out _ HB).at_ j hlt
   by_cases hr:0<=ids[j]/\ids[j]<=255
   .obtain ⟨q,hq⟩:=Int.eq_ofNat_of_zero_le hr.1
    have hq256:q<256:=by omega
    have y1:=HC.out.1.cell q (HC.out.2 q hq256);have y2:=HC.out.1.frozen q;have y3:=HC.out.1.lt;have HM:Hid (ids[j]=(q:Int)):=hq;rw [hq] at hc;have hd1:decide ((q:Int)<0)=false:=by simp
    have hd2:decide (255<(q:Int))=false:=by simp;omega
    by_cases hin:(q:Int)∈ids.take j
    .have HF:Hid (aS9 ids=false):=aQr fun h=>by
      obtain ⟨i,hi1,hi3⟩:=List.mem_take_iff_getElem.1 hin;exact aFw (j:=i) (by omega) hlt (by rw [hi3,HM.out]) h.2
     rw [decide_eq_true hin] at y1;clear hr hq
     go_wp2_with fail
     go_ret;exact ⟨aA1 HF.out.symm,HB⟩
    .rw [decide_eq_false hin] at y1
     have HIN:=aA0 hin;clear hr hq hin
     go_wp2_with fail
     go_roundg (ids.length-(j+1))
     case rel =>
      refine ⟨j+1,cs.setIfInBounds q (.bool true),by omega,rfl,by go_num,⟨?_,aF4 hlt HJ.out.2 ?_⟩,⟨HC.out.1.set q _,fun i hi=>?_⟩,HB.setCell (by simp) _⟩
      .intro i hi
       rw [List.take_succ_eq_append_getElem hlt,List.mem_append] at hi
       rcases hi with hi | hi
       .exact HJ.out.1 i hi
       .simp at hi;subst hi;rw [HM.out];omega
      .intro i hi he
       exact HIN.out (by rw [<- HM.out,<- he,List.mem_take_iff_getElem];exact ⟨i,by omega,rfl⟩)
      .have hs:q<cs.size:=by
        have:=HC.out.2 q hq256;rw [Array.getElem?_eq_some_iff] at this;exact this.1
       rw [Array.getElem?_setIfInBounds,List.take_succ_eq_append_getElem hlt,HM.out]
       by_cases hqi:q=i
       .subst hqi;rw [if_pos rfl,if_pos hs];simp
       .rw [if_neg hqi,HC.out.2 i hi]
        congr 2
        rw [Bool.eq_iff_iff];simp;omega
     case measure=>omega
   .have HF:Hid (aS9 ids=false):=aQr fun h=>hr (h.1 _ (List.getElem_mem hlt))
    by_cases hneg:ids[j]<0
    .have hd1:decide (ids[j]<0)=true:=by simpa using hneg
     clear hr
     go_wp2_with fail
     go_ret;exact ⟨aA1 HF.out.symm,HB⟩
    .have hd1:decide (ids[j]<0)=false:=by simpa using hneg
     have hd2:decide (255<ids[j])=true:=by simp;omega
     clear hr
     go_wp2_with fail
     go_ret;exact ⟨aA1 HF.out.symm,HB⟩
  .have hd0:decide (j<ids.length)=false:=by simpa using hlt
   go_wp2_with fail
   go_ret;refine ⟨aA1 ?_,HB⟩
   symm
   rw [aXr];have:=HJ.out;rw [List.take_of_length_le (by omega)] at this
   exact this
theorem pairK:PairK prog 159 3:=⟨underlying159,underlying3,by kernel_rfl,by kernel_rfl,by kernel_rfl,⟨_,rfl⟩⟩
theorem bHy (w:World):(zeroValue 3).run prog w = .ok (.int .i64 0) w:=by kernel_rfl
theorem aVz (A:Option Addr) (c:Nat) (ports:List (List Link)) (w:World) (h:aHk w A ports.length ports) (hl:ports.length<=30) (hl2:∀ r∈ports,r.length<=30) :
  Calls prog 69 #[.slice A ports.length c] w fun e w'=>e = .returned (.bool (bMq ports))/\Bel w w':=by
 have HP:=aA0 (fun w' (k:Bel w w')=>aHk.keep h k);clear h;have HL2:=aA0 hl2;clear hl2;have hmm:=@run_makeMap prog;have HM0:=aA0 (aHd.made prog 159 3 w);have HB:=(Bel.refl w).alloc (.map #[] 0);go_enter func69,ntmps69;go_wp2;clear hmm
 go_loopg [4,5,7,8,9,10,16] ports.length (fun m _x1 _x2 _x3 _x4 _x5 _x6 z wr=>∃ (v n:Nat) (D:DataW Unit),v<=ports.length/\m=ports.length-v/\z = .int .i64 v/\n<=40*v/\Hid (∀ u,u<v->(hu:u<ports.length)->aD8 ports.length u ports[u]=true)/\Hid (aHd prog 159 3 wr w.heap.size n D (mOf ports v 0))/\Bel w wr)
 case atStart =>
  refine ⟨0,0,.map [],by omega,rfl,rfl,by omega,fun u hu=>absurd hu (by omega),?_,HB⟩
  have:(fun _ _=>0)=mOf ports 0 0:=by funext a b;rw [bI7]
  rw [<- this];exact HM0
 case round =>
  clear HB HM0;obtain ⟨v,n,D,hv,rfl,rfl,hn,HV,HM,HB⟩:=hrel
  by_cases hlt:v<ports.length
  .have hd0:decide (v<ports.length)=true:=by simpa using hlt
   obtain ⟨b,o,R,c1,rfl,hb,hrow,hL,_,_⟩:=(HP.out _ HB).at_ v hlt;have HL:=aA0 (fun w' (k:Bel wr w')=>aHj.keep hL k);clear hL;have hrl:=HL2.out _ (List.getElem_mem hlt);go_wp2;clear hd0 hrow hb;have HW:=Bel.refl wr;have hmn:w.heap.size<wr.heap.size:=HM.out.1.lt
   go_loopg [7,8,9,10,23] ports[v].length (fun m _x3 _x4 _x5 _x6 z ws=>∃ (j n:Nat) (D:DataW Unit),j<=ports[v].length/\m=ports[v].length-j/\z = .int .i64 j/\n<=40*v+j/\Hid ((ports[v].take j).all (aMm ports.length v)=true/\((ports[v].map Link.to).take j).Nodup)/\Hid (aHd prog 159 3 ws w.heap.size n D (mOf ports v j))/\Bel w ws/\Hid (aHj ws R ports[v].length ports[v]))
   case atStart=>exact ⟨0,n,D,by omega,rfl,rfl,by omega,⟨rfl,by simp⟩,HM,HB,HL.out _ HW⟩
   case round =>
    clear HB HM HW HL hmn;obtain ⟨j,n,D,hj,rfl,rfl,hn,HJ,HM,HB,HL⟩:=hrel
    by_cases hlt2:j<ports[v].length
    .have hd0:decide (j<ports[v].length)=true:=by simpa using hlt2
     obtain ⟨b2,o2,rfl,hb2,l1,l2⟩:=HL.out.at_ j hlt2;cases hok:aMm ports.length v ports[v][j] with
     | false =>
      have HF:Hid (bMq ports=false):=aOl fun h=>by
       have:=(aBa.1 (h.links v hlt)).1 _ (List.getElem_mem hlt2);rw [hok] at this;cases this
      have HB2:=HB.alloc (.cells #[.int .i64 ports[v][j].to,.int .i64 ports[v][j].weight] 64);have HO:=aA0 hok;clear hok
      by_cases hq:0<=ports[v][j].to/\ports[v][j].to<(ports.length:Int)/\ports[v][j].to≠(v:Int)
      .obtain ⟨q1,q2,q3⟩:=hq
       have hw:ports[v][j].weight<1∨15<ports[v][j].weight:=by
        rcases Int.lt_or_le ports[v][j].weight 1 with h | h
        .exact .inl h
        .rcases Int.lt_or_le 15 ports[v][j].weight with h' | h'
         .exact .inr h'
         .have:=HO.out
          rw [aBg.2 ⟨q1,q2,q3,h,h'⟩] at this;cases this
       have d1:decide (ports[v][j].to<0)=false:=by simp;omega
       have d2:decide ((ports.length:Int)<=ports[v][j].to)=false:=by simp;omega
       have d3:(ports[v][j].to==(v:Int))=false:=by simpa using q3
       clear q1 q2 q3
       rcases hw with hw | hw
       .have d4:decide (ports[v][j].weight<1)=true:=by simpa using hw
        go_wp2_with fail
        go_ret;exact ⟨aA1 HF.out.symm,HB2⟩
       .have d4:decide (ports[v][j].weight<1)=false:=by simp;omega
        have d5:decide (15<ports[v][j].weight)=true:=by simpa using hw
        go_wp2_with fail
        go_ret;exact ⟨aA1 HF.out.symm,HB2⟩
      .have hcase:ports[v][j].to<0∨(0<=ports[v][j].to/\(ports.length:Int)<=ports[v][j].to)∨(0<=ports[v][j].to/\ports[v][j].to<(ports.length:Int)/\ports[v][j].to=(v:Int)):=by omega
       clear hq
       rcases hcase with h1 | ⟨h1,h2⟩ | ⟨h1,h2,h3⟩
       .have d1:decide (ports[v][j].to<0)=true:=by simpa using h1
        go_wp2_with fail
        go_ret;exact ⟨aA1 HF.out.symm,HB2⟩
       .have d1:decide (ports[v][j].to<0)=false:=by simp;omega
        have d2:decide ((ports.length:Int)<=ports[v][j].to)=true:=by simpa using h2
        go_wp2_with fail
        go_ret;exact ⟨aA1 HF.out.symm,HB2⟩
       .have d1:decide (ports[v][j].to<0)=false:=by simp;omega
        have d2:decide ((ports.length:Int)<=ports[v][j].to)=false:=by simp;omega
        have d3:(ports[v][j].to==(v:Int))=true:=by simpa using h3
        have HH:=aA0 h3;clear h3
        go_wp2_with fail
        go_ret;exact ⟨aA1 HF.out.symm,HB2⟩
     | true =>
      obtain ⟨q1,q2,q3,q4,q5⟩:=aBg.1 hok;obtain ⟨t,ht⟩:=Int.eq_ofNat_of_zero_le q1;have HO:=aA0 hok;have HTE:=aA0 ht;have d1:decide ((t:Int)<0)=false:=by simp
      have d2:decide (ports.length<=t)=false:=by simp;omega
      have d2':decide ((ports.length:Int)<=(t:Int))=false:=by simp;omega
      have d3:((t:Int)==(v:Int))=false:=by simp;omega
      have d3':(t==v)=false:=by simp;omega
      have d4:decide (ports[v][j].weight<1)=false:=by simp;omega
      have d5:decide (15<ports[v][j].weight)=false:=by simp;omega
      have wt:(Lit.int .i64 (t:Int)).wf=true:=WalkArith.wf_i64 (by omega)
      have wv:(Lit.int .i64 (v:Int)).wf=true:=WalkArith.wf_i64 (by omega)
      have ww:(Lit.int .i64 ports[v][j].weight).wf=true:=WalkArith.wf_i64 (by omega)
      have hwne:ports[v][j].weight≠0:=by omega
      rw [ht] at l1;have HB2:=(HB.alloc (.cells #[.int .i64 (t:Int),.int .i64 ports[v][j].weight] 64)).alloc (.cells #[.int .i64 (v:Int),.int .i64 (t:Int)] 159);have HW2:=((Bel.refl wr).alloc (.cells #[.int .i64 (t:Int),.int .i64 ports[v][j].weight] 64)).alloc (.cells #[.int .i64 (v:Int),.int .i64 (t:Int)] 159);have HM2:=aA0 (HM.out.keep HW2);have hlook:=aHd.lookOk pairK underlying203 HM2.out (bHy _) wv wt;unfold aSg at hlook;dsimp only at hlook
      have hwpos:∀ l∈ports[v].take j,1<=l.weight:=fun l hl=>by
       have:=List.all_eq_true.1 HJ.out.1 l hl;exact (aBg.1 this).2.2.2.1
      have hmv:mOf ports v j (v:Int) (t:Int)=wOf (ports[v].take j) (t:Int):=by
       unfold mOf;rw [if_neg (by omega),if_pos rfl,aA8 hlt]
      by_cases hdup:mOf ports v j (v:Int) (t:Int)=0
      .have hno:∀ l∈ports[v].take j,l.to≠ports[v][j].to:=by
        rw [ht];exact bOs hwpos (by rw [<- hmv];exact hdup)
       have hdd:decide (mOf ports v j (v:Int) (t:Int)≠0)=false:=by simpa using hdup
       rw [hdd,hdup] at hlook;have HNO:=aA0 hno;have HWL:=aA0 (fun w' (k:Bel wr w')=>HL.out.keep k);have hms:w.heap.size<wr.heap.size:=HM.out.1.lt;clear hdup hdd hno hwpos hmv q1 q2 q3 hok ht
       go_wp2_with (at_mapUpdate;refine wpList_mapUpdate_own _ rfl (.tmp 62) (.tmp 63) (.tmp 65) 203 rfl 159 3 pairK.law underlying203 _ w.heap.size n D rfl HM2.out.1 (by unfold maxLen;omega) _ _ _ rfl rfl (pairK.keyOf wv wt) _ [] (plainElem_int underlying3 ww) ?_;intro w3 hown hgr;have HB3:=HB2.map (Nat.le_refl _) hgr;have HP3:=aA0 (aHd.put pairK wv wt hwne HM2.out.2 hown);have HG3:=aA0 hgr;clear hown hgr)
       go_roundg (ports[v].length-(j+1))
       case rel =>
        refine ⟨j+1,n+1,D.put (pk (v:Int) (t:Int)) (.lit (.int .i64 ports[v][j].weight)),by omega,rfl,by go_num,by omega,⟨aAp hlt2 HJ.out.1 HO.out,?_⟩,?_,HB3,?_⟩
        .refine aF4 (by simpa using hlt2) HJ.out.2 (fun q hq he=>?_)
         simp at he
         exact HNO.out (ports[v][q]'(by omega)) (by rw [List.mem_take_iff_getElem];exact ⟨q,by omega,rfl⟩) he
        .have e:bOw (mOf ports v j) (v:Int) (t:Int) ports[v][j].weight=mOf ports v (j+1):=by
          funext a b
          rw [bLr hlt hlt2 HNO.out,HTE.out];rfl
         rw [<- e];exact HP3
        .have hk:=HWL.out _ HW2
         refine ⟨hk.1,fun i x hx=>?_⟩
         obtain ⟨bb,oo,e,hlt',hE⟩:=HL.out.2 i x hx
         have hbb:bb≠w.heap.size:=by
          intro hh
          obtain ⟨es,clock,hb',_⟩:=HM.out.1;subst hh;have h1:=hE.1;unfold World.cell? at h1;rw [hb'] at h1;simp at h1
         have hblk:w3.heap[bb]?=wr.heap[bb]?:=by
          rw [HG3.out.block bb (by have:=HW2.size;omega) (by simpa using hbb)]
          exact HW2.block bb hlt'
         have hcell:∀ o',w3.cell? ⟨bb,o',none⟩=wr.cell? ⟨bb,o',none⟩:=fun o'=>by unfold World.cell?;rw [hblk]
         refine ⟨bb,oo,e,?_,(hcell _).trans hE.1,(hcell _).trans hE.2⟩
         have:=HW2.size;have:=HG3.out.size;omega
       case measure=>omega
      .have HF:Hid (bMq ports=false):=aOl fun h=>by
        obtain ⟨l,hlm,hlt',_⟩:=aQ0 (ls:=ports[v].take j) (b:=(t:Int)) (by rw [<- hmv];exact hdup)
        obtain ⟨q,hq,rfl⟩:=List.mem_take_iff_getElem.1 hlm;exact aFw (j:=q) (k:=j) (by omega) (by simpa using hlt2) (by simp [hlt',ht]) (aBa.1 (h.links v hlt)).2
       rw [decide_eq_true hdup] at hlook;clear hdup hwpos hmv q1 q2 q3 hok ht
       go_wp2_with fail
       go_ret;exact ⟨aA1 HF.out.symm,HB2⟩
    .have hd0:decide (j<ports[v].length)=false:=by simpa using hlt2
     have HLV:Hid (aD8 ports.length v ports[v]=true):=by
      show aD8 ports.length v ports[v]=true
      rw [aBa];have h1:=HJ.out;rw [List.take_of_length_le (by omega),List.take_of_length_le (by simp;omega)] at h1
      exact ⟨List.all_eq_true.1 h1.1,h1.2⟩
     go_wp2_with fail
     go_roundg (ports.length-(v+1))
     case rel =>
      refine ⟨v+1,n,D,by omega,rfl,by go_num,by omega,?_,?_,HB⟩
      .intro u hu hu'
       rcases Nat.lt_or_ge u v with h | h
       .exact HV.out u h hu'
       .obtain rfl:u=v:=by omega
        exact HLV.out
      .have e:mOf ports v j=mOf ports (v+1) 0:=by funext a b;exact bO5 hlt (by omega) a b
       rw [<- e];exact HM
     case measure=>omega
  .obtain rfl:v=ports.length:=by omega
   have hd0:decide (ports.length<ports.length)=false:=by simp
   have HSM:=aA0 (bG9 (fun u hu=>HV.out u (by omega) hu))
   have HLK:=aA0 (fun u (hu:u<ports.length)=>HV.out u (by omega) hu)
   clear HV hlt hv
   go_wp2_with (at_range;refine wpList_range_own _ rfl (.tmp 68) 203 rfl 159 3 pairK.law underlying203 _ w.heap.size n D rfl HM.out.1 ?_;intro w1 hrg hgr hsz;have HB1:=HB.grown hgr (fun k hk=>by cases hk);have HRG:=aA0 hrg;clear hrg hgr hsz;go_frame)
   have hr0:w.heap.size<wr.heap.size:=HM.out.1.lt;have HM2:=aA0 HM.out.2;clear hd0 HM;generalize hrr:wr.heap.size=r at *;clear hrr
   go_loopg [11,12] (size D) (fun m _x _y ws=>∃ (left:Lit->Bool) (cnt:Nat),m=cnt/\Hid (ws.ranges prog 159 (plainElem prog 3) w.heap.size r n D left cnt)/\Hid (∀ a b,(Lit.int .i64 a).wf=true->(Lit.int .i64 b).wf=true->mOf ports ports.length 0 a b≠0->left (pk a b)=false->mOf ports ports.length 0 b a=mOf ports ports.length 0 a b)/\Bel w ws)
   case atStart =>
    refine ⟨_,_,rfl,HRG,?_,HB1⟩
    intro a b wa wb hne hlf
    have:=((HM2.out.2 a b wa wb).2).2 hne;rw [this] at hlf;cases hlf
   case round =>
    clear HB HB1 HRG;obtain ⟨left,cnt,rfl,HRG,HI,HB⟩:=hrel
    go_wp2_with (at_next;refine wpList_next_ranges _ rfl (.tmp 69) rfl 159 pairK.law (plainElem prog 3) aSg (Value.int .i64) (fun key kl hkey=>by obtain ⟨x,hx,_⟩:=pairK.inv hkey;exact ⟨x,hx⟩) (fun v y hv=>by obtain ⟨c,hc,_⟩:=plainElem_int_inv underlying3 hv;exact ⟨c,hc⟩) w.heap.size r n D left _ rfl HRG.out ?_ ?_)
    .intro _ hl0
     have HL0:=aA0 hl0;clear hl0
     go_wp2_with fail
     go_ret;refine ⟨aA1 ?_,HB⟩
     symm
     rw [bDo,HSM.out];intro a b hne
     obtain ⟨h0,h1⟩:=bI6 hne;obtain ⟨a',rfl⟩:=Int.eq_ofNat_of_zero_le h0;have hlt:a' < ports.length:=by omega
     have hne2:=hne;rw [aY1 hlt hlt] at hne2;obtain ⟨l,hlm,rfl,_⟩:=aQ0 hne2;obtain ⟨t1,t2,_⟩:=aBg.1 ((aBa.1 (HLK.out a' hlt)).1 l hlm);exact HI.out _ _ (WalkArith.wf_i64 (by omega)) (WalkArith.wf_i64 (by omega)) hne (HL0.out _)
    .intro x1 x2 cw kl y1 y2 w2 cnt2 hkey hlk hv hat hrg2 hlt2 hg2 hs2 hen
     obtain ⟨⟨x1',x2'⟩,hx,wx1,wx2,rfl⟩:=pairK.inv hkey;simp [aSg] at hx
     obtain ⟨rfl,rfl⟩:=hx;obtain ⟨c',hc',hy,wc⟩:=plainElem_int_inv underlying3 hv;injection hc' with _ hc'
     subst hc'
     have hM:mOf ports ports.length 0 x1 x2=cw:=by
      have h1:=(HM2.out.2 x1 x2 wx1 wx2).1;have hy1:y1 = .lit (.int .i64 cw):=congrArg Prod.fst hy;rw [hat,hy1] at h1;simp at h1
      exact h1.symm
     have hMne:mOf ports ports.length 0 x1 x2≠0:=by
      have h1:=(HM2.out.2 x1 x2 wx1 wx2).2;rw [<- h1];exact has_true_of_atKey (y:=y1) hat
     have HB2:Bel w w2:=HB.grown hg2 (fun k hk=>by injection hk with hk;omega)
     have HB3:=HB2.alloc (.cells #[.int .i64 x1,.int .i64 x2] 159);have HR3:=aA0 (hrg2.alloc (.cells #[.int .i64 x1,.int .i64 x2] 159));have hlook:=aHd.look pairK underlying203 (⟨HR3.out.owns,HM2.out⟩:aHd prog 159 3 _ _ _ _ _) (bHy _) wx2 wx1;unfold aSg at hlook hen;dsimp only at hlook hen;have HMM:=aA0 hM;have HME:=aA0 hMne;have HLT:=aA0 hlt2;have HLKK:=aA0 hlk;have hrl:=HR3.out.lt;clear hM hMne hkey hv hat hrg2 hg2 hy hlt2 hlk;generalize hmx:mOf ports ports.length 0 x2 x1=mx at *;have HMX:=aA0 hmx;clear hmx
     by_cases he:mx=cw
     .have heb:(mx != cw)=false:=by simpa using he
      have HE:=aA0 he;clear he
      go_wp2_with fail
      go_roundg cnt2
      case rel =>
       refine ⟨_,cnt2,rfl,HR3,?_,HB3⟩
       intro a b wa wb hne hlf
       rw [Bool.and_eq_false_iff] at hlf
       rcases hlf with hlf | hlf
       .exact HI.out a b wa wb hne hlf
       .simp at hlf
        have:=WideAt.sameKey_eq hlf;obtain ⟨rfl,rfl⟩:=bN4 pairK wa wb wx1 wx2 this;rw [HMX.out,HE.out,HMM.out]
      case measure=>exact HLT.out
     .have heb:(mx != cw)=true:=by simpa using he
      have HF:Hid (bMq ports=false):=aOl fun h=>by
       have:=HSM.out.1 h x1 x2 HME.out;rw [HMX.out,HMM.out] at this;exact he this
      clear he
      go_wp2_with fail
      go_ret;exact ⟨aA1 HF.out.symm,HB3⟩
end Go.Proofs.YtmoebklkkjbigaaGreatDoor

