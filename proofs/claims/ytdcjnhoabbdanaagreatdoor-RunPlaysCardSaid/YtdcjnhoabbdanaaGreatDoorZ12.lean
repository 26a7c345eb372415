/- Merged. -/
import Derived.Test.YtdcjnhoabbdanaaGreatDoorZ10
set_option linter.unusedSimpArgs false
set_option linter.unnecessarySimpa false
set_option linter.unusedVariables false
set_option maxRecDepth 100000
set_option maxHeartbeats 4000000
open Go.Proofs.Tryz

namespace Go.Proofs.YtdcjnhoabbdanaaGreatDoor
open Go.RowKit
def aBj (p:Prg):Int :=
 if ¬ (1<=p.vars.length/\p.vars.length<=6/\p.rules.length<=12) then 3
 else if aCk p=false then 5
 else if p.vars.all aBm=false then 2
 else if p.rules.all (aC0 p.vars.length)=false then 7
 else if p.rules.all (aBx (aBg p))=false then 6
 else 0
theorem aEz.at_V {w:World} {A:Option Addr} {n:Nat} {xs:List Rule} (h:aEz w A n xs) (k:Nat) (hk:k<xs.length) :
  ∃ b o G c S c2,A=some ⟨b,o,none⟩/\b<w.heap.size/\w.cell? ⟨b,o+k*3,none⟩=some (.string xs[k].name)/\w.cell? ⟨b,o+k*3+1,none⟩=some (.slice G xs[k].guard.length c)/\w.cell? ⟨b,o+k*3+2,none⟩=some (.slice S xs[k].sets.length c2)
   /\ aPs w (.agg #[.string xs[k].name,.slice G xs[k].guard.length c,.slice S xs[k].sets.length c2]) xs[k]:=by
 obtain ⟨b,o,G,c,S,c2,e,hb,h1,h2,h3,h4,h5,h6,h7,h8,h9⟩:=h.at_ k hk;exact ⟨b,o,G,c,S,c2,e,hb,h1,h2,h3,G,c,S,c2,rfl,h4,h5,h6,h7,h8,h9⟩
theorem aMf {p:Prg} (h:p.vars.all aBm=true):(aBg p).all aDq=true:=by
 rw [List.all_eq_true] at *;intro k hk
 obtain ⟨x,hx,rfl⟩:=List.mem_map.1 hk;have:=h x hx;unfold aBm at this;have:=of_decide_eq_true this;unfold aDq;simp
 omega
theorem aD1 (p:Prg):(aBg p).length=p.vars.length:=by simp [aBg]
theorem aQx (v:Value) (p:Prg) (w:World) (h:aEk w v p) (hL:aAs p=true) :
  Calls prog 131 #[v] w fun e w'=>e = .returned (.int .i64 (aBj p))/\Bel w w':=by
 have HPV:=aA0 (fun w' (k:Bel w w')=>h.keep k);obtain ⟨A,k,A2,k2,rfl,hV,_,_,hR,_,_⟩:=h;have HV:=aA0 (fun w' (k:Bel w w')=>aH8.keep hV k);clear hV;have HR:=aA0 (fun w' (k:Bel w w')=>aEz.keep hR k);clear hR;obtain ⟨p1,p2,p3,p4,p5⟩:=aB3 hL;have HP5:=aA0 p5;have HL:=aA0 hL;clear p4 p5 hL;have HB:=Bel.refl (w.alloc (.cells #[.string p.name,.slice A p.vars.length k,.slice A2 p.rules.length k2] 25))
 by_cases hn:1<=p.vars.length/\p.vars.length<=6/\p.rules.length<=12
 .obtain ⟨n1,n2,n3⟩:=hn
  have hin:inB (p.vars.length:Int) 1 6=true:=aDf (by omega) (by omega)
  have HC1:Hid (aBj p=if aCk p=false then 5 else if p.vars.all aBm=false then 2 else if p.rules.all (aC0 p.vars.length)=false then 7 else if p.rules.all (aBx (aBg p))=false then 6 else 0):=by
   show aBj p=_
   unfold aBj;rw [if_neg (by omega)]
  cases hnm:aCk p with
  | false =>
   rw [hnm,if_pos rfl] at HC1;go_enter func131,ntmps131
   go_wp2_with (first
    | (go_at_call 145;refine (aDp _ _ _ _).mono ?_;rintro e w' ⟨rfl,rfl⟩)
    | (go_at_call 146;refine (aL3 _ p _ (HPV.out _ (aA3 HB)) HL.out).mono ?_;rintro e w' ⟨rfl,hb⟩;rw [hnm];replace HB:=HB.trans hb;clear hb))
   go_ret;exact ⟨aA4 HC1.out.symm,aA3 HB⟩
  | true =>
   rw [hnm,if_neg (by decide)] at HC1
   have HNM:=aA0 hnm;clear hnm;go_enter func131,ntmps131
   go_wp2_with (first
    | (go_at_call 145;refine (aDp _ _ _ _).mono ?_;rintro e w' ⟨rfl,rfl⟩)
    | (go_at_call 146;refine (aL3 _ p _ (HPV.out _ (aA3 HB)) HL.out).mono ?_;rintro e w' ⟨rfl,hb⟩;rw [HNM.out];replace HB:=HB.trans hb;clear hb))
   clear hin
   go_loopg [3] p.vars.length (fun m z wr=>∃ j:Nat,j<=p.vars.length/\m=p.vars.length-j/\z = .int .i64 j/\Hid ((p.vars.take j).all aBm=true)/\Bel (w.alloc (.cells #[.string p.name,.slice A p.vars.length k,.slice A2 p.rules.length k2] 25)) wr)
   case atStart=>exact ⟨0,by omega,rfl,rfl,rfl,HB⟩
   case round =>
    clear HB;obtain ⟨i,hi,rfl,rfl,HJ,HB⟩:=hrel;have q1:=aA7 HB 1 rfl;have q2:=aAu HB
    by_cases hlt:i<p.vars.length
    .have hd0:decide (i<p.vars.length)=true:=by simpa using hlt
     obtain ⟨b,o,rfl,hb,c0,c1,c2,c3,c4,c5⟩:=(HV.out _ (aA3 HB)).at_ i hlt;cases hnn:aBm p.vars[i] with
     | false =>
      rw [aAj hlt hnn,if_pos rfl] at HC1
      go_wp2_with (go_at_call 147;refine (aIj p.vars[i] _).mono ?_;rintro e w' ⟨rfl,hbb⟩;rw [hnn];replace HB:=HB.trans hbb;clear hbb)
      go_ret;exact ⟨aA4 HC1.out.symm,aA3 HB⟩
     | true =>
      have HN:=aA0 (aA9 hlt HJ.out hnn);have HNN:=aA0 hnn;clear hnn
      go_wp2_with (go_at_call 147;refine (aIj p.vars[i] _).mono ?_;rintro e w' ⟨rfl,hbb⟩;rw [HNN.out];replace HB:=HB.trans hbb;clear hbb)
      go_roundg (p.vars.length-(i+1))
      case rel=>exact ⟨i+1,by omega,rfl,by go_num,HN,HB⟩
      case measure=>omega
    .have hd0:decide (i<p.vars.length)=false:=by simpa using hlt
     rw [aAk (by omega) HJ.out,if_neg (by decide)] at HC1
     clear HJ
     go_wp2_with fail
     clear hd0 q1 q2 hi hlt
     go_loopg [4] p.rules.length (fun m z wr=>∃ j:Nat,j<=p.rules.length/\m=p.rules.length-j/\z = .int .i64 j/\Hid ((p.rules.take j).all (aC0 p.vars.length)=true)/\Bel (w.alloc (.cells #[.string p.name,.slice A p.vars.length k,.slice A2 p.rules.length k2] 25)) wr)
     case atStart=>exact ⟨0,by omega,rfl,rfl,rfl,HB⟩
     case round =>
      clear HB;obtain ⟨i,hi,rfl,rfl,HJ,HB⟩:=hrel;have q1:=aA7 HB 1 rfl;have q3:=aA7 HB 2 rfl;have q2:=aAu HB
      by_cases hlt:i<p.rules.length
      .have hd0:decide (i<p.rules.length)=true:=by simpa using hlt
       have hLr:=HP5.out _ (List.getElem_mem hlt);obtain ⟨b,o,G,c,S,c2,rfl,hb,c0,c1,c2',hRV⟩:=(HR.out _ (aA3 HB)).at_V i hlt;have HRV:=aA0 (fun w' (k:Bel wr w')=>hRV.keep k);clear hRV;have hcell:=aA0 (fun w' (k:Bel wr w')=>And.intro ((k.cell q2).trans q1) (And.intro ((k.cell q2).trans q3) (And.intro ((k.cell hb).trans c0) (And.intro ((k.cell hb).trans c1) (And.intro ((k.cell hb).trans c2') (Nat.lt_of_lt_of_le q2 k.size))))));have HB2:=Bel.refl wr;have HLr:=aA0 hLr;clear hLr;cases hff:aC0 p.vars.length p.rules[i] with
       | false =>
        rw [aAj hlt hff,if_pos rfl] at HC1
        go_wp2_with fail
        replace HB2:=HB2.drew
        go_region_held3 (fun w'=>w'.cell? ⟨w.heap.size,1,none⟩=some (.slice A p.vars.length k)/\w'.cell? ⟨w.heap.size,2,none⟩=some (.slice (some ⟨b,o,none⟩) p.rules.length k2)/\w'.cell? ⟨b,o+i*3,none⟩=some (.string p.rules[i].name)/\w'.cell? ⟨b,o+i*3+1,none⟩=some (.slice G p.rules[i].guard.length c)/\w'.cell? ⟨b,o+i*3+2,none⟩=some (.slice S p.rules[i].sets.length c2)/\w.heap.size<w'.heap.size) (exact hcell.out _ HB2) (first | (go_simp;go_at_call 148;refine (aJu _ p.rules[i] p.vars.length _ (HRV.out _ HB2) (by omega) HLr.out).mono ?_;rintro e w' ⟨rfl,hbb⟩;rw [hff];replace HB2:=HB2.trans hbb;clear hbb))
        go_wp2_with fail
        go_ret;exact ⟨aA4 HC1.out.symm,(aA3 HB).trans HB2⟩
       | true =>
        have HN:=aA0 (aA9 hlt HJ.out hff);have HFF:=aA0 hff;clear hff
        go_wp2_with fail
        replace HB2:=HB2.drew
        go_region_held3 (fun w'=>w'.cell? ⟨w.heap.size,1,none⟩=some (.slice A p.vars.length k)/\w'.cell? ⟨w.heap.size,2,none⟩=some (.slice (some ⟨b,o,none⟩) p.rules.length k2)/\w'.cell? ⟨b,o+i*3,none⟩=some (.string p.rules[i].name)/\w'.cell? ⟨b,o+i*3+1,none⟩=some (.slice G p.rules[i].guard.length c)/\w'.cell? ⟨b,o+i*3+2,none⟩=some (.slice S p.rules[i].sets.length c2)/\w.heap.size<w'.heap.size) (exact hcell.out _ HB2) (first | (go_simp;go_at_call 148;refine (aJu _ p.rules[i] p.vars.length _ (HRV.out _ HB2) (by omega) HLr.out).mono ?_;rintro e w' ⟨rfl,hbb⟩;rw [HFF.out];replace HB2:=HB2.trans hbb;clear hbb))
        go_wp2_with fail
        go_roundg (p.rules.length-(i+1))
        case rel=>exact ⟨i+1,by omega,rfl,by go_num,HN,HB.trans HB2⟩
        case measure=>omega
      .have hd0:decide (i<p.rules.length)=false:=by simpa using hlt
       have HALL:=aA0 (aAk (by omega) HJ.out)
       rw [HALL.out,if_neg (by decide)] at HC1
       clear HJ
       go_wp2_with fail
       clear hd0 q1 q2 q3 hi hlt
       go_loopg [5] p.rules.length (fun m z wr=>∃ j:Nat,j<=p.rules.length/\m=p.rules.length-j/\z = .int .i64 j/\Hid ((p.rules.take j).all (aBx (aBg p))=true)/\Bel (w.alloc (.cells #[.string p.name,.slice A p.vars.length k,.slice A2 p.rules.length k2] 25)) wr)
       case atStart=>exact ⟨0,by omega,rfl,rfl,rfl,HB⟩
       case round =>
        clear HB;obtain ⟨i,hi,rfl,rfl,HJ,HB⟩:=hrel;have q0:=aA7 HB 0 rfl;have q1:=aA7 HB 1 rfl;have q3:=aA7 HB 2 rfl;have q2:=aAu HB
        by_cases hlt:i<p.rules.length
        .have hd0:decide (i<p.rules.length)=true:=by simpa using hlt
         have hLr:=HP5.out _ (List.getElem_mem hlt);have hfo:=(aE1 _ _).1 (List.all_eq_true.1 HALL.out _ (List.getElem_mem hlt));rw [<- aD1 p] at hfo;obtain ⟨b,o,G,c,S,c2,rfl,hb,c0,c1,c2',hRV⟩:=(HR.out _ (aA3 HB)).at_V i hlt;have HRV:=aA0 (fun w' (k:Bel wr w')=>hRV.keep k);clear hRV;have hcell:=aA0 (fun w' (k:Bel wr w')=>And.intro ((k.cell q2).trans q0) (And.intro ((k.cell q2).trans q1) (And.intro ((k.cell q2).trans q3) (And.intro ((k.cell hb).trans c0) (And.intro ((k.cell hb).trans c1) (And.intro ((k.cell hb).trans c2') (Nat.lt_of_lt_of_le q2 k.size)))))));have HB2:=Bel.refl wr;have HLr:=aA0 hLr;clear hLr;have HFO:=aA0 hfo;clear hfo;obtain ⟨tv,htv⟩:∃ tv,aBx (aBg p) p.rules[i]=tv:=⟨_,rfl⟩;have HTV:=aA0 htv
         go_wp2_with fail
         replace HB2:=HB2.drew
         go_region_held3 (fun w'=>w'.cell? ⟨w.heap.size,0,none⟩=some (.string p.name)/\w'.cell? ⟨w.heap.size,1,none⟩=some (.slice A p.vars.length k)/\w'.cell? ⟨w.heap.size,2,none⟩=some (.slice (some ⟨b,o,none⟩) p.rules.length k2)/\w'.cell? ⟨b,o+i*3,none⟩=some (.string p.rules[i].name)/\w'.cell? ⟨b,o+i*3+1,none⟩=some (.slice G p.rules[i].guard.length c)/\w'.cell? ⟨b,o+i*3+2,none⟩=some (.slice S p.rules[i].sets.length c2)/\w.heap.size<w'.heap.size) (exact hcell.out _ HB2) (first
          | (go_simp;go_at_call 150;refine (aR0 _ p _ (HPV.out _ ((aA3 HB).trans HB2)) (by omega)).mono ?_;rintro e w' ⟨KA,kc,rfl,hK,_,_,hbb⟩;replace HB2:=HB2.trans hbb;clear hbb)
          | (go_simp;go_at_call 149;refine (aR7 _ p.rules[i] _ _ (aBg p) _ (HRV.out _ HB2) hK HFO.out HLr.out).mono ?_;rintro e w' ⟨rfl,hbb⟩;rw [HTV.out];replace HB2:=HB2.trans hbb;clear hbb))
         cases tv with
         | false =>
          rw [aAj hlt HTV.out,if_pos rfl] at HC1
          go_wp2_with fail
          go_ret;exact ⟨aA4 HC1.out.symm,(aA3 HB).trans HB2⟩
         | true =>
          have HN:=aA0 (aA9 hlt HJ.out HTV.out)
          go_wp2_with fail
          go_roundg (p.rules.length-(i+1))
          case rel=>exact ⟨i+1,by omega,rfl,by go_num,HN,HB.trans HB2⟩
          case measure=>omega
        .have hd0:decide (i<p.rules.length)=false:=by simpa using hlt
         rw [aAk (by omega) HJ.out,if_neg (by decide)] at HC1
         go_wp2_with fail
         go_ret;exact ⟨aA4 HC1.out.symm,aA3 HB⟩
 .have HF:Hid (aBj p=3):=by show aBj p=3;unfold aBj;rw [if_pos hn]
  by_cases hv:1<=p.vars.length/\p.vars.length<=6
  .have hin:inB (p.vars.length:Int) 1 6=true:=aDf (by omega) (by omega)
   have hr:12<p.rules.length:=by omega
   have hd:decide (12<p.rules.length)=true:=by simpa using hr
   clear hn hv;go_enter func131,ntmps131
   go_wp2_with (go_at_call 145;refine (aDp _ _ _ _).mono ?_;rintro e w' ⟨rfl,rfl⟩)
   go_ret;exact ⟨aA4 HF.out.symm,aA3 HB⟩
  .have hin:inB (p.vars.length:Int) 1 6=false:=by rw [aD0];omega
   clear hn hv;go_enter func131,ntmps131
   go_wp2_with (go_at_call 145;refine (aDp _ _ _ _).mono ?_;rintro e w' ⟨rfl,rfl⟩)
   go_ret;exact ⟨aA4 HF.out.symm,aA3 HB⟩
theorem aFa (v:Value) (p:Prg) (w:World) (h:aEk w v p) (hL:aAs p=true) :
  Calls prog 114 #[v] w fun e w'=>e = .returned (.bool (decide (aBj p=0)))/\Bel w w':=by
 have HPV:=aA0 (fun w' (k:Bel w w')=>h.keep k);obtain ⟨A,k,A2,k2,rfl,_,_,_,_,_,_⟩:=h;have HB:=(Bel.refl w).alloc (.cells #[.string p.name,.slice A p.vars.length k,.slice A2 p.rules.length k2] 25);go_enter func114,ntmps114
 go_wp2_with (go_at_call 131;refine (aQx _ p _ (HPV.out _ HB) hL).mono ?_;rintro e w' ⟨rfl,hb⟩;replace HB:=HB.trans hb;clear hb)
 go_ret;exact ⟨aA2 (by rw [Bool.eq_iff_iff];simp),HB⟩
open Go.RowKit Go.Maps
def aGb (s:ByteArray):Lit := .string s.data.toList
theorem aV2 {a b:ByteArray} (h:aGb a=aGb b):a=b:=by
 unfold aGb at h;injection h with h
 cases a;cases b
 simp only [ByteArray.mk.injEq]
 exact Array.toList_inj.1 h
theorem aGr {s:ByteArray} {l:List ByteArray}:aGb s∈l.map aGb↔s∈l:=by
 constructor
 .intro h
  obtain ⟨x,hx,he⟩:=List.mem_map.1 h
  rwa [aV2 he] at hx
 .exact fun h=>List.mem_map_of_mem h
theorem aLl:Keyed prog 9:=string_keyed underlying9
theorem aOm (w:World):(zeroValue 4).run prog w = .ok (.bool false) w:=by kernel_rfl
theorem aIy {α:Type} {l:List α} {k:Nat} {x:α} (h:x∈l.take k):∃ j,∃ hj:j<l.length,j<k/\l[j]=x:=by
 rw [List.mem_take_iff_getElem] at h;obtain ⟨j,hj,rfl⟩:=h;exact ⟨j,by omega,by omega,rfl⟩
theorem aQh (v:Value) (p:Prg) (w:World) (h:aEk w v p) (hL:aAs p=true) :
  Calls prog 139 #[v] w fun e w'=>e = .returned (.bool (aCk p))/\Bel w w':=by
 obtain ⟨A,k,A2,k2,rfl,hV,_,_,hR,_,_⟩:=h;have HV:=aA0 (fun w' (k:Bel w w')=>aH8.keep hV k);clear hV;have HR:=aA0 (fun w' (k:Bel w w')=>aEz.keep hR k);clear hR;obtain ⟨p1,p2,p3,p4,p5⟩:=aB3 hL;have HP4:=aA0 p4;have HP5:=aA0 (fun r hr=>(aBq (p5 r hr)).1);clear p4 p5 hL;have HB:=Bel.refl (w.alloc (.cells #[.string p.name,.slice A p.vars.length k,.slice A2 p.rules.length k2] 25));have hmm:=@run_makeMap prog;cases hnm:aE3 p.name with
 | false =>
  have HF:Hid (aCk p=false):=by show aCk p=false;unfold aCk;rw [hnm];rfl
  go_enter func139,ntmps139
  go_wp2_with (go_at_call 158;refine (aFk _ _ (by omega)).mono ?_;rintro e w' ⟨rfl,rfl⟩)
  go_ret;exact ⟨aA2 HF.out.symm,aA3 HB⟩
 | true =>
  have HNM:=aA0 hnm;have HS0:=aA0 (aNq.made prog 9 4 (w.alloc (.cells #[.string p.name,.slice A p.vars.length k,.slice A2 p.rules.length k2] 25)));replace HB:=HB.alloc (.map #[] 0);simp only [World.size_alloc] at HS0
  go_enter func139,ntmps139
  go_wp2_with (go_at_call 158;refine (aFk _ _ (by omega)).mono ?_;rintro e w' ⟨rfl,rfl⟩)
  clear hnm
  go_loopg [5,17] p.vars.length (fun m _x z wr=>∃ j:Nat,j<=p.vars.length/\m=p.vars.length-j/\z = .int .i64 j/\Hid ((∀ q,q<j->(hq:q<p.vars.length)->aE3 p.vars[q].name=true)/\((p.vars.map Var.name).take j).Nodup)/\Hid (aNq prog 9 4 wr (w.heap.size+1) j (((p.vars.map Var.name).take j).map aGb))/\Bel (w.alloc (.cells #[.string p.name,.slice A p.vars.length k,.slice A2 p.rules.length k2] 25)) wr)
  case atStart=>exact ⟨0,by omega,rfl,rfl,⟨fun q hq=>absurd hq (by omega),by simp⟩,HS0,HB⟩
  case round =>
   clear HB HS0;obtain ⟨i,hi,rfl,rfl,HJ,HS,HB⟩:=hrel
   by_cases hlt:i<p.vars.length
   .have hd0:decide (i<p.vars.length)=true:=by simpa using hlt
    have hnl:=HP4.out _ (List.getElem_mem hlt);obtain ⟨b,o,rfl,hb,hc0,hc1,hc2,hc3,hc4,hc5⟩:=(HV.out _ (aA3 HB)).at_ i hlt;have hkey:=WideMaps.keyOf_string_mk (P:=prog) (k:=9) underlying9 (s:=p.vars[i].name) (by unfold maxLen;omega)
    have HB2:=HB.alloc (.cells #[.string p.vars[i].name,.int .i64 p.vars[i].kind,.int .i64 p.vars[i].lo,.int .i64 p.vars[i].hi,.int .i64 p.vars[i].perNode,.int .i64 p.vars[i].perID] 100);have HS2:=aA0 (HS.out.keep ((Bel.refl wr).alloc (.cells #[.string p.vars[i].name,.int .i64 p.vars[i].kind,.int .i64 p.vars[i].lo,.int .i64 p.vars[i].hi,.int .i64 p.vars[i].perNode,.int .i64 p.vars[i].perID] 100)));obtain ⟨x,hx,hxi⟩:=HS2.out.look aLl underlying194 underlying4 (aOm _) hkey;have HXI:=aA0 hxi;have hms:=HS2.out.lt;have HKEY:=aA0 hkey;clear hxi hkey;cases hnn:aE3 p.vars[i].name with
    | false =>
     have HF:Hid (aCk p=false):=aEo fun hf=>by
      have:=((aC1 _).1 hf).1 p.vars[i].name (List.mem_map_of_mem (List.getElem_mem hlt));rw [hnn] at this;cases this
     go_wp2_with (go_at_call 158;refine (aFk _ _ (by omega)).mono ?_;rintro e w' ⟨rfl,rfl⟩)
     go_ret;exact ⟨aA2 HF.out.symm,aA3 HB2⟩
    | true =>
     cases x with
     | true =>
      have HF:Hid (aCk p=false):=aEo fun hf=>by
       have hm:=HXI.out.1 rfl;rw [show (Lit.string p.vars[i].name.data.toList)=aGb p.vars[i].name from rfl,aGr] at hm
       obtain ⟨j,hj1,hj2,hj3⟩:=aIy hm;exact aEv hj2 (by simpa using hlt) (by rw [hj3];simp) ((aC1 _).1 hf).2
      go_wp2_with (go_at_call 158;refine (aFk _ _ (by omega)).mono ?_;rintro e w' ⟨rfl,rfl⟩)
      go_ret;exact ⟨aA2 HF.out.symm,aA3 HB2⟩
     | false =>
      have HNN:=aA0 hnn
      have HT:Hid (((p.vars.map Var.name).take (i+1)).Nodup):=by
       show List.Nodup _
       refine aC2 (by simpa using hlt) HJ.out.2 (fun q hq he=>?_)
       have:(false:Bool)=true:=HXI.out.2 (by
        rw [show (Lit.string p.vars[i].name.data.toList)=aGb p.vars[i].name from rfl,aGr,List.mem_take_iff_getElem]
        refine ⟨q,by simp;omega,?_⟩
        simp at he ⊢
        exact he)
       cases this
      go_wp2_with (first
       | (go_at_call 158;refine (aFk _ _ (by omega)).mono ?_;rintro e w' ⟨rfl,rfl⟩)
       | (at_mapUpdate;refine aGt _ rfl (.tmp 31) (.tmp 33) (.const (.bool true)) 194 rfl 9 4 aLl underlying194 underlying4 (w.heap.size+1) i _ rfl HS2.out (by unfold maxLen;omega) _ _ rfl rfl HKEY.out trivial ?_;intro w3 hset hgr;have HB3:=HB2.map (by simp <;> omega) hgr;have HS3:=aA0 hset;clear hset hgr))
      go_roundg (p.vars.length-(i+1))
      case rel =>
       refine ⟨i+1,by omega,rfl,by go_num,⟨?_,HT.out⟩,?_,HB3⟩
       .intro q hq hq'
        rcases Nat.lt_or_ge q i with h | h
        .exact HJ.out.1 q h hq'
        .obtain rfl:q=i:=by omega
         exact HNN.out
       .obtain ⟨D,d1,d2,d3⟩:=HS3.out
        refine ⟨D,d1,d2,fun kl=>?_⟩
        obtain ⟨y,hy,hyi⟩:=d3 kl;refine ⟨y,hy,?_⟩
        rw [hyi,List.take_succ_eq_append_getElem (by simpa using hlt)]
        simp [aGb,or_comm]
      case measure=>omega
   .have hd0:decide (i<p.vars.length)=false:=by simpa using hlt
    have HE:Hid (aFl (p.vars.map Var.name)=true):=by
     show aFl (p.vars.map Var.name)=true
     rw [aC1];obtain ⟨a1,a2⟩:=HJ.out;rw [List.take_of_length_le (by simp;omega)] at a2
     refine ⟨fun s hs=>?_,a2⟩
     obtain ⟨x,hx,rfl⟩:=List.mem_map.1 hs;obtain ⟨q,hq,rfl⟩:=List.getElem_of_mem hx;exact a1 q (by omega) hq
    have HE1:=HE;have q1:=aA7 HB 2 rfl;have q2:=aAu HB;have HS0:=aA0 (aNq.made prog 9 4 wr);clear HE HJ HS;have hmb:w.heap.size+1<=wr.heap.size:=by omega
    replace HB:=HB.alloc (.map #[] 0)
    go_wp2_with fail
    clear hd0 q1 q2 hi hlt;generalize hmbe:wr.heap.size=mb at *;clear hmbe
    go_loopg [8,39] p.rules.length (fun m _x z wr=>∃ j:Nat,j<=p.rules.length/\m=p.rules.length-j/\z = .int .i64 j/\Hid ((∀ q,q<j->(hq:q<p.rules.length)->aE3 p.rules[q].name=true)/\((p.rules.map Rule.name).take j).Nodup)/\Hid (aNq prog 9 4 wr (mb) j (((p.rules.map Rule.name).take j).map aGb))/\Bel (w.alloc (.cells #[.string p.name,.slice A p.vars.length k,.slice A2 p.rules.length k2] 25)) wr)
    case atStart=>exact ⟨0,by omega,rfl,rfl,⟨fun q hq=>absurd hq (by omega),by simp⟩,HS0,HB⟩
    case round =>
     clear HB HS0;obtain ⟨i,hi,rfl,rfl,HJ,HS,HB⟩:=hrel
     by_cases hlt:i<p.rules.length
     .have hd0:decide (i<p.rules.length)=true:=by simpa using hlt
      have hnl:=HP5.out _ (List.getElem_mem hlt);obtain ⟨b,o,G,c,S,c2,rfl,hb,hc0,hc1,hc2,_⟩:=(HR.out _ (aA3 HB)).at_ i hlt;have hkey:=WideMaps.keyOf_string_mk (P:=prog) (k:=9) underlying9 (s:=p.rules[i].name) (by unfold maxLen;omega)
      have HB2:=HB.alloc (.cells #[.string p.rules[i].name,.slice G p.rules[i].guard.length c,.slice S p.rules[i].sets.length c2] 93);have HS2:=aA0 (HS.out.keep ((Bel.refl wr).alloc (.cells #[.string p.rules[i].name,.slice G p.rules[i].guard.length c,.slice S p.rules[i].sets.length c2] 93)));obtain ⟨x,hx,hxi⟩:=HS2.out.look aLl underlying194 underlying4 (aOm _) hkey;have HXI:=aA0 hxi;have hms:=HS2.out.lt;have HKEY:=aA0 hkey;clear hxi hkey;cases hnn:aE3 p.rules[i].name with
      | false =>
       have HF:Hid (aCk p=false):=aEp fun hf=>by
        have:=((aC1 _).1 hf).1 p.rules[i].name (List.mem_map_of_mem (List.getElem_mem hlt));rw [hnn] at this;cases this
       go_wp2_with (go_at_call 158;refine (aFk _ _ (by omega)).mono ?_;rintro e w' ⟨rfl,rfl⟩)
       go_ret;exact ⟨aA2 HF.out.symm,aA3 HB2⟩
      | true =>
       cases x with
       | true =>
        have HF:Hid (aCk p=false):=aEp fun hf=>by
         have hm:=HXI.out.1 rfl;rw [show (Lit.string p.rules[i].name.data.toList)=aGb p.rules[i].name from rfl,aGr] at hm
         obtain ⟨j,hj1,hj2,hj3⟩:=aIy hm;exact aEv hj2 (by simpa using hlt) (by rw [hj3];simp) ((aC1 _).1 hf).2
        go_wp2_with (go_at_call 158;refine (aFk _ _ (by omega)).mono ?_;rintro e w' ⟨rfl,rfl⟩)
        go_ret;exact ⟨aA2 HF.out.symm,aA3 HB2⟩
       | false =>
        have HNN:=aA0 hnn
        have HT:Hid (((p.rules.map Rule.name).take (i+1)).Nodup):=by
         show List.Nodup _
         refine aC2 (by simpa using hlt) HJ.out.2 (fun q hq he=>?_)
         have:(false:Bool)=true:=HXI.out.2 (by
          rw [show (Lit.string p.rules[i].name.data.toList)=aGb p.rules[i].name from rfl,aGr,List.mem_take_iff_getElem]
          refine ⟨q,by simp;omega,?_⟩
          simp at he ⊢
          exact he)
         cases this
        go_wp2_with (first
         | (go_at_call 158;refine (aFk _ _ (by omega)).mono ?_;rintro e w' ⟨rfl,rfl⟩)
         | (at_mapUpdate;refine aGt _ rfl (.tmp 53) (.tmp 55) (.const (.bool true)) 194 rfl 9 4 aLl underlying194 underlying4 (mb) i _ rfl HS2.out (by unfold maxLen;omega) _ _ rfl rfl HKEY.out trivial ?_;intro w3 hset hgr;have HB3:=HB2.map (by simp <;> omega) hgr;have HS3:=aA0 hset;clear hset hgr))
        go_roundg (p.rules.length-(i+1))
        case rel =>
         refine ⟨i+1,by omega,rfl,by go_num,⟨?_,HT.out⟩,?_,HB3⟩
         .intro q hq hq'
          rcases Nat.lt_or_ge q i with h | h
          .exact HJ.out.1 q h hq'
          .obtain rfl:q=i:=by omega
           exact HNN.out
         .obtain ⟨D,d1,d2,d3⟩:=HS3.out
          refine ⟨D,d1,d2,fun kl=>?_⟩
          obtain ⟨y,hy,hyi⟩:=d3 kl;refine ⟨y,hy,?_⟩
          rw [hyi,List.take_succ_eq_append_getElem (by simpa using hlt)]
          simp [aGb,or_comm]
        case measure=>omega
     .have hd0:decide (i<p.rules.length)=false:=by simpa using hlt
      have HE:Hid (aFl (p.rules.map Rule.name)=true):=by
       show aFl (p.rules.map Rule.name)=true
       rw [aC1];obtain ⟨a1,a2⟩:=HJ.out;rw [List.take_of_length_le (by simp;omega)] at a2
       refine ⟨fun s hs=>?_,a2⟩
       obtain ⟨x,hx,rfl⟩:=List.mem_map.1 hs;obtain ⟨q,hq,rfl⟩:=List.getElem_of_mem hx;exact a1 q (by omega) hq
      go_wp2_with fail
      go_ret;refine ⟨aA2 ?_,aA3 HB⟩
      symm
      unfold aCk;rw [HNM.out,HE1.out,HE.out];rfl
theorem aJm {n:Nat} (h:1<=n):(n==0)=false:=by simp;omega
theorem aJe {n:Nat} (h:1<=n):((n:Int)==0)=false:=by simp;omega
def aMb (x:Int):Lit := .int .i64 x
theorem aMc {x:Int} {l:List Int}:aMb x∈l.map aMb↔x∈l:=by
 constructor
 .intro h
  obtain ⟨y,hy,he⟩:=List.mem_map.1 h;unfold aMb at he;injection he with _ he
  subst he;exact hy
 .exact fun h=>List.mem_map_of_mem h
theorem aT9:Keyed prog 3:=int_keyed underlying3
theorem aNs (v:Value) (r:Rule) (vars:Nat) (w:World) (h:aPs w v r) (hvars:vars<=1000) (hL:aEl r=true) :
  Calls prog 141 #[v,.int .i64 vars] w fun e w'=>e = .returned (.bool (aC0 vars r))/\Bel w w':=by
 obtain ⟨G,c,S,c2,rfl,hG,_,_,hS,_,_⟩:=h;have HG:=aA0 (fun w' (k:Bel w w')=>aAw.keep hG k);clear hG;have HS:=aA0 (fun w' (k:Bel w w')=>aK2.keep hS k);clear hS;obtain ⟨_,l2,l3,l4⟩:=aBq hL;have HL4:=aA0 l4;clear l4 hL;have HB:=Bel.refl (w.alloc (.cells #[.string r.name,.slice G r.guard.length c,.slice S r.sets.length c2] 93));have hmm:=@run_makeMap prog
 by_cases hn:1<=r.sets.length/\r.sets.length<=6
 .have hz:((r.sets.length:Int)==0)=false:=aJe (by omega)
  have hz':(r.sets.length==0)=false:=aJm (by omega)
  have hz2:decide (6<r.sets.length)=false:=by simp;omega
  cases hvg:aAy r.guard vars with
  | false =>
   have HF:Hid (aC0 vars r=false):=aBl fun h=>by rw [h.guard] at hvg;cases hvg
   go_enter func141,ntmps141
   go_wp2_with (go_at_call 161;refine (aGc _ _ _ r.guard _ _ (HG.out _ (aA3 HB)) (by omega)).mono ?_;rintro e w' ⟨rfl,hb⟩;rw [hvg];replace HB:=HB.trans hb;clear hb)
   go_ret;exact ⟨aA2 HF.out.symm,aA3 HB⟩
  | true =>
   have HVG:=aA0 hvg;clear hvg;go_enter func141,ntmps141
   go_wp2_with (go_at_call 161;refine (aGc _ _ _ r.guard _ _ (HG.out _ (aA3 HB)) (by omega)).mono ?_;rintro e w1 ⟨rfl,hb⟩;rw [HVG.out];replace HB:=HB.trans hb;clear hb;have q1:=aA7 HB 2 rfl;have q2:=aAu HB)
   clear hz hz' hz2 q1;have HS0:=aA0 (aNq.made prog 3 4 w1);replace HB:=HB.alloc (.map #[] 0);obtain ⟨mb,hmb⟩:∃ mb,w1.heap.size=mb:=⟨_,rfl⟩;rw [hmb] at q2;simp only [hmb] at HS0 ⊢
   clear hmb
   go_loopg [7,29] r.sets.length (fun m _x z wr=>∃ j:Nat,j<=r.sets.length/\m=r.sets.length-j/\z = .int .i64 j/\Hid ((r.sets.take j).all (fun s=>decide (0<=s.var/\s.var<=(vars:Int)-1)&&aAy s.value vars)=true/\((r.sets.map SetT.var).take j).Nodup)/\Hid (aNq prog 3 4 wr mb j (((r.sets.map SetT.var).take j).map aMb))/\Bel (w.alloc (.cells #[.string r.name,.slice G r.guard.length c,.slice S r.sets.length c2] 93)) wr)
   case atStart=>exact ⟨0,by omega,rfl,rfl,⟨rfl,by simp⟩,HS0,HB⟩
   case round =>
    clear HB HS0;obtain ⟨i,hi,rfl,rfl,HJ,HM,HB⟩:=hrel
    by_cases hlt:i<r.sets.length
    .have hd0:decide (i<r.sets.length)=true:=by simpa using hlt
     obtain ⟨b,o,R,c',rfl,hb,s1,s2,hTv,_,_⟩:=(HS.out _ (aA3 HB)).at_ i hlt;have HTv:=aA0 (fun w' (k:Bel wr w')=>aAw.keep hTv k);clear hTv;have hlen:=HL4.out _ (List.getElem_mem hlt);have HB2:=Bel.refl (wr.alloc (.cells #[.int .i64 r.sets[i].var,.slice R r.sets[i].value.length c'] 95))
     by_cases hr:0<=r.sets[i].var/\r.sets[i].var<=(vars:Int)-1
     .have hin:inB r.sets[i].var 0 ((vars:Int)-1)=true:=aDf hr.1 hr.2
      have hkey:=keyOf_int_mk (P:=prog) (k:=3) (q := .i64) underlying3 (a:=r.sets[i].var) (WalkArith.wf_i64 (by omega))
      have HM2:=aA0 (HM.out.keep (aA3 HB2));obtain ⟨x,hx,hxi⟩:=HM2.out.look aT9 underlying196 underlying4 (aOm _) hkey;have HXI:=aA0 hxi;have HKEY:=aA0 hkey;clear hxi hkey;cases x with
      | true =>
       have HF:Hid (aC0 vars r=false):=aBl fun hf=>by
        have hm:=HXI.out.1 rfl;rw [show (Lit.int .i64 r.sets[i].var)=aMb r.sets[i].var from rfl,aMc] at hm
        obtain ⟨j,hj1,hj2,hj3⟩:=aIy hm;exact aEv hj2 (by simpa using hlt) (by rw [hj3];simp) hf.diff
       go_wp2_with (go_at_call 160;refine (aGd _ _ _ _).mono ?_;rintro e w' ⟨rfl,rfl⟩)
       go_ret;exact ⟨aA2 HF.out.symm,(aA3 HB).trans (aA3 HB2)⟩
      | false =>
       cases hvs:aAy r.sets[i].value vars with
       | false =>
        have HF:Hid (aC0 vars r=false):=aBl fun h=>by have:=(h.sets _ (List.getElem_mem hlt)).2;rw [hvs] at this;cases this
        go_wp2_with (first
         | (go_at_call 160;refine (aGd _ _ _ _).mono ?_;rintro e w' ⟨rfl,rfl⟩)
         | (go_at_call 161;refine (aGc _ _ _ r.sets[i].value _ _ (HTv.out _ (aA3 HB2)) (by omega)).mono ?_;rintro e w' ⟨rfl,hbb⟩;rw [hvs];replace HB2:=HB2.trans hbb;clear hbb))
        go_ret;exact ⟨aA2 HF.out.symm,(aA3 HB).trans (aA3 HB2)⟩
       | true =>
        have HOK:=aA0 (show (decide (0<=r.sets[i].var/\r.sets[i].var<=(vars:Int)-1)&&aAy r.sets[i].value vars)=true by rw [hvs,decide_eq_true hr];rfl)
        have HVS:=aA0 hvs
        have HT:Hid (((r.sets.map SetT.var).take (i+1)).Nodup):=by
         show List.Nodup _
         refine aC2 (by simpa using hlt) HJ.out.2 (fun q hq he=>?_)
         have:(false:Bool)=true:=HXI.out.2 (by
          rw [show (Lit.int .i64 r.sets[i].var)=aMb r.sets[i].var from rfl,aMc,List.mem_take_iff_getElem]
          refine ⟨q,by simp;omega,?_⟩
          simp at he ⊢
          exact he)
         cases this
        clear hvs hr
        go_wp2_with (first
         | (go_at_call 160;refine (aGd _ _ _ _).mono ?_;rintro e w' ⟨rfl,rfl⟩)
         | (go_at_call 161;refine (aGc _ _ _ r.sets[i].value _ _ (HTv.out _ (aA3 HB2)) (by omega)).mono ?_;rintro e w2 ⟨rfl,hbb⟩;rw [HVS.out];replace HB2:=HB2.trans hbb;have HM3:=aA0 (HM2.out.keep hbb);clear hbb hx;have q1:=aA7 HB2 0 rfl;have q3:=aAu HB2)
         | (at_mapUpdate;refine aGt _ rfl (.tmp 52) (.tmp 54) (.const (.bool true)) 196 rfl 3 4 aT9 underlying196 underlying4 mb i _ rfl HM3.out (by unfold maxLen;omega) _ _ rfl rfl HKEY.out trivial ?_;intro w3 hset hgr;have HB3:=(HB.trans (aA3 HB2)).map (by simp <;> omega) hgr;have HM4:=aA0 hset;clear hset hgr))
        go_roundg (r.sets.length-(i+1))
        case rel =>
         refine ⟨i+1,by omega,rfl,by go_num,⟨aA9 hlt HJ.out.1 HOK.out,HT.out⟩,?_,HB3⟩
         obtain ⟨D,d1,d2,d3⟩:=HM4.out;refine ⟨D,d1,d2,fun kl=>?_⟩
         obtain ⟨y,hy,hyi⟩:=d3 kl;refine ⟨y,hy,?_⟩
         rw [hyi,List.take_succ_eq_append_getElem (by simpa using hlt)]
         simp [aMb,or_comm]
        case measure=>omega
     .have hin:inB r.sets[i].var 0 ((vars:Int)-1)=false:=by
       rw [aD0];omega
      have HF:Hid (aC0 vars r=false):=aBl fun h=>hr (h.sets _ (List.getElem_mem hlt)).1;clear hr
      go_wp2_with (go_at_call 160;refine (aGd _ _ _ _).mono ?_;rintro e w' ⟨rfl,rfl⟩)
      go_ret;exact ⟨aA2 HF.out.symm,(aA3 HB).trans (aA3 HB2)⟩
    .have hd0:decide (i<r.sets.length)=false:=by simpa using hlt
     go_wp2_with fail
     go_ret;refine ⟨aA2 ?_,aA3 HB⟩
     symm
     rw [aE1];obtain ⟨a1,a2⟩:=HJ.out;rw [List.take_of_length_le (by omega)] at a1
     rw [List.take_of_length_le (by simp;omega)] at a2
     refine ⟨hn.1,hn.2,HVG.out,fun s hs=>?_,a2⟩
     have:=List.all_eq_true.1 a1 s hs;rw [Bool.and_eq_true] at this;exact ⟨of_decide_eq_true this.1,this.2⟩
 .have HF:Hid (aC0 vars r=false):=aBl fun h=>hn ⟨h.pos,h.le⟩
  rcases (show r.sets.length=0∨6<r.sets.length by omega) with h0 | h0
  .have hz:((r.sets.length:Int)==0)=true:=by simp [h0]
   have hz':(r.sets.length==0)=true:=by simp [h0]
   clear hn;have HH:=aA0 h0;clear h0;go_enter func141,ntmps141
   go_wp2_with fail
   go_ret;exact ⟨aA2 HF.out.symm,aA3 HB⟩
  .have hz:((r.sets.length:Int)==0)=false:=aJe (by omega)
   have hz':(r.sets.length==0)=false:=aJm (by omega)
   have hz2:decide (6<r.sets.length)=true:=by simpa using h0
   clear hn;go_enter func141,ntmps141
   go_wp2_with fail
   go_ret;exact ⟨aA2 HF.out.symm,aA3 HB⟩
end Go.Proofs.YtdcjnhoabbdanaaGreatDoor

