/- Merged. -/
import Derived.Test.YtdcjnhoabbdanaaGreatDoorZ24
import Derived.BigQuiet
set_option linter.unusedSimpArgs false
set_option linter.unnecessarySimpa false
set_option linter.unusedVariables false
set_option maxRecDepth 100000
set_option maxHeartbeats 4000000
open Go.Proofs.Tryz

namespace Go.Proofs.YtdcjnhoabbdanaaGreatDoor
open Go.RowKit
theorem aSg (v2:Value) (g:Graph) (S:Nat) (w:World) (h2:aAn w v2 g) (hg:GOK g) (hG:aB3 g=true) (hS:S<4294967296) :
  Calls prog 74 #[v2,.int .u32 (S:Int)] w fun e w'=>e = .returned (.int .u32 (bBm g S:Nat))/\Bel w w':=by
 have HGV:=aA0 (fun w' (k:Bel w w')=>h2.keep k)
 have hP:∃ A k A2 k2,v2 = .agg #[.slice A g.ids.length k,.slice A2 g.ports.length k2]/\aFa w A2 g.ports.length g.ports:=by
  obtain ⟨A,k,A2,k2,e,_,_,_,hP,_⟩:=h2;exact ⟨A,k,A2,k2,e,hP⟩
 obtain ⟨A3,k3,A4,k4,rfl,hP⟩:=hP;have HP:=aA0 (fun w' (k:Bel w w')=>aFa.keep hP k);have HGL:=aA0 hG;have hle:=hg.le;have HLT:=aA0 (fun v (hv:v<g.ports.length)=>aCl hv (hg.links v hv));have HGT:Hid (aDr g=true):=(aDj g).2 hg;have HS:=aA0 hS;have HNF:Hid (bBm g S=aBw g.ports.length fun v=>(g.ports.getD v []).any fun l=>aOo S l.to):=rfl;have HW:=Bel.refl (w.alloc (.cells #[.slice A3 g.ids.length k3,.slice A4 g.ports.length k4] 29));clear h2 hP hG hg hS;go_enter func74,ntmps74
 go_wp2_with (go_at_call 72;refine (aC2 _ g _ (HGV.out _ (aA3 HW)) HGL.out).mono ?_;rintro e w' ⟨rfl,hb⟩;rw [HGT.out];replace HW:=HW.trans hb;clear hb)
 go_loopg [5,6,7] g.ports.length (fun m s x _y wr=>∃ v:Nat,v<=g.ports.length/\m=g.ports.length-v/\s = .int .u32 (aBw v fun v=>(g.ports.getD v []).any fun l=>aOo S l.to:Nat)/\x = .int .i64 v/\Bel (w.alloc (.cells #[.slice A3 g.ids.length k3,.slice A4 g.ports.length k4] 29)) wr)
 case atStart=>exact ⟨0,by omega,rfl,rfl,rfl,HW⟩
 case round =>
  clear HW;obtain ⟨wo,rfl⟩:∃ wo:World,wo=wr:=⟨_,rfl⟩;obtain ⟨v,hv,rfl,rfl,rfl,HW⟩:=hrel;have q1:=aA9 HW 1 (v := .slice A4 g.ports.length k4) rfl;have q2:=aAy HW
  by_cases hlt:v<g.ports.length
  .have hd0:decide (v<g.ports.length)=true:=by simpa using hlt
   obtain ⟨b,o,R,rc,rfl,hb,hrow,hL,_,_⟩:=(HP.out _ (aA3 HW)).at_ v hlt;have HL:=aA0 hL;have hll:=HLT.out v hlt;obtain ⟨s0,hs0⟩:∃ s0,s0=aBw v fun v=>(g.ports.getD v []).any fun l=>aOo S l.to:=⟨_,rfl⟩;have hs0l:s0<4294967296:=by rw [hs0];exact aEf _ (by omega)
   rw [<- hs0];have HS0:=aA0 hs0;clear hL hs0
   go_wp2_with fail
   go_loopg [5,7] g.ports[v].length (fun m s x ws=>∃ i:Nat,i<=g.ports[v].length/\m=g.ports[v].length-i/\s = .int .u32 (bC1 s0 v ((g.ports[v].take i).any fun l=>aOo S l.to):Nat)/\x = .int .i64 i/\wo=ws)
   case atStart=>exact ⟨0,by omega,rfl,rfl,rfl,rfl⟩
   case round =>
    obtain ⟨i,hi,rfl,rfl,rfl,rfl⟩:=hrel;have hal:=bBa hs0l (show v<32 by omega) ((g.ports[v].take i).any fun l=>aOo S l.to)
    by_cases hlt2:i<g.ports[v].length
    .have hd2:decide (i<g.ports[v].length)=true:=by simpa using hlt2
     obtain ⟨b1,o1,rfl,hb1,c0,c1⟩:=HL.out.at_ i hlt2
     have HTS:Hid (((g.ports[v].take (i+1)).any fun l=>aOo S l.to)=(((g.ports[v].take i).any fun l=>aOo S l.to)||aOo S g.ports[v][i].to)):=by
      show _=_
      rw [List.take_succ_eq_append_getElem hlt2,List.any_append];simp
     cases hh:aOo S g.ports[v][i].to with
     | true =>
      rw [hh] at HTS
      go_wp2_with (go_at_call 55;refine (aFu S _ _ HS.out).mono ?_;rintro e w2 ⟨rfl,rfl⟩;rw [hh])
      go_roundg (g.ports[v].length-(i+1))
      case rel =>
       refine ⟨i+1,by omega,rfl,?_,by go_num,rfl⟩
       rw [HTS.out,aG6 hal (by omega)]
       cases (g.ports[v].take i).any fun l=>aOo S l.to with
       | true=>rw [aVk];rfl
       | false=>rfl
      case measure=>omega
     | false =>
      rw [hh] at HTS
      go_wp2_with (go_at_call 55;refine (aFu S _ _ HS.out).mono ?_;rintro e w2 ⟨rfl,rfl⟩;rw [hh])
      go_roundg (g.ports[v].length-(i+1))
      case rel=>exact ⟨i+1,by omega,rfl,by rw [HTS.out,Bool.or_false],by go_num,rfl⟩
      case measure=>omega
    .have hd2:decide (i<g.ports[v].length)=false:=by simpa using hlt2
     obtain rfl:i=g.ports[v].length:=by omega
     go_wp2_with fail
     go_roundg (g.ports.length-(v+1))
     case rel =>
      refine ⟨v+1,by omega,rfl,?_,by go_num,HW⟩
      rw [List.take_of_length_le (Nat.le_refl _),aF4,aA8 hlt,HS0.out];rfl
     case measure=>omega
  .have hd0:decide (v<g.ports.length)=false:=by simpa using hlt
   obtain rfl:v=g.ports.length:=by omega
   go_wp2_with fail
   go_ret;exact ⟨aA5 (by rw [HNF.out]),aA3 HW⟩
theorem aFl (n:Nat) (w:World) (hn:n<=30) :
  Calls prog 73 #[.int .i64 (n:Int)] w fun e w'=>e = .returned (.int .u32 (aBw n (fun _=>true):Nat))/\w=w':=by
 go_enter func73,ntmps73
 go_wp2_with fail
 go_loopg [3,4] n (fun m s z wr=>∃ v:Nat,v<=n/\m=n-v/\s = .int .u32 (aBw v (fun _=>true):Nat)/\z = .int .i64 v/\w=wr)
 case atStart=>exact ⟨0,by omega,rfl,rfl,rfl,rfl⟩
 case round =>
  obtain ⟨v,hv,rfl,rfl,rfl,rfl⟩:=hrel;have hsl:=aEf (fun _=>true) (show v<=32 by omega)
  by_cases hlt:v<n
  .have hd0:decide (v<n)=true:=by simpa using hlt
   have hd1:decide (v<32)=true:=by simp;omega
   go_wp2_with fail
   go_roundg (n-(v+1))
   case rel=>exact ⟨v+1,by omega,rfl,by rw [aF4,if_pos rfl,aG6 hsl (by omega)],by go_num,rfl⟩
   case measure=>omega
  .have hd0:decide (v<n)=false:=by simpa using hlt
   obtain rfl:v=n:=by omega
   go_wp2_with fail
   go_ret;exact ⟨rfl,rfl⟩
theorem aSc (v2:Value) (g:Graph) (S:Nat) (w:World) (h2:aAn w v2 g) (hg:GOK g) (hG:aB3 g=true) (hS:S<4294967296) :
  Calls prog 46 #[v2,.int .u32 (S:Int)] w fun e w'=>e = .returned (.bool (aP8 g S))/\Bel w w':=by
 have HGV:=aA0 (fun w' (k:Bel w w')=>h2.keep k);obtain ⟨A3,k3,A4,k4,rfl,_,_,_,_,_,_⟩:=h2;have HGL:=aA0 hG;have HG:=aA0 hg;have hle:=hg.le;have HGT:Hid (aDr g=true):=(aDj g).2 hg;have HF:=aA0 (aXr HGT.out hS);have HS:=aA0 hS;have HZ:=aA0 (aEl (T:=aBw g.ports.length fun _=>true) hS);have hbn:=aCw S (aBw g.ports.length fun _=>true);have hba:=aCv (S:=bBm g S) (T:=S) (aEf _ (by omega)) hS
 have HW:=Bel.refl (w.alloc (.cells #[.slice A3 g.ids.length k3,.slice A4 g.ports.length k4] 29));clear hG hg hS;cases hw:aBe S (aBw g.ports.length fun _=>true) with
 | false =>
  rw [hw] at HF HZ;have hz:((aD4 S (aBw g.ports.length fun _=>true):Int) != 0)=true:=by have:=HZ.out;simp at this ⊢;omega
  have hz':(aD4 S (aBw g.ports.length fun _=>true) != 0)=true:=by have:=HZ.out;simp at this ⊢;omega
  clear hw;go_enter func46,ntmps46
  go_wp2_with (first
   | (go_at_call 72;refine (aC2 _ g _ (HGV.out _ (aA3 HW)) HGL.out).mono ?_;rintro e w' ⟨rfl,hb⟩;rw [HGT.out];replace HW:=HW.trans hb;clear hb;have q1:=aA9 HW 1 (v := .slice A4 g.ports.length k4) rfl;have q2:=aAy HW)
   | (go_at_call 73;refine (aFl g.ports.length _ (by omega)).mono ?_;rintro e w' ⟨rfl,rfl⟩))
  go_ret;exact ⟨aA2 (by rw [HF.out];rfl),aA3 HW⟩
 | true =>
  rw [hw] at HF HZ;have hz:((aD4 S (aBw g.ports.length fun _=>true):Int) != 0)=false:=by have:=HZ.out;simp at this ⊢;omega
  have hz':(aD4 S (aBw g.ports.length fun _=>true) != 0)=false:=by have:=HZ.out;simp at this ⊢;omega
  clear hw;go_enter func46,ntmps46
  go_wp2_with (first
   | (go_at_call 72;refine (aC2 _ g _ (HGV.out _ (aA3 HW)) HGL.out).mono ?_;rintro e w' ⟨rfl,hb⟩;rw [HGT.out];replace HW:=HW.trans hb;clear hb;have q0:=aA9 HW 0 (v := .slice A3 g.ids.length k3) rfl;have q1:=aA9 HW 1 (v := .slice A4 g.ports.length k4) rfl;have q2:=aAy HW)
   | (go_at_call 73;refine (aFl g.ports.length _ (by omega)).mono ?_;rintro e w' ⟨rfl,rfl⟩)
   | (go_at_call 74;refine (aSg _ g S _ (HGV.out _ (aA3 HW)) HG.out HGL.out HS.out).mono ?_;rintro e w' ⟨rfl,hb⟩;replace HW:=HW.trans hb;clear hb q0 q1 q2))
  go_ret;refine ⟨aA2 ?_,aA3 HW⟩
  rw [HF.out,Bool.true_and,Bool.eq_iff_iff];simp
  try omega
def aTg (S v:Nat):Nat:=((List.range v).filter (S.testBit ·)).length
theorem aVn (S v:Nat):aTg S (v+1)=aTg S v+if S.testBit v=true then 1 else 0:=by
 unfold aTg;rw [List.range_succ,List.filter_append];cases h:S.testBit v <;> simp [h]
theorem aZl (S v:Nat):aTg S v<=v:=by
 unfold aTg;have:=List.length_filter_le (S.testBit ·) (List.range v);simpa using this
theorem aIe (S:Nat) (w:World) (hS:S<4294967296) :
  Calls prog 45 #[.int .u32 (S:Int)] w fun e w'=>e = .returned (.int .i64 ((aAl S).length:Int))/\w=w':=by
 have HS:=aA0 hS;have HF:Hid ((aAl S).length=aTg S 32):=rfl;clear hS;go_enter func45,ntmps45
 go_wp2_with fail
 go_loopg [3,4] 32 (fun m n z wr=>∃ v:Nat,v<=32/\m=32-v/\n = .int .i64 (aTg S v:Int)/\z = .int .i64 (v:Int)/\w=wr)
 case atStart=>exact ⟨0,by omega,rfl,rfl,rfl,rfl⟩
 case round =>
  obtain ⟨v,hv,rfl,rfl,rfl,rfl⟩:=hrel;have hc:=aZl S v
  by_cases hlt:v<32
  .have hd0:decide (v<32)=true:=by simpa using hlt
   have HH:Hid (aOo S (v:Int)=S.testBit v):=by show _=_;unfold aOo;rw [decide_eq_true (show (0:Int)<=(v:Int) by omega),decide_eq_true (show (v:Int)<32 by omega)];rfl
   have HN:=aA0 (aVn S v);cases hb:S.testBit v with
   | true =>
    rw [hb] at HH HN;rw [if_pos rfl] at HN
    go_wp2_with (go_at_call 55;refine (aFu S _ _ HS.out).mono ?_;rintro e w2 ⟨rfl,rfl⟩;rw [HH.out])
    go_roundg (32-(v+1))
    case rel=>exact ⟨v+1,by omega,rfl,by rw [HN.out];go_num,by go_num,rfl⟩
    case measure=>omega
   | false =>
    rw [hb] at HH HN;rw [if_neg (by decide),Nat.add_zero] at HN
    go_wp2_with (go_at_call 55;refine (aFu S _ _ HS.out).mono ?_;rintro e w2 ⟨rfl,rfl⟩;rw [HH.out])
    go_roundg (32-(v+1))
    case rel=>exact ⟨v+1,by omega,rfl,by rw [HN.out];simp,by go_num,rfl⟩
    case measure=>omega
  .have hd0:decide (v<32)=false:=by simpa using hlt
   obtain rfl:v=32:=by omega
   go_wp2_with fail
   go_ret;exact ⟨by rw [HF.out];rfl,rfl⟩
theorem aFi (kind:Int) (w:World) :
  Calls prog 48 #[.int .i64 kind] w fun e w'=>e = .returned (.bool (aJp kind))/\w=w':=by
 have HF:Hid (aJp kind=(decide (1<=kind)&&decide (kind<=4))):=rfl
 by_cases h0:1<=kind
 .have d0:decide (1<=kind)=true:=by simpa using h0
  rw [d0] at HF
  by_cases h1:kind<=4
  .have d1:decide (kind<=4)=true:=by simpa using h1
   rw [d1] at HF;go_enter func48,ntmps48
   go_wp2_with fail
   go_ret;exact ⟨aA2 (by rw [HF.out];rfl),rfl⟩
  .have d1:decide (kind<=4)=false:=by simpa using h1
   rw [d1] at HF;go_enter func48,ntmps48
   go_wp2_with fail
   go_ret;exact ⟨aA2 (by rw [HF.out];rfl),rfl⟩
 .have d0:decide (1<=kind)=false:=by simpa using h0
  rw [d0] at HF;go_enter func48,ntmps48
  go_wp2_with fail
  go_ret;exact ⟨aA2 (by rw [HF.out];rfl),rfl⟩
theorem Agr.grownV {A B:World} {row:Option Nat} {E:Nat->Prop} (h:A.grownBy B row) (hE:∀ k,some k=row->E k):Agr E A B :=
 ⟨h.os,h.tape,h.output,h.size,fun k hk hn=>h.block k hk (fun e=>hn (hE k e))⟩
theorem aD9 {E:Nat->Prop} {A B:World} {base e size n:Nat} {v:Value} {xs:List Value} (h:A.ownsRow base e size v n xs) (hA:Agr E A B) (hE:∀ k,v.ownBlock=some k->¬ E k):B.ownsRow base e size v n xs:=by
 obtain ⟨Ad,c,rfl⟩:=aO2 h
 rcases h.2 with ⟨hv,h0⟩ | ⟨g,cap,cur,hv,_⟩
 .rw [hv];subst h0;exact ⟨h.1,.inl ⟨rfl,rfl⟩⟩
 .injection hv with hAd hc
  subst hAd;exact bAf h hA (hE g rfl)
end Go.Proofs.YtdcjnhoabbdanaaGreatDoor

