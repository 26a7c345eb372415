/- Merged. -/
import Derived.Test.YtdcjnhoabbdanaaGreatDoorZ29
import Derived.BigQuiet
set_option linter.unusedSimpArgs false
set_option linter.unnecessarySimpa false
set_option linter.unusedVariables false
set_option maxRecDepth 100000
set_option maxHeartbeats 4000000
open Go.Proofs.Tryz

namespace Go.Proofs.YtdcjnhoabbdanaaGreatDoor
open Go.RowKit
theorem aLn (v2:Value) (g:Graph) (S:Nat) (w:World) (h2:aAn w v2 g) (hg:GOK g) (hG:aB3 g=true) (hS:S<4294967296) :
  Calls prog 74 #[v2,.int .u32 (S:Int)] w fun e w'=>e = .returned (.int .u32 (bAq g S:Nat))/\Bel w w':=by
 have HGV:=aA0 (fun w' (k:Bel w w')=>h2.keep k)
 have hP:∃ A k A2 k2,v2 = .agg #[.slice A g.ids.length k,.slice A2 g.ports.length k2]/\aF3 w A2 g.ports.length g.ports:=by
  obtain ⟨A,k,A2,k2,e,_,_,_,hP,_⟩:=h2;exact ⟨A,k,A2,k2,e,hP⟩
 obtain ⟨A3,k3,A4,k4,rfl,hP⟩:=hP;have HP:=aA0 (fun w' (k:Bel w w')=>aF3.keep hP k);have HGL:=aA0 hG;have hle:=hg.le;have HLT:=aA0 (fun v (hv:v<g.ports.length)=>aCh hv (hg.links v hv));have HGT:Hid (aEa g=true):=(aEe g).2 hg;have HS:=aA0 hS;have HNF:Hid (bAq g S=aFr g.ports.length fun v=>(g.ports.getD v []).any fun l=>aLw S l.to):=rfl;have HW:=Bel.refl (w.alloc (.cells #[.slice A3 g.ids.length k3,.slice A4 g.ports.length k4] 29));clear h2 hP hG hg hS;go_enter func74,ntmps74
 go_wp2_with (go_at_call 72;refine (aDc _ g _ (HGV.out _ (aA4 HW)) HGL.out).mono ?_;rintro e w' ⟨rfl,hb⟩;rw [HGT.out];replace HW:=HW.trans hb;clear hb)
 go_loopg [5,6,7] g.ports.length (fun m s x _y wr=>∃ v:Nat,v<=g.ports.length/\m=g.ports.length-v/\s = .int .u32 (aFr v fun v=>(g.ports.getD v []).any fun l=>aLw S l.to:Nat)/\x = .int .i64 v/\Bel (w.alloc (.cells #[.slice A3 g.ids.length k3,.slice A4 g.ports.length k4] 29)) wr)
 case atStart=>exact ⟨0,by omega,rfl,rfl,rfl,HW⟩
 case round =>
  clear HW;obtain ⟨wo,rfl⟩:∃ wo:World,wo=wr:=⟨_,rfl⟩;obtain ⟨v,hv,rfl,rfl,rfl,HW⟩:=hrel;have q1:=aA9 HW 1 (v := .slice A4 g.ports.length k4) rfl;have q2:=aAx HW
  by_cases hlt:v<g.ports.length
  .have hd0:decide (v<g.ports.length)=true:=by simpa using hlt
   obtain ⟨b,o,R,rc,rfl,hb,hrow,hL,_,_⟩:=(HP.out _ (aA4 HW)).at_ v hlt;have HL:=aA0 hL;have hll:=HLT.out v hlt;obtain ⟨s0,hs0⟩:∃ s0,s0=aFr v fun v=>(g.ports.getD v []).any fun l=>aLw S l.to:=⟨_,rfl⟩;have hs0l:s0<4294967296:=by rw [hs0];exact aGq _ (by omega)
   rw [<- hs0];have HS0:=aA0 hs0;clear hL hs0
   go_wp2_with fail
   go_loopg [5,7] g.ports[v].length (fun m s x ws=>∃ i:Nat,i<=g.ports[v].length/\m=g.ports[v].length-i/\s = .int .u32 (bB3 s0 v ((g.ports[v].take i).any fun l=>aLw S l.to):Nat)/\x = .int .i64 i/\wo=ws)
   case atStart=>exact ⟨0,by omega,rfl,rfl,rfl,rfl⟩
   case round =>
    obtain ⟨i,hi,rfl,rfl,rfl,rfl⟩:=hrel;have hal:=bAe hs0l (show v<32 by omega) ((g.ports[v].take i).any fun l=>aLw S l.to)
    by_cases hlt2:i<g.ports[v].length
    .have hd2:decide (i<g.ports[v].length)=true:=by simpa using hlt2
     obtain ⟨b1,o1,rfl,hb1,c0,c1⟩:=HL.out.at_ i hlt2
     have HTS:Hid (((g.ports[v].take (i+1)).any fun l=>aLw S l.to)=(((g.ports[v].take i).any fun l=>aLw S l.to)||aLw S g.ports[v][i].to)):=by
      show _=_
      rw [List.take_succ_eq_append_getElem hlt2,List.any_append];simp
     cases hh:aLw S g.ports[v][i].to with
     | true =>
      rw [hh] at HTS
      go_wp2_with (go_at_call 55;refine (aEg S _ _ HS.out).mono ?_;rintro e w2 ⟨rfl,rfl⟩;rw [hh])
      go_roundg (g.ports[v].length-(i+1))
      case rel =>
       refine ⟨i+1,by omega,rfl,?_,by go_num,rfl⟩
       rw [HTS.out,aFz hal (by omega)]
       cases (g.ports[v].take i).any fun l=>aLw S l.to with
       | true=>rw [aUo];rfl
       | false=>rfl
      case measure=>omega
     | false =>
      rw [hh] at HTS
      go_wp2_with (go_at_call 55;refine (aEg S _ _ HS.out).mono ?_;rintro e w2 ⟨rfl,rfl⟩;rw [hh])
      go_roundg (g.ports[v].length-(i+1))
      case rel=>exact ⟨i+1,by omega,rfl,by rw [HTS.out,Bool.or_false],by go_num,rfl⟩
      case measure=>omega
    .have hd2:decide (i<g.ports[v].length)=false:=by simpa using hlt2
     obtain rfl:i=g.ports[v].length:=by omega
     go_wp2_with fail
     go_roundg (g.ports.length-(v+1))
     case rel =>
      refine ⟨v+1,by omega,rfl,?_,by go_num,HW⟩
      rw [List.take_of_length_le (Nat.le_refl _),aFs,aAa hlt,HS0.out];rfl
     case measure=>omega
  .have hd0:decide (v<g.ports.length)=false:=by simpa using hlt
   obtain rfl:v=g.ports.length:=by omega
   go_wp2_with fail
   go_ret;exact ⟨aA5 (by rw [HNF.out]),aA4 HW⟩
theorem aIm (n:Nat) (w:World) (hn:n<=30) :
  Calls prog 73 #[.int .i64 (n:Int)] w fun e w'=>e = .returned (.int .u32 (aFr n (fun _=>true):Nat))/\w=w':=by
 go_enter func73,ntmps73
 go_wp2_with fail
 go_loopg [3,4] n (fun m s z wr=>∃ v:Nat,v<=n/\m=n-v/\s = .int .u32 (aFr v (fun _=>true):Nat)/\z = .int .i64 v/\w=wr)
 case atStart=>exact ⟨0,by omega,rfl,rfl,rfl,rfl⟩
 case round =>
  obtain ⟨v,hv,rfl,rfl,rfl,rfl⟩:=hrel;have hsl:=aGq (fun _=>true) (show v<=32 by omega)
  by_cases hlt:v<n
  .have hd0:decide (v<n)=true:=by simpa using hlt
   have hd1:decide (v<32)=true:=by simp;omega
   go_wp2_with fail
   go_roundg (n-(v+1))
   case rel=>exact ⟨v+1,by omega,rfl,by rw [aFs,if_pos rfl,aFz hsl (by omega)],by go_num,rfl⟩
   case measure=>omega
  .have hd0:decide (v<n)=false:=by simpa using hlt
   obtain rfl:v=n:=by omega
   go_wp2_with fail
   go_ret;exact ⟨rfl,rfl⟩
theorem bBb {S v:Nat} (hS:S<4294967296) (h:S.testBit v=true) (hb:∀ u,u<v->S.testBit u=false):lsb S=2 ^ v:=by
 have hv:=aJv hS h
 have e:(aAe S).head?=some v:=by
  unfold aAe;rw [List.head?_filter,List.find?_range_eq_some];exact ⟨h,by simpa using hv,fun j hj=>by rw [hb j hj];rfl⟩
 rw [aZ9 hS,e]
theorem aZa {S:Nat} (hS:S<4294967296) (hb:∀ u,u<32->S.testBit u=false):lsb S=0:=by
 rw [aR6 hS];exact aU3 hS (by decide) (fun v hv=>by rw [hb v hv];simp)
def aSp (S v:Nat):Nat:=((List.range v).filter (S.testBit ·)).length
theorem aUr (S v:Nat):aSp S (v+1)=aSp S v+if S.testBit v=true then 1 else 0:=by
 unfold aSp;rw [List.range_succ,List.filter_append];cases h:S.testBit v <;> simp [h]
theorem aYr (S v:Nat):aSp S v<=v:=by
 unfold aSp;have:=List.length_filter_le (S.testBit ·) (List.range v);simpa using this
theorem aNk (S:Nat) (w:World) (hS:S<4294967296) :
  Calls prog 45 #[.int .u32 (S:Int)] w fun e w'=>e = .returned (.int .i64 ((aAe S).length:Int))/\w=w':=by
 have HS:=aA0 hS;have HF:Hid ((aAe S).length=aSp S 32):=rfl;clear hS;go_enter func45,ntmps45
 go_wp2_with fail
 go_loopg [3,4] 32 (fun m n z wr=>∃ v:Nat,v<=32/\m=32-v/\n = .int .i64 (aSp S v:Int)/\z = .int .i64 (v:Int)/\w=wr)
 case atStart=>exact ⟨0,by omega,rfl,rfl,rfl,rfl⟩
 case round =>
  obtain ⟨v,hv,rfl,rfl,rfl,rfl⟩:=hrel;have hc:=aYr S v
  by_cases hlt:v<32
  .have hd0:decide (v<32)=true:=by simpa using hlt
   have HH:Hid (aLw S (v:Int)=S.testBit v):=by show _=_;unfold aLw;rw [decide_eq_true (show (0:Int)<=(v:Int) by omega),decide_eq_true (show (v:Int)<32 by omega)];rfl
   have HN:=aA0 (aUr S v);cases hb:S.testBit v with
   | true =>
    rw [hb] at HH HN;rw [if_pos rfl] at HN
    go_wp2_with (go_at_call 55;refine (aEg S _ _ HS.out).mono ?_;rintro e w2 ⟨rfl,rfl⟩;rw [HH.out])
    go_roundg (32-(v+1))
    case rel=>exact ⟨v+1,by omega,rfl,by rw [HN.out];go_num,by go_num,rfl⟩
    case measure=>omega
   | false =>
    rw [hb] at HH HN;rw [if_neg (by decide),Nat.add_zero] at HN
    go_wp2_with (go_at_call 55;refine (aEg S _ _ HS.out).mono ?_;rintro e w2 ⟨rfl,rfl⟩;rw [HH.out])
    go_roundg (32-(v+1))
    case rel=>exact ⟨v+1,by omega,rfl,by rw [HN.out];simp,by go_num,rfl⟩
    case measure=>omega
  .have hd0:decide (v<32)=false:=by simpa using hlt
   obtain rfl:v=32:=by omega
   go_wp2_with fail
   go_ret;exact ⟨by rw [HF.out];rfl,rfl⟩
theorem aD6 (S:Nat) (w:World) (hS:S<4294967296) :
  Calls prog 75 #[.int .u32 (S:Int)] w fun e w'=>e = .returned (.int .u32 (lsb S:Int))/\w=w':=by
 have HS:=aA0 hS;clear hS;go_enter func75,ntmps75
 go_wp2_with fail
 go_loopg [3] 32 (fun m z wr=>∃ v:Nat,v<=32/\m=32-v/\z = .int .i64 (v:Int)/\Hid (∀ u,u<v->S.testBit u=false)/\w=wr)
 case atStart=>exact ⟨0,by omega,rfl,rfl,fun u hu=>absurd hu (Nat.not_lt_zero _),rfl⟩
 case round =>
  obtain ⟨v,hv,rfl,rfl,HZ,rfl⟩:=hrel
  by_cases hlt:v<32
  .have hd0:decide (v<32)=true:=by simpa using hlt
   have hd1:decide ((v:Int)<32)=true:=decide_eq_true (by omega)
   have HH:Hid (aLw S (v:Int)=S.testBit v):=by show _=_;unfold aLw;rw [decide_eq_true (show (0:Int)<=(v:Int) by omega),decide_eq_true (show (v:Int)<32 by omega)];rfl
   have e3:(2:Int) ^ v=((2 ^ v:Nat):Int):=by rw [Int.natCast_pow];rfl
   have e2:(2:Int) ^ v % 4294967296=((2 ^ v:Nat):Int):=by
    rw [e3];exact Int.emod_eq_of_lt (b:=4294967296) (Int.natCast_nonneg _) (Int.ofNat_lt.2 (aIg hlt))
   have E2:=aA0 e2;clear e2 e3;cases hb:S.testBit v with
   | true =>
    have HLS:=aA0 (bBb HS.out hb HZ.out);rw [hb] at HH
    go_wp2_with (go_at_call 55;refine (aEg S _ _ HS.out).mono ?_;rintro e w2 ⟨rfl,rfl⟩;rw [HH.out])
    go_ret;refine ⟨?_,rfl⟩
    rw [HLS.out,<- E2.out]
    try rfl
   | false =>
    have HZ2:Hid (∀ u,u<v+1->S.testBit u=false):=fun u hu=>by
     rcases Nat.lt_or_ge u v with h | h
     .exact HZ.out u h
     .obtain rfl:u=v:=by omega
      exact hb
    rw [hb] at HH
    go_wp2_with (go_at_call 55;refine (aEg S _ _ HS.out).mono ?_;rintro e w2 ⟨rfl,rfl⟩;rw [HH.out])
    go_roundg (32-(v+1))
    case rel=>exact ⟨v+1,by omega,rfl,by go_num,HZ2,rfl⟩
    case measure=>omega
  .have hd0:decide (v<32)=false:=by simpa using hlt
   obtain rfl:v=32:=by omega
   have HLS:=aA0 (aZa HS.out HZ.out)
   go_wp2_with fail
   go_ret;exact ⟨by rw [HLS.out];rfl,rfl⟩
theorem aF8 (kind:Int) (w:World) :
  Calls prog 48 #[.int .i64 kind] w fun e w'=>e = .returned (.bool (aFl kind))/\w=w':=by
 have HF:Hid (aFl kind=(decide (1<=kind)&&decide (kind<=4))):=rfl
 by_cases h0:1<=kind
 .have d0:decide (1<=kind)=true:=by simpa using h0
  rw [d0] at HF
  by_cases h1:kind<=4
  .have d1:decide (kind<=4)=true:=by simpa using h1
   rw [d1] at HF;go_enter func48,ntmps48
   go_wp2_with fail
   go_ret;exact ⟨aA2 (by rw [HF.out];rfl),rfl⟩
  .have d1:decide (kind<=4)=false:=by simpa using h1
   rw [d1] at HF;go_enter func48,ntmps48
   go_wp2_with fail
   go_ret;exact ⟨aA2 (by rw [HF.out];rfl),rfl⟩
 .have d0:decide (1<=kind)=false:=by simpa using h0
  rw [d0] at HF;go_enter func48,ntmps48
  go_wp2_with fail
  go_ret;exact ⟨aA2 (by rw [HF.out];rfl),rfl⟩
theorem Agr.grownV {A B:World} {row:Option Nat} {E:Nat->Prop} (h:A.grownBy B row) (hE:∀ k,some k=row->E k):Agr E A B :=
 ⟨h.os,h.tape,h.output,h.size,fun k hk hn=>h.block k hk (fun e=>hn (hE k e))⟩
theorem aCc {E:Nat->Prop} {A B:World} {base e size n:Nat} {v:Value} {xs:List Value} (h:A.ownsRow base e size v n xs) (hA:Agr E A B) (hE:∀ k,v.ownBlock=some k->¬ E k):B.ownsRow base e size v n xs:=by
 obtain ⟨Ad,c,rfl⟩:=aNd h
 rcases h.2 with ⟨hv,h0⟩ | ⟨g,cap,cur,hv,_⟩
 .rw [hv];subst h0;exact ⟨h.1,.inl ⟨rfl,rfl⟩⟩
 .injection hv with hAd hc
  subst hAd;exact aZn h hA (hE g rfl)
end Go.Proofs.YtdcjnhoabbdanaaGreatDoor

