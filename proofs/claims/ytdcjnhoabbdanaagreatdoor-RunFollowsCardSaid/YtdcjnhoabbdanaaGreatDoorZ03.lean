/- Merged. -/
import Derived.Test.YtdcjnhoabbdanaaGreatDoorZ02
import Derived.Test.YtdcjnhoabbdanaaGreatDoorZ01
set_option linter.unusedSimpArgs false
set_option linter.unnecessarySimpa false
set_option linter.unusedVariables false
set_option maxRecDepth 100000
set_option maxHeartbeats 400000
open Go.Proofs.Tryz

namespace Go.Proofs.YtdcjnhoabbdanaaGreatDoor
open Go.RowKit
def aIv (w:World) (b o:Nat) (t:Term):Prop:=w.cell? ⟨b,o,none⟩=some (.int .i64 t.op)/\w.cell? ⟨b,o+1,none⟩=some (.int .i64 t.arg)
theorem aIv.keeps:aLv aIv:=fun _ _ _ _ _ k hb h=>⟨(k.cell hb).trans h.1,(k.cell hb).trans h.2⟩
def aB0:=aAf 2 aIv
theorem aB0.keep {w w':World} {A:Option Addr} {n:Nat} {es:List Term} (h:aB0 w A n es) (k:Bel w w'):aB0 w' A n es:=aAf.keep aIv.keeps h k
theorem aB0.at_ {w:World} {A:Option Addr} {n:Nat} {es:List Term} (h:aB0 w A n es) (k:Nat) (hk:k<es.length) :
  ∃ b o,A=some ⟨b,o,none⟩/\b<w.heap.size/\w.cell? ⟨b,o+k*2,none⟩=some (.int .i64 es[k].op)/\w.cell? ⟨b,o+k*2+1,none⟩=some (.int .i64 es[k].arg):=aAf.at_ h k hk
theorem aB0.atB {w:World} {A:Option Addr} {n:Nat} {es:List Term} (h:aB0 w A n es) (k:Nat) (hk:k<es.length) :
  ∃ b o,A=some ⟨b,o,none⟩/\b<w.heap.size/\∀ w',Bel w w'->w'.cell? ⟨b,o+k*2,none⟩=some (.int .i64 es[k].op)/\w'.cell? ⟨b,o+k*2+1,none⟩=some (.int .i64 es[k].arg):=by
 obtain ⟨b,o,e,hb,h1,h2⟩:=h.at_ k hk;exact ⟨b,o,e,hb,fun w' k=>⟨(k.cell hb).trans h1,(k.cell hb).trans h2⟩⟩
def aCg (t:Term):List Value:=[.int .i64 t.op,.int .i64 t.arg]
theorem aIf (es:List Term) (i:Nat) (t:Term) (h:es[i]?=some t):(es.flatMap aCg)[i*2]?=some (.int .i64 t.op)/\(es.flatMap aCg)[i*2+1]?=some (.int .i64 t.arg):=by
 induction es generalizing i with
 | nil=>simp at h
 | cons x es ih =>
  cases i with
  | zero=>simp at h;subst h;simp [aCg]
  | succ i =>
   have:=ih i (by simpa using h)
   have e:(i+1)*2=i*2+1+1:=by omega
   rw [e];simpa [aCg] using this
theorem aHl (es:List Term):(es.flatMap aCg).length=es.length*2:=by
 induction es with
 | nil=>rfl
 | cons x es ih=>simp [ih,aCg];omega
theorem aB0.cells {w:World} {A:Option Addr} {n:Nat} {es:List Term} (h:aB0 w A n es):aM9 w 2 A n (es.flatMap aCg):=by
 refine ⟨by rw [aHl,h.1],fun j u hu=>?_⟩
 have hlt:j<es.length*2:=by
  have:=(List.getElem?_eq_some_iff.1 hu).1;rw [aHl] at this;exact this
 have hi:j / 2<es.length:=by omega
 obtain ⟨b,o,rfl,_,h1,h2⟩:=h.at_ (j / 2) hi;obtain ⟨g1,g2⟩:=aIf es (j / 2) es[j / 2] (List.getElem?_eq_getElem hi);refine ⟨b,o,rfl,?_⟩
 rcases Nat.mod_two_eq_zero_or_one j with hm | hm
 .have e:j=j / 2*2:=by omega
  rw [<- e] at h1 g1;rw [g1] at hu;rw [h1];exact hu
 .have e:j=j / 2*2+1:=by omega
  have e2:o+j / 2*2+1=o+j:=by omega
  rw [<- e] at g2;rw [e2] at h2;rw [g2] at hu;rw [h2];exact hu
theorem aI0 (A:Option Addr) (n c:Nat) (w:World) :
  Calls prog 80 #[.slice A n c] w fun e w'=>e = .returned (.bool (decide (n<=250)))/\w=w':=by
 go_enter func80,ntmps80;go_wp2;go_ret;refine ⟨aA2 ?_,rfl⟩
 rw [Bool.eq_iff_iff];simp;omega
theorem aHv (op:Int) (w:World) :
  Calls prog 197 #[.int .i64 op] w fun e w'=>e = .returned (.int .i64 (aAg op))/\w=w':=by
 go_enter func197,ntmps197;go_wp2
 all_goals (go_ret;refine ⟨aA5 ?_,rfl⟩;unfold aAg;repeat' split) <;> omega
theorem aAr (op:Int) (w:World) :
  Calls prog 132 #[.int .i64 op] w fun e w'=>e = .returned (.int .i64 (aAg op))/\w=w':=by
 go_enter func132,ntmps132;go_wp2
 all_goals (try simp only [beq_iff_eq,beq_eq_false_iff_ne] at *) 
 all_goals (go_ret;refine ⟨aA5 ?_,rfl⟩;unfold aAg;repeat' split) <;> omega
theorem aGv (op:Int) (w:World) :
  Calls prog 201 #[.int .i64 op] w fun e w'=>e = .returned (.bool (aAc op))/\w=w':=by
 go_enter func201,ntmps201;go_wp2
 all_goals (go_ret;refine ⟨aA2 ?_,rfl⟩;unfold aAc;rw [Bool.eq_iff_iff];simp) <;> omega
theorem aDn (op:Int) (w:World) :
  Calls prog 134 #[.int .i64 op] w fun e w'=>e = .returned (.bool (aAc op))/\w=w':=by
 go_enter func134,ntmps134;go_wp2
 all_goals (go_ret;refine ⟨aA2 ?_,rfl⟩;unfold aAc;rw [Bool.eq_iff_iff];simp) <;> omega
theorem aMq (A:Option Addr) (n c:Nat) (es:List Term) (p:Int) (w:World) (h:aB0 w A n es) (hl:n<=1000000) :
  Calls prog 175 #[.slice A n c,.int .i64 p] w fun e w'=>e = .returned (.int .i64 (endF es p))/\w=w':=by
 obtain rfl:=h.1;have H:=aA0 h;clear h
 by_cases hp:p<0∨es.length<=p
 .have hfin:endF es p = -1:=by unfold endF;rw [if_pos hp]
  rw [hfin];clear hfin;go_enter func175,ntmps175
  rcases hp with hp | hp
  .go_wp2
   go_ret;exact ⟨rfl,rfl⟩
  .have h0:0<=p:=by omega
   go_wp2;go_ret;exact ⟨rfl,rfl⟩
 .have h1:0<=p:=by omega
  have h2:p<es.length:=by omega
  have hfin:endF es p=aD2 es p.toNat 1:=by unfold endF;rw [if_neg hp]
  rw [hfin];clear hfin hp;obtain ⟨q,rfl⟩:=Int.eq_ofNat_of_zero_le h1;rw [Int.toNat_natCast];generalize hT:aD2 es q 1=T;have hd1:decide ((q:Int)<0)=false:=by simp
  have hd2:decide (es.length<=q)=false:=by simp;omega
  have HT:=aA0 hT;clear hT;go_enter func175,ntmps175;go_wp2
  go_loopg [1,5] (es.length-q) (fun g a m wr=>∃ (k:Nat) (z:Int),k<=es.length/\g=es.length-k/\1<=z/\z<=1+2*k/\Hid (aD2 es k z=T)/\a = .int .i64 k/\m = .int .i64 z/\w=wr)
  case atStart=>exact ⟨q,1,by omega,rfl,by omega,by omega,HT,rfl,rfl,rfl⟩
  case round =>
   obtain ⟨k,z,hk,rfl,hz1,hz2,HK,rfl,rfl,rfl⟩:=hrel
   by_cases hlt:k<es.length
   .obtain ⟨b,o,rfl,hb,hc1,hc2⟩:=H.out.at_ k hlt
    have ha:=aGw es[k].op;obtain ⟨ha1,ha2⟩:=ha
    go_wp2_with (go_at_call 197;refine (aHv _ _).mono ?_;rintro e w' ⟨rfl,rfl⟩)
    .go_ret
     exact ⟨aA5 (by rw [<- HK.out,aP1 hlt (by assumption)]),rfl⟩
    .have hh:(z+(aAg es[k].op-1)==0)=true:=by assumption
     go_ret;refine ⟨aA5 ?_,rfl⟩
     rw [<- HK.out,aP2 hlt (by assumption) (by simpa using hh)]
    .have hh:(z+(aAg es[k].op-1)==0)=false:=by assumption
     have hh':z+(aAg es[k].op-1)≠0:=by simpa using hh
     go_roundg (es.length-(k+1))
     case rel=>exact ⟨k+1,z+(aAg es[k].op-1),by omega,rfl,by omega,by omega,by have:=HK.out;rw [aNu hlt (by assumption) hh'] at this;exact this,by go_num,rfl,rfl⟩
     case measure=>omega
   .go_wp2
    go_ret;exact ⟨aA5 (by rw [<- HK.out,aNt (by omega)]),rfl⟩
theorem aFc (A:Option Addr) (n c:Nat) (es:List Term) (p:Int) (w:World) (h:aB0 w A n es) (hl:n<=1000000) :
  Calls prog 157 #[.slice A n c,.int .i64 p] w fun e w'=>e = .returned (.int .i64 (endF es p))/\w=w':=by
 obtain rfl:=h.1;have H:=aA0 h;clear h
 by_cases hp:p<0∨es.length<=p
 .have hfin:endF es p = -1:=by unfold endF;rw [if_pos hp]
  rw [hfin];clear hfin;go_enter func157,ntmps157
  rcases hp with hp | hp
  .go_wp2
   go_ret;exact ⟨rfl,rfl⟩
  .have h0:0<=p:=by omega
   go_wp2;go_ret;exact ⟨rfl,rfl⟩
 .have h1:0<=p:=by omega
  have h2:p<es.length:=by omega
  have hfin:endF es p=aD2 es p.toNat 1:=by unfold endF;rw [if_neg hp]
  rw [hfin];clear hfin hp;obtain ⟨q,rfl⟩:=Int.eq_ofNat_of_zero_le h1;rw [Int.toNat_natCast];generalize hT:aD2 es q 1=T;have hd1:decide ((q:Int)<0)=false:=by simp
  have hd2:decide (es.length<=q)=false:=by simp;omega
  have HT:=aA0 hT;clear hT;go_enter func157,ntmps157;go_wp2
  go_loopg [5,6] (es.length-q) (fun g m a wr=>∃ (k:Nat) (z:Int),k<=es.length/\g=es.length-k/\1<=z/\z<=1+2*k/\Hid (aD2 es k z=T)/\a = .int .i64 k/\m = .int .i64 z/\w=wr)
  case atStart=>exact ⟨q,1,by omega,rfl,by omega,by omega,HT,rfl,rfl,rfl⟩
  case round =>
   obtain ⟨k,z,hk,rfl,hz1,hz2,HK,rfl,rfl,rfl⟩:=hrel
   by_cases hlt:k<es.length
   .obtain ⟨b,o,rfl,hb,hc1,hc2⟩:=H.out.at_ k hlt
    have ha:=aGw es[k].op;obtain ⟨ha1,ha2⟩:=ha
    go_wp2_with (go_at_call 132;refine (aAr _ _).mono ?_;rintro e w' ⟨rfl,rfl⟩)
    .go_ret
     exact ⟨aA5 (by rw [<- HK.out,aP1 hlt (by assumption)]),rfl⟩
    .have hh:(z+(aAg es[k].op-1)==0)=true:=by assumption
     go_ret;refine ⟨aA5 ?_,rfl⟩
     rw [<- HK.out,aP2 hlt (by assumption) (by simpa using hh)]
    .have hh:(z+(aAg es[k].op-1)==0)=false:=by assumption
     have hh':z+(aAg es[k].op-1)≠0:=by simpa using hh
     go_roundg (es.length-(k+1))
     case rel=>exact ⟨k+1,z+(aAg es[k].op-1),by omega,rfl,by omega,by omega,by have:=HK.out;rw [aNu hlt (by assumption) hh'] at this;exact this,by go_num,rfl,rfl⟩
     case measure=>omega
   .go_wp2
    go_ret;exact ⟨aA5 (by rw [<- HK.out,aNt (by omega)]),rfl⟩
theorem aBh (A:Option Addr) (n c:Nat) (es:List Term) (p k:Int) (w:World) (h:aB0 w A n es) (hl:n<=1000000) :
  Calls prog 138 #[.slice A n c,.int .i64 p,.int .i64 k] w fun e w'=>e = .returned (.int .i64 (aDb es p k))/\w=w':=by
 obtain rfl:=h.1;have H:=aA0 h;clear h;have hle:=aSw es p
 by_cases hp:endF es p<0
 .have hfin:aDb es p k = -1:=by unfold aDb;rw [if_pos (.inl hp)]
  have HF:=aA0 hfin;clear hfin hle;have hd:decide (endF es p<0)=true:=by simpa using hp
  go_enter func138,ntmps138
  go_wp2_with (go_at_call 157;refine (aFc _ _ _ es _ _ H.out hl).mono ?_;rintro e w' ⟨rfl,rfl⟩)
  go_ret;exact ⟨aA5 HF.out.symm,rfl⟩
 .have hd:decide (endF es p<0)=false:=by simpa using hp
  have h1:0<=p:=by omega
  have h2:p<es.length:=by omega
  clear hle;obtain ⟨q,rfl⟩:=Int.eq_ofNat_of_zero_le h1;have hq:q<es.length:=by omega
  obtain ⟨b,o,rfl,hb,hc1,hc2⟩:=H.out.at_ q hq;have hop:=aU8 hq
  by_cases hk:k<0
  .have hfin:aDb es q k = -1:=by unfold aDb;rw [if_pos (.inr (.inl hk))]
   have HF:=aA0 hfin;clear hfin hop;have hd2:decide (k<0)=true:=by simpa using hk
   go_enter func138,ntmps138
   go_wp2_with (go_at_call 157;refine (aFc _ _ _ es _ _ H.out hl).mono ?_;rintro e w' ⟨rfl,rfl⟩)
   go_ret;exact ⟨aA5 HF.out.symm,rfl⟩
  .have hd2:decide (k<0)=false:=by simpa using hk
   by_cases ha:aAg es[q].op<=k
   .have hfin:aDb es q k = -1:=by unfold aDb;rw [if_pos (.inr (.inr (by rw [hop];exact ha)))]
    have HF:=aA0 hfin;clear hfin hop;have hd3:decide (aAg es[q].op<=k)=true:=by simpa using ha
    go_enter func138,ntmps138
    go_wp2_with (first
     | (go_at_call 157;refine (aFc _ _ _ es _ _ H.out hl).mono ?_;rintro e w' ⟨rfl,rfl⟩)
     | (go_at_call 132;refine (aAr _ _).mono ?_;rintro e w' ⟨rfl,rfl⟩))
    go_ret;exact ⟨aA5 HF.out.symm,rfl⟩
   .have hd3:decide (aAg es[q].op<=k)=false:=by simpa using ha
    have hfin:aDb es q k=aN0 es k.toNat (q+1):=by unfold aDb;rw [if_neg (by rw [hop];omega)]
    have hk3:k<=3:=by have:=aGw es[q].op;omega
    have hk0:0<=k:=by omega
    obtain ⟨kk,rfl⟩:=Int.eq_ofNat_of_zero_le hk0;rw [Int.toNat_natCast] at hfin;have HF:=aA0 hfin;clear hfin hop;go_enter func138,ntmps138
    go_wp2_with (first
     | (go_at_call 157;refine (aFc _ _ _ es _ _ H.out hl).mono ?_;rintro e w' ⟨rfl,rfl⟩)
     | (go_at_call 132;refine (aAr _ _).mono ?_;rintro e w' ⟨rfl,rfl⟩))
    go_loopg [7,8] kk (fun g a m wr=>∃ (i:Nat) (z:Int),i+g=kk/\Hid (aN0 es g z=aN0 es kk (q+1))/\a = .int .i64 z/\m = .int .i64 i/\w=wr)
    case atStart=>exact ⟨0,q+1,by omega,rfl,rfl,rfl,rfl⟩
    case round =>
     obtain ⟨i,z,hi,HK,rfl,rfl,rfl⟩:=hrel
     by_cases hlt:i<kk
     .go_wp2_with (go_at_call 157;refine (aFc _ _ _ es _ _ H.out hl).mono ?_;rintro e w' ⟨rfl,rfl⟩)
      obtain ⟨g',rfl⟩:∃ g',gk=g'+1:=⟨gk-1,by omega⟩
      go_roundg g'
      case rel=>exact ⟨i+1,endF es z,by omega,HK,rfl,by go_num,rfl⟩
      case measure=>omega
     .go_wp2
      go_ret;obtain rfl:gk=0:=by omega
      exact ⟨aA5 (by rw [HF.out,<- HK.out];rfl),rfl⟩
theorem aL6 (t:Term) (vars:Int) (w:World) :
  Calls prog 176 #[.agg #[.int .i64 t.op,.int .i64 t.arg],.int .i64 vars] w fun e w'=>e = .returned (.bool (aFx t vars))/\Bel w w':=by
 obtain ⟨op,arg⟩:=t;go_enter func176,ntmps176;go_wp2
 all_goals
  go_ret;refine ⟨aA2 ?_,(Bel.refl _).alloc _⟩
  simp only [beq_iff_eq,beq_eq_false_iff_ne,ne_eq] at *
  unfold aFx;rw [Bool.eq_iff_iff];simp only []
  repeat' split
  all_goals first | omega | (simp;done) | (simp;omega)
theorem aI5 (t:Term) (vars:Int) (w:World) :
  Calls prog 192 #[.agg #[.int .i64 t.op,.int .i64 t.arg],.int .i64 vars] w fun e w'=>e = .returned (.bool (aFx t vars))/\Bel w w':=by
 obtain ⟨op,arg⟩:=t;go_enter func192,ntmps192;go_wp2
 all_goals
  go_ret;refine ⟨aA2 ?_,(Bel.refl _).alloc _⟩
  simp only [beq_iff_eq,beq_eq_false_iff_ne,ne_eq] at *
  unfold aFx;rw [Bool.eq_iff_iff];simp only []
  repeat' split
  all_goals first | omega | (simp;done) | (simp;omega)
theorem aI3 (A:Option Addr) (n c:Nat) (es:List Term) (w:World) (h:aB0 w A n es) (hl:n<=1000000) :
  Calls prog 189 #[.slice A n c] w fun e w'=>e = .returned (.bool (aW4 es))/\w=w':=by
 obtain rfl:=h.1;have H:=aA0 h;clear h
 by_cases h0:0<es.length
 .have hfin:aW4 es=(endF es 0==es.length):=by unfold aW4;rw [Bool.eq_iff_iff];simp;omega
  have HF:=aA0 hfin;clear hfin;go_enter func189,ntmps189
  go_wp2_with (go_at_call 157;refine (aFc _ _ _ es _ _ H.out hl).mono ?_;rintro e w' ⟨rfl,rfl⟩)
  go_ret;exact ⟨aA2 HF.out.symm,rfl⟩
 .have hfin:aW4 es=false:=by unfold aW4;simp;omega
  have HF:=aA0 hfin;clear hfin;have hd:decide (0<es.length)=false:=by simpa using h0
  go_enter func189,ntmps189;go_wp2;go_ret;exact ⟨aA2 HF.out.symm,rfl⟩
theorem aQp (op g:Int) (w:World) (h0:0<=g) (h1:g<=1000000) :
  Calls prog 199 #[.int .i64 op,.int .i64 g] w fun e w'=>e = .returned (.int .i64 (aCj op g))/\w=w':=by
 go_enter func199,ntmps199;go_wp2;go_ret;exact ⟨rfl,rfl⟩
theorem aTa (op g:Int) (w:World) (h0:0<=g) (h1:g<=1000000) :
  Calls prog 200 #[.int .i64 op,.int .i64 g] w fun e w'=>e = .returned (.int .i64 (aCz op g))/\w=w':=by
 unfold aCz;cases ha:aAc op with
 | true =>
  go_enter func200,ntmps200
  go_wp2_with (go_at_call 201;refine (aGv _ _).mono ?_;rintro e w' ⟨rfl,rfl⟩)
  go_ret;exact ⟨rfl,rfl⟩
 | false =>
  go_enter func200,ntmps200
  go_wp2_with (go_at_call 201;refine (aGv _ _).mono ?_;rintro e w' ⟨rfl,rfl⟩)
  go_ret;exact ⟨rfl,rfl⟩
end Go.Proofs.YtdcjnhoabbdanaaGreatDoor

