/- Merged. -/
import Derived.Test.YtdcjnhoabbdanaaGreatDoorZ02
import Derived.Test.YtdcjnhoabbdanaaGreatDoorZ01
set_option linter.unusedSimpArgs false
set_option linter.unnecessarySimpa false
set_option linter.unusedVariables false
set_option maxRecDepth 100000
set_option maxHeartbeats 400000
open Go.Proofs.Tryz

namespace Go.Proofs.YtdcjnhoabbdanaaGreatDoor
open Go.RowKit
def aJ4 (w:World) (b o:Nat) (t:Term):Prop:=w.cell? ⟨b,o,none⟩=some (.int .i64 t.op)/\w.cell? ⟨b,o+1,none⟩=some (.int .i64 t.arg)
theorem aJ4.keeps:aM7 aJ4:=fun _ _ _ _ _ k hb h=>⟨(k.cell hb).trans h.1,(k.cell hb).trans h.2⟩
def aB2:=aAi 2 aJ4
theorem aB2.keep {w w':World} {A:Option Addr} {n:Nat} {es:List Term} (h:aB2 w A n es) (k:Bel w w'):aB2 w' A n es:=aAi.keep aJ4.keeps h k
theorem aB2.at_ {w:World} {A:Option Addr} {n:Nat} {es:List Term} (h:aB2 w A n es) (k:Nat) (hk:k<es.length) :
  ∃ b o,A=some ⟨b,o,none⟩/\b<w.heap.size/\w.cell? ⟨b,o+k*2,none⟩=some (.int .i64 es[k].op)/\w.cell? ⟨b,o+k*2+1,none⟩=some (.int .i64 es[k].arg):=aAi.at_ h k hk
theorem aB2.atB {w:World} {A:Option Addr} {n:Nat} {es:List Term} (h:aB2 w A n es) (k:Nat) (hk:k<es.length) :
  ∃ b o,A=some ⟨b,o,none⟩/\b<w.heap.size/\∀ w',Bel w w'->w'.cell? ⟨b,o+k*2,none⟩=some (.int .i64 es[k].op)/\w'.cell? ⟨b,o+k*2+1,none⟩=some (.int .i64 es[k].arg):=by
 obtain ⟨b,o,e,hb,h1,h2⟩:=h.at_ k hk;exact ⟨b,o,e,hb,fun w' k=>⟨(k.cell hb).trans h1,(k.cell hb).trans h2⟩⟩
def aCk (t:Term):List Value:=[.int .i64 t.op,.int .i64 t.arg]
theorem aIn (es:List Term) (i:Nat) (t:Term) (h:es[i]?=some t):(es.flatMap aCk)[i*2]?=some (.int .i64 t.op)/\(es.flatMap aCk)[i*2+1]?=some (.int .i64 t.arg):=by
 induction es generalizing i with
 | nil=>simp at h
 | cons x es ih =>
  cases i with
  | zero=>simp at h;subst h;simp [aCk]
  | succ i =>
   have:=ih i (by simpa using h)
   have e:(i+1)*2=i*2+1+1:=by omega
   rw [e];simpa [aCk] using this
theorem aHp (es:List Term):(es.flatMap aCk).length=es.length*2:=by
 induction es with
 | nil=>rfl
 | cons x es ih=>simp [ih,aCk];omega
theorem aB2.cells {w:World} {A:Option Addr} {n:Nat} {es:List Term} (h:aB2 w A n es):aMq w 2 A n (es.flatMap aCk):=by
 refine ⟨by rw [aHp,h.1],fun j u hu=>?_⟩
 have hlt:j<es.length*2:=by
  have:=(List.getElem?_eq_some_iff.1 hu).1;rw [aHp] at this;exact this
 have hi:j / 2<es.length:=by omega
 obtain ⟨b,o,rfl,_,h1,h2⟩:=h.at_ (j / 2) hi;obtain ⟨g1,g2⟩:=aIn es (j / 2) es[j / 2] (List.getElem?_eq_getElem hi);refine ⟨b,o,rfl,?_⟩
 rcases Nat.mod_two_eq_zero_or_one j with hm | hm
 .have e:j=j / 2*2:=by omega
  rw [<- e] at h1 g1;rw [g1] at hu;rw [h1];exact hu
 .have e:j=j / 2*2+1:=by omega
  have e2:o+j / 2*2+1=o+j:=by omega
  rw [<- e] at g2;rw [e2] at h2;rw [g2] at hu;rw [h2];exact hu
theorem aI8 (A:Option Addr) (n c:Nat) (w:World) :
  Calls prog 80 #[.slice A n c] w fun e w'=>e = .returned (.bool (decide (n<=250)))/\w=w':=by
 go_enter func80,ntmps80;go_wp2;go_ret;refine ⟨aA2 ?_,rfl⟩
 rw [Bool.eq_iff_iff];simp;omega
def modF (k n:Int):Int:=k % n
theorem aY4 (k n:Int):modF k n=(k.tmod n) % n:=by
 have h:=Int.mul_tdiv_add_tmod k n;unfold modF;generalize k.tmod n=r at *;rw [<- h,Int.add_comm,Int.add_mul_emod_self_left]
theorem aNt (k n:Int) (w:World) (h1:1<=n) (h2:n<=1000000) :
  Calls prog 17 #[.int .i64 k,.int .i64 n] w fun e w'=>e = .returned (.int .i64 (modF k n))/\w=w':=by
 have hz:(n==0)=false:=by simp;omega
 go_enter func17,ntmps17;have t1:=Int.tmod_lt_of_pos k (show 0<n by omega)
 have t2:=Int.lt_tmod_of_pos k (show 0<n by omega)
 have t3:=aA0 (aY4 k n);go_wp2
 .go_ret
  refine ⟨aA5 ?_,rfl⟩
  have hneg:k.tmod n<0:=by assumption
  rw [t3.out,<- Int.add_emod_right,Int.emod_eq_of_lt (by omega) (by omega)]
 .go_ret
  refine ⟨aA5 ?_,rfl⟩
  have hneg:0<=k.tmod n:=by assumption
  rw [t3.out,Int.emod_eq_of_lt (by omega) (by omega)]
theorem aHz (op:Int) (w:World) :
  Calls prog 197 #[.int .i64 op] w fun e w'=>e = .returned (.int .i64 (aAj op))/\w=w':=by
 go_enter func197,ntmps197;go_wp2
 all_goals (go_ret;refine ⟨aA5 ?_,rfl⟩;unfold aAj;repeat' split) <;> omega
theorem aAs (op:Int) (w:World) :
  Calls prog 132 #[.int .i64 op] w fun e w'=>e = .returned (.int .i64 (aAj op))/\w=w':=by
 go_enter func132,ntmps132;go_wp2
 all_goals (try simp only [beq_iff_eq,beq_eq_false_iff_ne] at *) 
 all_goals (go_ret;refine ⟨aA5 ?_,rfl⟩;unfold aAj;repeat' split) <;> omega
theorem aH3 (op:Int) (w:World) :
  Calls prog 201 #[.int .i64 op] w fun e w'=>e = .returned (.bool (aAc op))/\w=w':=by
 go_enter func201,ntmps201;go_wp2
 all_goals (go_ret;refine ⟨aA2 ?_,rfl⟩;unfold aAc;rw [Bool.eq_iff_iff];simp) <;> omega
theorem aDy (op:Int) (w:World) :
  Calls prog 134 #[.int .i64 op] w fun e w'=>e = .returned (.bool (aAc op))/\w=w':=by
 go_enter func134,ntmps134;go_wp2
 all_goals (go_ret;refine ⟨aA2 ?_,rfl⟩;unfold aAc;rw [Bool.eq_iff_iff];simp) <;> omega
theorem aN8 (A:Option Addr) (n c:Nat) (es:List Term) (p:Int) (w:World) (h:aB2 w A n es) (hl:n<=1000000) :
  Calls prog 175 #[.slice A n c,.int .i64 p] w fun e w'=>e = .returned (.int .i64 (endF es p))/\w=w':=by
 obtain rfl:=h.1;have H:=aA0 h;clear h
 by_cases hp:p<0∨es.length<=p
 .have hfin:endF es p = -1:=by unfold endF;rw [if_pos hp]
  rw [hfin];clear hfin;go_enter func175,ntmps175
  rcases hp with hp | hp
  .go_wp2
   go_ret;exact ⟨rfl,rfl⟩
  .have h0:0<=p:=by omega
   go_wp2;go_ret;exact ⟨rfl,rfl⟩
 .have h1:0<=p:=by omega
  have h2:p<es.length:=by omega
  have hfin:endF es p=aDa es p.toNat 1:=by unfold endF;rw [if_neg hp]
  rw [hfin];clear hfin hp;obtain ⟨q,rfl⟩:=Int.eq_ofNat_of_zero_le h1;rw [Int.toNat_natCast];generalize hT:aDa es q 1=T;have hd1:decide ((q:Int)<0)=false:=by simp
  have hd2:decide (es.length<=q)=false:=by simp;omega
  have HT:=aA0 hT;clear hT;go_enter func175,ntmps175;go_wp2
  go_loopg [1,5] (es.length-q) (fun g a m wr=>∃ (k:Nat) (z:Int),k<=es.length/\g=es.length-k/\1<=z/\z<=1+2*k/\Hid (aDa es k z=T)/\a = .int .i64 k/\m = .int .i64 z/\w=wr)
  case atStart=>exact ⟨q,1,by omega,rfl,by omega,by omega,HT,rfl,rfl,rfl⟩
  case round =>
   obtain ⟨k,z,hk,rfl,hz1,hz2,HK,rfl,rfl,rfl⟩:=hrel
   by_cases hlt:k<es.length
   .obtain ⟨b,o,rfl,hb,hc1,hc2⟩:=H.out.at_ k hlt
    have ha:=aH4 es[k].op;obtain ⟨ha1,ha2⟩:=ha
    go_wp2_with (go_at_call 197;refine (aHz _ _).mono ?_;rintro e w' ⟨rfl,rfl⟩)
    .go_ret
     exact ⟨aA5 (by rw [<- HK.out,aPp hlt (by assumption)]),rfl⟩
    .have hh:(z+(aAj es[k].op-1)==0)=true:=by assumption
     go_ret;refine ⟨aA5 ?_,rfl⟩
     rw [<- HK.out,aPq hlt (by assumption) (by simpa using hh)]
    .have hh:(z+(aAj es[k].op-1)==0)=false:=by assumption
     have hh':z+(aAj es[k].op-1)≠0:=by simpa using hh
     go_roundg (es.length-(k+1))
     case rel=>exact ⟨k+1,z+(aAj es[k].op-1),by omega,rfl,by omega,by omega,by have:=HK.out;rw [aOf hlt (by assumption) hh'] at this;exact this,by go_num,rfl,rfl⟩
     case measure=>omega
   .go_wp2
    go_ret;exact ⟨aA5 (by rw [<- HK.out,aOe (by omega)]),rfl⟩
theorem aFm (A:Option Addr) (n c:Nat) (es:List Term) (p:Int) (w:World) (h:aB2 w A n es) (hl:n<=1000000) :
  Calls prog 157 #[.slice A n c,.int .i64 p] w fun e w'=>e = .returned (.int .i64 (endF es p))/\w=w':=by
 obtain rfl:=h.1;have H:=aA0 h;clear h
 by_cases hp:p<0∨es.length<=p
 .have hfin:endF es p = -1:=by unfold endF;rw [if_pos hp]
  rw [hfin];clear hfin;go_enter func157,ntmps157
  rcases hp with hp | hp
  .go_wp2
   go_ret;exact ⟨rfl,rfl⟩
  .have h0:0<=p:=by omega
   go_wp2;go_ret;exact ⟨rfl,rfl⟩
 .have h1:0<=p:=by omega
  have h2:p<es.length:=by omega
  have hfin:endF es p=aDa es p.toNat 1:=by unfold endF;rw [if_neg hp]
  rw [hfin];clear hfin hp;obtain ⟨q,rfl⟩:=Int.eq_ofNat_of_zero_le h1;rw [Int.toNat_natCast];generalize hT:aDa es q 1=T;have hd1:decide ((q:Int)<0)=false:=by simp
  have hd2:decide (es.length<=q)=false:=by simp;omega
  have HT:=aA0 hT;clear hT;go_enter func157,ntmps157;go_wp2
  go_loopg [5,6] (es.length-q) (fun g m a wr=>∃ (k:Nat) (z:Int),k<=es.length/\g=es.length-k/\1<=z/\z<=1+2*k/\Hid (aDa es k z=T)/\a = .int .i64 k/\m = .int .i64 z/\w=wr)
  case atStart=>exact ⟨q,1,by omega,rfl,by omega,by omega,HT,rfl,rfl,rfl⟩
  case round =>
   obtain ⟨k,z,hk,rfl,hz1,hz2,HK,rfl,rfl,rfl⟩:=hrel
   by_cases hlt:k<es.length
   .obtain ⟨b,o,rfl,hb,hc1,hc2⟩:=H.out.at_ k hlt
    have ha:=aH4 es[k].op;obtain ⟨ha1,ha2⟩:=ha
    go_wp2_with (go_at_call 132;refine (aAs _ _).mono ?_;rintro e w' ⟨rfl,rfl⟩)
    .go_ret
     exact ⟨aA5 (by rw [<- HK.out,aPp hlt (by assumption)]),rfl⟩
    .have hh:(z+(aAj es[k].op-1)==0)=true:=by assumption
     go_ret;refine ⟨aA5 ?_,rfl⟩
     rw [<- HK.out,aPq hlt (by assumption) (by simpa using hh)]
    .have hh:(z+(aAj es[k].op-1)==0)=false:=by assumption
     have hh':z+(aAj es[k].op-1)≠0:=by simpa using hh
     go_roundg (es.length-(k+1))
     case rel=>exact ⟨k+1,z+(aAj es[k].op-1),by omega,rfl,by omega,by omega,by have:=HK.out;rw [aOf hlt (by assumption) hh'] at this;exact this,by go_num,rfl,rfl⟩
     case measure=>omega
   .go_wp2
    go_ret;exact ⟨aA5 (by rw [<- HK.out,aOe (by omega)]),rfl⟩
theorem aBk (A:Option Addr) (n c:Nat) (es:List Term) (p k:Int) (w:World) (h:aB2 w A n es) (hl:n<=1000000) :
  Calls prog 138 #[.slice A n c,.int .i64 p,.int .i64 k] w fun e w'=>e = .returned (.int .i64 (aDm es p k))/\w=w':=by
 obtain rfl:=h.1;have H:=aA0 h;clear h;have hle:=aTn es p
 by_cases hp:endF es p<0
 .have hfin:aDm es p k = -1:=by unfold aDm;rw [if_pos (.inl hp)]
  have HF:=aA0 hfin;clear hfin hle;have hd:decide (endF es p<0)=true:=by simpa using hp
  go_enter func138,ntmps138
  go_wp2_with (go_at_call 157;refine (aFm _ _ _ es _ _ H.out hl).mono ?_;rintro e w' ⟨rfl,rfl⟩)
  go_ret;exact ⟨aA5 HF.out.symm,rfl⟩
 .have hd:decide (endF es p<0)=false:=by simpa using hp
  have h1:0<=p:=by omega
  have h2:p<es.length:=by omega
  clear hle;obtain ⟨q,rfl⟩:=Int.eq_ofNat_of_zero_le h1;have hq:q<es.length:=by omega
  obtain ⟨b,o,rfl,hb,hc1,hc2⟩:=H.out.at_ q hq;have hop:=aV3 hq
  by_cases hk:k<0
  .have hfin:aDm es q k = -1:=by unfold aDm;rw [if_pos (.inr (.inl hk))]
   have HF:=aA0 hfin;clear hfin hop;have hd2:decide (k<0)=true:=by simpa using hk
   go_enter func138,ntmps138
   go_wp2_with (go_at_call 157;refine (aFm _ _ _ es _ _ H.out hl).mono ?_;rintro e w' ⟨rfl,rfl⟩)
   go_ret;exact ⟨aA5 HF.out.symm,rfl⟩
  .have hd2:decide (k<0)=false:=by simpa using hk
   by_cases ha:aAj es[q].op<=k
   .have hfin:aDm es q k = -1:=by unfold aDm;rw [if_pos (.inr (.inr (by rw [hop];exact ha)))]
    have HF:=aA0 hfin;clear hfin hop;have hd3:decide (aAj es[q].op<=k)=true:=by simpa using ha
    go_enter func138,ntmps138
    go_wp2_with (first
     | (go_at_call 157;refine (aFm _ _ _ es _ _ H.out hl).mono ?_;rintro e w' ⟨rfl,rfl⟩)
     | (go_at_call 132;refine (aAs _ _).mono ?_;rintro e w' ⟨rfl,rfl⟩))
    go_ret;exact ⟨aA5 HF.out.symm,rfl⟩
   .have hd3:decide (aAj es[q].op<=k)=false:=by simpa using ha
    have hfin:aDm es q k=aNk es k.toNat (q+1):=by unfold aDm;rw [if_neg (by rw [hop];omega)]
    have hk3:k<=3:=by have:=aH4 es[q].op;omega
    have hk0:0<=k:=by omega
    obtain ⟨kk,rfl⟩:=Int.eq_ofNat_of_zero_le hk0;rw [Int.toNat_natCast] at hfin;have HF:=aA0 hfin;clear hfin hop;go_enter func138,ntmps138
    go_wp2_with (first
     | (go_at_call 157;refine (aFm _ _ _ es _ _ H.out hl).mono ?_;rintro e w' ⟨rfl,rfl⟩)
     | (go_at_call 132;refine (aAs _ _).mono ?_;rintro e w' ⟨rfl,rfl⟩))
    go_loopg [7,8] kk (fun g a m wr=>∃ (i:Nat) (z:Int),i+g=kk/\Hid (aNk es g z=aNk es kk (q+1))/\a = .int .i64 z/\m = .int .i64 i/\w=wr)
    case atStart=>exact ⟨0,q+1,by omega,rfl,rfl,rfl,rfl⟩
    case round =>
     obtain ⟨i,z,hi,HK,rfl,rfl,rfl⟩:=hrel
     by_cases hlt:i<kk
     .go_wp2_with (go_at_call 157;refine (aFm _ _ _ es _ _ H.out hl).mono ?_;rintro e w' ⟨rfl,rfl⟩)
      obtain ⟨g',rfl⟩:∃ g',gk=g'+1:=⟨gk-1,by omega⟩
      go_roundg g'
      case rel=>exact ⟨i+1,endF es z,by omega,HK,rfl,by go_num,rfl⟩
      case measure=>omega
     .go_wp2
      go_ret;obtain rfl:gk=0:=by omega
      exact ⟨aA5 (by rw [HF.out,<- HK.out];rfl),rfl⟩
theorem aLl (t:Term) (vars:Int) (w:World) :
  Calls prog 176 #[.agg #[.int .i64 t.op,.int .i64 t.arg],.int .i64 vars] w fun e w'=>e = .returned (.bool (aG5 t vars))/\Bel w w':=by
 obtain ⟨op,arg⟩:=t;go_enter func176,ntmps176;go_wp2
 all_goals
  go_ret;refine ⟨aA2 ?_,(Bel.refl _).alloc _⟩
  simp only [beq_iff_eq,beq_eq_false_iff_ne,ne_eq] at *
  unfold aG5;rw [Bool.eq_iff_iff];simp only []
  repeat' split
  all_goals first | omega | (simp;done) | (simp;omega)
theorem aId (t:Term) (vars:Int) (w:World) :
  Calls prog 192 #[.agg #[.int .i64 t.op,.int .i64 t.arg],.int .i64 vars] w fun e w'=>e = .returned (.bool (aG5 t vars))/\Bel w w':=by
 obtain ⟨op,arg⟩:=t;go_enter func192,ntmps192;go_wp2
 all_goals
  go_ret;refine ⟨aA2 ?_,(Bel.refl _).alloc _⟩
  simp only [beq_iff_eq,beq_eq_false_iff_ne,ne_eq] at *
  unfold aG5;rw [Bool.eq_iff_iff];simp only []
  repeat' split
  all_goals first | omega | (simp;done) | (simp;omega)
theorem aIb (A:Option Addr) (n c:Nat) (es:List Term) (w:World) (h:aB2 w A n es) (hl:n<=1000000) :
  Calls prog 189 #[.slice A n c] w fun e w'=>e = .returned (.bool (aWx es))/\w=w':=by
 obtain rfl:=h.1;have H:=aA0 h;clear h
 by_cases h0:0<es.length
 .have hfin:aWx es=(endF es 0==es.length):=by unfold aWx;rw [Bool.eq_iff_iff];simp;omega
  have HF:=aA0 hfin;clear hfin;go_enter func189,ntmps189
  go_wp2_with (go_at_call 157;refine (aFm _ _ _ es _ _ H.out hl).mono ?_;rintro e w' ⟨rfl,rfl⟩)
  go_ret;exact ⟨aA2 HF.out.symm,rfl⟩
 .have hfin:aWx es=false:=by unfold aWx;simp;omega
  have HF:=aA0 hfin;clear hfin;have hd:decide (0<es.length)=false:=by simpa using h0
  go_enter func189,ntmps189;go_wp2;go_ret;exact ⟨aA2 HF.out.symm,rfl⟩
theorem aRg (op g:Int) (w:World) (h0:0<=g) (h1:g<=1000000) :
  Calls prog 199 #[.int .i64 op,.int .i64 g] w fun e w'=>e = .returned (.int .i64 (aCn op g))/\w=w':=by
 go_enter func199,ntmps199;go_wp2;go_ret;exact ⟨rfl,rfl⟩
theorem aTz (op g:Int) (w:World) (h0:0<=g) (h1:g<=1000000) :
  Calls prog 200 #[.int .i64 op,.int .i64 g] w fun e w'=>e = .returned (.int .i64 (aD5 op g))/\w=w':=by
 unfold aD5;cases ha:aAc op with
 | true =>
  go_enter func200,ntmps200
  go_wp2_with (go_at_call 201;refine (aH3 _ _).mono ?_;rintro e w' ⟨rfl,rfl⟩)
  go_ret;exact ⟨rfl,rfl⟩
 | false =>
  go_enter func200,ntmps200
  go_wp2_with (go_at_call 201;refine (aH3 _ _).mono ?_;rintro e w' ⟨rfl,rfl⟩)
  go_ret;exact ⟨rfl,rfl⟩
end Go.Proofs.YtdcjnhoabbdanaaGreatDoor

