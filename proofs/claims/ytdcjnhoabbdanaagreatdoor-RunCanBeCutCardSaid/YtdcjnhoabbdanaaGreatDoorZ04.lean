/- Merged. -/
import Derived.Test.YtdcjnhoabbdanaaGreatDoorZ02
import Derived.Test.YtdcjnhoabbdanaaGreatDoorZ01
set_option linter.unusedSimpArgs false
set_option linter.unnecessarySimpa false
set_option linter.unusedVariables false
set_option maxRecDepth 100000
set_option maxHeartbeats 400000
open Go.Proofs.Tryz

namespace Go.Proofs.YtdcjnhoabbdanaaGreatDoor
open Go.RowKit
def aI2 (w:World) (b o:Nat) (t:Term):Prop:=w.cell? ⟨b,o,none⟩=some (.int .i64 t.op)/\w.cell? ⟨b,o+1,none⟩=some (.int .i64 t.arg)
theorem aI2.keeps:aL1 aI2:=fun _ _ _ _ _ k hb h=>⟨(k.cell hb).trans h.1,(k.cell hb).trans h.2⟩
def aAx:=aAc 2 aI2
theorem aAx.keep {w w':World} {A:Option Addr} {n:Nat} {es:List Term} (h:aAx w A n es) (k:Bel w w'):aAx w' A n es:=aAc.keep aI2.keeps h k
theorem aAx.at_ {w:World} {A:Option Addr} {n:Nat} {es:List Term} (h:aAx w A n es) (k:Nat) (hk:k<es.length) :
  ∃ b o,A=some ⟨b,o,none⟩/\b<w.heap.size/\w.cell? ⟨b,o+k*2,none⟩=some (.int .i64 es[k].op)/\w.cell? ⟨b,o+k*2+1,none⟩=some (.int .i64 es[k].arg):=aAc.at_ h k hk
theorem aAx.atB {w:World} {A:Option Addr} {n:Nat} {es:List Term} (h:aAx w A n es) (k:Nat) (hk:k<es.length) :
  ∃ b o,A=some ⟨b,o,none⟩/\b<w.heap.size/\∀ w',Bel w w'->w'.cell? ⟨b,o+k*2,none⟩=some (.int .i64 es[k].op)/\w'.cell? ⟨b,o+k*2+1,none⟩=some (.int .i64 es[k].arg):=by
 obtain ⟨b,o,e,hb,h1,h2⟩:=h.at_ k hk;exact ⟨b,o,e,hb,fun w' k=>⟨(k.cell hb).trans h1,(k.cell hb).trans h2⟩⟩
def aBx (t:Term):List Value:=[.int .i64 t.op,.int .i64 t.arg]
theorem aHj (es:List Term) (i:Nat) (t:Term) (h:es[i]?=some t):(es.flatMap aBx)[i*2]?=some (.int .i64 t.op)/\(es.flatMap aBx)[i*2+1]?=some (.int .i64 t.arg):=by
 induction es generalizing i with
 | nil=>simp at h
 | cons x es ih =>
  cases i with
  | zero=>simp at h;subst h;simp [aBx]
  | succ i =>
   have:=ih i (by simpa using h)
   have e:(i+1)*2=i*2+1+1:=by omega
   rw [e];simpa [aBx] using this
theorem aGn (es:List Term):(es.flatMap aBx).length=es.length*2:=by
 induction es with
 | nil=>rfl
 | cons x es ih=>simp [ih,aBx];omega
theorem aAx.cells {w:World} {A:Option Addr} {n:Nat} {es:List Term} (h:aAx w A n es):aP6 w 2 A n (es.flatMap aBx):=by
 refine ⟨by rw [aGn,h.1],fun j u hu=>?_⟩
 have hlt:j<es.length*2:=by
  have:=(List.getElem?_eq_some_iff.1 hu).1;rw [aGn] at this;exact this
 have hi:j / 2<es.length:=by omega
 obtain ⟨b,o,rfl,_,h1,h2⟩:=h.at_ (j / 2) hi;obtain ⟨g1,g2⟩:=aHj es (j / 2) es[j / 2] (List.getElem?_eq_getElem hi);refine ⟨b,o,rfl,?_⟩
 rcases Nat.mod_two_eq_zero_or_one j with hm | hm
 .have e:j=j / 2*2:=by omega
  rw [<- e] at h1 g1;rw [g1] at hu;rw [h1];exact hu
 .have e:j=j / 2*2+1:=by omega
  have e2:o+j / 2*2+1=o+j:=by omega
  rw [<- e] at g2;rw [e2] at h2;rw [g2] at hu;rw [h2];exact hu
theorem aH4 (A:Option Addr) (n c:Nat) (w:World) :
  Calls prog 80 #[.slice A n c] w fun e w'=>e = .returned (.bool (decide (n<=250)))/\w=w':=by
 go_enter func80,ntmps80;go_wp2;go_ret;refine ⟨aA2 ?_,rfl⟩
 rw [Bool.eq_iff_iff];simp;omega
def aX9 (k n:Int):Int:=k % n
theorem aW3 (k n:Int):aX9 k n=(k.tmod n) % n:=by
 have h:=Int.mul_tdiv_add_tmod k n;unfold aX9;generalize k.tmod n=r at *;rw [<- h,Int.add_comm,Int.add_mul_emod_self_left]
theorem aIl (k n:Int) (w:World) (h1:1<=n) (h2:n<=1000000) :
  Calls prog 17 #[.int .i64 k,.int .i64 n] w fun e w'=>e = .returned (.int .i64 (aX9 k n))/\w=w':=by
 have hz:(n==0)=false:=by simp;omega
 go_enter func17,ntmps17;have t1:=Int.tmod_lt_of_pos k (show 0<n by omega)
 have t2:=Int.lt_tmod_of_pos k (show 0<n by omega)
 have t3:=aA0 (aW3 k n);go_wp2
 .go_ret
  refine ⟨aA4 ?_,rfl⟩
  have hneg:k.tmod n<0:=by assumption
  rw [t3.out,<- Int.add_emod_right,Int.emod_eq_of_lt (by omega) (by omega)]
 .go_ret
  refine ⟨aA4 ?_,rfl⟩
  have hneg:0<=k.tmod n:=by assumption
  rw [t3.out,Int.emod_eq_of_lt (by omega) (by omega)]
theorem aGw (op:Int) (w:World) :
  Calls prog 197 #[.int .i64 op] w fun e w'=>e = .returned (.int .i64 (aAd op))/\w=w':=by
 go_enter func197,ntmps197;go_wp2
 all_goals (go_ret;refine ⟨aA4 ?_,rfl⟩;unfold aAd;repeat' split) <;> omega
theorem aAy (op:Int) (w:World) :
  Calls prog 132 #[.int .i64 op] w fun e w'=>e = .returned (.int .i64 (aAd op))/\w=w':=by
 go_enter func132,ntmps132;go_wp2
 all_goals (try simp only [beq_iff_eq,beq_eq_false_iff_ne] at *) 
 all_goals (go_ret;refine ⟨aA4 ?_,rfl⟩;unfold aAd;repeat' split) <;> omega
theorem aG0 (op:Int) (w:World) :
  Calls prog 201 #[.int .i64 op] w fun e w'=>e = .returned (.bool (aAa op))/\w=w':=by
 go_enter func201,ntmps201;go_wp2
 all_goals (go_ret;refine ⟨aA2 ?_,rfl⟩;unfold aAa;rw [Bool.eq_iff_iff];simp) <;> omega
theorem aGm (op:Int) (w:World) :
  Calls prog 134 #[.int .i64 op] w fun e w'=>e = .returned (.bool (aAa op))/\w=w':=by
 go_enter func134,ntmps134;go_wp2
 all_goals (go_ret;refine ⟨aA2 ?_,rfl⟩;unfold aAa;rw [Bool.eq_iff_iff];simp) <;> omega
theorem aLw (A:Option Addr) (n c:Nat) (es:List Term) (p:Int) (w:World) (h:aAx w A n es) (hl:n<=1000000) :
  Calls prog 175 #[.slice A n c,.int .i64 p] w fun e w'=>e = .returned (.int .i64 (endF es p))/\w=w':=by
 obtain rfl:=h.1;have H:=aA0 h;clear h
 by_cases hp:p<0∨es.length<=p
 .have hfin:endF es p = -1:=by unfold endF;rw [if_pos hp]
  rw [hfin];clear hfin;go_enter func175,ntmps175
  rcases hp with hp | hp
  .go_wp2
   go_ret;exact ⟨rfl,rfl⟩
  .have h0:0<=p:=by omega
   go_wp2;go_ret;exact ⟨rfl,rfl⟩
 .have h1:0<=p:=by omega
  have h2:p<es.length:=by omega
  have hfin:endF es p=aCj es p.toNat 1:=by unfold endF;rw [if_neg hp]
  rw [hfin];clear hfin hp;obtain ⟨q,rfl⟩:=Int.eq_ofNat_of_zero_le h1;rw [Int.toNat_natCast];generalize hT:aCj es q 1=T;have hd1:decide ((q:Int)<0)=false:=by simp
  have hd2:decide (es.length<=q)=false:=by simp;omega
  have HT:=aA0 hT;clear hT;go_enter func175,ntmps175;go_wp2
  go_loopg [1,5] (es.length-q) (fun g a m wr=>∃ (k:Nat) (z:Int),k<=es.length/\g=es.length-k/\1<=z/\z<=1+2*k/\Hid (aCj es k z=T)/\a = .int .i64 k/\m = .int .i64 z/\w=wr)
  case atStart=>exact ⟨q,1,by omega,rfl,by omega,by omega,HT,rfl,rfl,rfl⟩
  case round =>
   obtain ⟨k,z,hk,rfl,hz1,hz2,HK,rfl,rfl,rfl⟩:=hrel
   by_cases hlt:k<es.length
   .obtain ⟨b,o,rfl,hb,hc1,hc2⟩:=H.out.at_ k hlt
    have ha:=aG1 es[k].op;obtain ⟨ha1,ha2⟩:=ha
    go_wp2_with (go_at_call 197;refine (aGw _ _).mono ?_;rintro e w' ⟨rfl,rfl⟩)
    .go_ret
     exact ⟨aA4 (by rw [<- HK.out,aNt hlt (by assumption)]),rfl⟩
    .have hh:(z+(aAd es[k].op-1)==0)=true:=by assumption
     go_ret;refine ⟨aA4 ?_,rfl⟩
     rw [<- HK.out,aNu hlt (by assumption) (by simpa using hh)]
    .have hh:(z+(aAd es[k].op-1)==0)=false:=by assumption
     have hh':z+(aAd es[k].op-1)≠0:=by simpa using hh
     go_roundg (es.length-(k+1))
     case rel=>exact ⟨k+1,z+(aAd es[k].op-1),by omega,rfl,by omega,by omega,by have:=HK.out;rw [aMt hlt (by assumption) hh'] at this;exact this,by go_num,rfl,rfl⟩
     case measure=>omega
   .go_wp2
    go_ret;exact ⟨aA4 (by rw [<- HK.out,aMs (by omega)]),rfl⟩
theorem aEq (A:Option Addr) (n c:Nat) (es:List Term) (p:Int) (w:World) (h:aAx w A n es) (hl:n<=1000000) :
  Calls prog 157 #[.slice A n c,.int .i64 p] w fun e w'=>e = .returned (.int .i64 (endF es p))/\w=w':=by
 obtain rfl:=h.1;have H:=aA0 h;clear h
 by_cases hp:p<0∨es.length<=p
 .have hfin:endF es p = -1:=by unfold endF;rw [if_pos hp]
  rw [hfin];clear hfin;go_enter func157,ntmps157
  rcases hp with hp | hp
  .go_wp2
   go_ret;exact ⟨rfl,rfl⟩
  .have h0:0<=p:=by omega
   go_wp2;go_ret;exact ⟨rfl,rfl⟩
 .have h1:0<=p:=by omega
  have h2:p<es.length:=by omega
  have hfin:endF es p=aCj es p.toNat 1:=by unfold endF;rw [if_neg hp]
  rw [hfin];clear hfin hp;obtain ⟨q,rfl⟩:=Int.eq_ofNat_of_zero_le h1;rw [Int.toNat_natCast];generalize hT:aCj es q 1=T;have hd1:decide ((q:Int)<0)=false:=by simp
  have hd2:decide (es.length<=q)=false:=by simp;omega
  have HT:=aA0 hT;clear hT;go_enter func157,ntmps157;go_wp2
  go_loopg [5,6] (es.length-q) (fun g m a wr=>∃ (k:Nat) (z:Int),k<=es.length/\g=es.length-k/\1<=z/\z<=1+2*k/\Hid (aCj es k z=T)/\a = .int .i64 k/\m = .int .i64 z/\w=wr)
  case atStart=>exact ⟨q,1,by omega,rfl,by omega,by omega,HT,rfl,rfl,rfl⟩
  case round =>
   obtain ⟨k,z,hk,rfl,hz1,hz2,HK,rfl,rfl,rfl⟩:=hrel
   by_cases hlt:k<es.length
   .obtain ⟨b,o,rfl,hb,hc1,hc2⟩:=H.out.at_ k hlt
    have ha:=aG1 es[k].op;obtain ⟨ha1,ha2⟩:=ha
    go_wp2_with (go_at_call 132;refine (aAy _ _).mono ?_;rintro e w' ⟨rfl,rfl⟩)
    .go_ret
     exact ⟨aA4 (by rw [<- HK.out,aNt hlt (by assumption)]),rfl⟩
    .have hh:(z+(aAd es[k].op-1)==0)=true:=by assumption
     go_ret;refine ⟨aA4 ?_,rfl⟩
     rw [<- HK.out,aNu hlt (by assumption) (by simpa using hh)]
    .have hh:(z+(aAd es[k].op-1)==0)=false:=by assumption
     have hh':z+(aAd es[k].op-1)≠0:=by simpa using hh
     go_roundg (es.length-(k+1))
     case rel=>exact ⟨k+1,z+(aAd es[k].op-1),by omega,rfl,by omega,by omega,by have:=HK.out;rw [aMt hlt (by assumption) hh'] at this;exact this,by go_num,rfl,rfl⟩
     case measure=>omega
   .go_wp2
    go_ret;exact ⟨aA4 (by rw [<- HK.out,aMs (by omega)]),rfl⟩
theorem aBz (A:Option Addr) (n c:Nat) (es:List Term) (p k:Int) (w:World) (h:aAx w A n es) (hl:n<=1000000) :
  Calls prog 138 #[.slice A n c,.int .i64 p,.int .i64 k] w fun e w'=>e = .returned (.int .i64 (aCv es p k))/\w=w':=by
 obtain rfl:=h.1;have H:=aA0 h;clear h;have hle:=aRl es p
 by_cases hp:endF es p<0
 .have hfin:aCv es p k = -1:=by unfold aCv;rw [if_pos (.inl hp)]
  have HF:=aA0 hfin;clear hfin hle;have hd:decide (endF es p<0)=true:=by simpa using hp
  go_enter func138,ntmps138
  go_wp2_with (go_at_call 157;refine (aEq _ _ _ es _ _ H.out hl).mono ?_;rintro e w' ⟨rfl,rfl⟩)
  go_ret;exact ⟨aA4 HF.out.symm,rfl⟩
 .have hd:decide (endF es p<0)=false:=by simpa using hp
  have h1:0<=p:=by omega
  have h2:p<es.length:=by omega
  clear hle;obtain ⟨q,rfl⟩:=Int.eq_ofNat_of_zero_le h1;have hq:q<es.length:=by omega
  obtain ⟨b,o,rfl,hb,hc1,hc2⟩:=H.out.at_ q hq;have hop:=aT1 hq
  by_cases hk:k<0
  .have hfin:aCv es q k = -1:=by unfold aCv;rw [if_pos (.inr (.inl hk))]
   have HF:=aA0 hfin;clear hfin hop;have hd2:decide (k<0)=true:=by simpa using hk
   go_enter func138,ntmps138
   go_wp2_with (go_at_call 157;refine (aEq _ _ _ es _ _ H.out hl).mono ?_;rintro e w' ⟨rfl,rfl⟩)
   go_ret;exact ⟨aA4 HF.out.symm,rfl⟩
  .have hd2:decide (k<0)=false:=by simpa using hk
   by_cases ha:aAd es[q].op<=k
   .have hfin:aCv es q k = -1:=by unfold aCv;rw [if_pos (.inr (.inr (by rw [hop];exact ha)))]
    have HF:=aA0 hfin;clear hfin hop;have hd3:decide (aAd es[q].op<=k)=true:=by simpa using ha
    go_enter func138,ntmps138
    go_wp2_with (first
     | (go_at_call 157;refine (aEq _ _ _ es _ _ H.out hl).mono ?_;rintro e w' ⟨rfl,rfl⟩)
     | (go_at_call 132;refine (aAy _ _).mono ?_;rintro e w' ⟨rfl,rfl⟩))
    go_ret;exact ⟨aA4 HF.out.symm,rfl⟩
   .have hd3:decide (aAd es[q].op<=k)=false:=by simpa using ha
    have hfin:aCv es q k=aM6 es k.toNat (q+1):=by unfold aCv;rw [if_neg (by rw [hop];omega)]
    have hk3:k<=3:=by have:=aG1 es[q].op;omega
    have hk0:0<=k:=by omega
    obtain ⟨kk,rfl⟩:=Int.eq_ofNat_of_zero_le hk0;rw [Int.toNat_natCast] at hfin;have HF:=aA0 hfin;clear hfin hop;go_enter func138,ntmps138
    go_wp2_with (first
     | (go_at_call 157;refine (aEq _ _ _ es _ _ H.out hl).mono ?_;rintro e w' ⟨rfl,rfl⟩)
     | (go_at_call 132;refine (aAy _ _).mono ?_;rintro e w' ⟨rfl,rfl⟩))
    go_loopg [7,8] kk (fun g a m wr=>∃ (i:Nat) (z:Int),i+g=kk/\Hid (aM6 es g z=aM6 es kk (q+1))/\a = .int .i64 z/\m = .int .i64 i/\w=wr)
    case atStart=>exact ⟨0,q+1,by omega,rfl,rfl,rfl,rfl⟩
    case round =>
     obtain ⟨i,z,hi,HK,rfl,rfl,rfl⟩:=hrel
     by_cases hlt:i<kk
     .go_wp2_with (go_at_call 157;refine (aEq _ _ _ es _ _ H.out hl).mono ?_;rintro e w' ⟨rfl,rfl⟩)
      obtain ⟨g',rfl⟩:∃ g',gk=g'+1:=⟨gk-1,by omega⟩
      go_roundg g'
      case rel=>exact ⟨i+1,endF es z,by omega,HK,rfl,by go_num,rfl⟩
      case measure=>omega
     .go_wp2
      go_ret;obtain rfl:gk=0:=by omega
      exact ⟨aA4 (by rw [HF.out,<- HK.out];rfl),rfl⟩
theorem aKe (t:Term) (vars:Int) (w:World) :
  Calls prog 176 #[.agg #[.int .i64 t.op,.int .i64 t.arg],.int .i64 vars] w fun e w'=>e = .returned (.bool (aFo t vars))/\Bel w w':=by
 obtain ⟨op,arg⟩:=t;go_enter func176,ntmps176;go_wp2
 all_goals
  go_ret;refine ⟨aA2 ?_,(Bel.refl _).alloc _⟩
  simp only [beq_iff_eq,beq_eq_false_iff_ne,ne_eq] at *
  unfold aFo;rw [Bool.eq_iff_iff];simp only []
  repeat' split
  all_goals first | omega | (simp;done) | (simp;omega)
theorem aHb (t:Term) (vars:Int) (w:World) :
  Calls prog 192 #[.agg #[.int .i64 t.op,.int .i64 t.arg],.int .i64 vars] w fun e w'=>e = .returned (.bool (aFo t vars))/\Bel w w':=by
 obtain ⟨op,arg⟩:=t;go_enter func192,ntmps192;go_wp2
 all_goals
  go_ret;refine ⟨aA2 ?_,(Bel.refl _).alloc _⟩
  simp only [beq_iff_eq,beq_eq_false_iff_ne,ne_eq] at *
  unfold aFo;rw [Bool.eq_iff_iff];simp only []
  repeat' split
  all_goals first | omega | (simp;done) | (simp;omega)
theorem aH6 (A:Option Addr) (n c:Nat) (es:List Term) (w:World) (h:aAx w A n es) (hl:n<=1000000) :
  Calls prog 189 #[.slice A n c] w fun e w'=>e = .returned (.bool (aUv es))/\w=w':=by
 obtain rfl:=h.1;have H:=aA0 h;clear h
 by_cases h0:0<es.length
 .have hfin:aUv es=(endF es 0==es.length):=by unfold aUv;rw [Bool.eq_iff_iff];simp;omega
  have HF:=aA0 hfin;clear hfin;go_enter func189,ntmps189
  go_wp2_with (go_at_call 157;refine (aEq _ _ _ es _ _ H.out hl).mono ?_;rintro e w' ⟨rfl,rfl⟩)
  go_ret;exact ⟨aA2 HF.out.symm,rfl⟩
 .have hfin:aUv es=false:=by unfold aUv;simp;omega
  have HF:=aA0 hfin;clear hfin;have hd:decide (0<es.length)=false:=by simpa using h0
  go_enter func189,ntmps189;go_wp2;go_ret;exact ⟨aA2 HF.out.symm,rfl⟩
theorem aPf (op g:Int) (w:World) (h0:0<=g) (h1:g<=1000000) :
  Calls prog 199 #[.int .i64 op,.int .i64 g] w fun e w'=>e = .returned (.int .i64 (aC2 op g))/\w=w':=by
 go_enter func199,ntmps199;go_wp2;go_ret;exact ⟨rfl,rfl⟩
theorem aS3 (op g:Int) (w:World) (h0:0<=g) (h1:g<=1000000) :
  Calls prog 200 #[.int .i64 op,.int .i64 g] w fun e w'=>e = .returned (.int .i64 (aCf op g))/\w=w':=by
 unfold aCf;cases ha:aAa op with
 | true =>
  go_enter func200,ntmps200
  go_wp2_with (go_at_call 201;refine (aG0 _ _).mono ?_;rintro e w' ⟨rfl,rfl⟩)
  go_ret;exact ⟨rfl,rfl⟩
 | false =>
  go_enter func200,ntmps200
  go_wp2_with (go_at_call 201;refine (aG0 _ _).mono ?_;rintro e w' ⟨rfl,rfl⟩)
  go_ret;exact ⟨rfl,rfl⟩
theorem aHq:(prog.info? 3).map (fun i=>(i.zero,i.size,i.bytes))=some (some (.int .i64 0),1,8):=by kernel_rfl
theorem aNm (f:FuncId) (num:Int->Int->Int) (hf:∀ op g w,0<=g->g<=1000000->Calls prog f #[.int .i64 op,.int .i64 g] w fun e w'=>e = .returned (.int .i64 (num op g))/\w=w')
  (hcall:∀ a b w,(callFunc f #[a,b]).run prog w = .ok (.enter f #[a,b]) w)
  (hn:∀ op g,0<=g->0<=num op g/\num op g<=g+1)
  (A:Option Addr) (n c:Nat) (es:List Term) (w:World) (h:aAx w A n es) (hl:n<=1000000) :
  Calls prog 198 #[.slice A n c,.func (.func f) #[] #[]] w fun e w'=>e = .returned (.tuple #[.int .i64 (aDc num es),.bool (endF es 0==es.length)])/\Bel w w':=by
 obtain rfl:=h.1;have H:=aA0 h;clear h;have HF:=aA0 hf;clear hf;have HN:=aA0 hn;clear hn
 by_cases he:endF es 0=es.length
 .have hfin:aDc num es=(lev num es).headD 0:=by unfold aDc;rw [if_pos he]
  have HFin:=aA0 hfin;clear hfin;have HFull:=aA0 (aEv he);have hpos:0<es.length:=by have:=aRl es 0;omega
  have hd:(endF es 0 != es.length)=false:=by simpa using he
  have HE:=aA0 he;clear he;obtain ⟨i0,hi0,hz0,hzz,hz2'⟩:=info_parts aHq;go_enter func198,ntmps198
  go_wp2_with (go_at_call 175;refine (aLw _ _ _ es _ _ H.out hl).mono ?_;rintro e w' ⟨rfl,rfl⟩)
  go_loopg [6,7] es.length (fun g sv iv wr=>∃ (S:Option Addr) (sc:Nat) (st:List Int),g<=es.length/\Hid (lev num (es.drop g)=st)/\iv = .int .i64 ((g:Int)-1)/\sv = .slice S st.length sc/\Hid (wr.ownsRow w.heap.size 3 1 (.slice S st.length sc) st.length (st.map (Value.int .i64)))/\Bel w wr)
  case atStart=>exact ⟨none,0,[],Nat.le_refl _,by show lev num (es.drop es.length)=[];simp [lev],rfl,rfl,World.ownsRow_nil _ _ _ _,Bel.refl _⟩
  case round =>
   obtain ⟨S,sc,st,hg,HST,rfl,rfl,HO,hbel⟩:=hrel
   rcases Nat.eq_zero_or_pos gk with h0 | h0
   .subst h0
    have hlen:=HFull.out.lev_length num;have hst:=HST.out;rw [List.drop_zero] at hst;rw [hst] at hlen;obtain ⟨x,rfl⟩:∃ x,st=[x]:=List.length_eq_one_iff.1 (by omega)
    obtain ⟨g,rfl,_,_,hcell,_⟩:=aCz HO.out (j:=0) (u := .int .i64 x) rfl;have Hst:=aA0 hst;clear hst hlen;go_wp2
    go_ret2
    refine ⟨?_,hbel⟩
    rw [HFin.out,Hst.out,HE.out];simp
   .obtain ⟨i,rfl⟩:∃ i,gk=i+1:=⟨gk-1,by omega⟩
    have hi:i<es.length:=by omega
    obtain ⟨b,o,rfl,hb,hc1,hc2⟩:=(H.out.keep hbel).at_ i hi;obtain ⟨ha1,ha2⟩:=aYv num HFull.out hi;obtain ⟨hb1,hb2⟩:=aPx num HN.out (es.drop (i+1));rw [List.length_drop] at hb1;rw [HST.out] at ha2 hb1 hb2;obtain ⟨a,ha⟩:=Int.eq_ofNat_of_zero_le ha1;obtain ⟨hcap1,hcap2⟩:=aF0 HO.out;have hr1:a<=st.length:=by omega
    obtain ⟨r,hr⟩:∃ r:Nat,(st.length:Int)-a=r:=⟨st.length-a,by omega⟩
    have hr2:r<=st.length:=by omega
    have hst2:st.length<=1000000:=by omega
    obtain ⟨A2,hcut,hA2⟩:=aSf (P:=prog) underlying26 hi0 hzz S st.length sc r hr2 hcap1;have hup:=aHv (P:=prog) underlying26 hi0 S st.length sc r (by omega)
    have HA2:=aA0 (hA2 aGp wr st (aLf HO.out));clear hA2;have HB:=aA0 hb2;clear hb2;have hG1:=aIi (st.drop r);have hG2:=aRq (st.drop r) 1000000 (by omega) (fun x hx=>by have:=HB.out x (List.mem_of_mem_drop hx);rw [List.length_drop] at this;omega)
    generalize hG:aD0 (st.drop r)=G at *
    have HL:Hid (lev num (es.drop i)=st.take r++[num es[i].op G]):=by
     show lev num (es.drop i)=st.take r++[num es[i].op G]
     rw [List.drop_eq_getElem_cons hi];simp only [lev]
     rw [HST.out,ha,show st.length-Int.toNat (a:Int)=r by omega,hG]
    have HG:=aA0 hG;clear hG;clear ha1 ha2
    go_wp2_with (first
     | (go_at_call 197;refine (aGw _ _).mono ?_;rintro e w' ⟨rfl,rfl⟩))
    go_loopg [9,37] (st.length-r) (fun g gr iv wi=>∃ (k:Nat) (z:Int),k+g=st.length-r/\0<=z/\z<=1000000/\Hid ((st.drop (r+k)).foldl max z=G)/\gr = .int .i64 z/\iv = .int .i64 k/\wr=wi)
    case atStart=>exact ⟨0,0,by omega,by omega,by omega,HG,rfl,rfl,rfl⟩
    case round =>
     obtain ⟨k,z,hk,hz1,hz2,HK,rfl,rfl,rfl⟩:=hrel
     by_cases hlt:k<st.length-r
     .have hkl:k<(st.drop r).length:=by rw [List.length_drop];omega
      obtain ⟨b2,o2,rfl,hb2,hc3⟩:=aBc.at_ HA2.out k hkl;have hx:st.drop (r+k)=(st.drop r)[k] :: st.drop (r+(k+1)):=by rw [<- List.drop_drop,List.drop_eq_getElem_cons hkl,List.drop_drop]
      have hxb:=HB.out (st.drop r)[k] (List.mem_of_mem_drop (List.getElem_mem _));rw [List.length_drop] at hxb;generalize (st.drop r)[k]=x at *;have hx1:0<=x:=hxb.1;have hx2:x<=1000000:=by omega
      have HX:=aA0 hx;clear hx hxb;go_wp2
      all_goals
       go_roundg (gk-1)
       case rel=>exact ⟨k+1,_,by omega,by omega,by omega,by
        have hm:=HK.out;rw [HX.out,List.foldl_cons] at hm
        first
         | (rw [Int.max_eq_left (by assumption)] at hm;exact hm)
         | (rw [Int.max_eq_right (by omega)] at hm;exact hm),rfl,by go_num,rfl⟩
       case measure=>omega
     .obtain rfl:z=G:=by
       have hm:=HK.out;rw [List.drop_eq_nil_of_le (by omega)] at hm
       exact hm
      go_wp2
      go_region_law (first
       | (refine aHi _ rfl (.tmp 47) (.tmp 56) 26 rfl w.heap.size 3 i0 (.int .i64 0) 1 8 underlying26 hi0 hz0 hzz hz2' rfl (by decide) S r sc ((st.map (Value.int .i64)).take (r*1)) (by simp [Act.eval]) ((aLg HO.out r hr2).alloc _).drew wr.heap.size #[.int .i64 (num es[i].op z)] 3 (0,0) (by simp [Act.eval]) (aIz _ _) rfl (aOu _ _) (by unfold maxLen;omega) (by omega) (by have:=hbel.size;simp;omega) ?_;intro S' sc' w2 hown2 hgr2 hat2)
       | (go_simp;refine (HF.out _ _ _ hz1 hz2).mono ?_;rintro e w' ⟨rfl,rfl⟩))
      go_wp2
      go_roundg i
      case rel=>exact ⟨S',sc',st.take r++[num es[i].op z],by omega,HL,rfl,by simp [Nat.min_eq_left hr2],by
       show World.ownsRow _ _ _ _ _ _ _
       simpa [Nat.min_eq_left hr2,List.map_take] using hown2,(hbel.alloc _).drew.push ((aLg HO.out r hr2).alloc _).drew hgr2⟩
      case measure=>omega
 .have hfin:aDc num es=0:=by unfold aDc;rw [if_neg he]
  have HFin:=aA0 hfin;clear hfin;have hd:(endF es 0 != es.length)=true:=by simpa using he
  have Hd2:Hid ((endF es 0==(es.length:Int))=false):=by show (endF es 0==(es.length:Int))=false;simpa using he
  clear he;go_enter func198,ntmps198
  go_wp2_with (go_at_call 175;refine (aLw _ _ _ es _ _ H.out hl).mono ?_;rintro e w' ⟨rfl,rfl⟩)
  go_ret2
  refine ⟨?_,Bel.refl _⟩
  rw [HFin.out,Hd2.out];rfl
end Go.Proofs.YtdcjnhoabbdanaaGreatDoor

