/- Merged. -/
import Derived.Test.YtdcjnhoabbdanaaGreatDoorZ06
import Derived.Test.YtdcjnhoabbdanaaGreatDoorZ07
set_option linter.unusedSimpArgs false
set_option linter.unnecessarySimpa false
set_option linter.unusedVariables false
set_option maxRecDepth 100000
set_option maxHeartbeats 4000000
open Go.Proofs.Tryz

namespace Go.Proofs.YtdcjnhoabbdanaaGreatDoor
open Go.RowKit
theorem aEu (k:Int) (w:World):Calls prog 159 #[.int .i64 k] w fun e w'=>e = .returned (.bool (aDy k))/\w=w':=by
 go_enter func159,ntmps159;go_wp2
 all_goals (go_ret;refine ⟨aA2 ?_,rfl⟩;unfold aDy;(rw [Bool.eq_iff_iff]) <;> simp [*])
theorem aLl (k:Int) (w:World):Calls prog 168 #[.int .i64 k] w fun e w'=>e = .returned (.bool (aDy k))/\w=w':=by
 go_enter func168,ntmps168;go_wp2
 all_goals (go_ret;refine ⟨aA2 ?_,rfl⟩;unfold aDy;(rw [Bool.eq_iff_iff]) <;> simp [*])
theorem aV8 (b:Bool) (k:Int) (w:World):Calls prog 212 #[.bool b,.int .i64 k] w fun e w'=>e = .returned (.int .i64 (ifK b k))/\w=w':=by
 cases b
 all_goals (go_enter func212,ntmps212;go_wp2;go_ret;exact ⟨rfl,rfl⟩)
theorem aZg (op:Int) (w:World):Calls prog 202 #[.int .i64 op] w fun e w'=>e = .returned (.bool (aCw op))/\w=w':=by
 go_enter func202,ntmps202;go_wp2
 all_goals (go_ret;refine ⟨aA2 ?_,rfl⟩;unfold aCw;rw [Bool.eq_iff_iff];simp) <;> omega
theorem aHu {op arg n:Int} (h:aFx ⟨op,arg⟩ n=true) (ho:op=5∨op=12):0<=arg/\arg<n:=by
 unfold aFx at h
 rcases ho with rfl | rfl <;> simpa using h
theorem aY7 (ev:Value) (A:Option Addr) (c:Nat) (kinds:List Int) (t:Term) (w:World) (h:aBr w A kinds.length kinds) (ha:aFx t kinds.length=true) :
  Calls prog 203 #[.agg #[ev,.slice A kinds.length c],.agg #[.int .i64 t.op,.int .i64 t.arg]] w fun e w'=>e = .returned (.int .i64 (aO5 kinds t))/\Bel w w':=by
 obtain ⟨op,arg⟩:=t
 by_cases ho:op=5∨op=12
 .obtain ⟨h0,h1⟩:=aHu ha ho
  obtain ⟨a,rfl⟩:=Int.eq_ofNat_of_zero_le h0;have hlt:a<kinds.length:=by omega
  obtain ⟨b,o,rfl,hb,hc⟩:=h.at_ a hlt
  have HF:Hid (aO5 kinds ⟨op,(a:Int)⟩=kinds[a]):=by
   show aO5 kinds ⟨op,(a:Int)⟩=kinds[a]
   unfold aO5
   rcases ho with rfl | rfl <;> simp [hlt]
  clear h ha h0 h1
  rcases ho with rfl | rfl
  all_goals
   go_enter func203,ntmps203;go_wp2;go_ret;exact ⟨aA5 HF.out.symm,((Bel.refl _).alloc _).alloc _⟩
 .have h5:(op==5)=false:=by simp;omega
  have h12:(op==12)=false:=by simp;omega
  clear h ha;go_enter func203,ntmps203;go_wp2
  all_goals (try simp only [beq_iff_eq,beq_eq_false_iff_ne] at *)
  all_goals (go_ret;refine ⟨aA5 ?_,((Bel.refl _).alloc _).alloc _⟩;unfold aO5;dsimp only;repeat' split) <;> omega
theorem aRv (A:Option Addr) (c:Nat) (kinds:List Int) (t:Term) (bound:Bool) (w:World) (h:aBr w A kinds.length kinds) (ha:aFx t kinds.length=true) (har:aAg t.op=0) :
  Calls prog 193 #[.agg #[.int .i64 t.op,.int .i64 t.arg],.slice A kinds.length c,.bool bound] w fun e w'=>e = .returned (.int .i64 (aB4 kinds bound (.leaf t)))/\Bel w w':=by
 obtain ⟨op,arg⟩:=t
 have hr:1<=op/\op<=17:=by
  unfold aAg at har;simp only [] at har
  repeat' split at har
  all_goals omega
 by_cases ho:op=5∨op=12/\bound=true
 .obtain ⟨h0,h1⟩:=aHu ha (by omega)
  obtain ⟨a,rfl⟩:=Int.eq_ofNat_of_zero_le h0;have hlt:a<kinds.length:=by omega
  obtain ⟨b,o,rfl,hb,hc⟩:=h.at_ a hlt
  have HF:Hid (aB4 kinds bound (.leaf ⟨op,(a:Int)⟩)=kinds[a]):=by
   show aB4 kinds bound (.leaf ⟨op,(a:Int)⟩)=kinds[a]
   unfold aB4 aO5
   rcases ho with rfl | ⟨rfl,rfl⟩ <;> simp [hlt,aCw]
  clear h ha h0 h1 har hr
  rcases ho with rfl | ⟨rfl,rfl⟩
  .cases bound
   all_goals
    go_enter func193,ntmps193;go_wp2;go_ret;exact ⟨aA5 HF.out.symm,(Bel.refl _).alloc _⟩
  .go_enter func193,ntmps193
   go_wp2;go_ret;exact ⟨aA5 HF.out.symm,(Bel.refl _).alloc _⟩
 .have h5:(op==5)=false:=by simp;exact fun h=>ho (.inl h)
  obtain ⟨hr1,hr2⟩:=hr;clear h ha har;cases bound with
  | true =>
   have h12:(op==12)=false:=by simp;exact fun h=>ho (.inr ⟨h,rfl⟩)
   clear ho;go_enter func193,ntmps193;go_wp2
   all_goals (try simp only [beq_iff_eq,beq_eq_false_iff_ne] at *)
   all_goals (go_ret;refine ⟨aA5 ?_,(Bel.refl _).alloc _⟩;unfold aB4 aO5 aCw;simp only [Bool.not_true,Bool.and_false,Bool.false_eq_true,if_false];repeat' split) <;> omega
  | false =>
   by_cases hnear:11<=op
   .have hd:decide (12<=op)=true∨op=11:=by simp;omega
    have HF:Hid (aB4 kinds false (.leaf ⟨op,arg⟩)=0):=by
     show aB4 kinds false (.leaf ⟨op,arg⟩)=0
     unfold aB4 aCw;simp [hnear,hr2]
    go_enter func193,ntmps193;go_wp2
    all_goals (try simp only [beq_iff_eq,beq_eq_false_iff_ne] at *)
    all_goals first
     | (go_ret;exact ⟨aA5 HF.out.symm,(Bel.refl _).alloc _⟩)
     | (exfalso;omega)
   .have h11:(op==11)=false:=by simp;omega
    have h12:decide (12<=op)=false:=by simp;omega
    have h12':(op==12)=false:=by simp;omega
    have h15':(op==15)=false:=by simp;omega
    have h17':(op==17)=false:=by simp;omega
    clear ho;go_enter func193,ntmps193;go_wp2
    all_goals (try simp only [beq_iff_eq,beq_eq_false_iff_ne] at *)
    all_goals (go_ret;refine ⟨aA5 ?_,(Bel.refl _).alloc _⟩;unfold aB4 aO5 aCw;simp only [show decide (11<=op/\op<=17)=false by simp;omega,Bool.false_and,Bool.false_eq_true,if_false];repeat' split) <;> omega
theorem aKk (op a:Int) (w:World):Calls prog 194 #[.int .i64 op,.int .i64 a] w fun e w'=>e = .returned (.int .i64 (aGi op a))/\w=w':=by
 go_enter func194,ntmps194;go_wp2
 all_goals (try simp only [beq_iff_eq,beq_eq_false_iff_ne,bne_iff_ne,bne_eq_false_iff_eq] at *)
 all_goals (go_ret;refine ⟨aA5 ?_,rfl⟩;unfold aGi ifK;(try simp only [beq_iff_eq]);repeat' split) <;> omega
theorem aH8 (op a b:Int) (w:World) (h1:30<=op) (h2:op<=42):Calls prog 195 #[.int .i64 op,.int .i64 a,.int .i64 b] w fun e w'=>e = .returned (.int .i64 (aHx op a b))/\w=w':=by
 go_enter func195,ntmps195;go_wp2
 all_goals (try simp only [beq_iff_eq,beq_eq_false_iff_ne,bne_iff_ne,bne_eq_false_iff_eq] at *)
 all_goals (go_ret;refine ⟨aA5 ?_,rfl⟩;unfold aHx ifK;(try simp only [Bool.and_eq_true,beq_iff_eq,bne_iff_ne]);repeat' split) <;> first | omega | simp_all
def aIc (op a b c:Int):Int:=if op<=29 then aGi op a else if op<=42 then aHx op a b else ifK (a==2&&b==c) b
def Ex.kids:Ex->List Ex
 | .leaf _=>[]
 | .un _ a=>[a]
 | .bin _ a b=>[a,b]
 | .tri _ a b c=>[a,b,c]
def Ex.head:Ex->Term
 | .leaf t=>t
 | .un t _=>t
 | .bin t _ _=>t
 | .tri t _ _ _=>t
theorem aB6 (op:Int):(aAg op=0->1<=op/\op<=17)/\(aAg op=1->18<=op/\op<=29)/\(aAg op=2->30<=op/\op<=42)/\(aAg op=3->op=43):=by
 unfold aAg
 repeat' split
 all_goals omega
theorem aX7 {kinds:List Int} {bound:Bool} {x:Ex} (h:x.ok) (hk:x.kids≠[]) :
  aB4 kinds bound x=aIc x.head.op ((x.kids.map (aB4 kinds (bound||aAc x.head.op))).getD 0 0) ((x.kids.map (aB4 kinds (bound||aAc x.head.op))).getD 1 0) ((x.kids.map (aB4 kinds (bound||aAc x.head.op))).getD 2 0):=by
 cases x with
 | leaf t=>exact absurd rfl hk
 | un t a =>
  obtain ⟨h1,_⟩:=h;have:=(aB6 t.op).2.1 h1;simp [Ex.kids,Ex.head,aB4,aIc,this.2]
 | bin t a b =>
  obtain ⟨h1,_⟩:=h;have:=(aB6 t.op).2.2.1 h1;have ha:aAc t.op=false:=aHt (by omega)
  simp [Ex.kids,Ex.head,aB4,aIc,this.2,show ¬ t.op<=29 by omega,ha]
 | tri t a b c =>
  obtain ⟨h1,_⟩:=h;have:=(aB6 t.op).2.2.2 h1;have ha:aAc t.op=false:=aHt (by omega)
  simp [Ex.kids,Ex.head,aB4,aIc,show ¬ t.op<=29 by omega,show ¬ t.op<=42 by omega,ha]
theorem aVb {x:Ex} (h:x.ok):aAg x.head.op=(x.kids.length:Int):=by
 cases x with
 | leaf t=>exact h
 | un t a=>exact h.1
 | bin t a b=>exact h.1
 | tri t a b c=>exact h.1
def aLe (l:List Ex):Nat:=(l.map Ex.len).sum
theorem bAl {es:List Term} {k:Nat} {x:Ex} (h:x.At es k):es[k]?=some x.head/\(∀ j,(hj:j<x.kids.length)->x.kids[j].At es (k+1+aLe (x.kids.take j)))/\x.len=1+aLe x.kids:=by
 cases x with
 | leaf t=>exact ⟨(At.leaf h).1,fun j hj=>absurd hj (by simp [Ex.kids]),by simp [Ex.len,Ex.terms,aLe,Ex.kids]⟩
 | un t a =>
  obtain ⟨h1,h2,h3⟩:=At.un h;refine ⟨h1,fun j hj=>?_,by simp [Ex.len,Ex.terms,aLe,Ex.kids];omega⟩
  simp [Ex.kids] at hj
  subst hj;simpa [Ex.kids,aLe] using h3
 | bin t a b =>
  obtain ⟨h1,h2,h3,h4⟩:=At.bin h;refine ⟨h1,fun j hj=>?_,by simp [Ex.len,Ex.terms,aLe,Ex.kids];omega⟩
  rcases (show j=0∨j=1 by simp [Ex.kids] at hj;omega) with rfl | rfl
  .simpa [Ex.kids,aLe] using h3
  .simpa [Ex.kids,aLe] using h4
 | tri t a b c =>
  obtain ⟨h1,h2,h3,h4,h5⟩:=At.tri h;refine ⟨h1,fun j hj=>?_,by simp [Ex.len,Ex.terms,aLe,Ex.kids];omega⟩
  rcases (show j=0∨j=1∨j=2 by simp [Ex.kids] at hj;omega) with rfl | rfl | rfl
  .simpa [Ex.kids,aLe] using h3
  .simpa [Ex.kids,aLe] using h4
  .have e:k+1+(a.len+b.len)=k+1+a.len+b.len:=by omega
   simpa [Ex.kids,aLe,e] using h5
theorem Ex.kids_induct {P:Ex->Prop} (h:∀ x:Ex,(∀ y∈x.kids,P y)->P x) (x:Ex):P x:=by
 induction x with
 | leaf t=>exact h _ (fun y hy=>by simp [Ex.kids] at hy)
 | un t a ih=>exact h _ (fun y hy=>by simp [Ex.kids] at hy;subst hy;exact ih)
 | bin t a b iha ihb=>exact h _ (fun y hy=>by simp [Ex.kids] at hy;rcases hy with rfl | rfl <;> assumption)
 | tri t a b c iha ihb ihc=>exact h _ (fun y hy=>by simp [Ex.kids] at hy;rcases hy with rfl | rfl | rfl <;> assumption)
theorem bAm (x:Ex):x.kids.length<=3:=by cases x <;> simp [Ex.kids]
theorem aOz (op a b c:Int) (w:World) (h1:18<=op) (h2:op<=43) :
  Calls prog 204 #[.int .i64 op,.agg #[.int .i64 a,.int .i64 b,.int .i64 c]] w fun e w'=>e = .returned (.int .i64 (aIc op a b c))/\Bel w w':=by
 have hi:∀ j,j<3->True:=fun _ _=>trivial;clear hi;go_enter func204,ntmps204;go_wp2
 go_quiet (fail)
 go_wp2_with (go_at_call 212;refine (aV8 _ _ _).mono ?_;rintro e w' ⟨rfl,rfl⟩)
 all_goals (try simp only [beq_iff_eq,beq_eq_false_iff_ne,bne_iff_ne,bne_eq_false_iff_eq] at *)
 all_goals (go_ret;refine ⟨aA5 ?_,((Bel.refl _).alloc _).drewN _⟩;(by_cases h43:op=43);(all_goals first | (exfalso;omega) | (subst h43;simp_all [aIc,ifK];done) | (simp_all [aIc,aGi,aHx,ifK];done) | (simp_all [aIc,aGi,aHx,ifK];omega)))
theorem aUg {k j:IntKind} {a b c d:Int} (h1:a=c) (h2:b=d):Ending.returned (.tuple #[.int k a,.int j b]) = .returned (.tuple #[.int k c,.int j d]):=by rw [h1,h2]
def aSk (l:List Int):Array Value:=#[.int .i64 (l.getD 0 0),.int .i64 (l.getD 1 0),.int .i64 (l.getD 2 0)]
theorem aJ0 (l:List Ex) (j:Nat) (h:j<l.length):aLe (l.take (j+1))=aLe (l.take j)+l[j].len:=by
 unfold aLe;rw [List.take_succ_eq_append_getElem h,List.map_append,List.sum_append];simp
theorem aLf (l:List Ex) (j:Nat):aLe (l.take j)<=aLe l:=by
 unfold aLe
 conv=>rhs;rw [<- List.take_append_drop j l,List.map_append,List.sum_append]
 omega
theorem aTs (l:List Int) (j:Nat) (h:j<3) (hl:j<l.length):(aSk (l.take j)).setIfInBounds j (.int .i64 l[j])=aSk (l.take (j+1)):=by
 rcases (show j=0∨j=1∨j=2 by omega) with rfl | rfl | rfl
 all_goals
  match l,hl with
  | x :: l,hl=>first
   | simp [aSk];done
   | (match l,hl with
    | y :: l,hl=>first
     | simp [aSk];done
     | (match l,hl with
      | z :: l,hl=>simp [aSk]))
def bB7 (kinds:List Int) (x:Ex):Prop :=
 ∀ (bound:Bool) (A:Option Addr) (c:Nat) (es:List Term) (K:Option Addr) (ck k:Nat) (w:World),x.At es k->aB0 w A es.length es->aBr w K kinds.length kinds->(∀ t∈es,aFx t kinds.length=true)->es.length<=1000 ->
  Calls prog 179 #[.agg #[.slice A es.length c,.slice K kinds.length ck],.int .i64 k,.bool bound] w fun e w'=>e = .returned (.tuple #[.int .i64 (aB4 kinds bound x),.int .i64 ((k+x.len:Nat):Int)])/\Bel w w'
theorem aZp (kinds:List Int) (x:Ex):bB7 kinds x:=by
 refine Ex.kids_induct (fun x ih=>?_) x
 intro bound A c es K ck k w hat hT hK harg hlen
 have hlt:=At.lt hat;obtain ⟨hh,hkids,hxl⟩:=bAl hat;have hxb:=At.bound hat;have har:=aVb hat.1;have hkk:=aX7 (kinds:=kinds) (bound:=bound) hat.1;obtain ⟨b,o,rfl,hb,c1,c2⟩:=hT.at_ k hlt;have hhe:es[k]=x.head:=by rw [List.getElem?_eq_getElem hlt] at hh;simpa using hh
 rw [hhe] at c1 c2;have hargt:aFx x.head kinds.length=true:=by rw [<- hhe];exact harg _ (List.getElem_mem hlt)
 have HT:=aA0 (fun w' (k:Bel w w')=>aB0.keep hT k);clear hT;have HK:=aA0 (fun w' (k:Bel w w')=>aBr.keep hK k);clear hK;have HA:=aA0 harg;clear harg;have HAT:=aA0 hkids;clear hkids;have HX:=aA0 hxl;clear hxl;have HIH:=aA0 ih;clear ih;have HKK:=aA0 hkk;clear hkk;have hab:=aB6 x.head.op;have h3:=bAm x;have HHE:=aA0 hhe;clear hh hhe
 by_cases h0:x.kids.length=0
 .-- a leaf
  have har0:aAg x.head.op=0:=by omega
  obtain ⟨hr1,hr2⟩:=hab.1 har0
  have hkf:aB4 kinds bound x=if aCw x.head.op && !bound then 0 else aO5 kinds x.head:=by
   cases x with
   | leaf t=>rfl
   | un t a=>simp [Ex.kids] at h0
   | bin t a b=>simp [Ex.kids] at h0
   | tri t a b c=>simp [Ex.kids] at h0
  have hx1:x.len=1:=by rw [HX.out,List.eq_nil_of_length_eq_zero h0];rfl
  have HB:=(((Bel.refl w).alloc (.cells #[.slice (some ⟨b,o,none⟩) es.length c,.slice K kinds.length ck] 205)).alloc (.cells #[.int .i64 x.head.op,.int .i64 x.head.arg] 98));have haz:(aAg x.head.op==0)=true:=by simpa using har0
  have HX1:=aA0 hx1;have HKF:=aA0 hkf;clear hkf hx1 har har0 hab h0;cases hn:aCw x.head.op <;> cases bound
  all_goals
   go_enter func179,ntmps179
   go_wp2_with (first
    | (go_at_call 197;refine (aHv _ _).mono ?_;rintro e w' ⟨rfl,rfl⟩)
    | (go_at_call 202;refine (aZg _ _).mono ?_;rintro e w' ⟨rfl,rfl⟩)
    | (go_at_call 203;refine (aY7 _ _ _ kinds x.head _ (HK.out _ HB) hargt).mono ?_;rintro e w' ⟨rfl,hbb⟩;replace HB:=HB.trans hbb;clear hbb))
   go_ret2
   refine ⟨?_,HB⟩
   rw [HKF.out,hn,HX1.out];simp
 .have hne:x.kids≠[]:=fun h=>h0 (by rw [h];rfl)
  have hop:18<=x.head.op/\x.head.op<=43:=by omega
  have hpos:(aAg x.head.op==0)=false:=by simp;omega
  obtain ⟨hop1,hop2⟩:=hop;have HAR:=aA0 har;have HKF:=aA0 (HKK.out hne);obtain ⟨inner,hin⟩:∃ inner,(bound||aAc x.head.op)=inner:=⟨_,rfl⟩;rw [hin] at HKF;have HB:=((((Bel.refl w).alloc (.cells #[.slice (some ⟨b,o,none⟩) es.length c,.slice K kinds.length ck] 205)).alloc (.cells #[.int .i64 x.head.op,.int .i64 x.head.arg] 98)).alloc (.cells (aSk []) 211));have B1:=aA0 ((((Blk.new w #[.slice (some ⟨b,o,none⟩) es.length c,.slice K kinds.length ck] 205)).alloc (.cells #[.int .i64 x.head.op,.int .i64 x.head.arg] 98)).alloc (.cells (aSk []) 211));have B2:=aA0 ((Blk.new (w.alloc (.cells #[.slice (some ⟨b,o,none⟩) es.length c,.slice K kinds.length ck] 205)) #[.int .i64 x.head.op,.int .i64 x.head.arg] 98).alloc (.cells (aSk []) 211));have B3:=aA0 (Blk.new ((w.alloc (.cells #[.slice (some ⟨b,o,none⟩) es.length c,.slice K kinds.length ck] 205)).alloc (.cells #[.int .i64 x.head.op,.int .i64 x.head.arg] 98)) (aSk []) 211);simp only [World.size_alloc] at B2 B3
  rw [har] at hpos;clear hab HKK har h0;have HIN:Hid ((bound||aAc x.head.op)=inner):=hin;clear hin;cases bound with
  | true =>
   obtain rfl:inner=true:=by have:=HIN.out;simpa using this.symm
   clear HIN;go_enter func179,ntmps179
   go_wp2_with (first
    | (go_at_call 197;refine (aHv _ _).mono ?_;rintro e w' ⟨rfl,rfl⟩;rw [HAR.out]))
   go_loopg [7,11,44] x.kids.length (fun m nx _y z wr=>∃ j:Nat,j<=x.kids.length/\m=x.kids.length-j/\nx = .int .i64 ((k+1+aLe (x.kids.take j):Nat):Int)/\z = .int .i64 j/\Bel w wr/\Hid (Blk wr w.heap.size #[.slice (some ⟨b,o,none⟩) es.length c,.slice K kinds.length ck] 205/\Blk wr (w.heap.size+1) #[.int .i64 x.head.op,.int .i64 x.head.arg] 98/\Blk wr (w.heap.size+1+1) (aSk ((x.kids.map (aB4 kinds true)).take j)) 211))
   case atStart=>exact ⟨0,by omega,rfl,by simp [aLe],rfl,HB,B1.out,B2.out,B3.out⟩
   case round =>
    clear HB B1 B2 B3;obtain ⟨j,hj,rfl,rfl,rfl,HB,HBL⟩:=hrel;have hb2:=HBL.out.2.1.lt;have hb3:=HBL.out.2.2.lt
    by_cases hjl:j<x.kids.length
    .have hd0:decide (j<x.kids.length)=true:=by simpa using hjl
     have hst:=aJ0 x.kids j hjl;have hll:=aLf x.kids (j+1);have hxl:=HX.out;have a0:=HBL.out.1.cell 0 rfl;have a1:=HBL.out.1.cell 1 rfl;obtain ⟨u,hu⟩:∃ u,(aSk ((x.kids.map (aB4 kinds true)).take j))[j]?=some u:=⟨_,Array.getElem?_eq_getElem (by simp [aSk];omega)⟩
     have hj3:j<3:=by omega
     have hl1000:k+1+aLe (x.kids.take j)<=1000:=by omega
     have HST:=aA0 hst;clear hst hxl hll
     go_wp2_with fail
     refine (HIH.out x.kids[j] (List.getElem_mem hjl) true _ _ es K ck (k+1+aLe (x.kids.take j)) _ (HAT.out j hjl) (HT.out _ HB) (HK.out _ HB) HA.out hlen).mono ?_
     rintro e w2 ⟨rfl,hbb⟩;have d1:=HBL.out.1.keep hbb;have d2:=HBL.out.2.1.keep hbb;have d3:=HBL.out.2.2.keep hbb;have s3:=d3.lt;have e1:=d3.cell j hu;have e2:=d3.frozen j;have HD:=aA0 (And.intro d1 (And.intro d2 d3));clear d1 d2 d3 a0 a1;replace HB:=HB.trans hbb;clear hbb
     go_wp2_with fail
     go_roundg (x.kids.length-(j+1))
     case rel =>
      refine ⟨j+1,by omega,rfl,?_,by go_num,HB.setCell (by simp;omega) _,HD.out.1.other (by simp;omega) _,HD.out.2.1.other (by simp) _,?_⟩
      .rw [HST.out];congr 2;omega
      .have:=HD.out.2.2.set j (.int .i64 (aB4 kinds true x.kids[j]))
       have e:=aTs (x.kids.map (aB4 kinds true)) j hj3 (by simpa using hjl)
       simp only [List.getElem_map] at e
       rw [e] at this;exact this
     case measure=>omega
    .obtain rfl:j=x.kids.length:=by omega
     have hd0:decide (x.kids.length<x.kids.length)=false:=by simp
     have a0:=HBL.out.2.1.cell 0 rfl;have a1:=HBL.out.2.2.cell 0 rfl;have a2:=HBL.out.2.2.cell 1 rfl;have a3:=HBL.out.2.2.cell 2 rfl;rw [List.take_of_length_le (by simp)] at a1 a2 a3
     rw [List.take_of_length_le (Nat.le_refl _)];clear HBL hj hjl
     go_wp2_with fail
     refine (aOz x.head.op _ _ _ _ hop1 hop2).mono ?_
     rintro e w2 ⟨rfl,hbb⟩;replace HB:=HB.trans hbb
     go_wp2_with fail
     go_ret2
     refine ⟨aUg ?_ ?_,HB⟩
     .rw [HKF.out];simp [List.getD_eq_getElem?_getD]
     .rw [HX.out];omega
  | false =>
   have HIN':=aA0 (show aAc x.head.op=inner by have:=HIN.out;simpa using this)
   clear HIN;go_enter func179,ntmps179
   go_wp2_with (first
    | (go_at_call 197;refine (aHv _ _).mono ?_;rintro e w' ⟨rfl,rfl⟩;rw [HAR.out])
    | (go_at_call 201;refine (aGv _ _).mono ?_;rintro e w' ⟨rfl,rfl⟩;rw [HIN'.out]))
   go_loopg [7,11,44] x.kids.length (fun m nx _y z wr=>∃ j:Nat,j<=x.kids.length/\m=x.kids.length-j/\nx = .int .i64 ((k+1+aLe (x.kids.take j):Nat):Int)/\z = .int .i64 j/\Bel w wr/\Hid (Blk wr w.heap.size #[.slice (some ⟨b,o,none⟩) es.length c,.slice K kinds.length ck] 205/\Blk wr (w.heap.size+1) #[.int .i64 x.head.op,.int .i64 x.head.arg] 98/\Blk wr (w.heap.size+1+1) (aSk ((x.kids.map (aB4 kinds inner)).take j)) 211))
   case atStart=>exact ⟨0,by omega,rfl,by simp [aLe],rfl,HB,B1.out,B2.out,B3.out⟩
   case round =>
    clear HB B1 B2 B3;obtain ⟨j,hj,rfl,rfl,rfl,HB,HBL⟩:=hrel;have hb2:=HBL.out.2.1.lt;have hb3:=HBL.out.2.2.lt
    by_cases hjl:j<x.kids.length
    .have hd0:decide (j<x.kids.length)=true:=by simpa using hjl
     have hst:=aJ0 x.kids j hjl;have hll:=aLf x.kids (j+1);have hxl:=HX.out;have a0:=HBL.out.1.cell 0 rfl;have a1:=HBL.out.1.cell 1 rfl;obtain ⟨u,hu⟩:∃ u,(aSk ((x.kids.map (aB4 kinds inner)).take j))[j]?=some u:=⟨_,Array.getElem?_eq_getElem (by simp [aSk];omega)⟩
     have hj3:j<3:=by omega
     have hl1000:k+1+aLe (x.kids.take j)<=1000:=by omega
     have HST:=aA0 hst;clear hst hxl hll
     go_wp2_with fail
     refine (HIH.out x.kids[j] (List.getElem_mem hjl) inner _ _ es K ck (k+1+aLe (x.kids.take j)) _ (HAT.out j hjl) (HT.out _ HB) (HK.out _ HB) HA.out hlen).mono ?_
     rintro e w2 ⟨rfl,hbb⟩;have d1:=HBL.out.1.keep hbb;have d2:=HBL.out.2.1.keep hbb;have d3:=HBL.out.2.2.keep hbb;have s3:=d3.lt;have e1:=d3.cell j hu;have e2:=d3.frozen j;have HD:=aA0 (And.intro d1 (And.intro d2 d3));clear d1 d2 d3 a0 a1;replace HB:=HB.trans hbb;clear hbb
     go_wp2_with fail
     go_roundg (x.kids.length-(j+1))
     case rel =>
      refine ⟨j+1,by omega,rfl,?_,by go_num,HB.setCell (by simp;omega) _,HD.out.1.other (by simp;omega) _,HD.out.2.1.other (by simp) _,?_⟩
      .rw [HST.out];congr 2;omega
      .have:=HD.out.2.2.set j (.int .i64 (aB4 kinds inner x.kids[j]))
       have e:=aTs (x.kids.map (aB4 kinds inner)) j hj3 (by simpa using hjl)
       simp only [List.getElem_map] at e
       rw [e] at this;exact this
     case measure=>omega
    .obtain rfl:j=x.kids.length:=by omega
     have hd0:decide (x.kids.length<x.kids.length)=false:=by simp
     have a0:=HBL.out.2.1.cell 0 rfl;have a1:=HBL.out.2.2.cell 0 rfl;have a2:=HBL.out.2.2.cell 1 rfl;have a3:=HBL.out.2.2.cell 2 rfl;rw [List.take_of_length_le (by simp)] at a1 a2 a3
     rw [List.take_of_length_le (Nat.le_refl _)];clear HBL hj hjl
     go_wp2_with fail
     refine (aOz x.head.op _ _ _ _ hop1 hop2).mono ?_
     rintro e w2 ⟨rfl,hbb⟩;replace HB:=HB.trans hbb
     go_wp2_with fail
     go_ret2
     refine ⟨aUg ?_ ?_,HB⟩
     .rw [HKF.out];simp [List.getD_eq_getElem?_getD]
     .rw [HX.out];omega
def bB5 (kinds:List Int) (x:Ex):Prop :=
 ∀ (bound:Bool) (A:Option Addr) (c:Nat) (es:List Term) (K:Option Addr) (ck k:Nat) (w:World),x.At es k->aB0 w A es.length es->aBr w K kinds.length kinds->(∀ t∈es,aFx t kinds.length=true)->es.length<=1000 ->
  Calls prog 170 #[.slice A es.length c,.int .i64 k,.slice K kinds.length ck,.bool bound] w fun e w'=>e = .returned (.int .i64 (aB4 kinds bound x))/\Bel w w'
theorem aJm (kinds:List Int) (x:Ex):bB5 kinds x:=by
 induction x with
 | leaf t =>
  intro bound A c es K ck k w hat hT hK harg hlen
  have hlt:=At.lt hat;obtain ⟨hh,har⟩:=At.leaf hat;obtain ⟨b,o,rfl,hb,c1,c2⟩:=hT.at_ k hlt;have hhe:es[k]=t:=by rw [List.getElem?_eq_getElem hlt] at hh;simpa using hh
  rw [hhe] at c1 c2;have hargt:aFx t kinds.length=true:=by rw [<- hhe];exact harg _ (List.getElem_mem hlt)
  have HK:=aA0 hK;have HAR:=aA0 har;clear hh hhe harg hK hT har;go_enter func170,ntmps170
  go_wp2_with (first
   | (go_at_call 132;refine (aAr _ _).mono ?_;rintro e w' ⟨rfl,rfl⟩;rw [HAR.out])
   | (go_at_call 193;refine (aRv _ _ kinds t bound _ HK.out hargt HAR.out).mono ?_;rintro e w' ⟨rfl,hbb⟩))
  go_ret;exact ⟨rfl,hbb⟩
 | un t a ih =>
  intro bound A c es K ck k w hat hT hK harg hlen
  have hlt:=At.lt hat;obtain ⟨hh,har,ha⟩:=At.un hat;have hbd:=At.bound ha;obtain ⟨b,o,rfl,hb,c1,c2⟩:=hT.at_ k hlt;have hhe:es[k]=t:=by rw [List.getElem?_eq_getElem hlt] at hh;simpa using hh
  rw [hhe] at c1 c2;have HT:=aA0 hT;have HK:=aA0 hK;have HAR:=aA0 har;have HA:=aA0 harg;have HIH:=aA0 ih;have HATA:=aA0 ha;clear hh hhe harg hK hT har ih hat ha;cases bound with
  | true =>
   have HF:Hid (aB4 kinds true (.un t a)=aGi t.op (aB4 kinds true a)):=rfl;go_enter func170,ntmps170
   go_wp2_with (first
    | (go_at_call 132;refine (aAr _ _).mono ?_;rintro e w' ⟨rfl,rfl⟩;rw [HAR.out])
    | (go_at_call 170;refine (HIH.out true _ _ es K ck (k+1) _ HATA.out HT.out HK.out HA.out hlen).mono ?_;rintro e w' ⟨rfl,hbb⟩)
    | (go_at_call 194;refine (aKk _ _ _).mono ?_;rintro e w' ⟨rfl,rfl⟩))
   go_ret;exact ⟨aA5 HF.out.symm,hbb⟩
  | false =>
   obtain ⟨inner,hin⟩:∃ b,aAc t.op=b:=⟨_,rfl⟩;have HF:Hid (aB4 kinds false (.un t a)=aGi t.op (aB4 kinds inner a)):=by show aB4 kinds false (.un t a)=_;simp only [aB4,hin,Bool.false_or]
   have HIN:=aA0 hin;clear hin;go_enter func170,ntmps170
   go_wp2_with (first
    | (go_at_call 132;refine (aAr _ _).mono ?_;rintro e w' ⟨rfl,rfl⟩;rw [HAR.out])
    | (go_at_call 134;refine (aDn _ _).mono ?_;rintro e w' ⟨rfl,rfl⟩;rw [HIN.out])
    | (go_at_call 170;refine (HIH.out inner _ _ es K ck (k+1) _ HATA.out HT.out HK.out HA.out hlen).mono ?_;rintro e w' ⟨rfl,hbb⟩)
    | (go_at_call 194;refine (aKk _ _ _).mono ?_;rintro e w' ⟨rfl,rfl⟩))
   go_ret;exact ⟨aA5 HF.out.symm,hbb⟩
 | bin t a b iha ihb =>
  intro bound A c es K ck k w hat hT hK harg hlen
  have hlt:=At.lt hat;obtain ⟨hh,har,ha,hb1⟩:=At.bin hat;have hbd:=At.bound ha;have hbd2:=At.bound hb1;have hop:=At.operand1 hat hh (by omega) ha
  obtain ⟨hop1,hop2⟩:=(aB6 t.op).2.2.1 har;obtain ⟨b,o,rfl,hb,c1,c2⟩:=hT.at_ k hlt;have hhe:es[k]=t:=by rw [List.getElem?_eq_getElem hlt] at hh;simpa using hh
  rw [hhe] at c1 c2;have HT:=aA0 (fun w' (k:Bel w w')=>aB0.keep hT k);have HK:=aA0 (fun w' (k:Bel w w')=>aBr.keep hK k);have HAR:=aA0 har;have HA:=aA0 harg;have HI1:=aA0 iha;have HI2:=aA0 ihb;have HA1:=aA0 ha;have HA2:=aA0 hb1;have HOP:=aA0 hop;have HB:=Bel.refl w;clear hh hhe harg hK hT har iha ihb hat ha hb1 hop;go_enter func170,ntmps170
  go_wp2_with (first
   | (go_at_call 132;refine (aAr _ _).mono ?_;rintro e w' ⟨rfl,rfl⟩;rw [HAR.out])
   | (go_at_call 138;refine (aBh _ _ _ es _ _ _ (HT.out _ HB) (by omega)).mono ?_;rintro e w' ⟨rfl,rfl⟩;rw [HOP.out])
   | (go_at_call 195;refine (aH8 _ _ _ _ hop1 hop2).mono ?_;rintro e w' ⟨rfl,rfl⟩))
  refine (HI1.out bound _ _ es K ck (k+1) _ HA1.out (HT.out _ HB) (HK.out _ HB) HA.out hlen).mono ?_
  rintro e w2 ⟨rfl,hbb⟩;replace HB:=HB.trans hbb;clear hbb
  go_wp2_with (first
   | (go_at_call 132;refine (aAr _ _).mono ?_;rintro e w' ⟨rfl,rfl⟩;rw [HAR.out])
   | (go_at_call 138;refine (aBh _ _ _ es _ _ _ (HT.out _ HB) (by omega)).mono ?_;rintro e w' ⟨rfl,rfl⟩;rw [HOP.out])
   | (go_at_call 195;refine (aH8 _ _ _ _ hop1 hop2).mono ?_;rintro e w' ⟨rfl,rfl⟩))
  refine (HI2.out bound _ _ es K ck (k+1+_) _ HA2.out (HT.out _ HB) (HK.out _ HB) HA.out hlen).mono ?_
  rintro e w3 ⟨rfl,hbb⟩;replace HB:=HB.trans hbb;clear hbb
  go_wp2_with (first
   | (go_at_call 132;refine (aAr _ _).mono ?_;rintro e w' ⟨rfl,rfl⟩;rw [HAR.out])
   | (go_at_call 138;refine (aBh _ _ _ es _ _ _ (HT.out _ HB) (by omega)).mono ?_;rintro e w' ⟨rfl,rfl⟩;rw [HOP.out])
   | (go_at_call 195;refine (aH8 _ _ _ _ hop1 hop2).mono ?_;rintro e w' ⟨rfl,rfl⟩))
  go_ret;exact ⟨rfl,HB⟩
 | tri t a b d iha ihb ihc =>
  intro bound A c es K ck k w hat hT hK harg hlen
  have hlt:=At.lt hat;obtain ⟨hh,har,ha,hb1,hc1⟩:=At.tri hat;have hbd:=At.bound ha;have hbd2:=At.bound hb1;have hbd3:=At.bound hc1;have hop:=At.operand1 hat hh (by omega) ha
  have hopp:=At.operand2 hat hh (by omega) ha hb1
  obtain ⟨b',o,rfl,hb,c1,c2⟩:=hT.at_ k hlt;have hhe:es[k]=t:=by rw [List.getElem?_eq_getElem hlt] at hh;simpa using hh
  rw [hhe] at c1 c2;have HT:=aA0 (fun w' (k:Bel w w')=>aB0.keep hT k);have HK:=aA0 (fun w' (k:Bel w w')=>aBr.keep hK k);have HAR:=aA0 har;have HA:=aA0 harg;have HI1:=aA0 iha;have HI2:=aA0 ihb;have HI3:=aA0 ihc;have HA1:=aA0 ha;have HA2:=aA0 hb1;have HA3:=aA0 hc1;have HOP:=aA0 hop;have HOP2:=aA0 hopp;have HB:=Bel.refl w;have HF:Hid (aB4 kinds bound (.tri t a b d)=ifK (aB4 kinds bound a==2&&aB4 kinds bound b==aB4 kinds bound d) (aB4 kinds bound b)):=rfl;clear hh hhe harg hK hT har iha ihb ihc hat ha hb1 hc1 hop hopp;go_enter func170,ntmps170
  go_wp2_with (first
   | (go_at_call 132;refine (aAr _ _).mono ?_;rintro e w' ⟨rfl,rfl⟩;rw [HAR.out])
   | (go_at_call 138;refine (aBh _ _ _ es _ _ _ (HT.out _ HB) (by omega)).mono ?_;rintro e w' ⟨rfl,rfl⟩;first | rw [HOP.out] | rw [HOP2.out]))
  refine (HI1.out bound _ _ es K ck (k+1) _ HA1.out (HT.out _ HB) (HK.out _ HB) HA.out hlen).mono ?_
  rintro e w2 ⟨rfl,hbb⟩;replace HB:=HB.trans hbb;clear hbb
  go_wp2_with (first
   | (go_at_call 132;refine (aAr _ _).mono ?_;rintro e w' ⟨rfl,rfl⟩;rw [HAR.out])
   | (go_at_call 138;refine (aBh _ _ _ es _ _ _ (HT.out _ HB) (by omega)).mono ?_;rintro e w' ⟨rfl,rfl⟩;first | rw [HOP.out] | rw [HOP2.out]))
  refine (HI2.out bound _ _ es K ck (k+1+_) _ HA2.out (HT.out _ HB) (HK.out _ HB) HA.out hlen).mono ?_
  rintro e w3 ⟨rfl,hbb⟩;replace HB:=HB.trans hbb;clear hbb
  go_wp2_with (first
   | (go_at_call 132;refine (aAr _ _).mono ?_;rintro e w' ⟨rfl,rfl⟩;rw [HAR.out])
   | (go_at_call 138;refine (aBh _ _ _ es _ _ _ (HT.out _ HB) (by omega)).mono ?_;rintro e w' ⟨rfl,rfl⟩;first | rw [HOP.out] | rw [HOP2.out]))
  refine (HI3.out bound _ _ es K ck (k+1+_+_) _ HA3.out (HT.out _ HB) (HK.out _ HB) HA.out hlen).mono ?_
  rintro e w4 ⟨rfl,hbb⟩;replace HB:=HB.trans hbb;clear hbb
  go_wp2_with (first
   | (go_at_call 132;refine (aAr _ _).mono ?_;rintro e w' ⟨rfl,rfl⟩;rw [HAR.out])
   | (go_at_call 138;refine (aBh _ _ _ es _ _ _ (HT.out _ HB) (by omega)).mono ?_;rintro e w' ⟨rfl,rfl⟩;first | rw [HOP.out] | rw [HOP2.out]))
  all_goals (try simp only [beq_iff_eq,beq_eq_false_iff_ne,bne_iff_ne,bne_eq_false_iff_eq] at *)
  all_goals (go_ret;refine ⟨aA5 ?_,HB⟩;rw [HF.out];unfold ifK;simp_all)
theorem aD9 {v lo hi:Int}:inB v lo hi=false↔v<lo∨hi<v:=by unfold inB;simp;omega
theorem aXk (A:Option Addr) (c:Nat) (es:List Term) (K:Option Addr) (ck:Nat) (kinds:List Int) (bound:Bool) (w:World) (hT:aB0 w A es.length es) (hK:aBr w K kinds.length kinds) (hlen:es.length<=1000) :
  Calls prog 162 #[.slice A es.length c,.slice K kinds.length ck,.bool bound] w fun e w'=>e = .returned (.tuple #[.int .i64 (ofF es kinds bound).1,.int .i64 (ofF es kinds bound).2])/\Bel w w':=by
 have HT:=aA0 (fun w' (k:Bel w w')=>aB0.keep hT k);clear hT;have HK:=aA0 (fun w' (k:Bel w w')=>aBr.keep hK k);clear hK
 by_cases h6:6<kinds.length
 .have HF:Hid (ofF es kinds bound=(0,7)):=by show ofF es kinds bound=_;unfold ofF;rw [if_pos h6]
  have hd:decide (6<kinds.length)=true:=by simpa using h6
  go_enter func162,ntmps162
  go_wp2_with fail
  go_ret2
  rw [HF.out];exact ⟨rfl,Bel.refl _⟩
 .have hd:decide (6<kinds.length)=false:=by simpa using h6
  have h6':kinds.length<=6:=by omega
  go_enter func162,ntmps162
  go_wp2_with fail
  clear hd
  go_loopg [9,18] kinds.length (fun m _x z wr=>∃ j:Nat,j<=kinds.length/\m=kinds.length-j/\Hid ((kinds.take j).all aDy=true)/\z = .int .i64 j/\w=wr)
  case atStart=>exact ⟨0,by omega,rfl,rfl,rfl,rfl⟩
  case round =>
   obtain ⟨j,hj,rfl,HJ,rfl,rfl⟩:=hrel
   by_cases hlt:j<kinds.length
   .have hd0:decide (j<kinds.length)=true:=by simpa using hlt
    obtain ⟨b,o,rfl,hb,hc⟩:=(HK.out _ (Bel.refl _)).at_ j hlt;cases hk:aDy kinds[j] with
    | false =>
     have HF:Hid (ofF es kinds bound=(0,7)):=by show ofF es kinds bound=_;unfold ofF;rw [if_neg h6,if_pos (aAo hlt hk)]
     go_wp2_with (go_at_call 159;refine (aEu _ _).mono ?_;rintro e w' ⟨rfl,rfl⟩)
     go_ret2
     rw [HF.out];exact ⟨rfl,Bel.refl _⟩
    | true =>
     have HN:=aA0 (aAb hlt HJ.out hk)
     go_wp2_with (go_at_call 159;refine (aEu _ _).mono ?_;rintro e w' ⟨rfl,rfl⟩)
     go_roundg (kinds.length-(j+1))
     case rel=>exact ⟨j+1,by omega,rfl,HN,by go_num,rfl⟩
     case measure=>omega
   .have hd0:decide (j<kinds.length)=false:=by simpa using hlt
    have HA:=aA0 (aAq (by omega) HJ.out)
    clear HJ hlt;have HB:=Bel.refl w;cases hv:aB2 es kinds.length with
    | false =>
     have HF:Hid (ofF es kinds bound=(0,7)):=by show ofF es kinds bound=_;unfold ofF;rw [if_neg h6,if_neg (by rw [HA.out];decide),if_pos hv]
     go_wp2_with (go_at_call 161;refine (aGs _ _ _ es _ _ (HT.out _ HB) (by omega)).mono ?_;rintro e w' ⟨rfl,hbb⟩;replace HB:=HB.trans hbb;clear hbb;rw [hv])
     go_ret2
     rw [HF.out];exact ⟨rfl,HB⟩
    | true =>
     obtain ⟨v1,v2,v3,v4,_,_⟩:=aEy hv;have HV4:=aA0 v4;have HAT:=aA0 (At.whole v1 v2);have HVV:=aA0 hv
     have HF:Hid (ofF es kinds bound=if aB4 kinds bound (aAt es)=0 then (0,6) else (aB4 kinds bound (aAt es),0)):=by
      show ofF es kinds bound=_
      unfold ofF;rw [if_neg h6,if_neg (by rw [HA.out];decide),if_neg (by rw [hv];decide)]
     clear v1 v2 v3 v4 hv h6
     go_wp2_with (first
      | (go_at_call 161;refine (aGs _ _ _ es _ _ (HT.out _ HB) (by omega)).mono ?_;rintro e w' ⟨rfl,hbb⟩;replace HB:=HB.trans hbb;clear hbb;rw [HVV.out])
      | (go_at_call 179;replace HB:=HB.alloc (.cells #[.slice A es.length c,.slice K kinds.length ck] 205);refine (aZp kinds (aAt es) bound _ _ es K ck 0 _ HAT.out (HT.out _ HB) (HK.out _ HB) HV4.out hlen).mono ?_;rintro e w' ⟨rfl,hbb⟩;replace HB:=HB.trans hbb;clear hbb))
     all_goals (try simp only [beq_iff_eq,beq_eq_false_iff_ne] at *)
     all_goals (go_ret2;refine ⟨?_,HB⟩;rw [HF.out];simp_all)
def aBu (x:Var):Bool :=
 decide ((x.kind≠1/\(x.kind=2∨x.kind=3)/\x.lo=0/\x.hi=0/\x.perNode=0/\x.perID=0)
  ∨ (x.kind=1/\(0<=x.lo/\x.lo<=4096)/\(0<=x.perNode/\x.perNode<=255)/\(0<=x.perID/\x.perID<=255)/\(x.perNode=0∨x.perID=0) /\ -4096<=x.hi/\x.hi<=4096/\(x.perNode≠0∨x.perID≠0∨0<=x.hi)))
def aW5 (x:Var):Value := .agg #[.string x.name,.int .i64 x.kind,.int .i64 x.lo,.int .i64 x.hi,.int .i64 x.perNode,.int .i64 x.perID]
theorem aNb (x:Var) (w:World):Calls prog 140 #[aW5 x] w fun e w'=>e = .returned (.bool (aBu x))/\Bel w w':=by
 obtain ⟨name,kind,lo,hi,pn,pi⟩:=x;unfold aW5;dsimp only;have HF:Hid (aBu ⟨name,kind,lo,hi,pn,pi⟩=true↔_):=(decide_eq_true_iff);dsimp only at HF
 by_cases hk:kind=1
 .subst hk
  have hp:aDy 1=true:=rfl;go_enter func140,ntmps140
  go_wp2_with (first
   | (go_at_call 159;refine (aEu _ _).mono ?_;rintro e w' ⟨rfl,rfl⟩;rw [hp])
   | (go_at_call 160;refine (aGt _ _ _ _).mono ?_;rintro e w' ⟨rfl,rfl⟩))
  all_goals (try simp only [beq_iff_eq,beq_eq_false_iff_ne,bne_iff_ne,bne_eq_false_iff_eq,aKu,aD9,Bool.not_eq_true',Bool.not_eq_eq_eq_not,Bool.not_true,Bool.not_false] at *)
  all_goals (go_ret;refine ⟨aA2 ?_,(Bel.refl _).alloc _⟩;rw [Bool.eq_iff_iff,HF.out];simp only [aKu,Bool.false_eq_true,false_iff,true_and];omega)
 .have hne:(kind != 1)=true:=by simpa using hk
  cases hkk:aDy kind with
  | false =>
   have hk2:¬ (kind=1∨kind=2∨kind=3):=by
    intro h;unfold aDy at hkk;simp at hkk;omega
   go_enter func140,ntmps140
   go_wp2_with (go_at_call 159;refine (aEu _ _).mono ?_;rintro e w' ⟨rfl,rfl⟩;rw [hkk])
   go_ret;refine ⟨aA2 ?_,(Bel.refl _).alloc _⟩
   symm
   rw [Bool.eq_false_iff,ne_eq,HF.out];omega
  | true =>
   have hk2:kind=2∨kind=3:=by
    unfold aDy at hkk;simp at hkk;omega
   have HK2:=aA0 hk2;clear hk2;go_enter func140,ntmps140
   go_wp2_with (go_at_call 159;refine (aEu _ _).mono ?_;rintro e w' ⟨rfl,rfl⟩;rw [hkk])
   all_goals
    have hk2:=HK2.out;go_ret;refine ⟨aA2 ?_,(Bel.refl _).alloc _⟩
    rw [Bool.eq_iff_iff,HF.out];simp only [beq_iff_eq,Bool.false_eq_true,false_iff]
    omega
theorem aJ5 (x:Var) (w:World):Calls prog 147 #[aW5 x] w fun e w'=>e = .returned (.bool (aBu x))/\Bel w w':=by
 obtain ⟨name,kind,lo,hi,pn,pi⟩:=x;unfold aW5;dsimp only;have HF:Hid (aBu ⟨name,kind,lo,hi,pn,pi⟩=true↔_):=(decide_eq_true_iff);dsimp only at HF
 by_cases hk:kind=1
 .subst hk
  go_enter func147,ntmps147
  go_wp2_with (go_at_call 145;refine (aDx _ _ _ _).mono ?_;rintro e w' ⟨rfl,rfl⟩)
  all_goals (try simp only [beq_iff_eq,beq_eq_false_iff_ne,bne_iff_ne,bne_eq_false_iff_eq,aKu,aD9,Bool.not_eq_true',Bool.not_eq_eq_eq_not,Bool.not_true,Bool.not_false] at *)
  all_goals (go_ret;refine ⟨aA2 ?_,(Bel.refl _).alloc _⟩;rw [Bool.eq_iff_iff,HF.out];simp only [aKu,Bool.false_eq_true,false_iff,true_and];omega)
 .have hne:(kind != 1)=true:=by simpa using hk
  cases hkk:aDy kind with
  | false =>
   have hk2:¬ (kind=1∨kind=2∨kind=3):=by
    intro h;unfold aDy at hkk;simp at hkk;omega
   go_enter func147,ntmps147
   go_wp2_with (go_at_call 168;refine (aLl _ _).mono ?_;rintro e w' ⟨rfl,rfl⟩;rw [hkk])
   go_ret;refine ⟨aA2 ?_,(Bel.refl _).alloc _⟩
   symm
   rw [Bool.eq_false_iff,ne_eq,HF.out];omega
  | true =>
   have hk2:kind=2∨kind=3:=by
    unfold aDy at hkk;simp at hkk;omega
   have HK2:=aA0 hk2;clear hk2;go_enter func147,ntmps147
   go_wp2_with (go_at_call 168;refine (aLl _ _).mono ?_;rintro e w' ⟨rfl,rfl⟩;rw [hkk])
   all_goals
    have hk2:=HK2.out;go_ret;refine ⟨aA2 ?_,(Bel.refl _).alloc _⟩
    rw [Bool.eq_iff_iff,HF.out];simp only [beq_iff_eq,Bool.false_eq_true,false_iff]
    omega
end Go.Proofs.YtdcjnhoabbdanaaGreatDoor

