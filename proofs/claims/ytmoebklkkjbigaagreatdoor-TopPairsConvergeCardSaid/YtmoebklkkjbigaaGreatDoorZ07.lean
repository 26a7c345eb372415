/- Merged. -/
import Derived.Test.YtmoebklkkjbigaaGreatDoorZ04
import Derived.OneCell
import Derived.Test.YtmoebklkkjbigaaGreatDoorZ05
set_option linter.unusedSimpArgs false
set_option linter.unnecessarySimpa false
set_option linter.unusedVariables false
set_option maxRecDepth 100000
set_option maxHeartbeats 4000000
open Go.Proofs.Tryz

namespace Go.Proofs.YtmoebklkkjbigaaGreatDoor
open Go.RowKit
theorem aG4 (k:Int) (w:World):Calls prog 112 #[.int .i64 k] w fun e w'=>e = .returned (.bool (aHe k))/\w=w':=by
 go_enter func112,ntmps112;go_wp2
 all_goals (go_ret;refine ⟨aA1 ?_,rfl⟩;unfold aHe;(rw [Bool.eq_iff_iff]) <;> simp [*])
theorem bF1 (b:Bool) (k:Int) (w:World):Calls prog 184 #[.bool b,.int .i64 k] w fun e w'=>e = .returned (.int .i64 (ifK b k))/\w=w':=by
 cases b
 all_goals (go_enter func184,ntmps184;go_wp2;go_ret;exact ⟨rfl,rfl⟩)
theorem bM0 (op:Int) (w:World):Calls prog 173 #[.int .i64 op] w fun e w'=>e = .returned (.bool (aFh op))/\w=w':=by
 go_enter func173,ntmps173;go_wp2
 all_goals (go_ret;refine ⟨aA1 ?_,rfl⟩;unfold aFh;rw [Bool.eq_iff_iff];simp) <;> omega
theorem aQg {op arg n:Int} (h:aM3 ⟨op,arg⟩ n=true) (ho:op=5∨op=12):0<=arg/\arg<n:=by
 unfold aM3 at h
 rcases ho with rfl | rfl <;> simpa using h
theorem bK1 (ev:Value) (A:Option Addr) (c:Nat) (kinds:List Int) (t:Term) (w:World) (h:aCy w A kinds.length kinds) (ha:aM3 t kinds.length=true) :
  Calls prog 174 #[.agg #[ev,.slice A kinds.length c],.agg #[.int .i64 t.op,.int .i64 t.arg]] w fun e w'=>e = .returned (.int .i64 (bAj kinds t))/\Bel w w':=by
 obtain ⟨op,arg⟩:=t
 by_cases ho:op=5∨op=12
 .obtain ⟨h0,h1⟩:=aQg ha ho
  obtain ⟨a,rfl⟩:=Int.eq_ofNat_of_zero_le h0;have hlt:a<kinds.length:=by omega
  obtain ⟨b,o,rfl,hb,hc⟩:=h.at_ a hlt
  have HF:Hid (bAj kinds ⟨op,(a:Int)⟩=kinds[a]):=by
   show bAj kinds ⟨op,(a:Int)⟩=kinds[a]
   unfold bAj
   rcases ho with rfl | rfl <;> simp [hlt]
  clear h ha h0 h1
  rcases ho with rfl | rfl
  all_goals
   go_enter func174,ntmps174;go_wp2;go_ret;exact ⟨aA9 HF.out.symm,((Bel.refl _).alloc _).alloc _⟩
 .have h5:(op==5)=false:=by simp;omega
  have h12:(op==12)=false:=by simp;omega
  clear h ha;go_enter func174,ntmps174;go_wp2
  all_goals (try simp only [beq_iff_eq,beq_eq_false_iff_ne] at *)
  all_goals (go_ret;refine ⟨aA9 ?_,((Bel.refl _).alloc _).alloc _⟩;unfold bAj;dsimp only;repeat' split) <;> omega
def aK7 (op a b c:Int):Int:=if op<=29 then aOo op a else if op<=42 then aNo op a b else ifK (a==2&&b==c) b
def Ex.kids:Ex->List Ex
 | .leaf _=>[]
 | .un _ a=>[a]
 | .bin _ a b=>[a,b]
 | .tri _ a b c=>[a,b,c]
def Ex.head:Ex->Term
 | .leaf t=>t
 | .un t _=>t
 | .bin t _ _=>t
 | .tri t _ _ _=>t
theorem aC6 (op:Int):(aB2 op=0->1<=op/\op<=17)/\(aB2 op=1->18<=op/\op<=29)/\(aB2 op=2->30<=op/\op<=42)/\(aB2 op=3->op=43):=by
 unfold aB2
 repeat' split
 all_goals omega
theorem bI7 {kinds:List Int} {bound:Bool} {x:Ex} (h:x.ok) (hk:x.kids≠[]) :
  aD2 kinds bound x=aK7 x.head.op ((x.kids.map (aD2 kinds (bound||aAl x.head.op))).getD 0 0) ((x.kids.map (aD2 kinds (bound||aAl x.head.op))).getD 1 0) ((x.kids.map (aD2 kinds (bound||aAl x.head.op))).getD 2 0):=by
 cases x with
 | leaf t=>exact absurd rfl hk
 | un t a =>
  obtain ⟨h1,_⟩:=h;have:=(aC6 t.op).2.1 h1;simp [Ex.kids,Ex.head,aD2,aK7,this.2]
 | bin t a b =>
  obtain ⟨h1,_⟩:=h;have:=(aC6 t.op).2.2.1 h1;have ha:aAl t.op=false:=aJi (by omega)
  simp [Ex.kids,Ex.head,aD2,aK7,this.2,show ¬ t.op<=29 by omega,ha]
 | tri t a b c =>
  obtain ⟨h1,_⟩:=h;have:=(aC6 t.op).2.2.2 h1;have ha:aAl t.op=false:=aJi (by omega)
  simp [Ex.kids,Ex.head,aD2,aK7,show ¬ t.op<=29 by omega,show ¬ t.op<=42 by omega,ha]
theorem bF4 {x:Ex} (h:x.ok):aB2 x.head.op=(x.kids.length:Int):=by
 cases x with
 | leaf t=>exact h
 | un t a=>exact h.1
 | bin t a b=>exact h.1
 | tri t a b c=>exact h.1
def aP4 (l:List Ex):Nat:=(l.map Ex.len).sum
theorem bO5 {es:List Term} {k:Nat} {x:Ex} (h:x.At es k):es[k]?=some x.head/\(∀ j,(hj:j<x.kids.length)->x.kids[j].At es (k+1+aP4 (x.kids.take j)))/\x.len=1+aP4 x.kids:=by
 cases x with
 | leaf t=>exact ⟨(At.leaf h).1,fun j hj=>absurd hj (by simp [Ex.kids]),by simp [Ex.len,Ex.terms,aP4,Ex.kids]⟩
 | un t a =>
  obtain ⟨h1,h2,h3⟩:=At.un h;refine ⟨h1,fun j hj=>?_,by simp [Ex.len,Ex.terms,aP4,Ex.kids];omega⟩
  simp [Ex.kids] at hj
  subst hj;simpa [Ex.kids,aP4] using h3
 | bin t a b =>
  obtain ⟨h1,h2,h3,h4⟩:=At.bin h;refine ⟨h1,fun j hj=>?_,by simp [Ex.len,Ex.terms,aP4,Ex.kids];omega⟩
  rcases (show j=0∨j=1 by simp [Ex.kids] at hj;omega) with rfl | rfl
  .simpa [Ex.kids,aP4] using h3
  .simpa [Ex.kids,aP4] using h4
 | tri t a b c =>
  obtain ⟨h1,h2,h3,h4,h5⟩:=At.tri h;refine ⟨h1,fun j hj=>?_,by simp [Ex.len,Ex.terms,aP4,Ex.kids];omega⟩
  rcases (show j=0∨j=1∨j=2 by simp [Ex.kids] at hj;omega) with rfl | rfl | rfl
  .simpa [Ex.kids,aP4] using h3
  .simpa [Ex.kids,aP4] using h4
  .have e:k+1+(a.len+b.len)=k+1+a.len+b.len:=by omega
   simpa [Ex.kids,aP4,e] using h5
theorem Ex.kids_induct {P:Ex->Prop} (h:∀ x:Ex,(∀ y∈x.kids,P y)->P x) (x:Ex):P x:=by
 induction x with
 | leaf t=>exact h _ (fun y hy=>by simp [Ex.kids] at hy)
 | un t a ih=>exact h _ (fun y hy=>by simp [Ex.kids] at hy;subst hy;exact ih)
 | bin t a b iha ihb=>exact h _ (fun y hy=>by simp [Ex.kids] at hy;rcases hy with rfl | rfl <;> assumption)
 | tri t a b c iha ihb ihc=>exact h _ (fun y hy=>by simp [Ex.kids] at hy;rcases hy with rfl | rfl | rfl <;> assumption)
theorem bO6 (x:Ex):x.kids.length<=3:=by cases x <;> simp [Ex.kids]
theorem aTf (op a b c:Int) (w:World) (h1:18<=op) (h2:op<=43) :
  Calls prog 175 #[.int .i64 op,.agg #[.int .i64 a,.int .i64 b,.int .i64 c]] w fun e w'=>e = .returned (.int .i64 (aK7 op a b c))/\Bel w w':=by
 have hi:∀ j,j<3->True:=fun _ _=>trivial;clear hi;go_enter func175,ntmps175;go_wp2
 go_quiet (fail)
 go_wp2_with (go_at_call 184;refine (bF1 _ _ _).mono ?_;rintro e w' ⟨rfl,rfl⟩)
 all_goals (try simp only [beq_iff_eq,beq_eq_false_iff_ne,bne_iff_ne,bne_eq_false_iff_eq] at *)
 all_goals (go_ret;refine ⟨aA9 ?_,((Bel.refl _).alloc _).drewN _⟩;(by_cases h43:op=43);(all_goals first | (exfalso;omega) | (subst h43;simp_all [aK7,ifK];done) | (simp_all [aK7,aOo,aNo,ifK];done) | (simp_all [aK7,aOo,aNo,ifK];omega)))
theorem bDd {k j:IntKind} {a b c d:Int} (h1:a=c) (h2:b=d):Ending.returned (.tuple #[.int k a,.int j b]) = .returned (.tuple #[.int k c,.int j d]):=by rw [h1,h2]
def aZr (l:List Int):Array Value:=#[.int .i64 (l.getD 0 0),.int .i64 (l.getD 1 0),.int .i64 (l.getD 2 0)]
theorem aLa (l:List Ex) (j:Nat) (h:j<l.length):aP4 (l.take (j+1))=aP4 (l.take j)+l[j].len:=by
 unfold aP4;rw [List.take_succ_eq_append_getElem h,List.map_append,List.sum_append];simp
theorem aP5 (l:List Ex) (j:Nat):aP4 (l.take j)<=aP4 l:=by
 unfold aP4
 conv=>rhs;rw [<- List.take_append_drop j l,List.map_append,List.sum_append]
 omega
theorem bC8 (l:List Int) (j:Nat) (h:j<3) (hl:j<l.length):(aZr (l.take j)).setIfInBounds j (.int .i64 l[j])=aZr (l.take (j+1)):=by
 rcases (show j=0∨j=1∨j=2 by omega) with rfl | rfl | rfl
 all_goals
  match l,hl with
  | x :: l,hl=>first
   | simp [aZr];done
   | (match l,hl with
    | y :: l,hl=>first
     | simp [aZr];done
     | (match l,hl with
      | z :: l,hl=>simp [aZr]))
def bP5 (kinds:List Int) (x:Ex):Prop :=
 ∀ (bound:Bool) (A:Option Addr) (c:Nat) (es:List Term) (K:Option Addr) (ck k:Nat) (w:World),x.At es k->aCd w A es.length es->aCy w K kinds.length kinds->(∀ t∈es,aM3 t kinds.length=true)->es.length<=1000 ->
  Calls prog 148 #[.agg #[.slice A es.length c,.slice K kinds.length ck],.int .i64 k,.bool bound] w fun e w'=>e = .returned (.tuple #[.int .i64 (aD2 kinds bound x),.int .i64 ((k+x.len:Nat):Int)])/\Bel w w'
theorem bMi (kinds:List Int) (x:Ex):bP5 kinds x:=by
 refine Ex.kids_induct (fun x ih=>?_) x
 intro bound A c es K ck k w hat hT hK harg hlen
 have hlt:=At.lt hat;obtain ⟨hh,hkids,hxl⟩:=bO5 hat;have hxb:=At.bound hat;have har:=bF4 hat.1;have hkk:=bI7 (kinds:=kinds) (bound:=bound) hat.1;obtain ⟨b,o,rfl,hb,c1,c2⟩:=hT.at_ k hlt;have hhe:es[k]=x.head:=by rw [List.getElem?_eq_getElem hlt] at hh;simpa using hh
 rw [hhe] at c1 c2;have hargt:aM3 x.head kinds.length=true:=by rw [<- hhe];exact harg _ (List.getElem_mem hlt)
 have HT:=aA0 (fun w' (k:Bel w w')=>aCd.keep hT k);clear hT;have HK:=aA0 (fun w' (k:Bel w w')=>aCy.keep hK k);clear hK;have HA:=aA0 harg;clear harg;have HAT:=aA0 hkids;clear hkids;have HX:=aA0 hxl;clear hxl;have HIH:=aA0 ih;clear ih;have HKK:=aA0 hkk;clear hkk;have hab:=aC6 x.head.op;have h3:=bO6 x;have HHE:=aA0 hhe;clear hh hhe
 by_cases h0:x.kids.length=0
 .-- a leaf
  have har0:aB2 x.head.op=0:=by omega
  obtain ⟨hr1,hr2⟩:=hab.1 har0
  have hkf:aD2 kinds bound x=if aFh x.head.op && !bound then 0 else bAj kinds x.head:=by
   cases x with
   | leaf t=>rfl
   | un t a=>simp [Ex.kids] at h0
   | bin t a b=>simp [Ex.kids] at h0
   | tri t a b c=>simp [Ex.kids] at h0
  have hx1:x.len=1:=by rw [HX.out,List.eq_nil_of_length_eq_zero h0];rfl
  have HB:=(((Bel.refl w).alloc (.cells #[.slice (some ⟨b,o,none⟩) es.length c,.slice K kinds.length ck] 239)).alloc (.cells #[.int .i64 x.head.op,.int .i64 x.head.arg] 235));have haz:(aB2 x.head.op==0)=true:=by simpa using har0
  have HX1:=aA0 hx1;have HKF:=aA0 hkf;clear hkf hx1 har har0 hab h0;cases hn:aFh x.head.op <;> cases bound
  all_goals
   go_enter func148,ntmps148
   go_wp2_with (first
    | (go_at_call 168;refine (aJj _ _).mono ?_;rintro e w' ⟨rfl,rfl⟩)
    | (go_at_call 173;refine (bM0 _ _).mono ?_;rintro e w' ⟨rfl,rfl⟩)
    | (go_at_call 174;refine (bK1 _ _ _ kinds x.head _ (HK.out _ HB) hargt).mono ?_;rintro e w' ⟨rfl,hbb⟩;replace HB:=HB.trans hbb;clear hbb))
   go_ret2
   refine ⟨?_,HB⟩
   rw [HKF.out,hn,HX1.out];simp
 .have hne:x.kids≠[]:=fun h=>h0 (by rw [h];rfl)
  have hop:18<=x.head.op/\x.head.op<=43:=by omega
  have hpos:(aB2 x.head.op==0)=false:=by simp;omega
  obtain ⟨hop1,hop2⟩:=hop;have HAR:=aA0 har;have HKF:=aA0 (HKK.out hne);obtain ⟨inner,hin⟩:∃ inner,(bound||aAl x.head.op)=inner:=⟨_,rfl⟩;rw [hin] at HKF;have HB:=((((Bel.refl w).alloc (.cells #[.slice (some ⟨b,o,none⟩) es.length c,.slice K kinds.length ck] 239)).alloc (.cells #[.int .i64 x.head.op,.int .i64 x.head.arg] 235)).alloc (.cells (aZr []) 261));have B1:=aA0 ((((Blk.new w #[.slice (some ⟨b,o,none⟩) es.length c,.slice K kinds.length ck] 239)).alloc (.cells #[.int .i64 x.head.op,.int .i64 x.head.arg] 235)).alloc (.cells (aZr []) 261));have B2:=aA0 ((Blk.new (w.alloc (.cells #[.slice (some ⟨b,o,none⟩) es.length c,.slice K kinds.length ck] 239)) #[.int .i64 x.head.op,.int .i64 x.head.arg] 235).alloc (.cells (aZr []) 261));have B3:=aA0 (Blk.new ((w.alloc (.cells #[.slice (some ⟨b,o,none⟩) es.length c,.slice K kinds.length ck] 239)).alloc (.cells #[.int .i64 x.head.op,.int .i64 x.head.arg] 235)) (aZr []) 261);simp only [World.size_alloc] at B2 B3
  rw [har] at hpos;clear hab HKK har h0;have HIN:Hid ((bound||aAl x.head.op)=inner):=hin;clear hin;cases bound with
  | true =>
   obtain rfl:inner=true:=by have:=HIN.out;simpa using this.symm
   clear HIN;go_enter func148,ntmps148
   go_wp2_with (first
    | (go_at_call 168;refine (aJj _ _).mono ?_;rintro e w' ⟨rfl,rfl⟩;rw [HAR.out]))
   go_loopg [7,11,44] x.kids.length (fun m nx _y z wr=>∃ j:Nat,j<=x.kids.length/\m=x.kids.length-j/\nx = .int .i64 ((k+1+aP4 (x.kids.take j):Nat):Int)/\z = .int .i64 j/\Bel w wr/\Hid (Blk wr w.heap.size #[.slice (some ⟨b,o,none⟩) es.length c,.slice K kinds.length ck] 239/\Blk wr (w.heap.size+1) #[.int .i64 x.head.op,.int .i64 x.head.arg] 235/\Blk wr (w.heap.size+1+1) (aZr ((x.kids.map (aD2 kinds true)).take j)) 261))
   case atStart=>exact ⟨0,by omega,rfl,by simp [aP4],rfl,HB,B1.out,B2.out,B3.out⟩
   case round =>
    clear HB B1 B2 B3;obtain ⟨j,hj,rfl,rfl,rfl,HB,HBL⟩:=hrel;have hb2:=HBL.out.2.1.lt;have hb3:=HBL.out.2.2.lt
    by_cases hjl:j<x.kids.length
    .have hd0:decide (j<x.kids.length)=true:=by simpa using hjl
     have hst:=aLa x.kids j hjl;have hll:=aP5 x.kids (j+1);have hxl:=HX.out;have a0:=HBL.out.1.cell 0 rfl;have a1:=HBL.out.1.cell 1 rfl;obtain ⟨u,hu⟩:∃ u,(aZr ((x.kids.map (aD2 kinds true)).take j))[j]?=some u:=⟨_,Array.getElem?_eq_getElem (by simp [aZr];omega)⟩
     have hj3:j<3:=by omega
     have hl1000:k+1+aP4 (x.kids.take j)<=1000:=by omega
     have HST:=aA0 hst;clear hst hxl hll
     go_wp2_with fail
     refine (HIH.out x.kids[j] (List.getElem_mem hjl) true _ _ es K ck (k+1+aP4 (x.kids.take j)) _ (HAT.out j hjl) (HT.out _ HB) (HK.out _ HB) HA.out hlen).mono ?_
     rintro e w2 ⟨rfl,hbb⟩;have d1:=HBL.out.1.keep hbb;have d2:=HBL.out.2.1.keep hbb;have d3:=HBL.out.2.2.keep hbb;have s3:=d3.lt;have e1:=d3.cell j hu;have e2:=d3.frozen j;have HD:=aA0 (And.intro d1 (And.intro d2 d3));clear d1 d2 d3 a0 a1;replace HB:=HB.trans hbb;clear hbb
     go_wp2_with fail
     go_roundg (x.kids.length-(j+1))
     case rel =>
      refine ⟨j+1,by omega,rfl,?_,by go_num,HB.setCell (by simp;omega) _,HD.out.1.other (by simp;omega) _,HD.out.2.1.other (by simp) _,?_⟩
      .rw [HST.out];congr 2;omega
      .have:=HD.out.2.2.set j (.int .i64 (aD2 kinds true x.kids[j]))
       have e:=bC8 (x.kids.map (aD2 kinds true)) j hj3 (by simpa using hjl)
       simp only [List.getElem_map] at e
       rw [e] at this;exact this
     case measure=>omega
    .obtain rfl:j=x.kids.length:=by omega
     have hd0:decide (x.kids.length<x.kids.length)=false:=by simp
     have a0:=HBL.out.2.1.cell 0 rfl;have a1:=HBL.out.2.2.cell 0 rfl;have a2:=HBL.out.2.2.cell 1 rfl;have a3:=HBL.out.2.2.cell 2 rfl;rw [List.take_of_length_le (by simp)] at a1 a2 a3
     rw [List.take_of_length_le (Nat.le_refl _)];clear HBL hj hjl
     go_wp2_with fail
     refine (aTf x.head.op _ _ _ _ hop1 hop2).mono ?_
     rintro e w2 ⟨rfl,hbb⟩;replace HB:=HB.trans hbb
     go_wp2_with fail
     go_ret2
     refine ⟨bDd ?_ ?_,HB⟩
     .rw [HKF.out];simp [List.getD_eq_getElem?_getD]
     .rw [HX.out];omega
  | false =>
   have HIN':=aA0 (show aAl x.head.op=inner by have:=HIN.out;simpa using this)
   clear HIN;go_enter func148,ntmps148
   go_wp2_with (first
    | (go_at_call 168;refine (aJj _ _).mono ?_;rintro e w' ⟨rfl,rfl⟩;rw [HAR.out])
    | (go_at_call 172;refine (aIh _ _).mono ?_;rintro e w' ⟨rfl,rfl⟩;rw [HIN'.out]))
   go_loopg [7,11,44] x.kids.length (fun m nx _y z wr=>∃ j:Nat,j<=x.kids.length/\m=x.kids.length-j/\nx = .int .i64 ((k+1+aP4 (x.kids.take j):Nat):Int)/\z = .int .i64 j/\Bel w wr/\Hid (Blk wr w.heap.size #[.slice (some ⟨b,o,none⟩) es.length c,.slice K kinds.length ck] 239/\Blk wr (w.heap.size+1) #[.int .i64 x.head.op,.int .i64 x.head.arg] 235/\Blk wr (w.heap.size+1+1) (aZr ((x.kids.map (aD2 kinds inner)).take j)) 261))
   case atStart=>exact ⟨0,by omega,rfl,by simp [aP4],rfl,HB,B1.out,B2.out,B3.out⟩
   case round =>
    clear HB B1 B2 B3;obtain ⟨j,hj,rfl,rfl,rfl,HB,HBL⟩:=hrel;have hb2:=HBL.out.2.1.lt;have hb3:=HBL.out.2.2.lt
    by_cases hjl:j<x.kids.length
    .have hd0:decide (j<x.kids.length)=true:=by simpa using hjl
     have hst:=aLa x.kids j hjl;have hll:=aP5 x.kids (j+1);have hxl:=HX.out;have a0:=HBL.out.1.cell 0 rfl;have a1:=HBL.out.1.cell 1 rfl;obtain ⟨u,hu⟩:∃ u,(aZr ((x.kids.map (aD2 kinds inner)).take j))[j]?=some u:=⟨_,Array.getElem?_eq_getElem (by simp [aZr];omega)⟩
     have hj3:j<3:=by omega
     have hl1000:k+1+aP4 (x.kids.take j)<=1000:=by omega
     have HST:=aA0 hst;clear hst hxl hll
     go_wp2_with fail
     refine (HIH.out x.kids[j] (List.getElem_mem hjl) inner _ _ es K ck (k+1+aP4 (x.kids.take j)) _ (HAT.out j hjl) (HT.out _ HB) (HK.out _ HB) HA.out hlen).mono ?_
     rintro e w2 ⟨rfl,hbb⟩;have d1:=HBL.out.1.keep hbb;have d2:=HBL.out.2.1.keep hbb;have d3:=HBL.out.2.2.keep hbb;have s3:=d3.lt;have e1:=d3.cell j hu;have e2:=d3.frozen j;have HD:=aA0 (And.intro d1 (And.intro d2 d3));clear d1 d2 d3 a0 a1;replace HB:=HB.trans hbb;clear hbb
     go_wp2_with fail
     go_roundg (x.kids.length-(j+1))
     case rel =>
      refine ⟨j+1,by omega,rfl,?_,by go_num,HB.setCell (by simp;omega) _,HD.out.1.other (by simp;omega) _,HD.out.2.1.other (by simp) _,?_⟩
      .rw [HST.out];congr 2;omega
      .have:=HD.out.2.2.set j (.int .i64 (aD2 kinds inner x.kids[j]))
       have e:=bC8 (x.kids.map (aD2 kinds inner)) j hj3 (by simpa using hjl)
       simp only [List.getElem_map] at e
       rw [e] at this;exact this
     case measure=>omega
    .obtain rfl:j=x.kids.length:=by omega
     have hd0:decide (x.kids.length<x.kids.length)=false:=by simp
     have a0:=HBL.out.2.1.cell 0 rfl;have a1:=HBL.out.2.2.cell 0 rfl;have a2:=HBL.out.2.2.cell 1 rfl;have a3:=HBL.out.2.2.cell 2 rfl;rw [List.take_of_length_le (by simp)] at a1 a2 a3
     rw [List.take_of_length_le (Nat.le_refl _)];clear HBL hj hjl
     go_wp2_with fail
     refine (aTf x.head.op _ _ _ _ hop1 hop2).mono ?_
     rintro e w2 ⟨rfl,hbb⟩;replace HB:=HB.trans hbb
     go_wp2_with fail
     go_ret2
     refine ⟨bDd ?_ ?_,HB⟩
     .rw [HKF.out];simp [List.getD_eq_getElem?_getD]
     .rw [HX.out];omega
theorem aMi {v lo hi:Int}:inB v lo hi=false↔v<lo∨hi<v:=by unfold inB;simp;omega
theorem bIs (A:Option Addr) (c:Nat) (es:List Term) (K:Option Addr) (ck:Nat) (kinds:List Int) (bound:Bool) (w:World) (hT:aCd w A es.length es) (hK:aCy w K kinds.length kinds) (hlen:es.length<=1000) :
  Calls prog 115 #[.slice A es.length c,.slice K kinds.length ck,.bool bound] w fun e w'=>e = .returned (.tuple #[.int .i64 (ofF es kinds bound).1,.int .i64 (ofF es kinds bound).2])/\Bel w w':=by
 have HT:=aA0 (fun w' (k:Bel w w')=>aCd.keep hT k);clear hT;have HK:=aA0 (fun w' (k:Bel w w')=>aCy.keep hK k);clear hK
 by_cases h6:6<kinds.length
 .have HF:Hid (ofF es kinds bound=(0,7)):=by show ofF es kinds bound=_;unfold ofF;rw [if_pos h6]
  have hd:decide (6<kinds.length)=true:=by simpa using h6
  go_enter func115,ntmps115
  go_wp2_with fail
  go_ret2
  rw [HF.out];exact ⟨rfl,Bel.refl _⟩
 .have hd:decide (6<kinds.length)=false:=by simpa using h6
  have h6':kinds.length<=6:=by omega
  go_enter func115,ntmps115
  go_wp2_with fail
  clear hd
  go_loopg [9,18] kinds.length (fun m _x z wr=>∃ j:Nat,j<=kinds.length/\m=kinds.length-j/\Hid ((kinds.take j).all aHe=true)/\z = .int .i64 j/\w=wr)
  case atStart=>exact ⟨0,by omega,rfl,rfl,rfl,rfl⟩
  case round =>
   obtain ⟨j,hj,rfl,HJ,rfl,rfl⟩:=hrel
   by_cases hlt:j<kinds.length
   .have hd0:decide (j<kinds.length)=true:=by simpa using hlt
    obtain ⟨b,o,rfl,hb,hc⟩:=(HK.out _ (Bel.refl _)).at_ j hlt;cases hk:aHe kinds[j] with
    | false =>
     have HF:Hid (ofF es kinds bound=(0,7)):=by show ofF es kinds bound=_;unfold ofF;rw [if_neg h6,if_pos (aCk hlt hk)]
     go_wp2_with (go_at_call 112;refine (aG4 _ _).mono ?_;rintro e w' ⟨rfl,rfl⟩)
     go_ret2
     rw [HF.out];exact ⟨rfl,Bel.refl _⟩
    | true =>
     have HN:=aA0 (aAo hlt HJ.out hk)
     go_wp2_with (go_at_call 112;refine (aG4 _ _).mono ?_;rintro e w' ⟨rfl,rfl⟩)
     go_roundg (kinds.length-(j+1))
     case rel=>exact ⟨j+1,by omega,rfl,HN,by go_num,rfl⟩
     case measure=>omega
   .have hd0:decide (j<kinds.length)=false:=by simpa using hlt
    have HA:=aA0 (aC3 (by omega) HJ.out)
    clear HJ hlt;have HB:=Bel.refl w;cases hv:aD4 es kinds.length with
    | false =>
     have HF:Hid (ofF es kinds bound=(0,7)):=by show ofF es kinds bound=_;unfold ofF;rw [if_neg h6,if_neg (by rw [HA.out];decide),if_pos hv]
     go_wp2_with (go_at_call 114;refine (aIf _ _ _ es _ _ (HT.out _ HB) (by omega)).mono ?_;rintro e w' ⟨rfl,hbb⟩;replace HB:=HB.trans hbb;clear hbb;rw [hv])
     go_ret2
     rw [HF.out];exact ⟨rfl,HB⟩
    | true =>
     obtain ⟨v1,v2,v3,v4,_,_⟩:=aKg hv;have HV4:=aA0 v4;have HAT:=aA0 (At.whole v1 v2);have HVV:=aA0 hv
     have HF:Hid (ofF es kinds bound=if aD2 kinds bound (aBf es)=0 then (0,6) else (aD2 kinds bound (aBf es),0)):=by
      show ofF es kinds bound=_
      unfold ofF;rw [if_neg h6,if_neg (by rw [HA.out];decide),if_neg (by rw [hv];decide)]
     clear v1 v2 v3 v4 hv h6
     go_wp2_with (first
      | (go_at_call 114;refine (aIf _ _ _ es _ _ (HT.out _ HB) (by omega)).mono ?_;rintro e w' ⟨rfl,hbb⟩;replace HB:=HB.trans hbb;clear hbb;rw [HVV.out])
      | (go_at_call 148;replace HB:=HB.alloc (.cells #[.slice A es.length c,.slice K kinds.length ck] 239);refine (bMi kinds (aBf es) bound _ _ es K ck 0 _ HAT.out (HT.out _ HB) (HK.out _ HB) HV4.out hlen).mono ?_;rintro e w' ⟨rfl,hbb⟩;replace HB:=HB.trans hbb;clear hbb))
     all_goals (try simp only [beq_iff_eq,beq_eq_false_iff_ne] at *)
     all_goals (go_ret2;refine ⟨?_,HB⟩;rw [HF.out];simp_all)
def aDv (x:Var):Bool :=
 decide ((x.kind≠1/\(x.kind=2∨x.kind=3)/\x.lo=0/\x.hi=0/\x.perNode=0/\x.perID=0)
  ∨ (x.kind=1/\(0<=x.lo/\x.lo<=4096)/\(0<=x.perNode/\x.perNode<=255)/\(0<=x.perID/\x.perID<=255)/\(x.perNode=0∨x.perID=0) /\ -4096<=x.hi/\x.hi<=4096/\(x.perNode≠0∨x.perID≠0∨0<=x.hi)))
def bKj (x:Var):Value := .agg #[.string x.name,.int .i64 x.kind,.int .i64 x.lo,.int .i64 x.hi,.int .i64 x.perNode,.int .i64 x.perID]
theorem aRe (x:Var) (w:World):Calls prog 64 #[bKj x] w fun e w'=>e = .returned (.bool (aDv x))/\Bel w w':=by
 obtain ⟨name,kind,lo,hi,pn,pi⟩:=x;unfold bKj;dsimp only;have HF:Hid (aDv ⟨name,kind,lo,hi,pn,pi⟩=true↔_):=(decide_eq_true_iff);dsimp only at HF
 by_cases hk:kind=1
 .subst hk
  have hp:aHe 1=true:=rfl;go_enter func64,ntmps64
  go_wp2_with (first
   | (go_at_call 112;refine (aG4 _ _).mono ?_;rintro e w' ⟨rfl,rfl⟩;rw [hp])
   | (go_at_call 113;refine (aIg _ _ _ _).mono ?_;rintro e w' ⟨rfl,rfl⟩))
  all_goals (try simp only [beq_iff_eq,beq_eq_false_iff_ne,bne_iff_ne,bne_eq_false_iff_eq,aQz,aMi,Bool.not_eq_true',Bool.not_eq_eq_eq_not,Bool.not_true,Bool.not_false] at *)
  all_goals (go_ret;refine ⟨aA1 ?_,(Bel.refl _).alloc _⟩;rw [Bool.eq_iff_iff,HF.out];simp only [aQz,Bool.false_eq_true,false_iff,true_and];omega)
 .have hne:(kind != 1)=true:=by simpa using hk
  cases hkk:aHe kind with
  | false =>
   have hk2:¬ (kind=1∨kind=2∨kind=3):=by
    intro h;unfold aHe at hkk;simp at hkk;omega
   go_enter func64,ntmps64
   go_wp2_with (go_at_call 112;refine (aG4 _ _).mono ?_;rintro e w' ⟨rfl,rfl⟩;rw [hkk])
   go_ret;refine ⟨aA1 ?_,(Bel.refl _).alloc _⟩
   symm
   rw [Bool.eq_false_iff,ne_eq,HF.out];omega
  | true =>
   have hk2:kind=2∨kind=3:=by
    unfold aHe at hkk;simp at hkk;omega
   have HK2:=aA0 hk2;clear hk2;go_enter func64,ntmps64
   go_wp2_with (go_at_call 112;refine (aG4 _ _).mono ?_;rintro e w' ⟨rfl,rfl⟩;rw [hkk])
   all_goals
    have hk2:=HK2.out;go_ret;refine ⟨aA1 ?_,(Bel.refl _).alloc _⟩
    rw [Bool.eq_iff_iff,HF.out];simp only [beq_iff_eq,Bool.false_eq_true,false_iff]
    omega
end Go.Proofs.YtmoebklkkjbigaaGreatDoor

