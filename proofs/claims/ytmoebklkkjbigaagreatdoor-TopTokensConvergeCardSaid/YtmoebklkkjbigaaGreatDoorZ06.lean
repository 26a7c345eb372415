/- Merged. -/
import Derived.Test.YtmoebklkkjbigaaGreatDoorZ04
import Derived.OneCell
set_option linter.unusedSimpArgs false
set_option linter.unnecessarySimpa false
set_option linter.unusedVariables false
set_option maxRecDepth 100000
set_option maxHeartbeats 4000000
open Go.Proofs.Tryz

namespace Go.Proofs.YtmoebklkkjbigaaGreatDoor
open Go.RowKit
theorem aKe:(prog.info? 3).map (fun i=>(i.zero,i.size,i.bytes))=some (some (.int .i64 0),1,8):=by kernel_rfl
theorem aSx (f:FuncId) (num:Int->Int->Int) (hf:∀ op g w,0<=g->g<=1000000->Calls prog f #[.int .i64 op,.int .i64 g] w fun e w'=>e = .returned (.int .i64 (num op g))/\w=w')
  (hcall:∀ a b w,(callFunc f #[a,b]).run prog w = .ok (.enter f #[a,b]) w)
  (hn:∀ op g,0<=g->0<=num op g/\num op g<=g+1)
  (A:Option Addr) (n c:Nat) (es:List Term) (w:World) (h:aCa w A n es) (hl:n<=1000000) :
  Calls prog 169 #[.slice A n c,.func (.func f) #[] #[]] w fun e w'=>e = .returned (.tuple #[.int .i64 (aGp num es),.bool (endF es 0==es.length)])/\Bel w w':=by
 obtain rfl:=h.1;have H:=aA0 h;clear h;have HF:=aA0 hf;clear hf;have HN:=aA0 hn;clear hn
 by_cases he:endF es 0=es.length
 .have hfin:aGp num es=(lev num es).headD 0:=by unfold aGp;rw [if_pos he]
  have HFin:=aA0 hfin;clear hfin;have HFull:=aA0 (aQq he);have hpos:0<es.length:=by have:=bNr es 0;omega
  have hd:(endF es 0 != es.length)=false:=by simpa using he
  have HE:=aA0 he;clear he;obtain ⟨i0,hi0,hz0,hzz,hz2'⟩:=info_parts aKe;go_enter func169,ntmps169
  go_wp2_with (go_at_call 144;refine (aQm _ _ _ es _ _ H.out hl).mono ?_;rintro e w' ⟨rfl,rfl⟩)
  go_loopg [6,7] es.length (fun g sv iv wr=>∃ (S:Option Addr) (sc:Nat) (st:List Int),g<=es.length/\Hid (lev num (es.drop g)=st)/\iv = .int .i64 ((g:Int)-1)/\sv = .slice S st.length sc/\Hid (wr.ownsRow w.heap.size 3 1 (.slice S st.length sc) st.length (st.map (Value.int .i64)))/\Bel w wr)
  case atStart=>exact ⟨none,0,[],Nat.le_refl _,by show lev num (es.drop es.length)=[];simp [lev],rfl,rfl,World.ownsRow_nil _ _ _ _,Bel.refl _⟩
  case round =>
   obtain ⟨S,sc,st,hg,HST,rfl,rfl,HO,hbel⟩:=hrel
   rcases Nat.eq_zero_or_pos gk with h0 | h0
   .subst h0
    have hlen:=HFull.out.lev_length num;have hst:=HST.out;rw [List.drop_zero] at hst;rw [hst] at hlen;obtain ⟨x,rfl⟩:∃ x,st=[x]:=List.length_eq_one_iff.1 (by omega)
    obtain ⟨g,rfl,_,_,hcell,_⟩:=aAj HO.out (j:=0) (u := .int .i64 x) rfl;have Hst:=aA0 hst;clear hst hlen;go_wp2
    go_ret2
    refine ⟨?_,hbel⟩
    rw [HFin.out,Hst.out,HE.out];simp
   .obtain ⟨i,rfl⟩:∃ i,gk=i+1:=⟨gk-1,by omega⟩
    have hi:i<es.length:=by omega
    obtain ⟨b,o,rfl,hb,hc1,hc2⟩:=(H.out.keep hbel).at_ i hi;obtain ⟨ha1,ha2⟩:=bPi num HFull.out hi;obtain ⟨hb1,hb2⟩:=bI4 num HN.out (es.drop (i+1));rw [List.length_drop] at hb1;rw [HST.out] at ha2 hb1 hb2;obtain ⟨a,ha⟩:=Int.eq_ofNat_of_zero_le ha1;obtain ⟨hcap1,hcap2⟩:=aCd HO.out;have hr1:a<=st.length:=by omega
    obtain ⟨r,hr⟩:∃ r:Nat,(st.length:Int)-a=r:=⟨st.length-a,by omega⟩
    have hr2:r<=st.length:=by omega
    have hst2:st.length<=1000000:=by omega
    obtain ⟨A2,hcut,hA2⟩:=bJj (P:=prog) underlying22 hi0 hzz S st.length sc r hr2 hcap1;have hup:=bMk (P:=prog) underlying22 hi0 S st.length sc r (by omega)
    have HA2:=aA0 (hA2 aJ4 wr st (aVa HO.out));clear hA2;have HB:=aA0 hb2;clear hb2;have hG1:=aLh (st.drop r);have hG2:=bAe (st.drop r) 1000000 (by omega) (fun x hx=>by have:=HB.out x (List.mem_of_mem_drop hx);rw [List.length_drop] at this;omega)
    generalize hG:aFc (st.drop r)=G at *
    have HL:Hid (lev num (es.drop i)=st.take r++[num es[i].op G]):=by
     show lev num (es.drop i)=st.take r++[num es[i].op G]
     rw [List.drop_eq_getElem_cons hi];simp only [lev]
     rw [HST.out,ha,show st.length-Int.toNat (a:Int)=r by omega,hG]
    have HG:=aA0 hG;clear hG;clear ha1 ha2
    go_wp2_with (first
     | (go_at_call 168;refine (aJb _ _).mono ?_;rintro e w' ⟨rfl,rfl⟩))
    go_loopg [9,37] (st.length-r) (fun g gr iv wi=>∃ (k:Nat) (z:Int),k+g=st.length-r/\0<=z/\z<=1000000/\Hid ((st.drop (r+k)).foldl max z=G)/\gr = .int .i64 z/\iv = .int .i64 k/\wr=wi)
    case atStart=>exact ⟨0,0,by omega,by omega,by omega,HG,rfl,rfl,rfl⟩
    case round =>
     obtain ⟨k,z,hk,hz1,hz2,HK,rfl,rfl,rfl⟩:=hrel
     by_cases hlt:k<st.length-r
     .have hkl:k<(st.drop r).length:=by rw [List.length_drop];omega
      obtain ⟨b2,o2,rfl,hb2,hc3⟩:=aCr.at_ HA2.out k hkl;have hx:st.drop (r+k)=(st.drop r)[k] :: st.drop (r+(k+1)):=by rw [<- List.drop_drop,List.drop_eq_getElem_cons hkl,List.drop_drop]
      have hxb:=HB.out (st.drop r)[k] (List.mem_of_mem_drop (List.getElem_mem _));rw [List.length_drop] at hxb;generalize (st.drop r)[k]=x at *;have hx1:0<=x:=hxb.1;have hx2:x<=1000000:=by omega
      have HX:=aA0 hx;clear hx hxb;go_wp2
      all_goals
       go_roundg (gk-1)
       case rel=>exact ⟨k+1,_,by omega,by omega,by omega,by
        have hm:=HK.out;rw [HX.out,List.foldl_cons] at hm
        first
         | (rw [Int.max_eq_left (by assumption)] at hm;exact hm)
         | (rw [Int.max_eq_right (by omega)] at hm;exact hm),rfl,by go_num,rfl⟩
       case measure=>omega
     .obtain rfl:z=G:=by
       have hm:=HK.out;rw [List.drop_eq_nil_of_le (by omega)] at hm
       exact hm
      go_wp2
      go_region_law (first
       | (refine aCn _ rfl (.tmp 47) (.tmp 56) 22 rfl w.heap.size 3 i0 (.int .i64 0) 1 8 underlying22 hi0 hz0 hzz hz2' rfl (by decide) S r sc ((st.map (Value.int .i64)).take (r*1)) (by simp [Act.eval]) ((bD5 HO.out r hr2).alloc _).drew wr.heap.size #[.int .i64 (num es[i].op z)] 3 (0,0) (by simp [Act.eval]) (aMf _ _) rfl (aO9 _ _) (by unfold maxLen;omega) (by omega) (by have:=hbel.size;simp;omega) ?_;intro S' sc' w2 hown2 hgr2 hat2)
       | (go_simp;refine (HF.out _ _ _ hz1 hz2).mono ?_;rintro e w' ⟨rfl,rfl⟩))
      go_wp2
      go_roundg i
      case rel=>exact ⟨S',sc',st.take r++[num es[i].op z],by omega,HL,rfl,by simp [Nat.min_eq_left hr2],by
       show World.ownsRow _ _ _ _ _ _ _
       simpa [Nat.min_eq_left hr2,List.map_take] using hown2,(hbel.alloc _).drew.push ((bD5 HO.out r hr2).alloc _).drew hgr2⟩
      case measure=>omega
 .have hfin:aGp num es=0:=by unfold aGp;rw [if_neg he]
  have HFin:=aA0 hfin;clear hfin;have hd:(endF es 0 != es.length)=true:=by simpa using he
  have Hd2:Hid ((endF es 0==(es.length:Int))=false):=by show (endF es 0==(es.length:Int))=false;simpa using he
  clear he;go_enter func169,ntmps169
  go_wp2_with (go_at_call 144;refine (aQm _ _ _ es _ _ H.out hl).mono ?_;rintro e w' ⟨rfl,rfl⟩)
  go_ret2
  refine ⟨?_,Bel.refl _⟩
  rw [HFin.out,Hd2.out];rfl
theorem aX1 (A:Option Addr) (n c:Nat) (es:List Term) (w:World) (h:aCa w A n es) (hl:n<=1000000) :
  Calls prog 146 #[.slice A n c] w fun e w'=>e = .returned (.int .i64 (aKv es))/\Bel w w':=by
 have H:=aA0 h;clear h;go_enter func146,ntmps146
 go_wp2_with (go_at_call 169;refine (aSx 170 aG8 (fun op g w h0 h1=>aX0 op g w h0 h1) (fun _ _ _=>by kernel_rfl) bA7 _ _ _ es _ H.out hl).mono ?_;rintro e w1 ⟨rfl,hb⟩)
 go_ret;exact ⟨rfl,hb⟩
theorem bLx (A:Option Addr) (n c:Nat) (es:List Term) (w:World) (h:aCa w A n es) (hl:n<=1000000) :
  Calls prog 147 #[.slice A n c] w fun e w'=>e = .returned (.int .i64 (bAw es))/\Bel w w':=by
 have H:=aA0 h;clear h;go_enter func147,ntmps147
 go_wp2_with (go_at_call 169;refine (aSx 171 aGq (fun op g w h0 h1=>bAx op g w h0 h1) (fun _ _ _=>by kernel_rfl) bF9 _ _ _ es _ H.out hl).mono ?_;rintro e w1 ⟨rfl,hb⟩)
 go_ret;exact ⟨rfl,hb⟩
theorem aI1 (A:Option Addr) (n c:Nat) (es:List Term) (vars:Int) (w:World) (h:aCa w A n es) (hl:n<=1000000) :
  Calls prog 114 #[.slice A n c,.int .i64 vars] w fun e w'=>e = .returned (.bool (aD0 es vars))/\Bel w w':=by
 obtain rfl:=h.1;have H:=aA0 h;clear h
 by_cases h200:200<es.length
 .have HF:Hid (aD0 es vars=false):=by
   show aD0 es vars=false
   unfold aD0;rw [show decide (es.length<=200)=false by simp;omega];rfl
  have hd:decide (200<es.length)=true:=by simpa using h200
  go_enter func114,ntmps114;go_wp2;go_ret;exact ⟨aA1 HF.out.symm,Bel.refl _⟩
 .have hd:decide (200<es.length)=false:=by simpa using h200
  by_cases he:endF es 0=es.length
  .have hd2:(endF es 0 != (es.length:Int))=false:=by simpa using he
   have HF:Hid (aD0 es vars=(es.all (aM3 · vars)&&decide (aKv es<=24)&&decide (bAw es<=2))):=by
    show aD0 es vars=_
    unfold aD0;rw [show decide (es.length<=200)=true by simp;omega,show (endF es 0==(es.length:Int))=true by simpa using he]
    rfl
   clear he;go_enter func114,ntmps114
   go_wp2_with (go_at_call 144;refine (aQm _ _ _ es _ _ H.out hl).mono ?_;rintro e w' ⟨rfl,rfl⟩)
   go_loopg [19] es.length (fun g iv wr=>∃ k:Nat,k+g=es.length/\iv = .int .i64 k/\Hid (es.all (aM3 · vars)=(es.drop k).all (aM3 · vars))/\Bel w wr)
   case atStart=>exact ⟨0,by omega,rfl,rfl,Bel.refl _⟩
   case round =>
    obtain ⟨k,hk,rfl,HK,hbel⟩:=hrel
    by_cases hlt:k<es.length
    .obtain ⟨b,o,rfl,hb,hc1,hc2⟩:=(H.out.keep hbel).at_ k hlt
     have hstep:Hid ((es.drop k).all (aM3 · vars)=(aM3 es[k] vars&&(es.drop (k+1)).all (aM3 · vars))):=by
      show (es.drop k).all (aM3 · vars)=_
      rw [List.drop_eq_getElem_cons hlt];rfl
     cases harg:aM3 es[k] vars with
     | true =>
      go_wp2_with (go_at_call 145;refine (aOs es[k] _ _).mono ?_;rintro e w2 ⟨rfl,hb2⟩;rw [harg])
      go_roundg (gk-1)
      case rel=>exact ⟨k+1,by omega,by go_num,by show _=_;rw [HK.out,hstep.out,harg];rfl,(hbel.alloc _).trans hb2⟩
      case measure=>omega
     | false =>
      go_wp2_with (go_at_call 145;refine (aOs es[k] _ _).mono ?_;rintro e w2 ⟨rfl,hb2⟩;rw [harg])
      go_ret;refine ⟨aA1 ?_,(hbel.alloc _).trans hb2⟩
      rw [HF.out,HK.out,hstep.out,harg];rfl
    .have HF2:Hid (aD0 es vars=(decide (aKv es<=24)&&decide (bAw es<=2))):=by
      show aD0 es vars=_
      rw [HF.out,HK.out,List.drop_eq_nil_of_le (by omega)];rfl
     clear HF
     by_cases h24:aKv es<=24
     .go_wp2_with (first
       | (go_at_call 146;refine (aX1 _ _ _ es _ (H.out.keep hbel) hl).mono ?_;rintro e w2 ⟨rfl,hb2⟩)
       | (go_at_call 147;refine (bLx _ _ _ es _ (H.out.keep (hbel.trans hb2)) hl).mono ?_;rintro e w3 ⟨rfl,hb3⟩))
      go_ret;refine ⟨aA1 ?_,(hbel.trans hb2).trans hb3⟩
      rw [HF2.out,show decide (aKv es<=24)=true by simpa using h24];rfl
     .have hd3:decide (aKv es<=24)=false:=by simpa using h24
      go_wp2_with (go_at_call 146;refine (aX1 _ _ _ es _ (H.out.keep hbel) hl).mono ?_;rintro e w2 ⟨rfl,hb2⟩)
      go_ret;refine ⟨aA1 ?_,hbel.trans hb2⟩
      rw [HF2.out,hd3];rfl
  .have hd2:(endF es 0 != (es.length:Int))=true:=by simpa using he
   have HF:Hid (aD0 es vars=false):=by
    show aD0 es vars=false
    unfold aD0;rw [show (endF es 0==(es.length:Int))=false by simpa using he];simp
   clear he;go_enter func114,ntmps114
   go_wp2_with (go_at_call 144;refine (aQm _ _ _ es _ _ H.out hl).mono ?_;rintro e w' ⟨rfl,rfl⟩)
   go_ret;exact ⟨aA1 HF.out.symm,Bel.refl _⟩
theorem aFx (k:Int) (w:World):Calls prog 112 #[.int .i64 k] w fun e w'=>e = .returned (.bool (aH1 k))/\w=w':=by
 go_enter func112,ntmps112;go_wp2
 all_goals (go_ret;refine ⟨aA1 ?_,rfl⟩;unfold aH1;(rw [Bool.eq_iff_iff]) <;> simp [*])
theorem bF2 (b:Bool) (k:Int) (w:World):Calls prog 184 #[.bool b,.int .i64 k] w fun e w'=>e = .returned (.int .i64 (ifK b k))/\w=w':=by
 cases b
 all_goals (go_enter func184,ntmps184;go_wp2;go_ret;exact ⟨rfl,rfl⟩)
theorem bLw (op:Int) (w:World):Calls prog 173 #[.int .i64 op] w fun e w'=>e = .returned (.bool (aG6 op))/\w=w':=by
 go_enter func173,ntmps173;go_wp2
 all_goals (go_ret;refine ⟨aA1 ?_,rfl⟩;unfold aG6;rw [Bool.eq_iff_iff];simp) <;> omega
theorem aQb {op arg n:Int} (h:aM3 ⟨op,arg⟩ n=true) (ho:op=5∨op=12):0<=arg/\arg<n:=by
 unfold aM3 at h
 rcases ho with rfl | rfl <;> simpa using h
theorem bJx (ev:Value) (A:Option Addr) (c:Nat) (kinds:List Int) (t:Term) (w:World) (h:aCr w A kinds.length kinds) (ha:aM3 t kinds.length=true) :
  Calls prog 174 #[.agg #[ev,.slice A kinds.length c],.agg #[.int .i64 t.op,.int .i64 t.arg]] w fun e w'=>e = .returned (.int .i64 (bAl kinds t))/\Bel w w':=by
 obtain ⟨op,arg⟩:=t
 by_cases ho:op=5∨op=12
 .obtain ⟨h0,h1⟩:=aQb ha ho
  obtain ⟨a,rfl⟩:=Int.eq_ofNat_of_zero_le h0;have hlt:a<kinds.length:=by omega
  obtain ⟨b,o,rfl,hb,hc⟩:=h.at_ a hlt
  have HF:Hid (bAl kinds ⟨op,(a:Int)⟩=kinds[a]):=by
   show bAl kinds ⟨op,(a:Int)⟩=kinds[a]
   unfold bAl
   rcases ho with rfl | rfl <;> simp [hlt]
  clear h ha h0 h1
  rcases ho with rfl | rfl
  all_goals
   go_enter func174,ntmps174;go_wp2;go_ret;exact ⟨aA9 HF.out.symm,((Bel.refl _).alloc _).alloc _⟩
 .have h5:(op==5)=false:=by simp;omega
  have h12:(op==12)=false:=by simp;omega
  clear h ha;go_enter func174,ntmps174;go_wp2
  all_goals (try simp only [beq_iff_eq,beq_eq_false_iff_ne] at *)
  all_goals (go_ret;refine ⟨aA9 ?_,((Bel.refl _).alloc _).alloc _⟩;unfold bAl;dsimp only;repeat' split) <;> omega
def aJu (op a b c:Int):Int:=if op<=29 then aOh op a else if op<=42 then aNm op a b else ifK (a==2&&b==c) b
def Ex.kids:Ex->List Ex
 | .leaf _=>[]
 | .un _ a=>[a]
 | .bin _ a b=>[a,b]
 | .tri _ a b c=>[a,b,c]
def Ex.head:Ex->Term
 | .leaf t=>t
 | .un t _=>t
 | .bin t _ _=>t
 | .tri t _ _ _=>t
theorem aC5 (op:Int):(aB1 op=0->1<=op/\op<=17)/\(aB1 op=1->18<=op/\op<=29)/\(aB1 op=2->30<=op/\op<=42)/\(aB1 op=3->op=43):=by
 unfold aB1
 repeat' split
 all_goals omega
theorem bI0 {kinds:List Int} {bound:Bool} {x:Ex} (h:x.ok) (hk:x.kids≠[]) :
  aCx kinds bound x=aJu x.head.op ((x.kids.map (aCx kinds (bound||aAo x.head.op))).getD 0 0) ((x.kids.map (aCx kinds (bound||aAo x.head.op))).getD 1 0) ((x.kids.map (aCx kinds (bound||aAo x.head.op))).getD 2 0):=by
 cases x with
 | leaf t=>exact absurd rfl hk
 | un t a =>
  obtain ⟨h1,_⟩:=h;have:=(aC5 t.op).2.1 h1;simp [Ex.kids,Ex.head,aCx,aJu,this.2]
 | bin t a b =>
  obtain ⟨h1,_⟩:=h;have:=(aC5 t.op).2.2.1 h1;have ha:aAo t.op=false:=aJa (by omega)
  simp [Ex.kids,Ex.head,aCx,aJu,this.2,show ¬ t.op<=29 by omega,ha]
 | tri t a b c =>
  obtain ⟨h1,_⟩:=h;have:=(aC5 t.op).2.2.2 h1;have ha:aAo t.op=false:=aJa (by omega)
  simp [Ex.kids,Ex.head,aCx,aJu,show ¬ t.op<=29 by omega,show ¬ t.op<=42 by omega,ha]
theorem bF4 {x:Ex} (h:x.ok):aB1 x.head.op=(x.kids.length:Int):=by
 cases x with
 | leaf t=>exact h
 | un t a=>exact h.1
 | bin t a b=>exact h.1
 | tri t a b c=>exact h.1
def aOx (l:List Ex):Nat:=(l.map Ex.len).sum
theorem bNz {es:List Term} {k:Nat} {x:Ex} (h:x.At es k):es[k]?=some x.head/\(∀ j,(hj:j<x.kids.length)->x.kids[j].At es (k+1+aOx (x.kids.take j)))/\x.len=1+aOx x.kids:=by
 cases x with
 | leaf t=>exact ⟨(At.leaf h).1,fun j hj=>absurd hj (by simp [Ex.kids]),by simp [Ex.len,Ex.terms,aOx,Ex.kids]⟩
 | un t a =>
  obtain ⟨h1,h2,h3⟩:=At.un h;refine ⟨h1,fun j hj=>?_,by simp [Ex.len,Ex.terms,aOx,Ex.kids];omega⟩
  simp [Ex.kids] at hj
  subst hj;simpa [Ex.kids,aOx] using h3
 | bin t a b =>
  obtain ⟨h1,h2,h3,h4⟩:=At.bin h;refine ⟨h1,fun j hj=>?_,by simp [Ex.len,Ex.terms,aOx,Ex.kids];omega⟩
  rcases (show j=0∨j=1 by simp [Ex.kids] at hj;omega) with rfl | rfl
  .simpa [Ex.kids,aOx] using h3
  .simpa [Ex.kids,aOx] using h4
 | tri t a b c =>
  obtain ⟨h1,h2,h3,h4,h5⟩:=At.tri h;refine ⟨h1,fun j hj=>?_,by simp [Ex.len,Ex.terms,aOx,Ex.kids];omega⟩
  rcases (show j=0∨j=1∨j=2 by simp [Ex.kids] at hj;omega) with rfl | rfl | rfl
  .simpa [Ex.kids,aOx] using h3
  .simpa [Ex.kids,aOx] using h4
  .have e:k+1+(a.len+b.len)=k+1+a.len+b.len:=by omega
   simpa [Ex.kids,aOx,e] using h5
theorem Ex.kids_induct {P:Ex->Prop} (h:∀ x:Ex,(∀ y∈x.kids,P y)->P x) (x:Ex):P x:=by
 induction x with
 | leaf t=>exact h _ (fun y hy=>by simp [Ex.kids] at hy)
 | un t a ih=>exact h _ (fun y hy=>by simp [Ex.kids] at hy;subst hy;exact ih)
 | bin t a b iha ihb=>exact h _ (fun y hy=>by simp [Ex.kids] at hy;rcases hy with rfl | rfl <;> assumption)
 | tri t a b c iha ihb ihc=>exact h _ (fun y hy=>by simp [Ex.kids] at hy;rcases hy with rfl | rfl | rfl <;> assumption)
theorem bO0 (x:Ex):x.kids.length<=3:=by cases x <;> simp [Ex.kids]
theorem aT7 (op a b c:Int) (w:World) (h1:18<=op) (h2:op<=43) :
  Calls prog 175 #[.int .i64 op,.agg #[.int .i64 a,.int .i64 b,.int .i64 c]] w fun e w'=>e = .returned (.int .i64 (aJu op a b c))/\Bel w w':=by
 have hi:∀ j,j<3->True:=fun _ _=>trivial;clear hi;go_enter func175,ntmps175;go_wp2
 go_quiet (fail)
 go_wp2_with (go_at_call 184;refine (bF2 _ _ _).mono ?_;rintro e w' ⟨rfl,rfl⟩)
 all_goals (try simp only [beq_iff_eq,beq_eq_false_iff_ne,bne_iff_ne,bne_eq_false_iff_eq] at *)
 all_goals (go_ret;refine ⟨aA9 ?_,((Bel.refl _).alloc _).drewN _⟩;(by_cases h43:op=43);(all_goals first | (exfalso;omega) | (subst h43;simp_all [aJu,ifK];done) | (simp_all [aJu,aOh,aNm,ifK];done) | (simp_all [aJu,aOh,aNm,ifK];omega)))
theorem bD9 {k j:IntKind} {a b c d:Int} (h1:a=c) (h2:b=d):Ending.returned (.tuple #[.int k a,.int j b]) = .returned (.tuple #[.int k c,.int j d]):=by rw [h1,h2]
def aZq (l:List Int):Array Value:=#[.int .i64 (l.getD 0 0),.int .i64 (l.getD 1 0),.int .i64 (l.getD 2 0)]
theorem aL1 (l:List Ex) (j:Nat) (h:j<l.length):aOx (l.take (j+1))=aOx (l.take j)+l[j].len:=by
 unfold aOx;rw [List.take_succ_eq_append_getElem h,List.map_append,List.sum_append];simp
theorem aOy (l:List Ex) (j:Nat):aOx (l.take j)<=aOx l:=by
 unfold aOx
 conv=>rhs;rw [<- List.take_append_drop j l,List.map_append,List.sum_append]
 omega
theorem bC7 (l:List Int) (j:Nat) (h:j<3) (hl:j<l.length):(aZq (l.take j)).setIfInBounds j (.int .i64 l[j])=aZq (l.take (j+1)):=by
 rcases (show j=0∨j=1∨j=2 by omega) with rfl | rfl | rfl
 all_goals
  match l,hl with
  | x :: l,hl=>first
   | simp [aZq];done
   | (match l,hl with
    | y :: l,hl=>first
     | simp [aZq];done
     | (match l,hl with
      | z :: l,hl=>simp [aZq]))
def bP0 (kinds:List Int) (x:Ex):Prop :=
 ∀ (bound:Bool) (A:Option Addr) (c:Nat) (es:List Term) (K:Option Addr) (ck k:Nat) (w:World),x.At es k->aCa w A es.length es->aCr w K kinds.length kinds->(∀ t∈es,aM3 t kinds.length=true)->es.length<=1000 ->
  Calls prog 148 #[.agg #[.slice A es.length c,.slice K kinds.length ck],.int .i64 k,.bool bound] w fun e w'=>e = .returned (.tuple #[.int .i64 (aCx kinds bound x),.int .i64 ((k+x.len:Nat):Int)])/\Bel w w'
theorem bMc (kinds:List Int) (x:Ex):bP0 kinds x:=by
 refine Ex.kids_induct (fun x ih=>?_) x
 intro bound A c es K ck k w hat hT hK harg hlen
 have hlt:=At.lt hat;obtain ⟨hh,hkids,hxl⟩:=bNz hat;have hxb:=At.bound hat;have har:=bF4 hat.1;have hkk:=bI0 (kinds:=kinds) (bound:=bound) hat.1;obtain ⟨b,o,rfl,hb,c1,c2⟩:=hT.at_ k hlt;have hhe:es[k]=x.head:=by rw [List.getElem?_eq_getElem hlt] at hh;simpa using hh
 rw [hhe] at c1 c2;have hargt:aM3 x.head kinds.length=true:=by rw [<- hhe];exact harg _ (List.getElem_mem hlt)
 have HT:=aA0 (fun w' (k:Bel w w')=>aCa.keep hT k);clear hT;have HK:=aA0 (fun w' (k:Bel w w')=>aCr.keep hK k);clear hK;have HA:=aA0 harg;clear harg;have HAT:=aA0 hkids;clear hkids;have HX:=aA0 hxl;clear hxl;have HIH:=aA0 ih;clear ih;have HKK:=aA0 hkk;clear hkk;have hab:=aC5 x.head.op;have h3:=bO0 x;have HHE:=aA0 hhe;clear hh hhe
 by_cases h0:x.kids.length=0
 .-- a leaf
  have har0:aB1 x.head.op=0:=by omega
  obtain ⟨hr1,hr2⟩:=hab.1 har0
  have hkf:aCx kinds bound x=if aG6 x.head.op && !bound then 0 else bAl kinds x.head:=by
   cases x with
   | leaf t=>rfl
   | un t a=>simp [Ex.kids] at h0
   | bin t a b=>simp [Ex.kids] at h0
   | tri t a b c=>simp [Ex.kids] at h0
  have hx1:x.len=1:=by rw [HX.out,List.eq_nil_of_length_eq_zero h0];rfl
  have HB:=(((Bel.refl w).alloc (.cells #[.slice (some ⟨b,o,none⟩) es.length c,.slice K kinds.length ck] 239)).alloc (.cells #[.int .i64 x.head.op,.int .i64 x.head.arg] 235));have haz:(aB1 x.head.op==0)=true:=by simpa using har0
  have HX1:=aA0 hx1;have HKF:=aA0 hkf;clear hkf hx1 har har0 hab h0;cases hn:aG6 x.head.op <;> cases bound
  all_goals
   go_enter func148,ntmps148
   go_wp2_with (first
    | (go_at_call 168;refine (aJb _ _).mono ?_;rintro e w' ⟨rfl,rfl⟩)
    | (go_at_call 173;refine (bLw _ _).mono ?_;rintro e w' ⟨rfl,rfl⟩)
    | (go_at_call 174;refine (bJx _ _ _ kinds x.head _ (HK.out _ HB) hargt).mono ?_;rintro e w' ⟨rfl,hbb⟩;replace HB:=HB.trans hbb;clear hbb))
   go_ret2
   refine ⟨?_,HB⟩
   rw [HKF.out,hn,HX1.out];simp
 .have hne:x.kids≠[]:=fun h=>h0 (by rw [h];rfl)
  have hop:18<=x.head.op/\x.head.op<=43:=by omega
  have hpos:(aB1 x.head.op==0)=false:=by simp;omega
  obtain ⟨hop1,hop2⟩:=hop;have HAR:=aA0 har;have HKF:=aA0 (HKK.out hne);obtain ⟨inner,hin⟩:∃ inner,(bound||aAo x.head.op)=inner:=⟨_,rfl⟩;rw [hin] at HKF;have HB:=((((Bel.refl w).alloc (.cells #[.slice (some ⟨b,o,none⟩) es.length c,.slice K kinds.length ck] 239)).alloc (.cells #[.int .i64 x.head.op,.int .i64 x.head.arg] 235)).alloc (.cells (aZq []) 261));have B1:=aA0 ((((Blk.new w #[.slice (some ⟨b,o,none⟩) es.length c,.slice K kinds.length ck] 239)).alloc (.cells #[.int .i64 x.head.op,.int .i64 x.head.arg] 235)).alloc (.cells (aZq []) 261));have B2:=aA0 ((Blk.new (w.alloc (.cells #[.slice (some ⟨b,o,none⟩) es.length c,.slice K kinds.length ck] 239)) #[.int .i64 x.head.op,.int .i64 x.head.arg] 235).alloc (.cells (aZq []) 261));have B3:=aA0 (Blk.new ((w.alloc (.cells #[.slice (some ⟨b,o,none⟩) es.length c,.slice K kinds.length ck] 239)).alloc (.cells #[.int .i64 x.head.op,.int .i64 x.head.arg] 235)) (aZq []) 261);simp only [World.size_alloc] at B2 B3
  rw [har] at hpos;clear hab HKK har h0;have HIN:Hid ((bound||aAo x.head.op)=inner):=hin;clear hin;cases bound with
  | true =>
   obtain rfl:inner=true:=by have:=HIN.out;simpa using this.symm
   clear HIN;go_enter func148,ntmps148
   go_wp2_with (first
    | (go_at_call 168;refine (aJb _ _).mono ?_;rintro e w' ⟨rfl,rfl⟩;rw [HAR.out]))
   go_loopg [7,11,44] x.kids.length (fun m nx _y z wr=>∃ j:Nat,j<=x.kids.length/\m=x.kids.length-j/\nx = .int .i64 ((k+1+aOx (x.kids.take j):Nat):Int)/\z = .int .i64 j/\Bel w wr/\Hid (Blk wr w.heap.size #[.slice (some ⟨b,o,none⟩) es.length c,.slice K kinds.length ck] 239/\Blk wr (w.heap.size+1) #[.int .i64 x.head.op,.int .i64 x.head.arg] 235/\Blk wr (w.heap.size+1+1) (aZq ((x.kids.map (aCx kinds true)).take j)) 261))
   case atStart=>exact ⟨0,by omega,rfl,by simp [aOx],rfl,HB,B1.out,B2.out,B3.out⟩
   case round =>
    clear HB B1 B2 B3;obtain ⟨j,hj,rfl,rfl,rfl,HB,HBL⟩:=hrel;have hb2:=HBL.out.2.1.lt;have hb3:=HBL.out.2.2.lt
    by_cases hjl:j<x.kids.length
    .have hd0:decide (j<x.kids.length)=true:=by simpa using hjl
     have hst:=aL1 x.kids j hjl;have hll:=aOy x.kids (j+1);have hxl:=HX.out;have a0:=HBL.out.1.cell 0 rfl;have a1:=HBL.out.1.cell 1 rfl;obtain ⟨u,hu⟩:∃ u,(aZq ((x.kids.map (aCx kinds true)).take j))[j]?=some u:=⟨_,Array.getElem?_eq_getElem (by simp [aZq];omega)⟩
     have hj3:j<3:=by omega
     have hl1000:k+1+aOx (x.kids.take j)<=1000:=by omega
     have HST:=aA0 hst;clear hst hxl hll
     go_wp2_with fail
     refine (HIH.out x.kids[j] (List.getElem_mem hjl) true _ _ es K ck (k+1+aOx (x.kids.take j)) _ (HAT.out j hjl) (HT.out _ HB) (HK.out _ HB) HA.out hlen).mono ?_
     rintro e w2 ⟨rfl,hbb⟩;have d1:=HBL.out.1.keep hbb;have d2:=HBL.out.2.1.keep hbb;have d3:=HBL.out.2.2.keep hbb;have s3:=d3.lt;have e1:=d3.cell j hu;have e2:=d3.frozen j;have HD:=aA0 (And.intro d1 (And.intro d2 d3));clear d1 d2 d3 a0 a1;replace HB:=HB.trans hbb;clear hbb
     go_wp2_with fail
     go_roundg (x.kids.length-(j+1))
     case rel =>
      refine ⟨j+1,by omega,rfl,?_,by go_num,HB.setCell (by simp;omega) _,HD.out.1.other (by simp;omega) _,HD.out.2.1.other (by simp) _,?_⟩
      .rw [HST.out];congr 2;omega
      .have:=HD.out.2.2.set j (.int .i64 (aCx kinds true x.kids[j]))
       have e:=bC7 (x.kids.map (aCx kinds true)) j hj3 (by simpa using hjl)
       simp only [List.getElem_map] at e
       rw [e] at this;exact this
     case measure=>omega
    .obtain rfl:j=x.kids.length:=by omega
     have hd0:decide (x.kids.length<x.kids.length)=false:=by simp
     have a0:=HBL.out.2.1.cell 0 rfl;have a1:=HBL.out.2.2.cell 0 rfl;have a2:=HBL.out.2.2.cell 1 rfl;have a3:=HBL.out.2.2.cell 2 rfl;rw [List.take_of_length_le (by simp)] at a1 a2 a3
     rw [List.take_of_length_le (Nat.le_refl _)];clear HBL hj hjl
     go_wp2_with fail
     refine (aT7 x.head.op _ _ _ _ hop1 hop2).mono ?_
     rintro e w2 ⟨rfl,hbb⟩;replace HB:=HB.trans hbb
     go_wp2_with fail
     go_ret2
     refine ⟨bD9 ?_ ?_,HB⟩
     .rw [HKF.out];simp [List.getD_eq_getElem?_getD]
     .rw [HX.out];omega
  | false =>
   have HIN':=aA0 (show aAo x.head.op=inner by have:=HIN.out;simpa using this)
   clear HIN;go_enter func148,ntmps148
   go_wp2_with (first
    | (go_at_call 168;refine (aJb _ _).mono ?_;rintro e w' ⟨rfl,rfl⟩;rw [HAR.out])
    | (go_at_call 172;refine (aI5 _ _).mono ?_;rintro e w' ⟨rfl,rfl⟩;rw [HIN'.out]))
   go_loopg [7,11,44] x.kids.length (fun m nx _y z wr=>∃ j:Nat,j<=x.kids.length/\m=x.kids.length-j/\nx = .int .i64 ((k+1+aOx (x.kids.take j):Nat):Int)/\z = .int .i64 j/\Bel w wr/\Hid (Blk wr w.heap.size #[.slice (some ⟨b,o,none⟩) es.length c,.slice K kinds.length ck] 239/\Blk wr (w.heap.size+1) #[.int .i64 x.head.op,.int .i64 x.head.arg] 235/\Blk wr (w.heap.size+1+1) (aZq ((x.kids.map (aCx kinds inner)).take j)) 261))
   case atStart=>exact ⟨0,by omega,rfl,by simp [aOx],rfl,HB,B1.out,B2.out,B3.out⟩
   case round =>
    clear HB B1 B2 B3;obtain ⟨j,hj,rfl,rfl,rfl,HB,HBL⟩:=hrel;have hb2:=HBL.out.2.1.lt;have hb3:=HBL.out.2.2.lt
    by_cases hjl:j<x.kids.length
    .have hd0:decide (j<x.kids.length)=true:=by simpa using hjl
     have hst:=aL1 x.kids j hjl;have hll:=aOy x.kids (j+1);have hxl:=HX.out;have a0:=HBL.out.1.cell 0 rfl;have a1:=HBL.out.1.cell 1 rfl;obtain ⟨u,hu⟩:∃ u,(aZq ((x.kids.map (aCx kinds inner)).take j))[j]?=some u:=⟨_,Array.getElem?_eq_getElem (by simp [aZq];omega)⟩
     have hj3:j<3:=by omega
     have hl1000:k+1+aOx (x.kids.take j)<=1000:=by omega
     have HST:=aA0 hst;clear hst hxl hll
     go_wp2_with fail
     refine (HIH.out x.kids[j] (List.getElem_mem hjl) inner _ _ es K ck (k+1+aOx (x.kids.take j)) _ (HAT.out j hjl) (HT.out _ HB) (HK.out _ HB) HA.out hlen).mono ?_
     rintro e w2 ⟨rfl,hbb⟩;have d1:=HBL.out.1.keep hbb;have d2:=HBL.out.2.1.keep hbb;have d3:=HBL.out.2.2.keep hbb;have s3:=d3.lt;have e1:=d3.cell j hu;have e2:=d3.frozen j;have HD:=aA0 (And.intro d1 (And.intro d2 d3));clear d1 d2 d3 a0 a1;replace HB:=HB.trans hbb;clear hbb
     go_wp2_with fail
     go_roundg (x.kids.length-(j+1))
     case rel =>
      refine ⟨j+1,by omega,rfl,?_,by go_num,HB.setCell (by simp;omega) _,HD.out.1.other (by simp;omega) _,HD.out.2.1.other (by simp) _,?_⟩
      .rw [HST.out];congr 2;omega
      .have:=HD.out.2.2.set j (.int .i64 (aCx kinds inner x.kids[j]))
       have e:=bC7 (x.kids.map (aCx kinds inner)) j hj3 (by simpa using hjl)
       simp only [List.getElem_map] at e
       rw [e] at this;exact this
     case measure=>omega
    .obtain rfl:j=x.kids.length:=by omega
     have hd0:decide (x.kids.length<x.kids.length)=false:=by simp
     have a0:=HBL.out.2.1.cell 0 rfl;have a1:=HBL.out.2.2.cell 0 rfl;have a2:=HBL.out.2.2.cell 1 rfl;have a3:=HBL.out.2.2.cell 2 rfl;rw [List.take_of_length_le (by simp)] at a1 a2 a3
     rw [List.take_of_length_le (Nat.le_refl _)];clear HBL hj hjl
     go_wp2_with fail
     refine (aT7 x.head.op _ _ _ _ hop1 hop2).mono ?_
     rintro e w2 ⟨rfl,hbb⟩;replace HB:=HB.trans hbb
     go_wp2_with fail
     go_ret2
     refine ⟨bD9 ?_ ?_,HB⟩
     .rw [HKF.out];simp [List.getD_eq_getElem?_getD]
     .rw [HX.out];omega
theorem aMh {v lo hi:Int}:inB v lo hi=false↔v<lo∨hi<v:=by unfold inB;simp;omega
theorem bIo (A:Option Addr) (c:Nat) (es:List Term) (K:Option Addr) (ck:Nat) (kinds:List Int) (bound:Bool) (w:World) (hT:aCa w A es.length es) (hK:aCr w K kinds.length kinds) (hlen:es.length<=1000) :
  Calls prog 115 #[.slice A es.length c,.slice K kinds.length ck,.bool bound] w fun e w'=>e = .returned (.tuple #[.int .i64 (ofF es kinds bound).1,.int .i64 (ofF es kinds bound).2])/\Bel w w':=by
 have HT:=aA0 (fun w' (k:Bel w w')=>aCa.keep hT k);clear hT;have HK:=aA0 (fun w' (k:Bel w w')=>aCr.keep hK k);clear hK
 by_cases h6:6<kinds.length
 .have HF:Hid (ofF es kinds bound=(0,7)):=by show ofF es kinds bound=_;unfold ofF;rw [if_pos h6]
  have hd:decide (6<kinds.length)=true:=by simpa using h6
  go_enter func115,ntmps115
  go_wp2_with fail
  go_ret2
  rw [HF.out];exact ⟨rfl,Bel.refl _⟩
 .have hd:decide (6<kinds.length)=false:=by simpa using h6
  have h6':kinds.length<=6:=by omega
  go_enter func115,ntmps115
  go_wp2_with fail
  clear hd
  go_loopg [9,18] kinds.length (fun m _x z wr=>∃ j:Nat,j<=kinds.length/\m=kinds.length-j/\Hid ((kinds.take j).all aH1=true)/\z = .int .i64 j/\w=wr)
  case atStart=>exact ⟨0,by omega,rfl,rfl,rfl,rfl⟩
  case round =>
   obtain ⟨j,hj,rfl,HJ,rfl,rfl⟩:=hrel
   by_cases hlt:j<kinds.length
   .have hd0:decide (j<kinds.length)=true:=by simpa using hlt
    obtain ⟨b,o,rfl,hb,hc⟩:=(HK.out _ (Bel.refl _)).at_ j hlt;cases hk:aH1 kinds[j] with
    | false =>
     have HF:Hid (ofF es kinds bound=(0,7)):=by show ofF es kinds bound=_;unfold ofF;rw [if_neg h6,if_pos (aCh hlt hk)]
     go_wp2_with (go_at_call 112;refine (aFx _ _).mono ?_;rintro e w' ⟨rfl,rfl⟩)
     go_ret2
     rw [HF.out];exact ⟨rfl,Bel.refl _⟩
    | true =>
     have HN:=aA0 (aAp hlt HJ.out hk)
     go_wp2_with (go_at_call 112;refine (aFx _ _).mono ?_;rintro e w' ⟨rfl,rfl⟩)
     go_roundg (kinds.length-(j+1))
     case rel=>exact ⟨j+1,by omega,rfl,HN,by go_num,rfl⟩
     case measure=>omega
   .have hd0:decide (j<kinds.length)=false:=by simpa using hlt
    have HA:=aA0 (aC1 (by omega) HJ.out)
    clear HJ hlt;have HB:=Bel.refl w;cases hv:aD0 es kinds.length with
    | false =>
     have HF:Hid (ofF es kinds bound=(0,7)):=by show ofF es kinds bound=_;unfold ofF;rw [if_neg h6,if_neg (by rw [HA.out];decide),if_pos hv]
     go_wp2_with (go_at_call 114;refine (aI1 _ _ _ es _ _ (HT.out _ HB) (by omega)).mono ?_;rintro e w' ⟨rfl,hbb⟩;replace HB:=HB.trans hbb;clear hbb;rw [hv])
     go_ret2
     rw [HF.out];exact ⟨rfl,HB⟩
    | true =>
     obtain ⟨v1,v2,v3,v4,_,_⟩:=aK1 hv;have HV4:=aA0 v4;have HAT:=aA0 (At.whole v1 v2);have HVV:=aA0 hv
     have HF:Hid (ofF es kinds bound=if aCx kinds bound (aB9 es)=0 then (0,6) else (aCx kinds bound (aB9 es),0)):=by
      show ofF es kinds bound=_
      unfold ofF;rw [if_neg h6,if_neg (by rw [HA.out];decide),if_neg (by rw [hv];decide)]
     clear v1 v2 v3 v4 hv h6
     go_wp2_with (first
      | (go_at_call 114;refine (aI1 _ _ _ es _ _ (HT.out _ HB) (by omega)).mono ?_;rintro e w' ⟨rfl,hbb⟩;replace HB:=HB.trans hbb;clear hbb;rw [HVV.out])
      | (go_at_call 148;replace HB:=HB.alloc (.cells #[.slice A es.length c,.slice K kinds.length ck] 239);refine (bMc kinds (aB9 es) bound _ _ es K ck 0 _ HAT.out (HT.out _ HB) (HK.out _ HB) HV4.out hlen).mono ?_;rintro e w' ⟨rfl,hbb⟩;replace HB:=HB.trans hbb;clear hbb))
     all_goals (try simp only [beq_iff_eq,beq_eq_false_iff_ne] at *)
     all_goals (go_ret2;refine ⟨?_,HB⟩;rw [HF.out];simp_all)
def aDq (x:Var):Bool :=
 decide ((x.kind≠1/\(x.kind=2∨x.kind=3)/\x.lo=0/\x.hi=0/\x.perNode=0/\x.perID=0)
  ∨ (x.kind=1/\(0<=x.lo/\x.lo<=4096)/\(0<=x.perNode/\x.perNode<=255)/\(0<=x.perID/\x.perID<=255)/\(x.perNode=0∨x.perID=0) /\ -4096<=x.hi/\x.hi<=4096/\(x.perNode≠0∨x.perID≠0∨0<=x.hi)))
def bKg (x:Var):Value := .agg #[.string x.name,.int .i64 x.kind,.int .i64 x.lo,.int .i64 x.hi,.int .i64 x.perNode,.int .i64 x.perID]
theorem aRb (x:Var) (w:World):Calls prog 64 #[bKg x] w fun e w'=>e = .returned (.bool (aDq x))/\Bel w w':=by
 obtain ⟨name,kind,lo,hi,pn,pi⟩:=x;unfold bKg;dsimp only;have HF:Hid (aDq ⟨name,kind,lo,hi,pn,pi⟩=true↔_):=(decide_eq_true_iff);dsimp only at HF
 by_cases hk:kind=1
 .subst hk
  have hp:aH1 1=true:=rfl;go_enter func64,ntmps64
  go_wp2_with (first
   | (go_at_call 112;refine (aFx _ _).mono ?_;rintro e w' ⟨rfl,rfl⟩;rw [hp])
   | (go_at_call 113;refine (aI2 _ _ _ _).mono ?_;rintro e w' ⟨rfl,rfl⟩))
  all_goals (try simp only [beq_iff_eq,beq_eq_false_iff_ne,bne_iff_ne,bne_eq_false_iff_eq,aQu,aMh,Bool.not_eq_true',Bool.not_eq_eq_eq_not,Bool.not_true,Bool.not_false] at *)
  all_goals (go_ret;refine ⟨aA1 ?_,(Bel.refl _).alloc _⟩;rw [Bool.eq_iff_iff,HF.out];simp only [aQu,Bool.false_eq_true,false_iff,true_and];omega)
 .have hne:(kind != 1)=true:=by simpa using hk
  cases hkk:aH1 kind with
  | false =>
   have hk2:¬ (kind=1∨kind=2∨kind=3):=by
    intro h;unfold aH1 at hkk;simp at hkk;omega
   go_enter func64,ntmps64
   go_wp2_with (go_at_call 112;refine (aFx _ _).mono ?_;rintro e w' ⟨rfl,rfl⟩;rw [hkk])
   go_ret;refine ⟨aA1 ?_,(Bel.refl _).alloc _⟩
   symm
   rw [Bool.eq_false_iff,ne_eq,HF.out];omega
  | true =>
   have hk2:kind=2∨kind=3:=by
    unfold aH1 at hkk;simp at hkk;omega
   have HK2:=aA0 hk2;clear hk2;go_enter func64,ntmps64
   go_wp2_with (go_at_call 112;refine (aFx _ _).mono ?_;rintro e w' ⟨rfl,rfl⟩;rw [hkk])
   all_goals
    have hk2:=HK2.out;go_ret;refine ⟨aA1 ?_,(Bel.refl _).alloc _⟩
    rw [Bool.eq_iff_iff,HF.out];simp only [beq_iff_eq,Bool.false_eq_true,false_iff]
    omega
end Go.Proofs.YtmoebklkkjbigaaGreatDoor

