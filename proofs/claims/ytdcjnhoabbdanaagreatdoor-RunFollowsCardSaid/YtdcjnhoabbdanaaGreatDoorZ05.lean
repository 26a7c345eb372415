/- Merged. -/
import Derived.Test.YtdcjnhoabbdanaaGreatDoorZ03
import Derived.OneCell
set_option linter.unusedSimpArgs false
set_option linter.unnecessarySimpa false
set_option linter.unusedVariables false
set_option maxRecDepth 100000
set_option maxHeartbeats 1000000
open Go.Proofs.Tryz

namespace Go.Proofs.YtdcjnhoabbdanaaGreatDoor
open Go.RowKit
theorem aH4:(prog.info? 3).map (fun i=>(i.zero,i.size,i.bytes))=some (some (.int .i64 0),1,8):=by kernel_rfl
theorem aOo (f:FuncId) (num:Int->Int->Int) (hf:∀ op g w,0<=g->g<=1000000->Calls prog f #[.int .i64 op,.int .i64 g] w fun e w'=>e = .returned (.int .i64 (num op g))/\w=w')
  (hcall:∀ a b w,(callFunc f #[a,b]).run prog w = .ok (.enter f #[a,b]) w)
  (hn:∀ op g,0<=g->0<=num op g/\num op g<=g+1)
  (A:Option Addr) (n c:Nat) (es:List Term) (w:World) (h:aB0 w A n es) (hl:n<=1000000) :
  Calls prog 198 #[.slice A n c,.func (.func f) #[] #[]] w fun e w'=>e = .returned (.tuple #[.int .i64 (aDp num es),.bool (endF es 0==es.length)])/\Bel w w':=by
 obtain rfl:=h.1;have H:=aA0 h;clear h;have HF:=aA0 hf;clear hf;have HN:=aA0 hn;clear hn
 by_cases he:endF es 0=es.length
 .have hfin:aDp num es=(lev num es).headD 0:=by unfold aDp;rw [if_pos he]
  have HFin:=aA0 hfin;clear hfin;have HFull:=aA0 (aFj he);have hpos:0<es.length:=by have:=aSw es 0;omega
  have hd:(endF es 0 != es.length)=false:=by simpa using he
  have HE:=aA0 he;clear he;obtain ⟨i0,hi0,hz0,hzz,hz2'⟩:=info_parts aH4;go_enter func198,ntmps198
  go_wp2_with (go_at_call 175;refine (aMq _ _ _ es _ _ H.out hl).mono ?_;rintro e w' ⟨rfl,rfl⟩)
  go_loopg [6,7] es.length (fun g sv iv wr=>∃ (S:Option Addr) (sc:Nat) (st:List Int),g<=es.length/\Hid (lev num (es.drop g)=st)/\iv = .int .i64 ((g:Int)-1)/\sv = .slice S st.length sc/\Hid (wr.ownsRow w.heap.size 3 1 (.slice S st.length sc) st.length (st.map (Value.int .i64)))/\Bel w wr)
  case atStart=>exact ⟨none,0,[],Nat.le_refl _,by show lev num (es.drop es.length)=[];simp [lev],rfl,rfl,World.ownsRow_nil _ _ _ _,Bel.refl _⟩
  case round =>
   obtain ⟨S,sc,st,hg,HST,rfl,rfl,HO,hbel⟩:=hrel
   rcases Nat.eq_zero_or_pos gk with h0 | h0
   .subst h0
    have hlen:=HFull.out.lev_length num;have hst:=HST.out;rw [List.drop_zero] at hst;rw [hst] at hlen;obtain ⟨x,rfl⟩:∃ x,st=[x]:=List.length_eq_one_iff.1 (by omega)
    obtain ⟨g,rfl,_,_,hcell,_⟩:=aCn HO.out (j:=0) (u := .int .i64 x) rfl;have Hst:=aA0 hst;clear hst hlen;go_wp2
    go_ret2
    refine ⟨?_,hbel⟩
    rw [HFin.out,Hst.out,HE.out];simp
   .obtain ⟨i,rfl⟩:∃ i,gk=i+1:=⟨gk-1,by omega⟩
    have hi:i<es.length:=by omega
    obtain ⟨b,o,rfl,hb,hc1,hc2⟩:=(H.out.keep hbel).at_ i hi;obtain ⟨ha1,ha2⟩:=bA2 num HFull.out hi;obtain ⟨hb1,hb2⟩:=aR5 num HN.out (es.drop (i+1));rw [List.length_drop] at hb1;rw [HST.out] at ha2 hb1 hb2;obtain ⟨a,ha⟩:=Int.eq_ofNat_of_zero_le ha1;obtain ⟨hcap1,hcap2⟩:=aE3 HO.out;have hr1:a<=st.length:=by omega
    obtain ⟨r,hr⟩:∃ r:Nat,(st.length:Int)-a=r:=⟨st.length-a,by omega⟩
    have hr2:r<=st.length:=by omega
    have hst2:st.length<=1000000:=by omega
    obtain ⟨A2,hcut,hA2⟩:=bAw (P:=prog) underlying26 hi0 hzz S st.length sc r hr2 hcap1;have hup:=aQa (P:=prog) underlying26 hi0 S st.length sc r (by omega)
    have HA2:=aA0 (hA2 aHn wr st (aKb HO.out));clear hA2;have HB:=aA0 hb2;clear hb2;have hG1:=aJd (st.drop r);have hG2:=aT0 (st.drop r) 1000000 (by omega) (fun x hx=>by have:=HB.out x (List.mem_of_mem_drop hx);rw [List.length_drop] at this;omega)
    generalize hG:aDf (st.drop r)=G at *
    have HL:Hid (lev num (es.drop i)=st.take r++[num es[i].op G]):=by
     show lev num (es.drop i)=st.take r++[num es[i].op G]
     rw [List.drop_eq_getElem_cons hi];simp only [lev]
     rw [HST.out,ha,show st.length-Int.toNat (a:Int)=r by omega,hG]
    have HG:=aA0 hG;clear hG;clear ha1 ha2
    go_wp2_with (first
     | (go_at_call 197;refine (aHv _ _).mono ?_;rintro e w' ⟨rfl,rfl⟩))
    go_loopg [9,37] (st.length-r) (fun g gr iv wi=>∃ (k:Nat) (z:Int),k+g=st.length-r/\0<=z/\z<=1000000/\Hid ((st.drop (r+k)).foldl max z=G)/\gr = .int .i64 z/\iv = .int .i64 k/\wr=wi)
    case atStart=>exact ⟨0,0,by omega,by omega,by omega,HG,rfl,rfl,rfl⟩
    case round =>
     obtain ⟨k,z,hk,hz1,hz2,HK,rfl,rfl,rfl⟩:=hrel
     by_cases hlt:k<st.length-r
     .have hkl:k<(st.drop r).length:=by rw [List.length_drop];omega
      obtain ⟨b2,o2,rfl,hb2,hc3⟩:=aBr.at_ HA2.out k hkl;have hx:st.drop (r+k)=(st.drop r)[k] :: st.drop (r+(k+1)):=by rw [<- List.drop_drop,List.drop_eq_getElem_cons hkl,List.drop_drop]
      have hxb:=HB.out (st.drop r)[k] (List.mem_of_mem_drop (List.getElem_mem _));rw [List.length_drop] at hxb;generalize (st.drop r)[k]=x at *;have hx1:0<=x:=hxb.1;have hx2:x<=1000000:=by omega
      have HX:=aA0 hx;clear hx hxb;go_wp2
      all_goals
       go_roundg (gk-1)
       case rel=>exact ⟨k+1,_,by omega,by omega,by omega,by
        have hm:=HK.out;rw [HX.out,List.foldl_cons] at hm
        first
         | (rw [Int.max_eq_left (by assumption)] at hm;exact hm)
         | (rw [Int.max_eq_right (by omega)] at hm;exact hm),rfl,by go_num,rfl⟩
       case measure=>omega
     .obtain rfl:z=G:=by
       have hm:=HK.out;rw [List.drop_eq_nil_of_le (by omega)] at hm
       exact hm
      go_wp2
      go_region_law (first
       | (refine aAh _ rfl (.tmp 47) (.tmp 56) 26 rfl w.heap.size 3 i0 (.int .i64 0) 1 8 underlying26 hi0 hz0 hzz hz2' rfl (by decide) S r sc ((st.map (Value.int .i64)).take (r*1)) (by simp [Act.eval]) ((aM6 HO.out r hr2).alloc _).drew wr.heap.size #[.int .i64 (num es[i].op z)] 3 (0,0) (by simp [Act.eval]) (aJz _ _) rfl (aNc _ _) (by unfold maxLen;omega) (by omega) (by have:=hbel.size;simp;omega) ?_;intro S' sc' w2 hown2 hgr2 hat2)
       | (go_simp;refine (HF.out _ _ _ hz1 hz2).mono ?_;rintro e w' ⟨rfl,rfl⟩))
      go_wp2
      go_roundg i
      case rel=>exact ⟨S',sc',st.take r++[num es[i].op z],by omega,HL,rfl,by simp [Nat.min_eq_left hr2],by
       show World.ownsRow _ _ _ _ _ _ _
       simpa [Nat.min_eq_left hr2,List.map_take] using hown2,(hbel.alloc _).drew.push ((aM6 HO.out r hr2).alloc _).drew hgr2⟩
      case measure=>omega
 .have hfin:aDp num es=0:=by unfold aDp;rw [if_neg he]
  have HFin:=aA0 hfin;clear hfin;have hd:(endF es 0 != es.length)=true:=by simpa using he
  have Hd2:Hid ((endF es 0==(es.length:Int))=false):=by show (endF es 0==(es.length:Int))=false;simpa using he
  clear he;go_enter func198,ntmps198
  go_wp2_with (go_at_call 175;refine (aMq _ _ _ es _ _ H.out hl).mono ?_;rintro e w' ⟨rfl,rfl⟩)
  go_ret2
  refine ⟨?_,Bel.refl _⟩
  rw [HFin.out,Hd2.out];rfl
theorem aQq (A:Option Addr) (n c:Nat) (es:List Term) (w:World) (h:aB0 w A n es) (hl:n<=1000000) :
  Calls prog 177 #[.slice A n c] w fun e w'=>e = .returned (.int .i64 (aDh es))/\Bel w w':=by
 have H:=aA0 h;clear h;go_enter func177,ntmps177
 go_wp2_with (go_at_call 198;refine (aOo 199 aCj (fun op g w h0 h1=>aQp op g w h0 h1) (fun _ _ _=>by kernel_rfl) aMm _ _ _ es _ H.out hl).mono ?_;rintro e w1 ⟨rfl,hb⟩)
 go_ret;exact ⟨rfl,hb⟩
theorem aZh (A:Option Addr) (n c:Nat) (es:List Term) (w:World) (h:aB0 w A n es) (hl:n<=1000000) :
  Calls prog 178 #[.slice A n c] w fun e w'=>e = .returned (.int .i64 (aHp es))/\Bel w w':=by
 have H:=aA0 h;clear h;go_enter func178,ntmps178
 go_wp2_with (go_at_call 198;refine (aOo 200 aCz (fun op g w h0 h1=>aTa op g w h0 h1) (fun _ _ _=>by kernel_rfl) aOq _ _ _ es _ H.out hl).mono ?_;rintro e w1 ⟨rfl,hb⟩)
 go_ret;exact ⟨rfl,hb⟩
theorem aGs (A:Option Addr) (n c:Nat) (es:List Term) (vars:Int) (w:World) (h:aB0 w A n es) (hl:n<=1000000) :
  Calls prog 161 #[.slice A n c,.int .i64 vars] w fun e w'=>e = .returned (.bool (aB2 es vars))/\Bel w w':=by
 obtain rfl:=h.1;have H:=aA0 h;clear h
 by_cases h200:200<es.length
 .have HF:Hid (aB2 es vars=false):=by
   show aB2 es vars=false
   unfold aB2;rw [show decide (es.length<=200)=false by simp;omega];rfl
  have hd:decide (200<es.length)=true:=by simpa using h200
  go_enter func161,ntmps161;go_wp2;go_ret;exact ⟨aA2 HF.out.symm,Bel.refl _⟩
 .have hd:decide (200<es.length)=false:=by simpa using h200
  by_cases he:endF es 0=es.length
  .have hd2:(endF es 0 != (es.length:Int))=false:=by simpa using he
   have HF:Hid (aB2 es vars=(es.all (aFx · vars)&&decide (aDh es<=24)&&decide (aHp es<=2))):=by
    show aB2 es vars=_
    unfold aB2;rw [show decide (es.length<=200)=true by simp;omega,show (endF es 0==(es.length:Int))=true by simpa using he]
    rfl
   clear he;go_enter func161,ntmps161
   go_wp2_with (go_at_call 175;refine (aMq _ _ _ es _ _ H.out hl).mono ?_;rintro e w' ⟨rfl,rfl⟩)
   go_loopg [19] es.length (fun g iv wr=>∃ k:Nat,k+g=es.length/\iv = .int .i64 k/\Hid (es.all (aFx · vars)=(es.drop k).all (aFx · vars))/\Bel w wr)
   case atStart=>exact ⟨0,by omega,rfl,rfl,Bel.refl _⟩
   case round =>
    obtain ⟨k,hk,rfl,HK,hbel⟩:=hrel
    by_cases hlt:k<es.length
    .obtain ⟨b,o,rfl,hb,hc1,hc2⟩:=(H.out.keep hbel).at_ k hlt
     have hstep:Hid ((es.drop k).all (aFx · vars)=(aFx es[k] vars&&(es.drop (k+1)).all (aFx · vars))):=by
      show (es.drop k).all (aFx · vars)=_
      rw [List.drop_eq_getElem_cons hlt];rfl
     cases harg:aFx es[k] vars with
     | true =>
      go_wp2_with (go_at_call 176;refine (aL6 es[k] _ _).mono ?_;rintro e w2 ⟨rfl,hb2⟩;rw [harg])
      go_roundg (gk-1)
      case rel=>exact ⟨k+1,by omega,by go_num,by show _=_;rw [HK.out,hstep.out,harg];rfl,(hbel.alloc _).trans hb2⟩
      case measure=>omega
     | false =>
      go_wp2_with (go_at_call 176;refine (aL6 es[k] _ _).mono ?_;rintro e w2 ⟨rfl,hb2⟩;rw [harg])
      go_ret;refine ⟨aA2 ?_,(hbel.alloc _).trans hb2⟩
      rw [HF.out,HK.out,hstep.out,harg];rfl
    .have HF2:Hid (aB2 es vars=(decide (aDh es<=24)&&decide (aHp es<=2))):=by
      show aB2 es vars=_
      rw [HF.out,HK.out,List.drop_eq_nil_of_le (by omega)];rfl
     clear HF
     by_cases h24:aDh es<=24
     .go_wp2_with (first
       | (go_at_call 177;refine (aQq _ _ _ es _ (H.out.keep hbel) hl).mono ?_;rintro e w2 ⟨rfl,hb2⟩)
       | (go_at_call 178;refine (aZh _ _ _ es _ (H.out.keep (hbel.trans hb2)) hl).mono ?_;rintro e w3 ⟨rfl,hb3⟩))
      go_ret;refine ⟨aA2 ?_,(hbel.trans hb2).trans hb3⟩
      rw [HF2.out,show decide (aDh es<=24)=true by simpa using h24];rfl
     .have hd3:decide (aDh es<=24)=false:=by simpa using h24
      go_wp2_with (go_at_call 177;refine (aQq _ _ _ es _ (H.out.keep hbel) hl).mono ?_;rintro e w2 ⟨rfl,hb2⟩)
      go_ret;refine ⟨aA2 ?_,hbel.trans hb2⟩
      rw [HF2.out,hd3];rfl
  .have hd2:(endF es 0 != (es.length:Int))=true:=by simpa using he
   have HF:Hid (aB2 es vars=false):=by
    show aB2 es vars=false
    unfold aB2;rw [show (endF es 0==(es.length:Int))=false by simpa using he];simp
   clear he;go_enter func161,ntmps161
   go_wp2_with (go_at_call 175;refine (aMq _ _ _ es _ _ H.out hl).mono ?_;rintro e w' ⟨rfl,rfl⟩)
   go_ret;exact ⟨aA2 HF.out.symm,Bel.refl _⟩
theorem aWm:(prog.info? 4).map (fun i=>(i.zero,i.size,i.bytes))=some (some (.bool false),1,1):=by kernel_rfl
def Two (B:Nat) (w:World) (L O:Value) (s:List (Int × Bool)):Prop :=
 w.ownsRow B 3 1 L s.length (((s.map (·.1)).reverse).map (Value.int .i64))/\w.ownsRow B 4 1 O s.length (((s.map (·.2)).reverse).map Value.bool)
theorem aEs {w:World} {B e e' size size' n n':Nat} {v v':Value} {xs xs':List Value} (h:w.ownsRow B e size v n xs) (h':w.ownsRow B e' size' v' n' xs') (hne:e≠e'):v'.ownBlock=none∨v'.ownBlock≠v.ownBlock:=by
 rcases h.2 with ⟨rfl,_⟩ | ⟨g,cap,cur,rfl,_,hg,_⟩
 .rcases h'.2 with ⟨rfl,_⟩ | ⟨g',cap',cur',rfl,_,hg',_⟩
  .exact .inl rfl
  .right;simp [Value.ownBlock]
 .rcases h'.2 with ⟨rfl,_⟩ | ⟨g',cap',cur',rfl,_,hg',_⟩
  .exact .inl rfl
  .right
   simp only [Value.ownBlock]
   intro he
   injection he with he
   subst he;rw [hg] at hg';injection hg' with hg'
   injection hg' with _ ht
   exact hne ht
theorem Two.second {B:Nat} {wr w2:World} {L O:Value} {s:List (Int × Bool)} (hT:Two B wr L O s) (x:Obj) (hg:(wr.alloc x).drew.grownBy w2 L.ownBlock) :
  w2.ownsRow B 4 1 O s.length (((s.map (·.2)).reverse).map Value.bool) :=
 ((hT.2.alloc x).drew).kept hg (aEs (hT.1.alloc x).drew (hT.2.alloc x).drew (by decide))
theorem Two.first {B:Nat} {w2 w3:World} {L O:Value} {n n':Nat} {xs ys:List Value} (h1:w2.ownsRow B 3 1 L n xs) (h2:w2.ownsRow B 4 1 O n' ys) (x:Obj) (hg:(w2.alloc x).grownBy w3 O.ownBlock) :
  w3.ownsRow B 3 1 L n xs :=
 (h1.alloc x).kept hg (aEs (h2.alloc x) (h1.alloc x) (by decide))
theorem Two.pop {B:Nat} {w:World} {L O:Option Addr} {lc oc:Nat} {x:Int × Bool} {r:List (Int × Bool)} (h:Two B w (.slice L (x :: r).length lc) (.slice O (x :: r).length oc) (x :: r)) :
  Two B w (.slice L r.length lc) (.slice O r.length oc) r:=by
 refine ⟨?_,?_⟩
 .have:=aM6 h.1 r.length (by simp)
  simpa using this
 .have:=aM6 h.2 r.length (by simp)
  simpa using this
theorem Two.drewN {B:Nat} {w:World} {L O:Value} {s:List (Int × Bool)} (h:Two B w L O s) (k:Nat):Two B (w.drewN k) L O s:=h
theorem Two.dec {B:Nat} {w:World} {g:Nat} {O:Value} {lc:Nat} {c:Int} {b:Bool} {r:List (Int × Bool)} (h:Two B w (.slice (some ⟨g,0,none⟩) ((c,b) :: r).length lc) O ((c,b) :: r)) :
  Two B (w.setCell ⟨g,r.length,none⟩ (.int .i64 (c-1))) (.slice (some ⟨g,0,none⟩) ((c-1,b) :: r).length lc) O ((c-1,b) :: r):=by
 refine ⟨?_,?_⟩
 .have h1:=h.1.stored r.length (.int .i64 (c-1))
  exact (by simpa using h1.1)
 .have hne:=aEs h.1 h.2 (by decide)
  have h2:=ownsRow_setCell_other h.2 (a:=⟨g,r.length,none⟩) (by
   rcases hne with hne | hne
   .rw [hne];simp
   .simpa [Value.ownBlock] using hne) (.int .i64 (c-1))
  simpa using h2
theorem aKi (A:Option Addr) (n c:Nat) (es:List Term) (w:World) (h:aB0 w A n es) (hl:n<=1000000) (har:∀ t∈es,0<=aAg t.op) :
  Calls prog 211 #[.slice A n c] w fun e w'=>e = .returned (.tuple #[.int .i64 (aLx es [] 0 0).1,.int .i64 (aLx es [] 0 0).2])/\Bel w w':=by
 obtain rfl:=h.1;have H:=aA0 h;clear h;have HA:=aA0 har;clear har;obtain ⟨i0,hi0,hi1,hi2,hi3⟩:=info_parts aH4;obtain ⟨j0,hj0,hj1,hj2,hj3⟩:=info_parts aWm;go_enter func211,ntmps211;go_wp2
 go_loopg [4,5,6,7,8] es.length (fun g dv nv lv ov iv wr=>∃ (k:Nat) (d m:Int) (L O:Option Addr) (lc oc:Nat) (s:List (Int × Bool)),k+g=es.length/\s.length<=k/\0<=d/\d<=k/\0<=m/\m<=k/\dv = .int .i64 d/\nv = .int .i64 m/\lv = .slice L s.length lc/\ov = .slice O s.length oc/\iv = .int .i64 k/\Hid (aUn s)/\Hid (aLx (es.drop k) s d m=aLx es [] 0 0)/\Hid (Two w.heap.size wr (.slice L s.length lc) (.slice O s.length oc) s)/\Bel w wr)
 case atStart=>exact ⟨0,0,0,none,none,0,0,[],by omega,by simp,by omega,by omega,by omega,by omega,rfl,rfl,rfl,rfl,rfl,fun _ h=>by simp at h,rfl,⟨World.ownsRow_nil _ _ _ _,World.ownsRow_nil _ _ _ _⟩,Bel.refl _⟩
 case round =>
  obtain ⟨k,d,m,L,O,lc,oc,s,hk,hsk,hd0,hd1,hm0,hm1,rfl,rfl,rfl,rfl,rfl,HW,HR,HT,hbel⟩:=hrel;generalize gk=g0 at *
  by_cases hlt:k<es.length
  .obtain ⟨b,o,rfl,hb,hcc⟩:=H.out.atB k hlt
   have HC:=aA0 hcc;clear hcc;have hs6:s.length<=1000000:=by omega
   have hbs:=hbel.size;have hbr:b<wr.heap.size:=by omega
   go_upto_region 7 with fail
   go_cut [6,7] (fun lv ov wc=>∃ (s1:List (Int × Bool)) (L O:Option Addr) (lc oc:Nat),Hid (s1=(aAg es[k].op,aAc es[k].op) :: s)/\lv = .slice L s1.length lc/\ov = .slice O s1.length oc/\Hid (Two w.heap.size wc (.slice L s1.length lc) (.slice O s1.length oc) s1)/\Bel w wc)
   case first =>
    have hc1:=(HC.out wr hbel).1
    go_region_law (first
     | (refine aAh _ rfl (.tmp 17) (.tmp 24) 26 rfl w.heap.size 3 i0 (.int .i64 0) 1 8 underlying26 hi0 hi1 hi2 hi3 rfl (by decide) L s.length lc (((s.map (·.1)).reverse).map (Value.int .i64)) (by simp [Act.eval]) (HT.out.1.alloc _).drew wr.heap.size #[.int .i64 (aAg es[k].op)] 3 (0,0) (by simp [Act.eval]) (aJz _ _) rfl (aNc _ _) (by unfold maxLen;omega) (by omega) (by simp;omega) ?_;intro L' lc' w2 hown2 hgr2 hat2;have hb2:Bel w w2:=(hbel.alloc _).drew.push (HT.out.1.alloc _).drew hgr2;have hbs2:=hb2.size;have HO2:=aA0 (HT.out.second _ hgr2);have hc1':=(HC.out w2 hb2).1)
     | (refine aAh _ rfl (.tmp 26) (.tmp 33) 217 rfl w.heap.size 4 j0 (.bool false) 1 1 underlying217 hj0 hj1 hj2 hj3 rfl (by decide) O s.length oc (((s.map (·.2)).reverse).map Value.bool) (by simp [Act.eval]) (HO2.out.alloc _) w2.heap.size #[.bool (aAc es[k].op)] 4 (0,0) (by simp [Act.eval]) (aEn _ _) rfl (aZl _) (by unfold maxLen;omega) (by omega) (by simp;omega) ?_;intro O' oc' w3 hown3 hgr3 hat3;have HL3:=aA0 (Two.first hown2 HO2.out _ hgr3);have hb3:Bel w w3:=(hb2.alloc _).push (HO2.out.alloc _) hgr3)
     | (go_simp;go_at_call 132;refine (aAr _ _).mono ?_;rintro e w' ⟨rfl,rfl⟩)
     | (go_simp;go_at_call 134;refine (aDn _ _).mono ?_;rintro e w' ⟨rfl,rfl⟩))
    all_goals
     go_wp2_with fail
     go_meet
     exact ⟨(aAg es[k].op,aAc es[k].op) :: s,L',O',lc',oc',rfl,rfl,rfl,⟨by simpa using HL3.out,by simpa using hown3⟩,hb3⟩
   case rest =>
    obtain ⟨s1,L1,O1,lc1,oc1,HS1,rfl,rfl,HT1,hb1⟩:=hcut;have hs1:s1.length=s.length+1:=by rw [HS1.out];rfl
    have hs2:s1.length<=1000001:=by omega
    have HR1:Hid (aLx (es.drop (k+1)) (aF2 s1) (max d (s1.length:Int)) (max m (aFk s1))=aLx es [] 0 0):=by
     show aLx (es.drop (k+1)) (aF2 s1) (max d (s1.length:Int)) (max m (aFk s1))=aLx es [] 0 0
     rw [<- HR.out,List.drop_eq_getElem_cons hlt,HS1.out];rfl
    have HN1:Hid (aUn (aF2 s1)/\(aF2 s1).length<=s.length+1):=by
     show aUn (aF2 s1)/\(aF2 s1).length<=s.length+1
     have h0:=HA.out es[k] (List.getElem_mem _);have h3:=(aGw es[k].op).2;rw [HS1.out];exact aOr HW.out h0 h3
    have HSh:Hid (bAd s1):=by
     show bAd s1
     have h0:=HA.out es[k] (List.getElem_mem _);have h3:=(aGw es[k].op).2;rw [HS1.out];exact ⟨h0,h3,HW.out⟩
    have hin:=aVa s1;obtain ⟨hin0,hin1⟩:=hin;generalize hI:aFk s1=I at *;have HI:=aA0 hI;clear hI;have Hs1:=aA0 hs1;clear hs1
    go_wp2_with fail
    go_loopg [9,10] s1.length (fun g zv qv wi=>∃ (q:Nat) (z:Int),q+g=s1.length/\0<=z/\z<=q/\Hid (z+bA0 (((s1.map (·.2)).reverse).drop q)=I)/\zv = .int .i64 z/\qv = .int .i64 q/\wc=wi)
    case atStart=>exact ⟨0,0,by omega,by omega,by omega,by show _=_;rw [List.drop_zero,aQn,HI.out];omega,rfl,rfl,rfl⟩
    case round =>
     obtain ⟨q,z,hq,hz0,hz1,HZ,rfl,rfl,rfl⟩:=hrel
     by_cases hql:q<s1.length
     .have hql2:q<((s1.map (·.2)).reverse).length:=by simpa using hql
      obtain ⟨b2,o2,rfl,hb2,hc2⟩:=(aXo HT1.out.2).at_ q hql2;have hx:((s1.map (·.2)).reverse).drop q=((s1.map (·.2)).reverse)[q] :: ((s1.map (·.2)).reverse).drop (q+1):=List.drop_eq_getElem_cons hql2;generalize ((s1.map (·.2)).reverse)[q]=x at *;have HX:=aA0 hx;clear hx;cases x
      .go_wp2
       go_roundg (gk-1)
       case rel=>exact ⟨q+1,z,by omega,by omega,by omega,by show _=_;rw [<- HZ.out,HX.out,aQm];simp,rfl,by go_num,rfl⟩
       case measure=>omega
      .go_wp2
       go_roundg (gk-1)
       case rel=>exact ⟨q+1,z+1,by omega,by omega,by omega,by show _=_;rw [<- HZ.out,HX.out,aQm];simp;omega,rfl,by go_num,rfl⟩
       case measure=>omega
     .obtain rfl:z=I:=by
       have:=HZ.out;rw [List.drop_eq_nil_of_le (by simp;omega)] at this
       simpa [bA0] using this
      clear hz0 hz1
      go_upto_region 14 with fail
      go_cut [4,5] (fun dv nv wd=>dv = .int .i64 (max d (s1.length:Int))/\nv = .int .i64 (max m z)/\wc=wd)
      case first =>
       go_wp2_with fail
       all_goals
        go_meet
        refine ⟨?_,?_,rfl⟩ <;> first | (rw [Int.max_eq_left (by omega)];done) | (rw [Int.max_eq_right (by omega)];done)
      case rest =>
       rename_i wd
       obtain ⟨rfl,rfl,rfl⟩:=hcut;obtain ⟨D,hD⟩:∃ D,max d (s1.length:Int)=D:=⟨_,rfl⟩;obtain ⟨M,hM⟩:∃ M,max m z=M:=⟨_,rfl⟩;have hD0:0<=D/\D<=k+1:=by have:=Hs1.out;omega
       have hM0:0<=M/\M<=k+1:=by have:=Hs1.out;omega
       obtain ⟨hD1,hD2⟩:=hD0;obtain ⟨hM1,hM2⟩:=hM0;have HR2:=HR1.out;rw [hD,hM] at HR2;have HR3:=aA0 HR2;clear HR2 HR1;rw [hD,hM];clear hD hM;have hNL:(aF2 s1).length<=k+1:=by have:=HN1.out.2;omega
       have HNW:=aA0 HN1.out.1;clear HN1;generalize hnorm:aF2 s1=s2 at *;have HNorm:=aA0 hnorm;clear hnorm
       go_wp2_with fail
       go_loopg [6,7] s1.length (fun g lv ov wi=>∃ (L O:Option Addr) (lc oc:Nat) (s:List (Int × Bool)),g=s.length/\s.length<=1000001/\Hid (aF2 s=s2)/\Hid (bAd s)/\lv = .slice L s.length lc/\ov = .slice O s.length oc/\Hid (Two w.heap.size wi (.slice L s.length lc) (.slice O s.length oc) s)/\Bel w wi)
       case atStart=>exact ⟨L1,O1,lc1,oc1,s1,rfl,hs2,HNorm,HSh,rfl,rfl,HT1,hb1⟩
       case round =>
        clear HT1 hb1 HS1 HSh HNorm HI Hs1 HZ HT;obtain ⟨L2,O2,lc2,oc2,s3,rfl,hs3,HN3,HS3,rfl,rfl,HT3,hb3⟩:=hrel
        rcases s3 with _ | ⟨⟨c3,b3⟩,r⟩
        .obtain rfl:s2=[]:=HN3.out.symm
         go_wp2_with fail
         go_roundg (g0-1)
         case rel=>exact ⟨k+1,D,M,L2,O2,lc2,oc2,[],by omega,by simp,hD1,by omega,hM1,by omega,rfl,rfl,rfl,rfl,by go_num,HNW,HR3,HT3,hb3⟩
         case measure=>omega
        .obtain ⟨hc0,hc3,hWr⟩:=HS3.out
         have HWr:=aA0 hWr;clear hWr;have hr6:r.length<=1000000:=by simp at hs3;omega
         obtain ⟨gL,rfl,hgL0,hgL1,hcellL,hfrL⟩:=aCn HT3.out.1 (j:=r.length) (u := .int .i64 c3) (by simp)
         obtain ⟨hcapL,hcapL2⟩:=aE3 HT3.out.1;obtain ⟨hcapO,hcapO2⟩:=aE3 HT3.out.2
         by_cases hz:c3=0
         .subst hz
          have hcl:r.length<=lc2:=by simp at hcapL;omega
          have hco:r.length<=oc2:=by simp at hcapO;omega
          have hu1:=aQa (P:=prog) underlying26 hi0 (some ⟨gL,0,none⟩) ((0,b3) :: r).length lc2 r.length hcl;have hu2:=aQa (P:=prog) underlying217 hj0 O2 ((0,b3) :: r).length oc2 r.length hco;have hw1:IntKind.i64.wrap ((r.length:Int)+1-1)=r.length:=by rw [IntWalk.i64_in _ (by omega)];omega
          have hw2:IntKind.i64.wrap (r.length:Int)=r.length:=IntWalk.i64_in _ (by omega)
          clear hcapL hcapO hcapL2 hcapO2;have HTP:=aA0 HT3.out.pop;have HTN:=fun nq=>aA0 (HTP.out.drewN nq);have HTN2:=aA0 HTN;clear HTN
          go_wp2_with fail
          go_quiet (fail)
          clear hu1 hu2 hw1 hw2
          rcases r with _ | ⟨⟨c4,b4⟩,r4⟩
          .go_wp2_with fail
           go_roundg 0
           case rel=>exact ⟨some ⟨gL,0,none⟩,O2,lc2,oc2,[],rfl,by simp,by show aF2 []=s2;rw [<- HN3.out,aO7];rfl,trivial,rfl,rfl,HTN2.out nq,hb3.drewN nq⟩
           case measure=>simp
          .obtain ⟨hc40,hc43⟩:=HWr.out (c4,b4) (by simp)
           obtain ⟨gL',e1,_,_,hcell4,hfr4⟩:=aCn HTP.out.1 (j:=r4.length) (u := .int .i64 c4) (by simp)
           obtain rfl:gL=gL':=by simpa using e1
           clear e1;have hr4:r4.length<=1000000:=by simp at hr6;omega
           go_wp2_with fail
           go_roundg (r4.length+1)
           case rel=>exact ⟨some ⟨gL,0,none⟩,O2,lc2,oc2,(c4-1,b4) :: r4,rfl,by simp;omega,by show aF2 ((c4-1,b4) :: r4)=s2;rw [<- HN3.out,aVh],⟨by omega,by omega,HWr.out.tail⟩,rfl,rfl,((HTN2.out nq).out).dec,(hb3.drewN nq).setCell (by simpa using hgL0) _⟩
           case measure=>simp
         .have hzb:(c3==0)=false:=by simpa using hz
          obtain rfl:s2=(c3,b3) :: r:=by rw [<- HN3.out,aRe _ _ _ hz]
          go_wp2_with fail
          go_roundg (g0-1)
          case rel=>exact ⟨k+1,D,M,some ⟨gL,0,none⟩,O2,lc2,oc2,(c3,b3) :: r,by omega,hNL,hD1,by omega,hM1,by omega,rfl,rfl,rfl,rfl,by go_num,HNW,HR3,HT3,hb3⟩
          case measure=>omega
  .go_wp2
   go_ret2
   refine ⟨?_,hbel⟩
   have hr:=HR.out;rw [List.drop_eq_nil_of_le (by omega)] at hr
   rw [<- hr];rfl
end Go.Proofs.YtdcjnhoabbdanaaGreatDoor

