/- Merged. -/
import Derived.Test.YtmoebklkkjbigaaGreatDoorZ03
set_option linter.unusedSimpArgs false
set_option linter.unnecessarySimpa false
set_option linter.unusedVariables false
set_option maxRecDepth 100000
set_option maxHeartbeats 400000
open Go.Proofs.Tryz

namespace Go.Proofs.YtmoebklkkjbigaaGreatDoor
open Go.RowKit
theorem aKr:(prog.info? 3).map (fun i=>(i.zero,i.size,i.bytes))=some (some (.int .i64 0),1,8):=by kernel_rfl
theorem aT3 (f:FuncId) (num:Int->Int->Int) (hf:∀ op g w,0<=g->g<=1000000->Calls prog f #[.int .i64 op,.int .i64 g] w fun e w'=>e = .returned (.int .i64 (num op g))/\w=w')
  (hcall:∀ a b w,(callFunc f #[a,b]).run prog w = .ok (.enter f #[a,b]) w)
  (hn:∀ op g,0<=g->0<=num op g/\num op g<=g+1)
  (A:Option Addr) (n c:Nat) (es:List Term) (w:World) (h:aCd w A n es) (hl:n<=1000000) :
  Calls prog 169 #[.slice A n c,.func (.func f) #[] #[]] w fun e w'=>e = .returned (.tuple #[.int .i64 (aGy num es),.bool (endF es 0==es.length)])/\Bel w w':=by
 obtain rfl:=h.1;have H:=aA0 h;clear h;have HF:=aA0 hf;clear hf;have HN:=aA0 hn;clear hn
 by_cases he:endF es 0=es.length
 .have hfin:aGy num es=(lev num es).headD 0:=by unfold aGy;rw [if_pos he]
  have HFin:=aA0 hfin;clear hfin;have HFull:=aA0 (aQv he);have hpos:0<es.length:=by have:=bNx es 0;omega
  have hd:(endF es 0 != es.length)=false:=by simpa using he
  have HE:=aA0 he;clear he;obtain ⟨i0,hi0,hz0,hzz,hz2'⟩:=info_parts aKr;go_enter func169,ntmps169
  go_wp2_with (go_at_call 144;refine (aQs _ _ _ es _ _ H.out hl).mono ?_;rintro e w' ⟨rfl,rfl⟩)
  go_loopg [6,7] es.length (fun g sv iv wr=>∃ (S:Option Addr) (sc:Nat) (st:List Int),g<=es.length/\Hid (lev num (es.drop g)=st)/\iv = .int .i64 ((g:Int)-1)/\sv = .slice S st.length sc/\Hid (wr.ownsRow w.heap.size 3 1 (.slice S st.length sc) st.length (st.map (Value.int .i64)))/\Bel w wr)
  case atStart=>exact ⟨none,0,[],Nat.le_refl _,by show lev num (es.drop es.length)=[];simp [lev],rfl,rfl,World.ownsRow_nil _ _ _ _,Bel.refl _⟩
  case round =>
   obtain ⟨S,sc,st,hg,HST,rfl,rfl,HO,hbel⟩:=hrel
   rcases Nat.eq_zero_or_pos gk with h0 | h0
   .subst h0
    have hlen:=HFull.out.lev_length num;have hst:=HST.out;rw [List.drop_zero] at hst;rw [hst] at hlen;obtain ⟨x,rfl⟩:∃ x,st=[x]:=List.length_eq_one_iff.1 (by omega)
    obtain ⟨g,rfl,_,_,hcell,_⟩:=aAn HO.out (j:=0) (u := .int .i64 x) rfl;have Hst:=aA0 hst;clear hst hlen;go_wp2
    go_ret2
    refine ⟨?_,hbel⟩
    rw [HFin.out,Hst.out,HE.out];simp
   .obtain ⟨i,rfl⟩:∃ i,gk=i+1:=⟨gk-1,by omega⟩
    have hi:i<es.length:=by omega
    obtain ⟨b,o,rfl,hb,hc1,hc2⟩:=(H.out.keep hbel).at_ i hi;obtain ⟨ha1,ha2⟩:=bPl num HFull.out hi;obtain ⟨hb1,hb2⟩:=bIb num HN.out (es.drop (i+1));rw [List.length_drop] at hb1;rw [HST.out] at ha2 hb1 hb2;obtain ⟨a,ha⟩:=Int.eq_ofNat_of_zero_le ha1;obtain ⟨hcap1,hcap2⟩:=aCv HO.out;have hr1:a<=st.length:=by omega
    obtain ⟨r,hr⟩:∃ r:Nat,(st.length:Int)-a=r:=⟨st.length-a,by omega⟩
    have hr2:r<=st.length:=by omega
    have hst2:st.length<=1000000:=by omega
    obtain ⟨A2,hcut,hA2⟩:=bJn (P:=prog) underlying22 hi0 hzz S st.length sc r hr2 hcap1;have hup:=bMq (P:=prog) underlying22 hi0 S st.length sc r (by omega)
    have HA2:=aA0 (hA2 aJd wr st (aVb HO.out));clear hA2;have HB:=aA0 hb2;clear hb2;have hG1:=aLm (st.drop r);have hG2:=bAd (st.drop r) 1000000 (by omega) (fun x hx=>by have:=HB.out x (List.mem_of_mem_drop hx);rw [List.length_drop] at this;omega)
    generalize hG:aFd (st.drop r)=G at *
    have HL:Hid (lev num (es.drop i)=st.take r++[num es[i].op G]):=by
     show lev num (es.drop i)=st.take r++[num es[i].op G]
     rw [List.drop_eq_getElem_cons hi];simp only [lev]
     rw [HST.out,ha,show st.length-Int.toNat (a:Int)=r by omega,hG]
    have HG:=aA0 hG;clear hG;clear ha1 ha2
    go_wp2_with (first
     | (go_at_call 168;refine (aJj _ _).mono ?_;rintro e w' ⟨rfl,rfl⟩))
    go_loopg [9,37] (st.length-r) (fun g gr iv wi=>∃ (k:Nat) (z:Int),k+g=st.length-r/\0<=z/\z<=1000000/\Hid ((st.drop (r+k)).foldl max z=G)/\gr = .int .i64 z/\iv = .int .i64 k/\wr=wi)
    case atStart=>exact ⟨0,0,by omega,by omega,by omega,HG,rfl,rfl,rfl⟩
    case round =>
     obtain ⟨k,z,hk,hz1,hz2,HK,rfl,rfl,rfl⟩:=hrel
     by_cases hlt:k<st.length-r
     .have hkl:k<(st.drop r).length:=by rw [List.length_drop];omega
      obtain ⟨b2,o2,rfl,hb2,hc3⟩:=aCy.at_ HA2.out k hkl;have hx:st.drop (r+k)=(st.drop r)[k] :: st.drop (r+(k+1)):=by rw [<- List.drop_drop,List.drop_eq_getElem_cons hkl,List.drop_drop]
      have hxb:=HB.out (st.drop r)[k] (List.mem_of_mem_drop (List.getElem_mem _));rw [List.length_drop] at hxb;generalize (st.drop r)[k]=x at *;have hx1:0<=x:=hxb.1;have hx2:x<=1000000:=by omega
      have HX:=aA0 hx;clear hx hxb;go_wp2
      all_goals
       go_roundg (gk-1)
       case rel=>exact ⟨k+1,_,by omega,by omega,by omega,by
        have hm:=HK.out;rw [HX.out,List.foldl_cons] at hm
        first
         | (rw [Int.max_eq_left (by assumption)] at hm;exact hm)
         | (rw [Int.max_eq_right (by omega)] at hm;exact hm),rfl,by go_num,rfl⟩
       case measure=>omega
     .obtain rfl:z=G:=by
       have hm:=HK.out;rw [List.drop_eq_nil_of_le (by omega)] at hm
       exact hm
      go_wp2
      go_region_law (first
       | (refine aCr _ rfl (.tmp 47) (.tmp 56) 22 rfl w.heap.size 3 i0 (.int .i64 0) 1 8 underlying22 hi0 hz0 hzz hz2' rfl (by decide) S r sc ((st.map (Value.int .i64)).take (r*1)) (by simp [Act.eval]) ((bD8 HO.out r hr2).alloc _).drew wr.heap.size #[.int .i64 (num es[i].op z)] 3 (0,0) (by simp [Act.eval]) (aMh _ _) rfl (aOe _ _) (by unfold maxLen;omega) (by omega) (by have:=hbel.size;simp;omega) ?_;intro S' sc' w2 hown2 hgr2 hat2)
       | (go_simp;refine (HF.out _ _ _ hz1 hz2).mono ?_;rintro e w' ⟨rfl,rfl⟩))
      go_wp2
      go_roundg i
      case rel=>exact ⟨S',sc',st.take r++[num es[i].op z],by omega,HL,rfl,by simp [Nat.min_eq_left hr2],by
       show World.ownsRow _ _ _ _ _ _ _
       simpa [Nat.min_eq_left hr2,List.map_take] using hown2,(hbel.alloc _).drew.push ((bD8 HO.out r hr2).alloc _).drew hgr2⟩
      case measure=>omega
 .have hfin:aGy num es=0:=by unfold aGy;rw [if_neg he]
  have HFin:=aA0 hfin;clear hfin;have hd:(endF es 0 != es.length)=true:=by simpa using he
  have Hd2:Hid ((endF es 0==(es.length:Int))=false):=by show (endF es 0==(es.length:Int))=false;simpa using he
  clear he;go_enter func169,ntmps169
  go_wp2_with (go_at_call 144;refine (aQs _ _ _ es _ _ H.out hl).mono ?_;rintro e w' ⟨rfl,rfl⟩)
  go_ret2
  refine ⟨?_,Bel.refl _⟩
  rw [HFin.out,Hd2.out];rfl
theorem aX6 (A:Option Addr) (n c:Nat) (es:List Term) (w:World) (h:aCd w A n es) (hl:n<=1000000) :
  Calls prog 146 #[.slice A n c] w fun e w'=>e = .returned (.int .i64 (aL5 es))/\Bel w w':=by
 have H:=aA0 h;clear h;go_enter func146,ntmps146
 go_wp2_with (go_at_call 169;refine (aT3 170 aGf (fun op g w h0 h1=>aX5 op g w h0 h1) (fun _ _ _=>by kernel_rfl) bA5 _ _ _ es _ H.out hl).mono ?_;rintro e w1 ⟨rfl,hb⟩)
 go_ret;exact ⟨rfl,hb⟩
theorem bM1 (A:Option Addr) (n c:Nat) (es:List Term) (w:World) (h:aCd w A n es) (hl:n<=1000000) :
  Calls prog 147 #[.slice A n c] w fun e w'=>e = .returned (.int .i64 (bAv es))/\Bel w w':=by
 have H:=aA0 h;clear h;go_enter func147,ntmps147
 go_wp2_with (go_at_call 169;refine (aT3 171 aGz (fun op g w h0 h1=>bAw op g w h0 h1) (fun _ _ _=>by kernel_rfl) bFa _ _ _ es _ H.out hl).mono ?_;rintro e w1 ⟨rfl,hb⟩)
 go_ret;exact ⟨rfl,hb⟩
theorem aIf (A:Option Addr) (n c:Nat) (es:List Term) (vars:Int) (w:World) (h:aCd w A n es) (hl:n<=1000000) :
  Calls prog 114 #[.slice A n c,.int .i64 vars] w fun e w'=>e = .returned (.bool (aD4 es vars))/\Bel w w':=by
 obtain rfl:=h.1;have H:=aA0 h;clear h
 by_cases h200:200<es.length
 .have HF:Hid (aD4 es vars=false):=by
   show aD4 es vars=false
   unfold aD4;rw [show decide (es.length<=200)=false by simp;omega];rfl
  have hd:decide (200<es.length)=true:=by simpa using h200
  go_enter func114,ntmps114;go_wp2;go_ret;exact ⟨aA1 HF.out.symm,Bel.refl _⟩
 .have hd:decide (200<es.length)=false:=by simpa using h200
  by_cases he:endF es 0=es.length
  .have hd2:(endF es 0 != (es.length:Int))=false:=by simpa using he
   have HF:Hid (aD4 es vars=(es.all (aM3 · vars)&&decide (aL5 es<=24)&&decide (bAv es<=2))):=by
    show aD4 es vars=_
    unfold aD4;rw [show decide (es.length<=200)=true by simp;omega,show (endF es 0==(es.length:Int))=true by simpa using he]
    rfl
   clear he;go_enter func114,ntmps114
   go_wp2_with (go_at_call 144;refine (aQs _ _ _ es _ _ H.out hl).mono ?_;rintro e w' ⟨rfl,rfl⟩)
   go_loopg [19] es.length (fun g iv wr=>∃ k:Nat,k+g=es.length/\iv = .int .i64 k/\Hid (es.all (aM3 · vars)=(es.drop k).all (aM3 · vars))/\Bel w wr)
   case atStart=>exact ⟨0,by omega,rfl,rfl,Bel.refl _⟩
   case round =>
    obtain ⟨k,hk,rfl,HK,hbel⟩:=hrel
    by_cases hlt:k<es.length
    .obtain ⟨b,o,rfl,hb,hc1,hc2⟩:=(H.out.keep hbel).at_ k hlt
     have hstep:Hid ((es.drop k).all (aM3 · vars)=(aM3 es[k] vars&&(es.drop (k+1)).all (aM3 · vars))):=by
      show (es.drop k).all (aM3 · vars)=_
      rw [List.drop_eq_getElem_cons hlt];rfl
     cases harg:aM3 es[k] vars with
     | true =>
      go_wp2_with (go_at_call 145;refine (aOy es[k] _ _).mono ?_;rintro e w2 ⟨rfl,hb2⟩;rw [harg])
      go_roundg (gk-1)
      case rel=>exact ⟨k+1,by omega,by go_num,by show _=_;rw [HK.out,hstep.out,harg];rfl,(hbel.alloc _).trans hb2⟩
      case measure=>omega
     | false =>
      go_wp2_with (go_at_call 145;refine (aOy es[k] _ _).mono ?_;rintro e w2 ⟨rfl,hb2⟩;rw [harg])
      go_ret;refine ⟨aA1 ?_,(hbel.alloc _).trans hb2⟩
      rw [HF.out,HK.out,hstep.out,harg];rfl
    .have HF2:Hid (aD4 es vars=(decide (aL5 es<=24)&&decide (bAv es<=2))):=by
      show aD4 es vars=_
      rw [HF.out,HK.out,List.drop_eq_nil_of_le (by omega)];rfl
     clear HF
     by_cases h24:aL5 es<=24
     .go_wp2_with (first
       | (go_at_call 146;refine (aX6 _ _ _ es _ (H.out.keep hbel) hl).mono ?_;rintro e w2 ⟨rfl,hb2⟩)
       | (go_at_call 147;refine (bM1 _ _ _ es _ (H.out.keep (hbel.trans hb2)) hl).mono ?_;rintro e w3 ⟨rfl,hb3⟩))
      go_ret;refine ⟨aA1 ?_,(hbel.trans hb2).trans hb3⟩
      rw [HF2.out,show decide (aL5 es<=24)=true by simpa using h24];rfl
     .have hd3:decide (aL5 es<=24)=false:=by simpa using h24
      go_wp2_with (go_at_call 146;refine (aX6 _ _ _ es _ (H.out.keep hbel) hl).mono ?_;rintro e w2 ⟨rfl,hb2⟩)
      go_ret;refine ⟨aA1 ?_,hbel.trans hb2⟩
      rw [HF2.out,hd3];rfl
  .have hd2:(endF es 0 != (es.length:Int))=true:=by simpa using he
   have HF:Hid (aD4 es vars=false):=by
    show aD4 es vars=false
    unfold aD4;rw [show (endF es 0==(es.length:Int))=false by simpa using he];simp
   clear he;go_enter func114,ntmps114
   go_wp2_with (go_at_call 144;refine (aQs _ _ _ es _ _ H.out hl).mono ?_;rintro e w' ⟨rfl,rfl⟩)
   go_ret;exact ⟨aA1 HF.out.symm,Bel.refl _⟩
end Go.Proofs.YtmoebklkkjbigaaGreatDoor

