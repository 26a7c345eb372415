/- Merged. -/
import Derived.Test.YtdcjnhoabbdanaaGreatDoorZ04
import Derived.OneCell
import Derived.Test.YtdcjnhoabbdanaaGreatDoorZ03
set_option linter.unusedSimpArgs false
set_option linter.unnecessarySimpa false
set_option linter.unusedVariables false
set_option maxRecDepth 100000
set_option maxHeartbeats 1000000
open Go.Proofs.Tryz

namespace Go.Proofs.YtdcjnhoabbdanaaGreatDoor
open Go.RowKit
theorem aPg (A:Option Addr) (n c:Nat) (es:List Term) (w:World) (h:aAx w A n es) (hl:n<=1000000) :
  Calls prog 177 #[.slice A n c] w fun e w'=>e = .returned (.int .i64 (aD2 es))/\Bel w w':=by
 have H:=aA0 h;clear h;go_enter func177,ntmps177
 go_wp2_with (go_at_call 198;refine (aNm 199 aC2 (fun op g w h0 h1=>aPf op g w h0 h1) (fun _ _ _=>by kernel_rfl) aLv _ _ _ es _ H.out hl).mono ?_;rintro e w1 ⟨rfl,hb⟩)
 go_ret;exact ⟨rfl,hb⟩
theorem aY8 (A:Option Addr) (n c:Nat) (es:List Term) (w:World) (h:aAx w A n es) (hl:n<=1000000) :
  Calls prog 178 #[.slice A n c] w fun e w'=>e = .returned (.int .i64 (aGs es))/\Bel w w':=by
 have H:=aA0 h;clear h;go_enter func178,ntmps178
 go_wp2_with (go_at_call 198;refine (aNm 200 aCf (fun op g w h0 h1=>aS3 op g w h0 h1) (fun _ _ _=>by kernel_rfl) aNo _ _ _ es _ H.out hl).mono ?_;rintro e w1 ⟨rfl,hb⟩)
 go_ret;exact ⟨rfl,hb⟩
theorem aFy (A:Option Addr) (n c:Nat) (es:List Term) (vars:Int) (w:World) (h:aAx w A n es) (hl:n<=1000000) :
  Calls prog 161 #[.slice A n c,.int .i64 vars] w fun e w'=>e = .returned (.bool (aAs es vars))/\Bel w w':=by
 obtain rfl:=h.1;have H:=aA0 h;clear h
 by_cases h200:200<es.length
 .have HF:Hid (aAs es vars=false):=by
   show aAs es vars=false
   unfold aAs;rw [show decide (es.length<=200)=false by simp;omega];rfl
  have hd:decide (200<es.length)=true:=by simpa using h200
  go_enter func161,ntmps161;go_wp2;go_ret;exact ⟨aA2 HF.out.symm,Bel.refl _⟩
 .have hd:decide (200<es.length)=false:=by simpa using h200
  by_cases he:endF es 0=es.length
  .have hd2:(endF es 0 != (es.length:Int))=false:=by simpa using he
   have HF:Hid (aAs es vars=(es.all (aFo · vars)&&decide (aD2 es<=24)&&decide (aGs es<=2))):=by
    show aAs es vars=_
    unfold aAs;rw [show decide (es.length<=200)=true by simp;omega,show (endF es 0==(es.length:Int))=true by simpa using he]
    rfl
   clear he;go_enter func161,ntmps161
   go_wp2_with (go_at_call 175;refine (aLw _ _ _ es _ _ H.out hl).mono ?_;rintro e w' ⟨rfl,rfl⟩)
   go_loopg [19] es.length (fun g iv wr=>∃ k:Nat,k+g=es.length/\iv = .int .i64 k/\Hid (es.all (aFo · vars)=(es.drop k).all (aFo · vars))/\Bel w wr)
   case atStart=>exact ⟨0,by omega,rfl,rfl,Bel.refl _⟩
   case round =>
    obtain ⟨k,hk,rfl,HK,hbel⟩:=hrel
    by_cases hlt:k<es.length
    .obtain ⟨b,o,rfl,hb,hc1,hc2⟩:=(H.out.keep hbel).at_ k hlt
     have hstep:Hid ((es.drop k).all (aFo · vars)=(aFo es[k] vars&&(es.drop (k+1)).all (aFo · vars))):=by
      show (es.drop k).all (aFo · vars)=_
      rw [List.drop_eq_getElem_cons hlt];rfl
     cases harg:aFo es[k] vars with
     | true =>
      go_wp2_with (go_at_call 176;refine (aKe es[k] _ _).mono ?_;rintro e w2 ⟨rfl,hb2⟩;rw [harg])
      go_roundg (gk-1)
      case rel=>exact ⟨k+1,by omega,by go_num,by show _=_;rw [HK.out,hstep.out,harg];rfl,(hbel.alloc _).trans hb2⟩
      case measure=>omega
     | false =>
      go_wp2_with (go_at_call 176;refine (aKe es[k] _ _).mono ?_;rintro e w2 ⟨rfl,hb2⟩;rw [harg])
      go_ret;refine ⟨aA2 ?_,(hbel.alloc _).trans hb2⟩
      rw [HF.out,HK.out,hstep.out,harg];rfl
    .have HF2:Hid (aAs es vars=(decide (aD2 es<=24)&&decide (aGs es<=2))):=by
      show aAs es vars=_
      rw [HF.out,HK.out,List.drop_eq_nil_of_le (by omega)];rfl
     clear HF
     by_cases h24:aD2 es<=24
     .go_wp2_with (first
       | (go_at_call 177;refine (aPg _ _ _ es _ (H.out.keep hbel) hl).mono ?_;rintro e w2 ⟨rfl,hb2⟩)
       | (go_at_call 178;refine (aY8 _ _ _ es _ (H.out.keep (hbel.trans hb2)) hl).mono ?_;rintro e w3 ⟨rfl,hb3⟩))
      go_ret;refine ⟨aA2 ?_,(hbel.trans hb2).trans hb3⟩
      rw [HF2.out,show decide (aD2 es<=24)=true by simpa using h24];rfl
     .have hd3:decide (aD2 es<=24)=false:=by simpa using h24
      go_wp2_with (go_at_call 177;refine (aPg _ _ _ es _ (H.out.keep hbel) hl).mono ?_;rintro e w2 ⟨rfl,hb2⟩)
      go_ret;refine ⟨aA2 ?_,hbel.trans hb2⟩
      rw [HF2.out,hd3];rfl
  .have hd2:(endF es 0 != (es.length:Int))=true:=by simpa using he
   have HF:Hid (aAs es vars=false):=by
    show aAs es vars=false
    unfold aAs;rw [show (endF es 0==(es.length:Int))=false by simpa using he];simp
   clear he;go_enter func161,ntmps161
   go_wp2_with (go_at_call 175;refine (aLw _ _ _ es _ _ H.out hl).mono ?_;rintro e w' ⟨rfl,rfl⟩)
   go_ret;exact ⟨aA2 HF.out.symm,Bel.refl _⟩
theorem aVc:(prog.info? 4).map (fun i=>(i.zero,i.size,i.bytes))=some (some (.bool false),1,1):=by kernel_rfl
def Two (B:Nat) (w:World) (L O:Value) (s:List (Int × Bool)):Prop :=
 w.ownsRow B 3 1 L s.length (((s.map (·.1)).reverse).map (Value.int .i64))/\w.ownsRow B 4 1 O s.length (((s.map (·.2)).reverse).map Value.bool)
theorem aFt {w:World} {B e e' size size' n n':Nat} {v v':Value} {xs xs':List Value} (h:w.ownsRow B e size v n xs) (h':w.ownsRow B e' size' v' n' xs') (hne:e≠e'):v'.ownBlock=none∨v'.ownBlock≠v.ownBlock:=by
 rcases h.2 with ⟨rfl,_⟩ | ⟨g,cap,cur,rfl,_,hg,_⟩
 .rcases h'.2 with ⟨rfl,_⟩ | ⟨g',cap',cur',rfl,_,hg',_⟩
  .exact .inl rfl
  .right;simp [Value.ownBlock]
 .rcases h'.2 with ⟨rfl,_⟩ | ⟨g',cap',cur',rfl,_,hg',_⟩
  .exact .inl rfl
  .right
   simp only [Value.ownBlock]
   intro he
   injection he with he
   subst he;rw [hg] at hg';injection hg' with hg'
   injection hg' with _ ht
   exact hne ht
theorem Two.second {B:Nat} {wr w2:World} {L O:Value} {s:List (Int × Bool)} (hT:Two B wr L O s) (x:Obj) (hg:(wr.alloc x).drew.grownBy w2 L.ownBlock) :
  w2.ownsRow B 4 1 O s.length (((s.map (·.2)).reverse).map Value.bool) :=
 ((hT.2.alloc x).drew).kept hg (aFt (hT.1.alloc x).drew (hT.2.alloc x).drew (by decide))
theorem Two.first {B:Nat} {w2 w3:World} {L O:Value} {n n':Nat} {xs ys:List Value} (h1:w2.ownsRow B 3 1 L n xs) (h2:w2.ownsRow B 4 1 O n' ys) (x:Obj) (hg:(w2.alloc x).grownBy w3 O.ownBlock) :
  w3.ownsRow B 3 1 L n xs :=
 (h1.alloc x).kept hg (aFt (h2.alloc x) (h1.alloc x) (by decide))
theorem Two.pop {B:Nat} {w:World} {L O:Option Addr} {lc oc:Nat} {x:Int × Bool} {r:List (Int × Bool)} (h:Two B w (.slice L (x :: r).length lc) (.slice O (x :: r).length oc) (x :: r)) :
  Two B w (.slice L r.length lc) (.slice O r.length oc) r:=by
 refine ⟨?_,?_⟩
 .have:=aLg h.1 r.length (by simp)
  simpa using this
 .have:=aLg h.2 r.length (by simp)
  simpa using this
theorem Two.drewN {B:Nat} {w:World} {L O:Value} {s:List (Int × Bool)} (h:Two B w L O s) (k:Nat):Two B (w.drewN k) L O s:=h
theorem Two.dec {B:Nat} {w:World} {g:Nat} {O:Value} {lc:Nat} {c:Int} {b:Bool} {r:List (Int × Bool)} (h:Two B w (.slice (some ⟨g,0,none⟩) ((c,b) :: r).length lc) O ((c,b) :: r)) :
  Two B (w.setCell ⟨g,r.length,none⟩ (.int .i64 (c-1))) (.slice (some ⟨g,0,none⟩) ((c-1,b) :: r).length lc) O ((c-1,b) :: r):=by
 refine ⟨?_,?_⟩
 .have h1:=h.1.stored r.length (.int .i64 (c-1))
  exact (by simpa using h1.1)
 .have hne:=aFt h.1 h.2 (by decide)
  have h2:=ownsRow_setCell_other h.2 (a:=⟨g,r.length,none⟩) (by
   rcases hne with hne | hne
   .rw [hne];simp
   .simpa [Value.ownBlock] using hne) (.int .i64 (c-1))
  simpa using h2
theorem aJi (A:Option Addr) (n c:Nat) (es:List Term) (w:World) (h:aAx w A n es) (hl:n<=1000000) (har:∀ t∈es,0<=aAd t.op) :
  Calls prog 211 #[.slice A n c] w fun e w'=>e = .returned (.tuple #[.int .i64 (aL5 es [] 0 0).1,.int .i64 (aL5 es [] 0 0).2])/\Bel w w':=by
 obtain rfl:=h.1;have H:=aA0 h;clear h;have HA:=aA0 har;clear har;obtain ⟨i0,hi0,hi1,hi2,hi3⟩:=info_parts aHq;obtain ⟨j0,hj0,hj1,hj2,hj3⟩:=info_parts aVc;go_enter func211,ntmps211;go_wp2
 go_loopg [4,5,6,7,8] es.length (fun g dv nv lv ov iv wr=>∃ (k:Nat) (d m:Int) (L O:Option Addr) (lc oc:Nat) (s:List (Int × Bool)),k+g=es.length/\s.length<=k/\0<=d/\d<=k/\0<=m/\m<=k/\dv = .int .i64 d/\nv = .int .i64 m/\lv = .slice L s.length lc/\ov = .slice O s.length oc/\iv = .int .i64 k/\Hid (aTg s)/\Hid (aL5 (es.drop k) s d m=aL5 es [] 0 0)/\Hid (Two w.heap.size wr (.slice L s.length lc) (.slice O s.length oc) s)/\Bel w wr)
 case atStart=>exact ⟨0,0,0,none,none,0,0,[],by omega,by simp,by omega,by omega,by omega,by omega,rfl,rfl,rfl,rfl,rfl,fun _ h=>by simp at h,rfl,⟨World.ownsRow_nil _ _ _ _,World.ownsRow_nil _ _ _ _⟩,Bel.refl _⟩
 case round =>
  obtain ⟨k,d,m,L,O,lc,oc,s,hk,hsk,hd0,hd1,hm0,hm1,rfl,rfl,rfl,rfl,rfl,HW,HR,HT,hbel⟩:=hrel;generalize gk=g0 at *
  by_cases hlt:k<es.length
  .obtain ⟨b,o,rfl,hb,hcc⟩:=H.out.atB k hlt
   have HC:=aA0 hcc;clear hcc;have hs6:s.length<=1000000:=by omega
   have hbs:=hbel.size;have hbr:b<wr.heap.size:=by omega
   go_upto_region 7 with fail
   go_cut [6,7] (fun lv ov wc=>∃ (s1:List (Int × Bool)) (L O:Option Addr) (lc oc:Nat),Hid (s1=(aAd es[k].op,aAa es[k].op) :: s)/\lv = .slice L s1.length lc/\ov = .slice O s1.length oc/\Hid (Two w.heap.size wc (.slice L s1.length lc) (.slice O s1.length oc) s1)/\Bel w wc)
   case first =>
    have hc1:=(HC.out wr hbel).1
    go_region_law (first
     | (refine aHi _ rfl (.tmp 17) (.tmp 24) 26 rfl w.heap.size 3 i0 (.int .i64 0) 1 8 underlying26 hi0 hi1 hi2 hi3 rfl (by decide) L s.length lc (((s.map (·.1)).reverse).map (Value.int .i64)) (by simp [Act.eval]) (HT.out.1.alloc _).drew wr.heap.size #[.int .i64 (aAd es[k].op)] 3 (0,0) (by simp [Act.eval]) (aIz _ _) rfl (aOu _ _) (by unfold maxLen;omega) (by omega) (by simp;omega) ?_;intro L' lc' w2 hown2 hgr2 hat2;have hb2:Bel w w2:=(hbel.alloc _).drew.push (HT.out.1.alloc _).drew hgr2;have hbs2:=hb2.size;have HO2:=aA0 (HT.out.second _ hgr2);have hc1':=(HC.out w2 hb2).1)
     | (refine aHi _ rfl (.tmp 26) (.tmp 33) 217 rfl w.heap.size 4 j0 (.bool false) 1 1 underlying217 hj0 hj1 hj2 hj3 rfl (by decide) O s.length oc (((s.map (·.2)).reverse).map Value.bool) (by simp [Act.eval]) (HO2.out.alloc _) w2.heap.size #[.bool (aAa es[k].op)] 4 (0,0) (by simp [Act.eval]) (aFb _ _) rfl (aYc _) (by unfold maxLen;omega) (by omega) (by simp;omega) ?_;intro O' oc' w3 hown3 hgr3 hat3;have HL3:=aA0 (Two.first hown2 HO2.out _ hgr3);have hb3:Bel w w3:=(hb2.alloc _).push (HO2.out.alloc _) hgr3)
     | (go_simp;go_at_call 132;refine (aAy _ _).mono ?_;rintro e w' ⟨rfl,rfl⟩)
     | (go_simp;go_at_call 134;refine (aGm _ _).mono ?_;rintro e w' ⟨rfl,rfl⟩))
    all_goals
     go_wp2_with fail
     go_meet
     exact ⟨(aAd es[k].op,aAa es[k].op) :: s,L',O',lc',oc',rfl,rfl,rfl,⟨by simpa using HL3.out,by simpa using hown3⟩,hb3⟩
   case rest =>
    obtain ⟨s1,L1,O1,lc1,oc1,HS1,rfl,rfl,HT1,hb1⟩:=hcut;have hs1:s1.length=s.length+1:=by rw [HS1.out];rfl
    have hs2:s1.length<=1000001:=by omega
    have HR1:Hid (aL5 (es.drop (k+1)) (aEg s1) (max d (s1.length:Int)) (max m (aEw s1))=aL5 es [] 0 0):=by
     show aL5 (es.drop (k+1)) (aEg s1) (max d (s1.length:Int)) (max m (aEw s1))=aL5 es [] 0 0
     rw [<- HR.out,List.drop_eq_getElem_cons hlt,HS1.out];rfl
    have HN1:Hid (aTg (aEg s1)/\(aEg s1).length<=s.length+1):=by
     show aTg (aEg s1)/\(aEg s1).length<=s.length+1
     have h0:=HA.out es[k] (List.getElem_mem _);have h3:=(aG1 es[k].op).2;rw [HS1.out];exact aNp HW.out h0 h3
    have HSh:Hid (aZ6 s1):=by
     show aZ6 s1
     have h0:=HA.out es[k] (List.getElem_mem _);have h3:=(aG1 es[k].op).2;rw [HS1.out];exact ⟨h0,h3,HW.out⟩
    have hin:=aU3 s1;obtain ⟨hin0,hin1⟩:=hin;generalize hI:aEw s1=I at *;have HI:=aA0 hI;clear hI;have Hs1:=aA0 hs1;clear hs1
    go_wp2_with fail
    go_loopg [9,10] s1.length (fun g zv qv wi=>∃ (q:Nat) (z:Int),q+g=s1.length/\0<=z/\z<=q/\Hid (z+aYt (((s1.map (·.2)).reverse).drop q)=I)/\zv = .int .i64 z/\qv = .int .i64 q/\wc=wi)
    case atStart=>exact ⟨0,0,by omega,by omega,by omega,by show _=_;rw [List.drop_zero,aPd,HI.out];omega,rfl,rfl,rfl⟩
    case round =>
     obtain ⟨q,z,hq,hz0,hz1,HZ,rfl,rfl,rfl⟩:=hrel
     by_cases hql:q<s1.length
     .have hql2:q<((s1.map (·.2)).reverse).length:=by simpa using hql
      obtain ⟨b2,o2,rfl,hb2,hc2⟩:=(aWd HT1.out.2).at_ q hql2;have hx:((s1.map (·.2)).reverse).drop q=((s1.map (·.2)).reverse)[q] :: ((s1.map (·.2)).reverse).drop (q+1):=List.drop_eq_getElem_cons hql2;generalize ((s1.map (·.2)).reverse)[q]=x at *;have HX:=aA0 hx;clear hx;cases x
      .go_wp2
       go_roundg (gk-1)
       case rel=>exact ⟨q+1,z,by omega,by omega,by omega,by show _=_;rw [<- HZ.out,HX.out,aPc];simp,rfl,by go_num,rfl⟩
       case measure=>omega
      .go_wp2
       go_roundg (gk-1)
       case rel=>exact ⟨q+1,z+1,by omega,by omega,by omega,by show _=_;rw [<- HZ.out,HX.out,aPc];simp;omega,rfl,by go_num,rfl⟩
       case measure=>omega
     .obtain rfl:z=I:=by
       have:=HZ.out;rw [List.drop_eq_nil_of_le (by simp;omega)] at this
       simpa [aYt] using this
      clear hz0 hz1
      go_upto_region 14 with fail
      go_cut [4,5] (fun dv nv wd=>dv = .int .i64 (max d (s1.length:Int))/\nv = .int .i64 (max m z)/\wc=wd)
      case first =>
       go_wp2_with fail
       all_goals
        go_meet
        refine ⟨?_,?_,rfl⟩ <;> first | (rw [Int.max_eq_left (by omega)];done) | (rw [Int.max_eq_right (by omega)];done)
      case rest =>
       rename_i wd
       obtain ⟨rfl,rfl,rfl⟩:=hcut;obtain ⟨D,hD⟩:∃ D,max d (s1.length:Int)=D:=⟨_,rfl⟩;obtain ⟨M,hM⟩:∃ M,max m z=M:=⟨_,rfl⟩;have hD0:0<=D/\D<=k+1:=by have:=Hs1.out;omega
       have hM0:0<=M/\M<=k+1:=by have:=Hs1.out;omega
       obtain ⟨hD1,hD2⟩:=hD0;obtain ⟨hM1,hM2⟩:=hM0;have HR2:=HR1.out;rw [hD,hM] at HR2;have HR3:=aA0 HR2;clear HR2 HR1;rw [hD,hM];clear hD hM;have hNL:(aEg s1).length<=k+1:=by have:=HN1.out.2;omega
       have HNW:=aA0 HN1.out.1;clear HN1;generalize hnorm:aEg s1=s2 at *;have HNorm:=aA0 hnorm;clear hnorm
       go_wp2_with fail
       go_loopg [6,7] s1.length (fun g lv ov wi=>∃ (L O:Option Addr) (lc oc:Nat) (s:List (Int × Bool)),g=s.length/\s.length<=1000001/\Hid (aEg s=s2)/\Hid (aZ6 s)/\lv = .slice L s.length lc/\ov = .slice O s.length oc/\Hid (Two w.heap.size wi (.slice L s.length lc) (.slice O s.length oc) s)/\Bel w wi)
       case atStart=>exact ⟨L1,O1,lc1,oc1,s1,rfl,hs2,HNorm,HSh,rfl,rfl,HT1,hb1⟩
       case round =>
        clear HT1 hb1 HS1 HSh HNorm HI Hs1 HZ HT;obtain ⟨L2,O2,lc2,oc2,s3,rfl,hs3,HN3,HS3,rfl,rfl,HT3,hb3⟩:=hrel
        rcases s3 with _ | ⟨⟨c3,b3⟩,r⟩
        .obtain rfl:s2=[]:=HN3.out.symm
         go_wp2_with fail
         go_roundg (g0-1)
         case rel=>exact ⟨k+1,D,M,L2,O2,lc2,oc2,[],by omega,by simp,hD1,by omega,hM1,by omega,rfl,rfl,rfl,rfl,by go_num,HNW,HR3,HT3,hb3⟩
         case measure=>omega
        .obtain ⟨hc0,hc3,hWr⟩:=HS3.out
         have HWr:=aA0 hWr;clear hWr;have hr6:r.length<=1000000:=by simp at hs3;omega
         obtain ⟨gL,rfl,hgL0,hgL1,hcellL,hfrL⟩:=aCz HT3.out.1 (j:=r.length) (u := .int .i64 c3) (by simp)
         obtain ⟨hcapL,hcapL2⟩:=aF0 HT3.out.1;obtain ⟨hcapO,hcapO2⟩:=aF0 HT3.out.2
         by_cases hz:c3=0
         .subst hz
          have hcl:r.length<=lc2:=by simp at hcapL;omega
          have hco:r.length<=oc2:=by simp at hcapO;omega
          have hu1:=aHv (P:=prog) underlying26 hi0 (some ⟨gL,0,none⟩) ((0,b3) :: r).length lc2 r.length hcl;have hu2:=aHv (P:=prog) underlying217 hj0 O2 ((0,b3) :: r).length oc2 r.length hco;have hw1:IntKind.i64.wrap ((r.length:Int)+1-1)=r.length:=by rw [IntWalk.i64_in _ (by omega)];omega
          have hw2:IntKind.i64.wrap (r.length:Int)=r.length:=IntWalk.i64_in _ (by omega)
          clear hcapL hcapO hcapL2 hcapO2;have HTP:=aA0 HT3.out.pop;have HTN:=fun nq=>aA0 (HTP.out.drewN nq);have HTN2:=aA0 HTN;clear HTN
          go_wp2_with fail
          go_quiet (fail)
          clear hu1 hu2 hw1 hw2
          rcases r with _ | ⟨⟨c4,b4⟩,r4⟩
          .go_wp2_with fail
           go_roundg 0
           case rel=>exact ⟨some ⟨gL,0,none⟩,O2,lc2,oc2,[],rfl,by simp,by show aEg []=s2;rw [<- HN3.out,aN5];rfl,trivial,rfl,rfl,HTN2.out nq,hb3.drewN nq⟩
           case measure=>simp
          .obtain ⟨hc40,hc43⟩:=HWr.out (c4,b4) (by simp)
           obtain ⟨gL',e1,_,_,hcell4,hfr4⟩:=aCz HTP.out.1 (j:=r4.length) (u := .int .i64 c4) (by simp)
           obtain rfl:gL=gL':=by simpa using e1
           clear e1;have hr4:r4.length<=1000000:=by simp at hr6;omega
           go_wp2_with fail
           go_roundg (r4.length+1)
           case rel=>exact ⟨some ⟨gL,0,none⟩,O2,lc2,oc2,(c4-1,b4) :: r4,rfl,by simp;omega,by show aEg ((c4-1,b4) :: r4)=s2;rw [<- HN3.out,aUa],⟨by omega,by omega,HWr.out.tail⟩,rfl,rfl,((HTN2.out nq).out).dec,(hb3.drewN nq).setCell (by simpa using hgL0) _⟩
           case measure=>simp
         .have hzb:(c3==0)=false:=by simpa using hz
          obtain rfl:s2=(c3,b3) :: r:=by rw [<- HN3.out,aQ5 _ _ _ hz]
          go_wp2_with fail
          go_roundg (g0-1)
          case rel=>exact ⟨k+1,D,M,some ⟨gL,0,none⟩,O2,lc2,oc2,(c3,b3) :: r,by omega,hNL,hD1,by omega,hM1,by omega,rfl,rfl,rfl,rfl,by go_num,HNW,HR3,HT3,hb3⟩
          case measure=>omega
  .go_wp2
   go_ret2
   refine ⟨?_,hbel⟩
   have hr:=HR.out;rw [List.drop_eq_nil_of_le (by omega)] at hr
   rw [<- hr];rfl
theorem aHc (A:Option Addr) (n c:Nat) (es:List Term) (w:World) (h:aAx w A n es) (hl:n<=1000000) :
  Calls prog 190 #[.slice A n c] w fun e w'=>e = .returned (.int .i64 (aD2 es))/\Bel w w':=by
 have H:=aA0 h;obtain rfl:=h.1;clear h
 by_cases he:endF es 0=es.length
 .have HG:=aA0 (aT6 es he)
  have HA:=aA0 (aKf es he);have h1:aUv es=true:=by rw [aK2];simpa using he
  clear he;go_enter func190,ntmps190
  go_wp2_with (first
   | (go_at_call 189;refine (aH6 _ _ _ es _ H.out hl).mono ?_;rintro e w1 ⟨rfl,rfl⟩)
   | (go_at_call 211;refine (aJi _ _ _ es _ H.out hl HA.out).mono ?_;rintro e w1 ⟨rfl,hb⟩))
  go_ret;exact ⟨aA4 (by rw [HG.out]),hb⟩
 .have HG:Hid (aD2 es=0):=by
   show aD2 es=0
   unfold aD2 aDc;rw [if_neg he]
  have h1:aUv es=false:=by rw [aK2];simpa using he
  clear he;go_enter func190,ntmps190
  go_wp2_with (go_at_call 189;refine (aH6 _ _ _ es _ H.out hl).mono ?_;rintro e w1 ⟨rfl,rfl⟩)
  go_ret;exact ⟨aA4 HG.out.symm,Bel.refl _⟩
theorem aMp (A:Option Addr) (n c:Nat) (es:List Term) (w:World) (h:aAx w A n es) (hl:n<=1000000) :
  Calls prog 191 #[.slice A n c] w fun e w'=>e = .returned (.int .i64 (aGs es))/\Bel w w':=by
 have H:=aA0 h;obtain rfl:=h.1;clear h
 by_cases he:endF es 0=es.length
 .have HG:=aA0 (aT6 es he)
  have HA:=aA0 (aKf es he);have h1:aUv es=true:=by rw [aK2];simpa using he
  clear he;go_enter func191,ntmps191
  go_wp2_with (first
   | (go_at_call 189;refine (aH6 _ _ _ es _ H.out hl).mono ?_;rintro e w1 ⟨rfl,rfl⟩)
   | (go_at_call 211;refine (aJi _ _ _ es _ H.out hl HA.out).mono ?_;rintro e w1 ⟨rfl,hb⟩))
  go_ret;exact ⟨aA4 (by rw [HG.out]),hb⟩
 .have HG:Hid (aGs es=0):=by
   show aGs es=0
   unfold aGs aDc;rw [if_neg he]
  have h1:aUv es=false:=by rw [aK2];simpa using he
  clear he;go_enter func191,ntmps191
  go_wp2_with (go_at_call 189;refine (aH6 _ _ _ es _ H.out hl).mono ?_;rintro e w1 ⟨rfl,rfl⟩)
  go_ret;exact ⟨aA4 HG.out.symm,Bel.refl _⟩
theorem aFg (A:Option Addr) (n c:Nat) (es:List Term) (vars:Int) (w:World) (h:aAx w A n es) (hl:n<=1000000) :
  Calls prog 169 #[.slice A n c,.int .i64 vars] w fun e w'=>e = .returned (.bool (aAs es vars))/\Bel w w':=by
 obtain rfl:=h.1;have H:=aA0 h;clear h
 by_cases h200:200<es.length
 .have HF:Hid (aAs es vars=false):=by
   show aAs es vars=false
   unfold aAs;rw [show decide (es.length<=200)=false by simp;omega];rfl
  have hd:decide (200<es.length)=true:=by simpa using h200
  go_enter func169,ntmps169;go_wp2;go_ret;exact ⟨aA2 HF.out.symm,Bel.refl _⟩
 .have hd:decide (200<es.length)=false:=by simpa using h200
  cases ho:aUv es with
  | false =>
   have HF:Hid (aAs es vars=false):=by
    show aAs es vars=false
    unfold aAs;rw [aK2] at ho;rw [ho];simp
   go_enter func169,ntmps169
   go_wp2_with (go_at_call 189;refine (aH6 _ _ _ es _ H.out hl).mono ?_;rintro e w' ⟨rfl,rfl⟩)
   go_ret;exact ⟨aA2 HF.out.symm,Bel.refl _⟩
  | true =>
   have HF:Hid (aAs es vars=(es.all (aFo · vars)&&decide (aD2 es<=24)&&decide (aGs es<=2))):=by
    show aAs es vars=_
    unfold aAs;rw [aK2] at ho;rw [show decide (es.length<=200)=true by simp;omega,ho]
    rfl
   by_cases h24:aD2 es<=24
   .have hd3:decide (24<aD2 es)=false:=by simpa using h24
    by_cases h2:aGs es<=2
    .have hd4:decide (2<aGs es)=false:=by simpa using h2
     have HF2:Hid (aAs es vars=es.all (aFo · vars)):=by
      show aAs es vars=_
      rw [HF.out,show decide (aD2 es<=24)=true by simpa using h24,show decide (aGs es<=2)=true by simpa using h2];simp
     clear HF;go_enter func169,ntmps169
     go_wp2_with (first
      | (go_at_call 189;refine (aH6 _ _ _ es _ H.out hl).mono ?_;rintro e w' ⟨rfl,rfl⟩)
      | (go_at_call 190;refine (aHc _ _ _ es _ H.out hl).mono ?_;rintro e w2 ⟨rfl,hb2⟩)
      | (go_at_call 191;refine (aMp _ _ _ es _ (H.out.keep hb2) hl).mono ?_;rintro e w3 ⟨rfl,hb3⟩))
     have hb4:=hb2.trans hb3;clear hd3 hd4 h24 h2 ho
     go_loopg [5] es.length (fun g iv wr=>∃ k:Nat,k+g=es.length/\iv = .int .i64 k/\Hid (aAs es vars=(es.drop k).all (aFo · vars))/\Bel w wr)
     case atStart=>exact ⟨0,by omega,rfl,HF2,hb4⟩
     case round =>
      obtain ⟨k,hk,rfl,HK,hbel⟩:=hrel
      by_cases hlt:k<es.length
      .obtain ⟨b,o,rfl,hb,hc1,hc2⟩:=(H.out.keep hbel).at_ k hlt
       have hstep:Hid ((es.drop k).all (aFo · vars)=(aFo es[k] vars&&(es.drop (k+1)).all (aFo · vars))):=by
        show (es.drop k).all (aFo · vars)=_
        rw [List.drop_eq_getElem_cons hlt];rfl
       cases harg:aFo es[k] vars with
       | true =>
        go_wp2_with (go_at_call 192;refine (aHb es[k] _ _).mono ?_;rintro e w2 ⟨rfl,hb2⟩;rw [harg])
        go_roundg (gk-1)
        case rel=>exact ⟨k+1,by omega,by go_num,by show _=_;rw [HK.out,hstep.out,harg];rfl,hbel.trans hb2⟩
        case measure=>omega
       | false =>
        go_wp2_with (go_at_call 192;refine (aHb es[k] _ _).mono ?_;rintro e w2 ⟨rfl,hb2⟩;rw [harg])
        go_ret;refine ⟨aA2 ?_,hbel.trans hb2⟩
        rw [HK.out,hstep.out,harg];rfl
      .go_wp2_with fail
       go_ret;refine ⟨aA2 ?_,hbel⟩
       rw [HK.out,List.drop_eq_nil_of_le (by omega)];rfl
    .have hd4:decide (2<aGs es)=true:=by simpa using h2
     have HF2:Hid (aAs es vars=false):=by
      show aAs es vars=_
      rw [HF.out,show decide (aGs es<=2)=false by simpa using h2];simp
     go_enter func169,ntmps169
     go_wp2_with (first
      | (go_at_call 189;refine (aH6 _ _ _ es _ H.out hl).mono ?_;rintro e w' ⟨rfl,rfl⟩)
      | (go_at_call 190;refine (aHc _ _ _ es _ H.out hl).mono ?_;rintro e w2 ⟨rfl,hb2⟩)
      | (go_at_call 191;refine (aMp _ _ _ es _ (H.out.keep hb2) hl).mono ?_;rintro e w3 ⟨rfl,hb3⟩))
     go_ret;exact ⟨aA2 HF2.out.symm,hb2.trans hb3⟩
   .have hd3:decide (24<aD2 es)=true:=by simpa using h24
    have HF2:Hid (aAs es vars=false):=by
     show aAs es vars=_
     rw [HF.out,show decide (aD2 es<=24)=false by simpa using h24];simp
    go_enter func169,ntmps169
    go_wp2_with (first
     | (go_at_call 189;refine (aH6 _ _ _ es _ H.out hl).mono ?_;rintro e w' ⟨rfl,rfl⟩)
     | (go_at_call 190;refine (aHc _ _ _ es _ H.out hl).mono ?_;rintro e w2 ⟨rfl,hb2⟩))
    go_ret;exact ⟨aA2 HF2.out.symm,hb2⟩
end Go.Proofs.YtdcjnhoabbdanaaGreatDoor

