/- Merged. -/
import Derived.Test.YtmifhmdghfbalaaGreatDoorZ39
set_option linter.unusedSimpArgs false
set_option linter.unnecessarySimpa false
set_option linter.unusedVariables false
set_option maxRecDepth 100000
set_option maxHeartbeats 8000000
open Go.Proofs.Tryz

namespace Go.Proofs.YtmifhmdghfbalaaGreatDoor
open Go.RowKit
theorem bDj {l:List (Nat × Int)} {o:List Bool} {i:Nat} (h:i<l.length):aR5 (l.take (i+1)) o=aR5 (l.take i) o+if o.getD l[i].2.toNat false=true then 1 else 0:=by
 unfold aR5;rw [List.take_succ_eq_append_getElem h,List.filter_append,List.length_append]
 congr 1
 by_cases hb:o.getD l[i].2.toNat false=true
 .rw [if_pos hb,List.filter_cons_of_pos (by simpa using hb)];rfl
 .rw [if_neg hb,List.filter_cons_of_neg (by simpa using hb)];rfl
theorem bJ2 (l:List (Nat × Int)) (o:List Bool):aR5 l o<=l.length:=List.length_filter_le _ _
theorem aS1 (A:Option Addr) (c:Nat) (l:List (Nat × Int)) (A2:Option Addr) (c2 n:Nat) (o:List Bool) (w:World) (hA:aMc w A l.length l) (hB:aDa w A2 n o) (ht:∀ x∈l,0<=x.2/\x.2<(n:Int)) (hl:l.length<=1000) :
  Calls prog 94 #[.slice A l.length c,.slice A2 n c2] w fun e w'=>e = .returned (.int .i64 (aR5 l o:Int))/\Bel w w':=by
 have hno:o.length=n:=hB.1;have H1:=aA1 (fun w' (k:Bel w w')=>hA.keep k);have H2:=aA1 (fun w' (k:Bel w w')=>hB.keep k);have HT:=aA1 ht;clear hA hB ht;go_enter func94,ntmps94
 go_wp2_with fail
 go_loopg [5,6] l.length (fun m s z wr=>∃ i:Nat,i<=l.length/\m=l.length-i/\s = .int .i64 (aR5 (l.take i) o:Int)/\z = .int .i64 (i:Int)/\Bel w wr)
 case atStart=>exact ⟨0,by omega,rfl,rfl,rfl,Bel.refl w⟩
 case round =>
  obtain ⟨i,hi,rfl,rfl,rfl,HW⟩:=hrel
  by_cases hlt:i<l.length
  .have hd0:decide (i<l.length)=true:=by simpa using hlt
   obtain ⟨b,q,rfl,hbl,c0,c1⟩:=(H1.out _ HW).at_ i hlt;have hti:=HT.out _ (List.getElem_mem hlt);have HS:=aA1 (bDj (o:=o) hlt);have hle:=bJ2 (l.take i) o;rw [List.length_take] at hle;generalize l[i]=x at *;obtain ⟨T,U⟩:=x;dsimp only at hti HS c0 c1;obtain ⟨t,rfl⟩:=Int.eq_ofNat_of_zero_le hti.1;rw [Int.toNat_natCast] at HS;have htl:t<o.length:=by omega
   have htI:(t:Int)<(n:Int):=by omega
   obtain ⟨b2,q2,rfl,hb2,d0⟩:=(H2.out _ HW).at_ t htl;rw [aA7 htl] at HS;obtain ⟨cn,hcn⟩:∃ cn,aR5 (l.take i) o=cn:=⟨_,rfl⟩;rw [hcn] at HS hle;rw [hcn];clear hcn;generalize o[t]=y at *;cases y with
   | true =>
    rw [if_pos rfl] at HS
    go_wp2_with fail
    go_roundg (l.length-(i+1))
    case rel=>exact ⟨i+1,by omega,rfl,by rw [HS.out];go_num,by go_num,HW⟩
    case measure=>omega
   | false =>
    rw [if_neg (by decide)] at HS
    go_wp2_with fail
    go_roundg (l.length-(i+1))
    case rel=>exact ⟨i+1,by omega,rfl,by rw [HS.out];rfl,by go_num,HW⟩
    case measure=>omega
  .have hd0:decide (i<l.length)=false:=by simpa using hlt
   obtain rfl:i=l.length:=by omega
   rw [List.take_length]
   go_wp2_with fail
   go_ret;exact ⟨rfl,HW⟩
theorem aT3 (v:Value) (s:Spc) (AL:Option Addr) (cL:Nat) (legit:List Bool) (w:World) (h:aCo w v s) (hv:aO2 s=true) (hwf:wfS s) (hl:aM6 s=true) (hn:legit.length=s.enabled.length) :
  Calls prog 93 #[v,.slice AL legit.length cL] w fun e w'=>e = .returned (.int .i64 0)/\Bel w w':=by
 have HS:=aA1 (fun w' (k:Bel w w')=>h.keep k);obtain ⟨AE,cE,AA,cA,rfl,_⟩:=h;have HW:=Bel.refl (w.alloc (.cells #[.slice AE s.enabled.length cE,.slice AA s.arcs.length cA] 70));have HV:=aA1 hv;have HLS:=aA1 hl;have d1:((legit.length:Int) != (s.enabled.length:Int))=false:=by simp;omega
 have d2:(legit.length != s.enabled.length)=false:=by simpa using hn
 clear hv hn hl;go_enter func93,ntmps93
 go_wp2_with (go_at_call 143;refine (aOs _ s _ (HS.out _ (aA3 HW)) hwf HLS.out).mono ?_;rintro e w' ⟨rfl,hb⟩;rw [HV.out];replace HW:=HW.trans hb;clear hb;have q0:=aA9 HW 0 (v := .slice AE s.enabled.length cE) rfl;have q1:=aA9 HW 1 (v := .slice AA s.arcs.length cA) rfl;have ql:=aAz HW)
 go_ret;exact ⟨rfl,aA3 HW⟩
def bKc (n:Nat) (w:World) (e:Ending) (w':World):Prop:=∃ A c,e = .returned (.tuple #[.slice A n c,.int .i64 0])/\aDa w' A n (List.replicate n false)/\Bel w w'
theorem bEy {n:Nat} {o:List Bool} (h:o.length=n) (hf:∀ k,k<n->o.getD k false=false):o=List.replicate n false:=by
 refine List.ext_getElem (by simp [h]) fun k h1 h2=>?_
 have:=hf k (by omega)
 rw [aA7 h1] at this;rw [this];simp
theorem bCt:(prog.info? 4).map (fun i=>(i.zero,i.size,i.bytes))=some (some (.bool false),1,1):=by kernel_rfl
theorem bGl (b:Bool):∀ u∈(#[Value.bool b]:Array Value).toList,u.oneCell'=true:=by simp [Value.oneCell']
theorem aXd {legit:List Bool} {k:Nat} (hk:k<legit.length):(legit.map (!·)).getD k false = !legit.getD k false:=by
 rw [aA7 (by simpa using hk),aA7 hk,List.getElem_map]
theorem bJk {w:World} {base:Nat} {e:TypeId} {size n c:Nat} {R:Option Addr} {xs:List Value} (h:w.ownsRow base e size (.slice R n c) n xs) (hx:0<xs.length):∃ gb,R=some ⟨gb,0,none⟩:=by
 obtain ⟨u,hu⟩:∃ u,xs[0]?=some u:=⟨xs[0],List.getElem?_eq_getElem hx⟩;obtain ⟨q,e1,_⟩:=aBv h hu;exact ⟨q,e1⟩
theorem aMr (v:Value) (s:Spc) (AL:Option Addr) (cL:Nat) (legit:List Bool) (V:Nat->List Int) (w:World) (h:aCo w v s) (hB:aDa w AL legit.length legit) (hv:aO2 s=true) (hwf:wfS s) (hl:aM6 s=true) (hn:legit.length=s.enabled.length) (hn1:1<=legit.length)
  (hna:s.arcs.length=legit.length) (hto:∀ x∈s.arcs,x.length<=31/\∀ y∈x,0<=y.2/\y.2<(legit.length:Int)) (hg:∀ k,k<legit.length->legit.getD k false=false->aFy legit s.arcs V k=true) :
  Calls prog 46 #[v,.slice AL legit.length cL] w (bKc legit.length w):=by
 have HS:=aA1 (fun w' (k:Bel w w')=>h.keep k);have HBR:=aA1 (fun w' (k:Bel w w')=>hB.keep k);have hn2:legit.length<=200:=by have:=(aI7 hl).1;omega
 obtain ⟨AE,cE,AA,cA,rfl,_,hA,_,_,_,_⟩:=h;have HAR:=aA1 (fun w' (k:Bel w w')=>hA.keep k);have HW:=Bel.refl (w.alloc (.cells #[.slice AE s.enabled.length cE,.slice AA s.arcs.length cA] 70));have HNA:=aA1 hna;have HTO:=aA1 hto;have HGD:=aA1 hg;have HNE:=aA1 hn;have HVS:=aA1 hv;have HLS:=aA1 hl;have HWF:=aA1 hwf;obtain ⟨i0,hi0,hz0,hz1,hz2⟩:=info_parts bCt;clear hB hA hna hto hg hn hv hl hwf;go_enter func46,ntmps46
 go_wp2_with (go_at_call 93;refine (aT3 _ s AL cL legit _ (HS.out _ (aA3 HW)) HVS.out HWF.out HLS.out HNE.out).mono ?_;rintro e w' ⟨rfl,hb⟩;replace HW:=HW.trans hb;clear hb)
 go_loopg [7,8] legit.length (fun m x z wr=>∃ (k:Nat) (R:Option Addr) (rc:Nat),k<=legit.length/\m=legit.length-k/\x = .slice R k rc/\z = .int .i64 (k:Int)/\Hid (wr.ownsRow (w.heap.size+1) 4 1 (.slice R k rc) k (((legit.map (!·)).take k).map Value.bool))/\Bel (w.alloc (.cells #[.slice AE s.enabled.length cE,.slice AA s.arcs.length cA] 70)) wr)
 case atStart=>exact ⟨0,none,0,by omega,rfl,rfl,rfl,World.ownsRow_nil _ _ _ _,HW⟩
 case round =>
  clear HW;obtain ⟨k,R,rc,hk,rfl,rfl,rfl,HO,HW⟩:=hrel
  by_cases hlt:k<legit.length
  .have hd0:decide (k<legit.length)=true:=by simpa using hlt
   have hkI:(k:Int)<(legit.length:Int):=by omega
   obtain ⟨bL,oL,rfl,hbL,c0⟩:=(HBR.out _ (aA3 HW)).at_ k hlt
   have HTK:Hid (((legit.map (!·)).take (k+1)).map Value.bool=((legit.map (!·)).take k).map Value.bool++[.bool (!legit[k])]):=by
    show _=_
    rw [List.take_succ_eq_append_getElem (by simpa using hlt),List.map_append]
    simp
   generalize legit[k]=b at *;have hbz:=aAz HW
   go_wp2_with (at_builtin;refine aC5 _ rfl (.tmp 23) (.tmp 29) 58 rfl (w.heap.size+1) 4 i0 (.bool false) 1 1 underlying58 hi0 hz0 hz1 hz2 rfl (by decide) R k rc _ (by simp [Act.eval]) (HO.out.alloc _) wr.heap.size #[.bool (!b)] 4 (0,0) (by simp [Act.eval]) (aBr _ _) rfl (bGl _) (by unfold maxLen;omega) (by omega) (by simp;omega) ?_;intro R2 rc2 w2 hown hgr hat;have HB2:=(HW.alloc _).pushB (HO.out.alloc _) (by simp) hgr;have HO2:=aA1 hown;clear hown hgr hat)
   go_roundg (legit.length-(k+1))
   case rel =>
    refine ⟨k+1,R2,rc2,by omega,rfl,rfl,by go_num,?_,HB2⟩
    show World.ownsRow _ _ _ _ _ _ _
    rw [HTK.out];exact HO2.out
   case measure=>omega
  .have hd0:decide (k<legit.length)=false:=by simpa using hlt
   obtain rfl:k=legit.length:=by omega
   have ho:=HO.out;rw [List.take_of_length_le (by simp)] at ho
   obtain ⟨gb,rfl⟩:=bJk ho (by simp;omega)
   have HO1:=aA1 ho;clear ho HO hd0 hlt
   go_wp2_with fail
   go_loopg [9] (aTc (legit.map (!·))+1) (fun m x wr=>∃ (O:List Bool) (ch:Bool),m=(if ch=true then aTc O+1 else 0)/\x = .bool ch/\O.length=legit.length/\Hid (∀ k,k<legit.length->O.getD k false=true->legit.getD k false=false)/\Hid (ch=false->∀ k,k<legit.length->bHa s.arcs O k)/\Hid (wr.ownsRow (w.heap.size+1) 4 1 (.slice (some ⟨gb,0,none⟩) legit.length rc) legit.length (O.map Value.bool))/\Bel (w.alloc (.cells #[.slice AE s.enabled.length cE,.slice AA s.arcs.length cA] 70)) wr)
   case atStart =>
    refine ⟨legit.map (!·),true,rfl,rfl,by simp,fun k hk ho=>?_,(fun h=>by cases h),HO1,HW⟩
    rw [aXd hk] at ho;simpa using ho
   case round =>
    clear HW HO1;obtain ⟨O,ch,rfl,rfl,hOL,HSUB,HST,HO,HW⟩:=hrel;cases ch with
    | false =>
     have hz:=bEc (V:=V) HSUB.out HGD.out (fun k hk x hx=>by
      have hka:k<s.arcs.length:=by rw [HNA.out];exact hk
      rw [aA7 hka] at hx;have:=(HTO.out _ (List.getElem_mem hka)).2 x hx
      omega) (HST.out rfl)
     have ho:=HO.out;rw [bEy hOL hz] at ho;have HO2:=aA1 ho;clear ho hz HO HST
     go_wp2_with fail
     go_ret2
     exact ⟨_,_,rfl,aNn HO2.out,aA3 HW⟩
    | true =>
     go_wp2_with fail
     go_loopg [9,10] legit.length (fun m x z wr=>∃ (k:Nat) (O':List Bool) (ch':Bool),k<=legit.length/\m=legit.length-k/\x = .bool ch'/\z = .int .i64 (k:Int)/\O'.length=legit.length/\Hid (∀ k,k<legit.length->O'.getD k false=true->legit.getD k false=false)/\Hid (ch'=false->O'=O/\∀ j,j<k->bHa s.arcs O j)/\Hid (ch'=true->aTc O' < aTc O)/\Hid (wr.ownsRow (w.heap.size+1) 4 1 (.slice (some ⟨gb,0,none⟩) legit.length rc) legit.length (O'.map Value.bool))/\Bel (w.alloc (.cells #[.slice AE s.enabled.length cE,.slice AA s.arcs.length cA] 70)) wr)
     case atStart=>exact ⟨0,O,false,by omega,rfl,rfl,rfl,hOL,HSUB,(fun _=>⟨rfl,fun j hj=>by omega⟩),(fun h=>by cases h),HO,HW⟩
     case round =>
      clear HW HO HSUB HST hOL;obtain ⟨k,O',ch',hk,rfl,rfl,rfl,hOL',HSUB,HN,HY,HO,HW⟩:=hrel
      by_cases hlt:k<legit.length
      .have hd0:decide (k<legit.length)=true:=by simpa using hlt
       have hkI:(k:Int)<(legit.length:Int):=by omega
       have hkO:k<O'.length:=by omega
       have hkA:k<s.arcs.length:=by rw [HNA.out];exact hlt
       have hkAI:(k:Int)<(s.arcs.length:Int):=by omega
       have hc:=aC8 HO.out k (by simpa using hkO)
       rw [List.getElem_map] at hc;have hgl:=aAf HO.out;have hfz:=HO.out.frozenAt k;obtain ⟨hgl1,hgl2⟩:=hgl;have HGT:Hid (O'.getD k false=O'[k]):=aA7 hkO;have HG2:Hid (O'[k]?=some O'[k]):=List.getElem?_eq_getElem hkO;obtain ⟨b,hb⟩:∃ b,O'[k]=b:=⟨_,rfl⟩;rw [hb] at hc HGT HG2;have HBK:=aA1 hb;clear hb;cases b with
       | false =>
        go_wp2_with fail
        go_roundg (legit.length-(k+1))
        case rel =>
         refine ⟨k+1,O',ch',by omega,rfl,rfl,by go_num,hOL',HSUB,fun h=>⟨(HN.out h).1,fun j hj=>?_⟩,HY,HO,HW⟩
         rcases Nat.lt_or_ge j k with h1 | h1
         .exact (HN.out h).2 j h1
         .obtain rfl:j=k:=by omega
          intro hy
          rw [<- (HN.out h).1,HGT.out] at hy;cases hy
        case measure=>omega
       | true =>
        obtain ⟨bA,oA,Rk,rk,rfl,hbA,x1,hRk,_,_⟩:=(HAR.out _ (aA3 HW)).at_ k hkA;have HRK0:=aA1 (fun w' (kk:Bel wr w')=>hRk.keep kk)
        have HRK:Hid (∀ w',Bel w w'->aMc w' Rk s.arcs[k].length s.arcs[k]):=fun w' kk=>by
         obtain ⟨bA',oA',Rk',rk',e',h',x',hRk',_,_⟩:=(HAR.out _ (Bel.refl w)).at_ k hkA;obtain ⟨rfl,rfl⟩:bA=bA'/\oA=oA':=by simpa using e'
         rw [<- (aA3 HW).cell h',x1] at x';injection x' with x'
         injection x' with x' _ _
         subst x';exact hRk'.keep kk
        obtain ⟨hl31,hto2⟩:=HTO.out _ (List.getElem_mem hkA);have HTK:=aA1 hto2;have q1:=aA9 HW 1 (v := .slice (some ⟨bA,oA,none⟩) s.arcs.length cA) rfl;have ql:=aAz HW;have HLA:Hid (s.arcs.getD k []=s.arcs[k]):=aA7 hkA;generalize s.arcs[k]=la at *;clear hRk hto2 HRK0
        by_cases hz:la.length=0
        .have dz:decide ((0:Int)<(la.length:Int))=false:=decide_eq_false (by omega)
         have dz2:decide (0<la.length)=false:=decide_eq_false (by omega)
         go_wp2_with fail
         go_roundg (legit.length-(k+1))
         case rel =>
          refine ⟨k+1,O',ch',by omega,rfl,rfl,by go_num,hOL',HSUB,fun h=>⟨(HN.out h).1,fun j hj=>?_⟩,HY,HO,HW⟩
          rcases Nat.lt_or_ge j k with h1 | h1
          .exact (HN.out h).2 j h1
          .obtain rfl:j=k:=by omega
           intro hy
           left;rw [HLA.out];exact hz
         case measure=>omega
        .have dz:decide ((0:Int)<(la.length:Int))=true:=decide_eq_true (by omega)
         have dz2:decide (0<la.length)=true:=decide_eq_true (by omega)
         obtain ⟨mm,hmm⟩:∃ mm,aR5 la O'=mm:=⟨_,rfl⟩;have HM:=aA1 hmm;clear hmm
         by_cases hm0:mm=0
         .subst hm0
          go_wp2_with (go_at_call 94;refine (aS1 Rk rk la (some ⟨gb,0,none⟩) rc legit.length O' _ (HRK.out _ (aA3 HW)) (aNn HO.out) HTK.out (by omega)).mono ?_;rintro e w' ⟨rfl,hb⟩;rw [HM.out];replace HO:=aA1 (hb.owns HO.out);replace HW:=HW.trans hb;have hfz2:=HO.out.frozenAt k;have hg2:=(aAf HO.out).2;have hc2:=aC8 HO.out k (by simpa using hkO);rw [List.getElem_map,HBK.out] at hc2;clear hb)
          go_roundg (legit.length-(k+1))
          case rel =>
           have h1:=(HO.out.stored k (.bool false)).1;rw [<- List.map_set] at h1;refine ⟨k+1,O'.set k false,true,by omega,rfl,rfl,by go_num,by rw [List.length_set];exact hOL',fun j hj hy=>?_,(fun h=>by cases h),fun _=>?_,h1,HW.setCell (by simpa using hgl1) _⟩
           .rw [aVb hkO] at hy
            split at hy
            .cases hy
            .exact HSUB.out j hj hy
           .have h2:=aZ3 HG2.out
            cases ch' with
            | true=>have:=HY.out rfl;omega
            | false=>have:=(HN.out rfl).1;subst this;omega
          case measure=>omega
         .have e1:((mm:Int)==0)=false:=by simp;omega
          have e2:(mm==0)=false:=by simpa using hm0
          go_wp2_with (go_at_call 94;refine (aS1 Rk rk la (some ⟨gb,0,none⟩) rc legit.length O' _ (HRK.out _ (aA3 HW)) (aNn HO.out) HTK.out (by omega)).mono ?_;rintro e w' ⟨rfl,hb⟩;rw [HM.out];replace HO:=aA1 (hb.owns HO.out);replace HW:=HW.trans hb;have hfz2:=HO.out.frozenAt k;have hg2:=(aAf HO.out).2;have hc2:=aC8 HO.out k (by simpa using hkO);rw [List.getElem_map,HBK.out] at hc2;clear hb)
          go_roundg (legit.length-(k+1))
          case rel =>
           refine ⟨k+1,O',ch',by omega,rfl,rfl,by go_num,hOL',HSUB,fun h=>⟨(HN.out h).1,fun j hj=>?_⟩,HY,HO,HW⟩
           rcases Nat.lt_or_ge j k with h1 | h1
           .exact (HN.out h).2 j h1
           .obtain rfl:j=k:=by omega
            intro hy
            right
            rw [HLA.out,<- (HN.out h).1,HM.out];exact hm0
          case measure=>omega
      .have hd0:decide (k<legit.length)=false:=by simpa using hlt
       obtain rfl:k=legit.length:=by omega
       go_wp2_with fail
       go_roundg (if ch'=true then aTc O'+1 else 0)
       case rel=>exact ⟨O',ch',rfl,rfl,hOL',HSUB,fun h j hj=>by rw [(HN.out h).1];exact (HN.out h).2 j hj,HO,HW⟩
       case measure =>
        cases ch' with
        | true=>have:=HY.out rfl;simp;omega
        | false=>simp
theorem aOr (A:Option Addr) (c n:Nat) (w:World) (hB:aDa w A n (List.replicate n false)) (hn:n<=100000) :
  Calls prog 47 #[.slice A n c] w fun e w'=>e = .returned (.bool false)/\Bel w w':=by
 have H1:=aA1 (fun w' (k:Bel w w')=>hB.keep k);clear hB;go_enter func47,ntmps47
 go_wp2_with fail
 go_loopg [3] n (fun m z wr=>∃ i:Nat,i<=n/\m=n-i/\z = .int .i64 (i:Int)/\Bel w wr)
 case atStart=>exact ⟨0,by omega,rfl,rfl,Bel.refl w⟩
 case round =>
  obtain ⟨i,hi,rfl,rfl,HW⟩:=hrel
  by_cases hlt:i<n
  .have hd0:decide (i<n)=true:=by simpa using hlt
   have hiI:(i:Int)<(n:Int):=by omega
   obtain ⟨b,o,rfl,hb,c0⟩:=(H1.out _ HW).at_ i (by simpa using hlt)
   rw [List.getElem_replicate] at c0
   go_wp2_with fail
   go_roundg (n-(i+1))
   case rel=>exact ⟨i+1,by omega,rfl,by go_num,HW⟩
   case measure=>omega
  .have hd0:decide (i<n)=false:=by simpa using hlt
   obtain rfl:i=n:=by omega
   go_wp2_with fail
   go_ret;exact ⟨rfl,HW⟩
def aWa (cap:Nat->Int) (n:Nat) (O O':List Int) (ch:Bool):Prop:=aG2 cap n O'/\(ch=false->O'=O)/\(ch=true->bK3 cap n O' < bK3 cap n O)
theorem aWa.refl {cap:Nat->Int} {n:Nat} {O:List Int} (h:aG2 cap n O):aWa cap n O O false:=⟨h,fun _=>rfl,fun h=>by cases h⟩
theorem aWa.set {cap:Nat->Int} {n:Nat} {O O':List Int} {ch:Bool} (h:aWa cap n O O' ch) {k:Nat} {a y:Int} (ha:O'[k]?=some a) (h0:0<=y) (h1:y<=cap k) (hy:a<y):aWa cap n O (O'.set k y) true:=by
 obtain ⟨g1,g2,g3⟩:=h;refine ⟨g1.set h0 h1,(fun h=>by cases h),fun _=>?_⟩
 have h2:=g1.gap ha h1 hy;cases ch with
 | true=>have:=g3 rfl;omega
 | false=>have:=g2 rfl;subst this;exact h2
def bCg (cap:Nat->Int) (n:Nat) (w:World) (e:Ending) (w':World):Prop:=∃ A c O,e = .returned (.slice A n c)/\aG2 cap n O/\aB7 w' A n O/\Bel w w'
theorem bG1:(prog.info? 3).map (fun i=>(i.zero,i.size,i.bytes))=some (some (.int .i64 0),1,8):=by kernel_rfl
theorem aT8 (v:Value) (s:Spc) (AL:Option Addr) (cL:Nat) (legit:List Bool) (cap:Nat->Int) (w:World) (h:aCo w v s) (hB:aDa w AL legit.length legit) (hn2:legit.length<=1000)
  (hna:s.arcs.length=legit.length) (hto:∀ x∈s.arcs,x.length<=31/\∀ y∈x,0<=y.2/\y.2<(legit.length:Int)) (hcap:∀ k,k<legit.length->0<=cap k/\cap k<=1000000000000)
  (hst:∀ k,k<legit.length->legit.getD k false=false->∀ x∈s.arcs.getD k [],∀ o:Int,o<=cap x.2.toNat->1+o<=cap k) :
  Calls prog 96 #[v,.slice AL legit.length cL,.bool false] w (bCg cap legit.length w):=by
 have HBR:=aA1 (fun w' (k:Bel w w')=>hB.keep k);obtain ⟨AE,cE,AA,cA,rfl,_,hA,_,_,_,_⟩:=h;have HAR:=aA1 (fun w' (k:Bel w w')=>hA.keep k);have HW:=Bel.refl (w.alloc (.cells #[.slice AE s.enabled.length cE,.slice AA s.arcs.length cA] 70));have HNA:=aA1 hna;have HTO:=aA1 hto;have HCP:=aA1 hcap;have HST:=aA1 hst;obtain ⟨i0,hi0,hz0,hz1,hz2⟩:=info_parts bG1;clear hB hA hna hto hcap hst;go_enter func96,ntmps96
 go_wp2_with (at_make;refine aCu _ rfl 26 (.tmp 13) (.tmp 13) rfl (w.heap.size+1) 3 i0 (.int .i64 0) 1 underlying26 hi0 hz0 hz1 .i64 .i64 legit.length rfl rfl (by rw [hz2];omega) (by unfold maxLen;omega) (by simp) ?_;intro gb w1 hown hb;replace HW:=HW.trans hb;rw [aEj _ rfl] at hown;have HO:=aA1 hown;clear hown hb)
 have HO1:Hid (w1.ownsRow (w.heap.size+1) 3 1 (.slice (some ⟨gb,0,none⟩) legit.length legit.length) legit.length ((List.replicate legit.length (0:Int)).map (Value.int .i64))):=by
  show World.ownsRow _ _ _ _ _ _ _
  rw [List.map_replicate];exact HO.out
 clear HO
 go_loopg [8] (bK3 cap legit.length (List.replicate legit.length 0)+1) (fun m x wr=>∃ (O:List Int) (ch:Bool),m=(if ch=true then bK3 cap legit.length O+1 else 0)/\x = .bool ch/\Hid (aG2 cap legit.length O)/\Hid (wr.ownsRow (w.heap.size+1) 3 1 (.slice (some ⟨gb,0,none⟩) legit.length legit.length) legit.length (O.map (Value.int .i64)))/\Bel (w.alloc (.cells #[.slice AE s.enabled.length cE,.slice AA s.arcs.length cA] 70)) wr)
 case atStart=>exact ⟨List.replicate legit.length 0,true,rfl,rfl,aG2.start fun k hk=>(HCP.out k hk).1,HO1,HW⟩
 case round =>
  clear HW HO1;obtain ⟨O,ch,rfl,rfl,HWO,HO,HW⟩:=hrel;cases ch with
  | false =>
   go_wp2_with fail
   go_ret;exact ⟨_,_,O,rfl,HWO.out,aGj HO.out,aA3 HW⟩
  | true =>
   go_wp2_with fail
   go_loopg [8,9] legit.length (fun m x z wr=>∃ (k:Nat) (O':List Int) (ch':Bool),k<=legit.length/\m=legit.length-k/\x = .bool ch'/\z = .int .i64 (k:Int)/\Hid (aWa cap legit.length O O' ch')/\Hid (wr.ownsRow (w.heap.size+1) 3 1 (.slice (some ⟨gb,0,none⟩) legit.length legit.length) legit.length (O'.map (Value.int .i64)))/\Bel (w.alloc (.cells #[.slice AE s.enabled.length cE,.slice AA s.arcs.length cA] 70)) wr)
   case atStart=>exact ⟨0,O,false,by omega,rfl,rfl,rfl,aWa.refl HWO.out,HO,HW⟩
   case round =>
    clear HW HO HWO;obtain ⟨k,O',ch',hk,rfl,rfl,rfl,HGR,HO,HW⟩:=hrel
    by_cases hlt:k<legit.length
    .have hd0:decide (k<legit.length)=true:=by simpa using hlt
     have hkI:(k:Int)<(legit.length:Int):=by omega
     have hkA:k<s.arcs.length:=by rw [HNA.out];exact hlt
     have hkAI:(k:Int)<(s.arcs.length:Int):=by omega
     obtain ⟨bA,oA,Rk,rk,hAA,hbA,x1,hRk,_,_⟩:=(HAR.out _ (Bel.refl w)).at_ k hkA;have HAA:=aA1 hAA;clear hAA;have HRK:=aA1 (fun w' (kk:Bel w w')=>hRk.keep kk);have X1:=aA1 x1;obtain ⟨bL,oL,rfl,hbL,d0⟩:=(HBR.out _ (Bel.refl w)).at_ k hlt;have D0:=aA1 d0;obtain ⟨hl31,hto2⟩:=HTO.out _ (List.getElem_mem hkA);have HTK:=aA1 hto2;have HSK:=aA1 (HST.out k hlt);have hgd:legit.getD k false=legit[k]:=aA7 hlt;have hga:s.arcs.getD k []=s.arcs[k]:=aA7 hkA;rw [hgd,hga] at HSK;generalize s.arcs[k]=la at *;generalize legit[k]=lg at *;clear hRk x1 d0 hto2 hgd hga
     go_wp2_with fail
     go_loopg [8,10] la.length (fun m x z wr=>∃ (i:Nat) (O2:List Int) (c2:Bool),i<=la.length/\m=la.length-i/\x = .bool c2/\z = .int .i64 (i:Int)/\Hid (aWa cap legit.length O O2 c2)/\Hid (wr.ownsRow (w.heap.size+1) 3 1 (.slice (some ⟨gb,0,none⟩) legit.length legit.length) legit.length (O2.map (Value.int .i64)))/\Bel (w.alloc (.cells #[.slice AE s.enabled.length cE,.slice AA s.arcs.length cA] 70)) wr)
     case atStart=>exact ⟨0,O',ch',by omega,rfl,rfl,rfl,HGR,HO,HW⟩
     case round =>
      clear HW HO HGR;obtain ⟨i,O2,c2,hi,rfl,rfl,rfl,HGR,HO,HW⟩:=hrel;have q1:=aA9 HW 1 (v := .slice AA s.arcs.length cA) rfl;rw [HAA.out] at q1;have ql:=aAz HW;have x1:=((aA3 HW).cell hbA).trans X1.out;have xl:=Nat.lt_of_lt_of_le hbA (aA3 HW).size;have d0:=((aA3 HW).cell hbL).trans D0.out;have dl:=Nat.lt_of_lt_of_le hbL (aA3 HW).size
      by_cases hli:i<la.length
      .have hd1:decide (i<la.length)=true:=by simpa using hli
       cases lg with
       | true =>
        go_wp2_with fail
        go_roundg (legit.length-(k+1))
        case rel=>exact ⟨k+1,O2,c2,by omega,rfl,rfl,by go_num,HGR,HO,HW⟩
        case measure=>omega
       | false =>
        obtain ⟨b,o,rfl,hbl,c0,c1⟩:=(HRK.out _ (aA3 HW)).at_ i hli;have hti:=HTK.out _ (List.getElem_mem hli);have hsi:=HSK.out rfl _ (List.getElem_mem hli);generalize la[i]=y at *;obtain ⟨T,U⟩:=y;dsimp only at hti hsi c0 c1;obtain ⟨t,rfl⟩:=Int.eq_ofNat_of_zero_le hti.1;rw [Int.toNat_natCast] at hsi;have htl:t<legit.length:=by omega
        have htI:(t:Int)<(legit.length:Int):=by omega
        have hOl:O2.length=legit.length:=HGR.out.1.1;have et:=aC8 HO.out t (by simp [hOl];exact htl)
        have ek:=aC8 HO.out k (by simp [hOl];exact hlt)
        rw [List.getElem_map] at et ek;have ht2:O2[t]?=some (O2[t]'(by omega)):=List.getElem?_eq_getElem (by omega)
        have hk2:O2[k]?=some (O2[k]'(by omega)):=List.getElem?_eq_getElem (by omega)
        obtain ⟨ot,hot⟩:∃ ot,(O2[t]'(by omega))=ot:=⟨_,rfl⟩
        obtain ⟨ok,hok⟩:∃ ok,(O2[k]'(by omega))=ok:=⟨_,rfl⟩
        rw [hot] at et ht2;rw [hok] at ek hk2;obtain ⟨t0,t1⟩:=HGR.out.1.2 t ot ht2;obtain ⟨k0,k1⟩:=HGR.out.1.2 k ok hk2;have hct:=(HCP.out t htl).2;have hck:=(HCP.out k hlt).2;have hs1:=hsi ot t1;have hwr:IntKind.i64.wrap (1+ot)=1+ot:=IntWalk.i64_in _ (by omega)
        have HK2:=aA1 hk2;obtain ⟨hg1,hg2⟩:=aAf HO.out;have hfz:=HO.out.frozenAt k;have hcell:=aA1 (fun w' (kk:Bel wr w')=>show w'.cell? ⟨w.heap.size,1,none⟩=some (.slice (some ⟨bA,oA,none⟩) s.arcs.length cA)/\w'.cell? ⟨bA,oA+k,none⟩=some (.slice (some ⟨b,o,none⟩) la.length rk)/\w'.cell? ⟨b,o+i*2+1,none⟩=some (.int .i64 (t:Int))/\w'.cell? ⟨gb,t,none⟩=some (.int .i64 ot)/\w'.cell? ⟨gb,k,none⟩=some (.int .i64 ok)/\w.heap.size<w'.heap.size/\bA<w'.heap.size/\b<w'.heap.size/\gb<w'.heap.size from ⟨(kk.cell ql).trans q1,(kk.cell xl).trans x1,(kk.cell hbl).trans c1,(kk.cell hg2).trans et,(kk.cell hg2).trans ek,Nat.lt_of_lt_of_le ql kk.size,Nat.lt_of_lt_of_le xl kk.size,Nat.lt_of_lt_of_le hbl kk.size,Nat.lt_of_lt_of_le hg2 kk.size⟩)
        have HBX:=Bel.refl wr;have hiI:(i:Int)<(la.length:Int):=by omega
        clear hot hok hsi ht2 hk2
        by_cases hgt:ok<1+ot
        .have dg:decide (ok<1+ot)=true:=decide_eq_true hgt
         go_wp2_with fail
         replace HBX:=HBX.drew;replace HW:=HW.drew;replace HO:=aA1 (((Bel.refl wr).drew).owns HO.out)
         go_region_held3 (fun w'=>w'.cell? ⟨w.heap.size,1,none⟩=some (.slice (some ⟨bA,oA,none⟩) s.arcs.length cA)/\w'.cell? ⟨bA,oA+k,none⟩=some (.slice (some ⟨b,o,none⟩) la.length rk)/\w'.cell? ⟨b,o+i*2+1,none⟩=some (.int .i64 (t:Int))/\w'.cell? ⟨gb,t,none⟩=some (.int .i64 ot)/\w'.cell? ⟨gb,k,none⟩=some (.int .i64 ok)/\w.heap.size<w'.heap.size/\bA<w'.heap.size/\b<w'.heap.size/\gb<w'.heap.size) (exact hcell.out _ HBX) (fail)
         go_wp2_with fail
         go_roundg (la.length-(i+1))
         case rel =>
          have h1:=(HO.out.stored k (.int .i64 (1+ot))).1;rw [<- List.map_set] at h1;exact ⟨i+1,O2.set k (1+ot),true,by omega,rfl,rfl,by go_num,HGR.out.set HK2.out (by omega) hs1 hgt,h1,HW.setCell (by simpa using hg1) _⟩
         case measure=>omega
        .have dg:decide (ok<1+ot)=false:=decide_eq_false hgt
         go_wp2_with fail
         replace HBX:=HBX.drew;replace HW:=HW.drew;replace HO:=aA1 (((Bel.refl wr).drew).owns HO.out)
         go_region_held3 (fun w'=>w'.cell? ⟨w.heap.size,1,none⟩=some (.slice (some ⟨bA,oA,none⟩) s.arcs.length cA)/\w'.cell? ⟨bA,oA+k,none⟩=some (.slice (some ⟨b,o,none⟩) la.length rk)/\w'.cell? ⟨b,o+i*2+1,none⟩=some (.int .i64 (t:Int))/\w'.cell? ⟨gb,t,none⟩=some (.int .i64 ot)/\w'.cell? ⟨gb,k,none⟩=some (.int .i64 ok)/\w.heap.size<w'.heap.size/\bA<w'.heap.size/\b<w'.heap.size/\gb<w'.heap.size) (exact hcell.out _ HBX) (fail)
         go_wp2_with fail
         go_roundg (la.length-(i+1))
         case rel=>exact ⟨i+1,O2,c2,by omega,rfl,rfl,by go_num,HGR,HO,HW⟩
         case measure=>omega
      .have hd1:decide (i<la.length)=false:=by simpa using hli
       obtain rfl:i=la.length:=by omega
       go_wp2_with fail
       go_roundg (legit.length-(k+1))
       case rel=>exact ⟨k+1,O2,c2,by omega,rfl,rfl,by go_num,HGR,HO,HW⟩
       case measure=>omega
    .have hd0:decide (k<legit.length)=false:=by simpa using hlt
     obtain rfl:k=legit.length:=by omega
     go_wp2_with fail
     go_roundg (if ch'=true then bK3 cap legit.length O'+1 else 0)
     case rel=>exact ⟨O',ch',rfl,rfl,HGR.out.1,HO,HW⟩
     case measure =>
      cases ch' with
      | true=>have:=HGR.out.2.2 rfl;simp;omega
      | false=>simp
theorem aT4 (v:Value) (s:Spc) (AL:Option Addr) (cL:Nat) (legit:List Bool) (V:Nat->List Int) (w:World) (h:aCo w v s) (hB:aDa w AL legit.length legit) (hv:aO2 s=true) (hwf:wfS s) (hl:aM6 s=true) (hn:legit.length=s.enabled.length) (hn1:1<=legit.length)
  (hna:s.arcs.length=legit.length) (hto:∀ x∈s.arcs,x.length<=31/\∀ y∈x,0<=y.2/\y.2<(legit.length:Int)) (hg:∀ k,k<legit.length->legit.getD k false=false->aFy legit s.arcs V k=true) :
  Calls prog 95 #[v,.slice AL legit.length cL] w fun e w'=>e = .returned (.int .i64 0)/\Bel w w':=by
 have HS:=aA1 (fun w' (k:Bel w w')=>h.keep k);have HBR:=aA1 (fun w' (k:Bel w w')=>hB.keep k);obtain ⟨AE,cE,AA,cA,rfl,_⟩:=h;have HW:=Bel.refl (w.alloc (.cells #[.slice AE s.enabled.length cE,.slice AA s.arcs.length cA] 70));have hn2:legit.length<=200:=by have:=(aI7 hl).1;omega
 have HNE:=aA1 hn;have HNA:=aA1 hna;have HVS:=aA1 hv;have HLS:=aA1 hl;clear hB hn hna hv hl;go_enter func95,ntmps95
 go_wp2_with (first
  | (go_at_call 46;refine (aMr _ s AL cL legit V _ (HS.out _ (aA3 HW)) (HBR.out _ (aA3 HW)) HVS.out hwf HLS.out HNE.out hn1 HNA.out hto hg).mono ?_;rintro e w1 ⟨CA,cc,rfl,hC,hb⟩;have HC:=aA1 (fun w' (k:Bel w1 w')=>hC.keep k);clear hC;replace HW:=HW.trans hb;clear hb)
  | (go_at_call 47;refine (aOr CA cc legit.length _ (HC.out _ (Bel.refl _)) (by omega)).mono ?_;rintro e w' ⟨rfl,hb⟩;replace HW:=HW.trans hb;clear hb))
 go_ret;exact ⟨rfl,aA3 HW⟩
def bI3 (cap:Nat->Int) (n:Nat) (w:World) (e:Ending) (w':World):Prop:=∃ A c O,e = .returned (.tuple #[.slice A n c,.int .i64 0])/\aG2 cap n O/\aB7 w' A n O/\Bel w w'
theorem aYo (v:Value) (s:Spc) (AL:Option Addr) (cL:Nat) (legit:List Bool) (V:Nat->List Int) (cap:Nat->Int) (w:World) (h:aCo w v s) (hB:aDa w AL legit.length legit) (hv:aO2 s=true) (hwf:wfS s) (hl:aM6 s=true) (hn:legit.length=s.enabled.length) (hn1:1<=legit.length)
  (hna:s.arcs.length=legit.length) (hto:∀ x∈s.arcs,x.length<=31/\∀ y∈x,0<=y.2/\y.2<(legit.length:Int)) (hg:∀ k,k<legit.length->legit.getD k false=false->aFy legit s.arcs V k=true)
  (hcap:∀ k,k<legit.length->0<=cap k/\cap k<=1000000000000) (hst:∀ k,k<legit.length->legit.getD k false=false->∀ x∈s.arcs.getD k [],∀ o:Int,o<=cap x.2.toNat->1+o<=cap k) :
  Calls prog 48 #[v,.slice AL legit.length cL] w (bI3 cap legit.length w):=by
 have HS:=aA1 (fun w' (k:Bel w w')=>h.keep k);have HBR:=aA1 (fun w' (k:Bel w w')=>hB.keep k);obtain ⟨AE,cE,AA,cA,rfl,_⟩:=h;have HW:=Bel.refl (w.alloc (.cells #[.slice AE s.enabled.length cE,.slice AA s.arcs.length cA] 70));have hn2:legit.length<=200:=by have:=(aI7 hl).1;omega
 have HNE:=aA1 hn;have HNA:=aA1 hna;have HVS:=aA1 hv;have HLS:=aA1 hl;clear hB hn hna hv hl;go_enter func48,ntmps48
 go_wp2_with (first
  | (go_at_call 95;refine (aT4 _ s AL cL legit V _ (HS.out _ (aA3 HW)) (HBR.out _ (aA3 HW)) HVS.out hwf HLS.out HNE.out hn1 HNA.out hto hg).mono ?_;rintro e w1 ⟨rfl,hb⟩;replace HW:=HW.trans hb;clear hb;have q0:=aA9 HW 0 (v := .slice AE s.enabled.length cE) rfl;have q1:=aA9 HW 1 (v := .slice AA s.arcs.length cA) rfl;have ql:=aAz HW)
  | (go_at_call 96;refine (aT8 _ s AL cL legit cap _ (HS.out _ (aA3 HW)) (HBR.out _ (aA3 HW)) (by omega) HNA.out hto hcap hst).mono ?_;rintro e w2 ⟨RA,rc,O,rfl,hwi,hI,hb⟩;have HI:=aA1 hI;have HWI:=aA1 hwi;clear hI hwi;replace HW:=HW.trans hb;clear hb))
 go_ret2
 exact ⟨RA,rc,O,rfl,HWI.out,HI.out,aA3 HW⟩
end Go.Proofs.YtmifhmdghfbalaaGreatDoor

