/- Merged. -/
import Derived.Test.YtdcjnhoabbdanaaGreatDoorZ08
set_option linter.unusedSimpArgs false
set_option linter.unnecessarySimpa false
set_option linter.unusedVariables false
set_option maxRecDepth 100000
set_option maxHeartbeats 4000000
open Go.Proofs.Tryz

namespace Go.Proofs.YtdcjnhoabbdanaaGreatDoor
open Go.RowKit Go.Maps
theorem aPv (ids:List Int):aN2 ids=true↔(∀ i∈ids,0<=i/\i<=255)/\ids.Nodup:=by
 unfold aN2;simp only [Bool.and_eq_true,List.all_eq_true,decide_eq_true_eq]
theorem aM2 {ids:List Int} (h:¬ ((∀ i∈ids,0<=i/\i<=255)/\ids.Nodup)):aN2 ids=false:=by
 rw [Bool.eq_false_iff];intro hb;exact h ((aPv ids).1 hb)
theorem aGk (A:Option Addr) (c:Nat) (ids:List Int) (w:World) (h:aBc w A ids.length ids) (hl:ids.length<=1000) :
  Calls prog 122 #[.slice A ids.length c] w fun e w'=>e = .returned (.bool (aN2 ids))/\Bel w w':=by
 have H:=aA0 (fun w' (k:Bel w w')=>aBc.keep h k);clear h;have HZ:=aA0 (show Tryz.zeroCells182=Array.replicate 256 (Value.bool false) by kernel_rfl)
 have HB:=(Bel.refl w).alloc (.cells Tryz.zeroCells182 182);have HK:=aA0 (Blk.new w Tryz.zeroCells182 182);go_enter func122,ntmps122;go_wp2
 go_loopg [5,8] ids.length (fun m _x z wr=>∃ (j:Nat) (cs:Array Value),j<=ids.length/\m=ids.length-j/\z = .int .i64 j/\Hid ((∀ i∈ids.take j,0<=i/\i<=255)/\(ids.take j).Nodup)/\Hid (Blk wr w.heap.size cs 182/\∀ i:Nat,i<256->cs[i]?=some (.bool (decide ((i:Int)∈ids.take j))))/\Bel w wr)
 case atStart =>
  refine ⟨0,Tryz.zeroCells182,by omega,rfl,rfl,⟨by simp,by simp⟩,⟨HK.out,fun i hi=>?_⟩,HB⟩
  rw [HZ.out,Array.getElem?_replicate,if_pos hi];simp
 case round =>
  clear HB HK;obtain ⟨j,cs,hj,rfl,rfl,HJ,HC,HB⟩:=hrel
  by_cases hlt:j<ids.length
  .have hd0:decide (j<ids.length)=true:=by simpa using hlt
   obtain ⟨b,o,rfl,hb,hc⟩:=(H.out _ HB).at_ j hlt
   by_cases hr:0<=ids[j]/\ids[j]<=255
   .obtain ⟨q,hq⟩:=Int.eq_ofNat_of_zero_le hr.1
    have hq256:q<256:=by omega
    have y1:=HC.out.1.cell q (HC.out.2 q hq256);have y2:=HC.out.1.frozen q;have y3:=HC.out.1.lt;have HM:Hid (ids[j]=(q:Int)):=hq;rw [hq] at hc;have hd1:decide ((q:Int)<0)=false:=by simp
    have hd2:decide (255<(q:Int))=false:=by simp;omega
    by_cases hin:(q:Int)∈ids.take j
    .have HF:Hid (aN2 ids=false):=aM2 fun h=>by
      obtain ⟨i,hi1,hi3⟩:=List.mem_take_iff_getElem.1 hin;exact aEa (j:=i) (by omega) hlt (by rw [hi3,HM.out]) h.2
     rw [decide_eq_true hin] at y1;clear hr hq
     go_wp2_with fail
     go_ret;exact ⟨aA2 HF.out.symm,HB⟩
    .rw [decide_eq_false hin] at y1
     have HIN:=aA0 hin;clear hr hq hin
     go_wp2_with fail
     go_roundg (ids.length-(j+1))
     case rel =>
      refine ⟨j+1,cs.setIfInBounds q (.bool true),by omega,rfl,by go_num,⟨?_,aDq hlt HJ.out.2 ?_⟩,⟨HC.out.1.set q _,fun i hi=>?_⟩,HB.setCell (by simp) _⟩
      .intro i hi
       rw [List.take_succ_eq_append_getElem hlt,List.mem_append] at hi
       rcases hi with hi | hi
       .exact HJ.out.1 i hi
       .simp at hi;subst hi;rw [HM.out];omega
      .intro i hi he
       exact HIN.out (by rw [<- HM.out,<- he,List.mem_take_iff_getElem];exact ⟨i,by omega,rfl⟩)
      .have hs:q<cs.size:=by
        have:=HC.out.2 q hq256;rw [Array.getElem?_eq_some_iff] at this;exact this.1
       rw [Array.getElem?_setIfInBounds,List.take_succ_eq_append_getElem hlt,HM.out]
       by_cases hqi:q=i
       .subst hqi;rw [if_pos rfl,if_pos hs];simp
       .rw [if_neg hqi,HC.out.2 i hi]
        congr 2
        rw [Bool.eq_iff_iff];simp;omega
     case measure=>omega
   .have HF:Hid (aN2 ids=false):=aM2 fun h=>hr (h.1 _ (List.getElem_mem hlt))
    by_cases hneg:ids[j]<0
    .have hd1:decide (ids[j]<0)=true:=by simpa using hneg
     clear hr
     go_wp2_with fail
     go_ret;exact ⟨aA2 HF.out.symm,HB⟩
    .have hd1:decide (ids[j]<0)=false:=by simpa using hneg
     have hd2:decide (255<ids[j])=true:=by simp;omega
     clear hr
     go_wp2_with fail
     go_ret;exact ⟨aA2 HF.out.symm,HB⟩
  .have hd0:decide (j<ids.length)=false:=by simpa using hlt
   go_wp2_with fail
   go_ret;refine ⟨aA2 ?_,HB⟩
   symm
   rw [aPv];have:=HJ.out;rw [List.take_of_length_le (by omega)] at this
   exact this
theorem pairK:PairK prog 149 3:=⟨underlying149,underlying3,by kernel_rfl,by kernel_rfl,by kernel_rfl,⟨_,rfl⟩⟩
theorem aVw (w:World):(zeroValue 3).run prog w = .ok (.int .i64 0) w:=by kernel_rfl
theorem aP3 (A:Option Addr) (c:Nat) (ports:List (List Link)) (w:World) (h:aEs w A ports.length ports) (hl:ports.length<=30) (hl2:∀ r∈ports,r.length<=30) :
  Calls prog 123 #[.slice A ports.length c] w fun e w'=>e = .returned (.bool (aYp ports))/\Bel w w':=by
 have HP:=aA0 (fun w' (k:Bel w w')=>aEs.keep h k);clear h;have HL2:=aA0 hl2;clear hl2;have hmm:=@run_makeMap prog;have HM0:=aA0 (aFi.made prog 149 3 w);have HB:=(Bel.refl w).alloc (.map #[] 0);go_enter func123,ntmps123;go_wp2;clear hmm
 go_loopg [4,5,7,8,9,10,16] ports.length (fun m _x1 _x2 _x3 _x4 _x5 _x6 z wr=>∃ (v n:Nat) (D:DataW Unit),v<=ports.length/\m=ports.length-v/\z = .int .i64 v/\n<=40*v/\Hid (∀ u,u<v->(hu:u<ports.length)->aC9 ports.length u ports[u]=true)/\Hid (aFi prog 149 3 wr w.heap.size n D (mOf ports v 0))/\Bel w wr)
 case atStart =>
  refine ⟨0,0,.map [],by omega,rfl,rfl,by omega,fun u hu=>absurd hu (by omega),?_,HB⟩
  have:(fun _ _=>0)=mOf ports 0 0:=by funext a b;rw [aW1]
  rw [<- this];exact HM0
 case round =>
  clear HB HM0;obtain ⟨v,n,D,hv,rfl,rfl,hn,HV,HM,HB⟩:=hrel
  by_cases hlt:v<ports.length
  .have hd0:decide (v<ports.length)=true:=by simpa using hlt
   obtain ⟨b,o,R,c1,rfl,hb,hrow,hL,_,_⟩:=(HP.out _ HB).at_ v hlt;have HL:=aA0 (fun w' (k:Bel wr w')=>aFp.keep hL k);clear hL;have hrl:=HL2.out _ (List.getElem_mem hlt);go_wp2;clear hd0 hrow hb;have HW:=Bel.refl wr;have hmn:w.heap.size<wr.heap.size:=HM.out.1.lt
   go_loopg [7,8,9,10,23] ports[v].length (fun m _x3 _x4 _x5 _x6 z ws=>∃ (j n:Nat) (D:DataW Unit),j<=ports[v].length/\m=ports[v].length-j/\z = .int .i64 j/\n<=40*v+j/\Hid ((ports[v].take j).all (aJ4 ports.length v)=true/\((ports[v].map Link.to).take j).Nodup)/\Hid (aFi prog 149 3 ws w.heap.size n D (mOf ports v j))/\Bel w ws/\Hid (aFp ws R ports[v].length ports[v]))
   case atStart=>exact ⟨0,n,D,by omega,rfl,rfl,by omega,⟨rfl,by simp⟩,HM,HB,HL.out _ HW⟩
   case round =>
    clear HB HM HW HL hmn;obtain ⟨j,n,D,hj,rfl,rfl,hn,HJ,HM,HB,HL⟩:=hrel
    by_cases hlt2:j<ports[v].length
    .have hd0:decide (j<ports[v].length)=true:=by simpa using hlt2
     obtain ⟨b2,o2,rfl,hb2,l1,l2⟩:=HL.out.at_ j hlt2;cases hok:aJ4 ports.length v ports[v][j] with
     | false =>
      have HF:Hid (aYp ports=false):=aK9 fun h=>by
       have:=(aB3.1 (h.links v hlt)).1 _ (List.getElem_mem hlt2);rw [hok] at this;cases this
      have HB2:=HB.alloc (.cells #[.int .i64 ports[v][j].to,.int .i64 ports[v][j].weight] 102);have HO:=aA0 hok;clear hok
      by_cases hq:0<=ports[v][j].to/\ports[v][j].to<(ports.length:Int)/\ports[v][j].to≠(v:Int)
      .obtain ⟨q1,q2,q3⟩:=hq
       have hw:ports[v][j].weight<1∨15<ports[v][j].weight:=by
        rcases Int.lt_or_le ports[v][j].weight 1 with h | h
        .exact .inl h
        .rcases Int.lt_or_le 15 ports[v][j].weight with h' | h'
         .exact .inr h'
         .have:=HO.out
          rw [aBd.2 ⟨q1,q2,q3,h,h'⟩] at this;cases this
       have d1:decide (ports[v][j].to<0)=false:=by simp;omega
       have d2:decide ((ports.length:Int)<=ports[v][j].to)=false:=by simp;omega
       have d3:(ports[v][j].to==(v:Int))=false:=by simpa using q3
       clear q1 q2 q3
       rcases hw with hw | hw
       .have d4:decide (ports[v][j].weight<1)=true:=by simpa using hw
        go_wp2_with fail
        go_ret;exact ⟨aA2 HF.out.symm,HB2⟩
       .have d4:decide (ports[v][j].weight<1)=false:=by simp;omega
        have d5:decide (15<ports[v][j].weight)=true:=by simpa using hw
        go_wp2_with fail
        go_ret;exact ⟨aA2 HF.out.symm,HB2⟩
      .have hcase:ports[v][j].to<0∨(0<=ports[v][j].to/\(ports.length:Int)<=ports[v][j].to)∨(0<=ports[v][j].to/\ports[v][j].to<(ports.length:Int)/\ports[v][j].to=(v:Int)):=by omega
       clear hq
       rcases hcase with h1 | ⟨h1,h2⟩ | ⟨h1,h2,h3⟩
       .have d1:decide (ports[v][j].to<0)=true:=by simpa using h1
        go_wp2_with fail
        go_ret;exact ⟨aA2 HF.out.symm,HB2⟩
       .have d1:decide (ports[v][j].to<0)=false:=by simp;omega
        have d2:decide ((ports.length:Int)<=ports[v][j].to)=true:=by simpa using h2
        go_wp2_with fail
        go_ret;exact ⟨aA2 HF.out.symm,HB2⟩
       .have d1:decide (ports[v][j].to<0)=false:=by simp;omega
        have d2:decide ((ports.length:Int)<=ports[v][j].to)=false:=by simp;omega
        have d3:(ports[v][j].to==(v:Int))=true:=by simpa using h3
        have HH:=aA0 h3;clear h3
        go_wp2_with fail
        go_ret;exact ⟨aA2 HF.out.symm,HB2⟩
     | true =>
      obtain ⟨q1,q2,q3,q4,q5⟩:=aBd.1 hok;obtain ⟨t,ht⟩:=Int.eq_ofNat_of_zero_le q1;have HO:=aA0 hok;have HTE:=aA0 ht;have d1:decide ((t:Int)<0)=false:=by simp
      have d2:decide (ports.length<=t)=false:=by simp;omega
      have d2':decide ((ports.length:Int)<=(t:Int))=false:=by simp;omega
      have d3:((t:Int)==(v:Int))=false:=by simp;omega
      have d3':(t==v)=false:=by simp;omega
      have d4:decide (ports[v][j].weight<1)=false:=by simp;omega
      have d5:decide (15<ports[v][j].weight)=false:=by simp;omega
      have wt:(Lit.int .i64 (t:Int)).wf=true:=WalkArith.wf_i64 (by omega)
      have wv:(Lit.int .i64 (v:Int)).wf=true:=WalkArith.wf_i64 (by omega)
      have ww:(Lit.int .i64 ports[v][j].weight).wf=true:=WalkArith.wf_i64 (by omega)
      have hwne:ports[v][j].weight≠0:=by omega
      rw [ht] at l1;have HB2:=(HB.alloc (.cells #[.int .i64 (t:Int),.int .i64 ports[v][j].weight] 102)).alloc (.cells #[.int .i64 (v:Int),.int .i64 (t:Int)] 149);have HW2:=((Bel.refl wr).alloc (.cells #[.int .i64 (t:Int),.int .i64 ports[v][j].weight] 102)).alloc (.cells #[.int .i64 (v:Int),.int .i64 (t:Int)] 149);have HM2:=aA0 (HM.out.keep HW2);have hlook:=aFi.lookOk pairK underlying183 HM2.out (aVw _) wv wt;unfold aN6 at hlook;dsimp only at hlook
      have hwpos:∀ l∈ports[v].take j,1<=l.weight:=fun l hl=>by
       have:=List.all_eq_true.1 HJ.out.1 l hl;exact (aBd.1 this).2.2.2.1
      have hmv:mOf ports v j (v:Int) (t:Int)=wOf (ports[v].take j) (t:Int):=by
       unfold mOf;rw [if_neg (by omega),if_pos rfl,aA8 hlt]
      by_cases hdup:mOf ports v j (v:Int) (t:Int)=0
      .have hno:∀ l∈ports[v].take j,l.to≠ports[v][j].to:=by
        rw [ht];exact aZw hwpos (by rw [<- hmv];exact hdup)
       have hdd:decide (mOf ports v j (v:Int) (t:Int)≠0)=false:=by simpa using hdup
       rw [hdd,hdup] at hlook;have HNO:=aA0 hno;have HWL:=aA0 (fun w' (k:Bel wr w')=>HL.out.keep k);have hms:w.heap.size<wr.heap.size:=HM.out.1.lt;clear hdup hdd hno hwpos hmv q1 q2 q3 hok ht
       go_wp2_with (at_mapUpdate;refine wpList_mapUpdate_own _ rfl (.tmp 62) (.tmp 63) (.tmp 65) 183 rfl 149 3 pairK.law underlying183 _ w.heap.size n D rfl HM2.out.1 (by unfold maxLen;omega) _ _ _ rfl rfl (pairK.keyOf wv wt) _ [] (plainElem_int underlying3 ww) ?_;intro w3 hown hgr;have HB3:=HB2.map (Nat.le_refl _) hgr;have HP3:=aA0 (aFi.put pairK wv wt hwne HM2.out.2 hown);have HG3:=aA0 hgr;clear hown hgr)
       go_roundg (ports[v].length-(j+1))
       case rel =>
        refine ⟨j+1,n+1,D.put (pk (v:Int) (t:Int)) (.lit (.int .i64 ports[v][j].weight)),by omega,rfl,by go_num,by omega,⟨aA9 hlt2 HJ.out.1 HO.out,?_⟩,?_,HB3,?_⟩
        .refine aDq (by simpa using hlt2) HJ.out.2 (fun q hq he=>?_)
         simp at he
         exact HNO.out (ports[v][q]'(by omega)) (by rw [List.mem_take_iff_getElem];exact ⟨q,by omega,rfl⟩) he
        .have e:bA1 (mOf ports v j) (v:Int) (t:Int) ports[v][j].weight=mOf ports v (j+1):=by
          funext a b
          rw [aY3 hlt hlt2 HNO.out,HTE.out];rfl
         rw [<- e];exact HP3
        .have hk:=HWL.out _ HW2
         refine ⟨hk.1,fun i x hx=>?_⟩
         obtain ⟨bb,oo,e,hlt',hE⟩:=HL.out.2 i x hx
         have hbb:bb≠w.heap.size:=by
          intro hh
          obtain ⟨es,clock,hb',_⟩:=HM.out.1;subst hh;have h1:=hE.1;unfold World.cell? at h1;rw [hb'] at h1;simp at h1
         have hblk:w3.heap[bb]?=wr.heap[bb]?:=by
          rw [HG3.out.block bb (by have:=HW2.size;omega) (by simpa using hbb)]
          exact HW2.block bb hlt'
         have hcell:∀ o',w3.cell? ⟨bb,o',none⟩=wr.cell? ⟨bb,o',none⟩:=fun o'=>by unfold World.cell?;rw [hblk]
         refine ⟨bb,oo,e,?_,(hcell _).trans hE.1,(hcell _).trans hE.2⟩
         have:=HW2.size;have:=HG3.out.size;omega
       case measure=>omega
      .have HF:Hid (aYp ports=false):=aK9 fun h=>by
        obtain ⟨l,hlm,hlt',_⟩:=aLk (ls:=ports[v].take j) (b:=(t:Int)) (by rw [<- hmv];exact hdup)
        obtain ⟨q,hq,rfl⟩:=List.mem_take_iff_getElem.1 hlm;exact aEa (j:=q) (k:=j) (by omega) (by simpa using hlt2) (by simp [hlt',ht]) (aB3.1 (h.links v hlt)).2
       rw [decide_eq_true hdup] at hlook;clear hdup hwpos hmv q1 q2 q3 hok ht
       go_wp2_with fail
       go_ret;exact ⟨aA2 HF.out.symm,HB2⟩
    .have hd0:decide (j<ports[v].length)=false:=by simpa using hlt2
     have HLV:Hid (aC9 ports.length v ports[v]=true):=by
      show aC9 ports.length v ports[v]=true
      rw [aB3];have h1:=HJ.out;rw [List.take_of_length_le (by omega),List.take_of_length_le (by simp;omega)] at h1
      exact ⟨List.all_eq_true.1 h1.1,h1.2⟩
     go_wp2_with fail
     go_roundg (ports.length-(v+1))
     case rel =>
      refine ⟨v+1,n,D,by omega,rfl,by go_num,by omega,?_,?_,HB⟩
      .intro u hu hu'
       rcases Nat.lt_or_ge u v with h | h
       .exact HV.out u h hu'
       .obtain rfl:u=v:=by omega
        exact HLV.out
      .have e:mOf ports v j=mOf ports (v+1) 0:=by funext a b;exact aZk hlt (by omega) a b
       rw [<- e];exact HM
     case measure=>omega
  .obtain rfl:v=ports.length:=by omega
   have hd0:decide (ports.length<ports.length)=false:=by simp
   have HSM:=aA0 (aUq (fun u hu=>HV.out u (by omega) hu))
   have HLK:=aA0 (fun u (hu:u<ports.length)=>HV.out u (by omega) hu)
   clear HV hlt hv
   go_wp2_with (at_range;refine wpList_range_own _ rfl (.tmp 68) 183 rfl 149 3 pairK.law underlying183 _ w.heap.size n D rfl HM.out.1 ?_;intro w1 hrg hgr hsz;have HB1:=HB.grown hgr (fun k hk=>by cases hk);have HRG:=aA0 hrg;clear hrg hgr hsz;go_frame)
   have hr0:w.heap.size<wr.heap.size:=HM.out.1.lt;have HM2:=aA0 HM.out.2;clear hd0 HM;generalize hrr:wr.heap.size=r at *;clear hrr
   go_loopg [11,12] (size D) (fun m _x _y ws=>∃ (left:Lit->Bool) (cnt:Nat),m=cnt/\Hid (ws.ranges prog 149 (plainElem prog 3) w.heap.size r n D left cnt)/\Hid (∀ a b,(Lit.int .i64 a).wf=true->(Lit.int .i64 b).wf=true->mOf ports ports.length 0 a b≠0->left (pk a b)=false->mOf ports ports.length 0 b a=mOf ports ports.length 0 a b)/\Bel w ws)
   case atStart =>
    refine ⟨_,_,rfl,HRG,?_,HB1⟩
    intro a b wa wb hne hlf
    have:=((HM2.out.2 a b wa wb).2).2 hne;rw [this] at hlf;cases hlf
   case round =>
    clear HB HB1 HRG;obtain ⟨left,cnt,rfl,HRG,HI,HB⟩:=hrel
    go_wp2_with (at_next;refine wpList_next_ranges _ rfl (.tmp 69) rfl 149 pairK.law (plainElem prog 3) aN6 (Value.int .i64) (fun key kl hkey=>by obtain ⟨x,hx,_⟩:=pairK.inv hkey;exact ⟨x,hx⟩) (fun v y hv=>by obtain ⟨c,hc,_⟩:=plainElem_int_inv underlying3 hv;exact ⟨c,hc⟩) w.heap.size r n D left _ rfl HRG.out ?_ ?_)
    .intro _ hl0
     have HL0:=aA0 hl0;clear hl0
     go_wp2_with fail
     go_ret;refine ⟨aA2 ?_,HB⟩
     symm
     rw [aTc,HSM.out];intro a b hne
     obtain ⟨h0,h1⟩:=aW0 hne;obtain ⟨a',rfl⟩:=Int.eq_ofNat_of_zero_le h0;have hlt:a' < ports.length:=by omega
     have hne2:=hne;rw [aPy hlt hlt] at hne2;obtain ⟨l,hlm,rfl,_⟩:=aLk hne2;obtain ⟨t1,t2,_⟩:=aBd.1 ((aB3.1 (HLK.out a' hlt)).1 l hlm);exact HI.out _ _ (WalkArith.wf_i64 (by omega)) (WalkArith.wf_i64 (by omega)) hne (HL0.out _)
    .intro x1 x2 cw kl y1 y2 w2 cnt2 hkey hlk hv hat hrg2 hlt2 hg2 hs2 hen
     obtain ⟨⟨x1',x2'⟩,hx,wx1,wx2,rfl⟩:=pairK.inv hkey;simp [aN6] at hx
     obtain ⟨rfl,rfl⟩:=hx;obtain ⟨c',hc',hy,wc⟩:=plainElem_int_inv underlying3 hv;injection hc' with _ hc'
     subst hc'
     have hM:mOf ports ports.length 0 x1 x2=cw:=by
      have h1:=(HM2.out.2 x1 x2 wx1 wx2).1;have hy1:y1 = .lit (.int .i64 cw):=congrArg Prod.fst hy;rw [hat,hy1] at h1;simp at h1
      exact h1.symm
     have hMne:mOf ports ports.length 0 x1 x2≠0:=by
      have h1:=(HM2.out.2 x1 x2 wx1 wx2).2;rw [<- h1];exact has_true_of_atKey (y:=y1) hat
     have HB2:Bel w w2:=HB.grown hg2 (fun k hk=>by injection hk with hk;omega)
     have HB3:=HB2.alloc (.cells #[.int .i64 x1,.int .i64 x2] 149);have HR3:=aA0 (hrg2.alloc (.cells #[.int .i64 x1,.int .i64 x2] 149));have hlook:=aFi.look pairK underlying183 (⟨HR3.out.owns,HM2.out⟩:aFi prog 149 3 _ _ _ _ _) (aVw _) wx2 wx1;unfold aN6 at hlook hen;dsimp only at hlook hen;have HMM:=aA0 hM;have HME:=aA0 hMne;have HLT:=aA0 hlt2;have HLKK:=aA0 hlk;have hrl:=HR3.out.lt;clear hM hMne hkey hv hat hrg2 hg2 hy hlt2 hlk;generalize hmx:mOf ports ports.length 0 x2 x1=mx at *;have HMX:=aA0 hmx;clear hmx
     by_cases he:mx=cw
     .have heb:(mx != cw)=false:=by simpa using he
      have HE:=aA0 he;clear he
      go_wp2_with fail
      go_roundg cnt2
      case rel =>
       refine ⟨_,cnt2,rfl,HR3,?_,HB3⟩
       intro a b wa wb hne hlf
       rw [Bool.and_eq_false_iff] at hlf
       rcases hlf with hlf | hlf
       .exact HI.out a b wa wb hne hlf
       .simp at hlf
        have:=WideAt.sameKey_eq hlf;obtain ⟨rfl,rfl⟩:=aZ0 pairK wa wb wx1 wx2 this;rw [HMX.out,HE.out,HMM.out]
      case measure=>exact HLT.out
     .have heb:(mx != cw)=true:=by simpa using he
      have HF:Hid (aYp ports=false):=aK9 fun h=>by
       have:=HSM.out.1 h x1 x2 HME.out;rw [HMX.out,HMM.out] at this;exact he this
      clear he
      go_wp2_with fail
      go_ret;exact ⟨aA2 HF.out.symm,HB3⟩
open Go.RowKit
theorem aZf (a b:Int):∃ m,(if b<a then b else a)=m/\m=min a b:=⟨_,rfl,by split <;> omega⟩
theorem aRv (a b:Int):∃ m,(if a<b then b else a)=m/\m=max a b:=⟨_,rfl,by split <;> omega⟩
theorem aVn (a:Int) (w:World):Calls prog 207 #[.int .i64 a] w fun e w'=>e = .returned (.bool (a != 0))/\w=w':=by
 go_enter func207,ntmps207;go_wp2;go_ret;exact ⟨rfl,rfl⟩
theorem aLs (A:Option Addr) (n c:Nat) (l:List Int) (w:World) (h:aBc w A n l) (hl:n<=1000) :
  Calls prog 205 #[.slice A n c] w fun e w'=>e = .returned (.int .i64 (aDe l))/\w=w':=by
 obtain rfl:=h.1;have H:=aA0 h;clear h;go_enter func205,ntmps205
 go_wp2_with fail
 go_loopg [3,8] l.length (fun g cv iv wr=>∃ (k:Nat) (z:Int),k+g=l.length/\0<=z/\z<=k/\Hid (z+aDe (l.drop k)=aDe l)/\cv = .int .i64 z/\iv = .int .i64 k/\w=wr)
 case atStart=>exact ⟨0,0,by omega,by omega,by omega,by show _=_;simp,rfl,rfl,rfl⟩
 case round =>
  obtain ⟨k,z,hk,hz0,hz1,HZ,rfl,rfl,rfl⟩:=hrel
  by_cases hlt:k<l.length
  .obtain ⟨b,o,rfl,hb,hc⟩:=H.out.at_ k hlt
   have hstep:Hid (aDe (l.drop k)=(if l[k]=0 then 0 else 1)+aDe (l.drop (k+1))):=by
    show aDe (l.drop k)=_
    rw [List.drop_eq_getElem_cons hlt,aRh]
   by_cases h0:l[k]=0
   .have hz:(l[k] != 0)=false:=by simpa using h0
    have HZ2:Hid (z+aDe (l.drop (k+1))=aDe l):=by show _=_;rw [<- HZ.out,hstep.out,if_pos h0];omega
    clear h0
    go_wp2_with fail
    go_roundg (gk-1)
    case rel=>exact ⟨k+1,z,by omega,by omega,by omega,HZ2,rfl,by go_num,rfl⟩
    case measure=>omega
   .have hz:(l[k] != 0)=true:=by simpa using h0
    have HZ2:Hid (z+1+aDe (l.drop (k+1))=aDe l):=by show _=_;rw [<- HZ.out,hstep.out,if_neg h0];omega
    clear h0
    go_wp2_with fail
    go_roundg (gk-1)
    case rel=>exact ⟨k+1,z+1,by omega,by omega,by omega,HZ2,rfl,by go_num,rfl⟩
    case measure=>omega
  .go_wp2_with fail
   go_ret;refine ⟨aA4 ?_,rfl⟩
   have:=HZ.out;rw [List.drop_eq_nil_of_le (by omega)] at this
   simpa [aDe] using this
theorem aX1 (A:Option Addr) (n c:Nat) (l:List Int) (w:World) (h:aBc w A n l) (hl:n<=1000) :
  Calls prog 208 #[.slice A n c] w fun e w'=>e = .returned (.tuple #[.int .i64 (aZv l).1,.int .i64 (aZv l).2])/\w=w':=by
 obtain rfl:=h.1;have H:=aA0 h;clear h;go_enter func208,ntmps208
 go_wp2_with fail
 go_loopg [2,3,8] l.length (fun g av sv iv wr=>∃ (k:Nat) (a s:Int),k+g=l.length/\Hid (aKa (l.drop k) a s=aZv l)/\av = .int .i64 a/\sv = .int .i64 s/\iv = .int .i64 k/\w=wr)
 case atStart=>exact ⟨0,_,_,by omega,rfl,rfl,rfl,rfl,rfl⟩
 case round =>
  obtain ⟨k,a,s,hk,HZ,rfl,rfl,rfl,rfl⟩:=hrel
  by_cases hlt:k<l.length
  .obtain ⟨b,o,rfl,hb,hc⟩:=H.out.at_ k hlt
   have hstep:Hid (aKa (l.drop k) a s=if a<l[k] then aKa (l.drop (k+1)) l[k] a else aKa (l.drop (k+1)) a (max s l[k])):=by
    show aKa (l.drop k) a s=_
    rw [List.drop_eq_getElem_cons hlt];rfl
   obtain ⟨m,hm,hm'⟩:=aRv s l[k];have HM:=aA0 hm';clear hm'
   by_cases h0:a<l[k]
   .have hd:decide (a<l[k])=true:=by simpa using h0
    have HZ2:Hid (aKa (l.drop (k+1)) l[k] a=aZv l):=by show _=_;rw [<- HZ.out,hstep.out,if_pos h0]
    clear h0
    go_wp2_with fail
    go_roundg (gk-1)
    case rel=>exact ⟨k+1,l[k],a,by omega,HZ2,rfl,rfl,by go_num,rfl⟩
    case measure=>omega
   .have hd:decide (a<l[k])=false:=by simpa using h0
    have HZ2:Hid (aKa (l.drop (k+1)) a m=aZv l):=by show _=_;rw [<- HZ.out,hstep.out,if_neg h0,HM.out]
    clear h0
    go_wp2_with fail
    go_roundg (gk-1)
    case rel=>exact ⟨k+1,a,m,by omega,HZ2,rfl,rfl,by go_num,rfl⟩
    case measure=>omega
  .go_wp2_with fail
   go_ret2
   have hz:=HZ.out;rw [List.drop_eq_nil_of_le (by omega)] at hz
   exact ⟨aYl hz.symm,rfl⟩
def aE8:List Int->(Int->Bool)->Int->Int
 | [],_,_ => -1
 | a :: l,f,i=>if f a then i else aE8 l f (i+1)
theorem aRr (l:List Int):∀ i,aE8 l (fun a=>a != 0) i=aH0 l i:=by
 induction l with
 | nil=>intro i;rfl
 | cons a l ih =>
  intro i
  simp only [aE8,aH0]
  by_cases h:a=0
  .simp [h,ih]
  .simp [h]
theorem aVs (l:List Int) (x:Int):∀ i,0<=i->(0<=aE8 l (fun a=>x==a) i↔x∈l):=by
 induction l with
 | nil=>intro i _;simp [aE8]
 | cons a l ih =>
  intro i hi
  simp only [aE8]
  by_cases h:x=a
  .simp [h,hi]
  .simp [h,ih (i+1) (by omega)]
theorem aVv (A:Option Addr) (n c:Nat) (l:List Int) (x:Int) (w:World) (h:aBc w A n l) (hl:n<=1000) :
  Calls prog 214 #[.slice A n c,.int .i64 x] w fun e w'=>e = .returned (.int .i64 (aE8 l (fun a=>x==a) 0))/\w=w':=by
 obtain rfl:=h.1;have H:=aA0 h;clear h;go_enter func214,ntmps214
 go_wp2_with fail
 go_loopg [8] l.length (fun g iv wr=>∃ (k:Nat),k+g=l.length/\Hid (aE8 (l.drop k) (fun a=>x==a) k=aE8 l (fun a=>x==a) 0)/\iv = .int .i64 k/\w=wr)
 case atStart=>exact ⟨0,by omega,rfl,rfl,rfl⟩
 case round =>
  obtain ⟨k,hk,HZ,rfl,rfl⟩:=hrel
  by_cases hlt:k<l.length
  .obtain ⟨b,o,rfl,hb,hc⟩:=H.out.at_ k hlt
   have hstep:Hid (aE8 (l.drop k) (fun a=>x==a) k=if (x==l[k])=true then (k:Int) else aE8 (l.drop (k+1)) (fun a=>x==a) ((k:Int)+1)):=by
    show aE8 (l.drop k) (fun a=>x==a) k=_
    rw [List.drop_eq_getElem_cons hlt];rfl
   cases h0:(x==l[k]) with
   | true =>
    have HZ2:Hid ((k:Int)=aE8 l (fun a=>x==a) 0):=by show _=_;rw [<- HZ.out,hstep.out,if_pos h0]
    go_wp2_with fail
    go_ret;exact ⟨aA4 HZ2.out,rfl⟩
   | false =>
    have HZ2:Hid (aE8 (l.drop (k+1)) (fun a=>x==a) ((k+1:Nat):Int)=aE8 l (fun a=>x==a) 0):=by show _=_;rw [<- HZ.out,hstep.out,if_neg (by rw [h0];decide)];rfl
    go_wp2_with fail
    go_roundg (gk-1)
    case rel=>exact ⟨k+1,by omega,HZ2,by go_num,rfl⟩
    case measure=>omega
  .go_wp2_with fail
   go_ret;have hz:=HZ.out;rw [List.drop_eq_nil_of_le (by omega)] at hz
   exact ⟨aA4 hz,rfl⟩
theorem aKi (A:Option Addr) (n c:Nat) (l:List Int) (x:Int) (w:World) (h:aBc w A n l) (hl:n<=1000) :
  Calls prog 213 #[.slice A n c,.int .i64 x] w fun e w'=>e = .returned (.bool (decide (x∈l)))/\w=w':=by
 obtain rfl:=h.1;have H:=aA0 h;clear h
 have HF:Hid (decide (x∈l)=decide (0<=aE8 l (fun a=>x==a) 0)):=by
  show decide (x∈l)=_
  rw [Bool.eq_iff_iff];simp [aVs l x 0 (by omega)]
 go_enter func213,ntmps213
 go_wp2_with (go_at_call 214;refine (aVv _ _ _ l _ _ H.out hl).mono ?_;rintro e w' ⟨rfl,rfl⟩)
 go_ret;exact ⟨aA2 HF.out.symm,rfl⟩
theorem aZl (A:Option Addr) (n c:Nat) (l:List Int) (w:World) (h:aBc w A n l) (hl:n<=1000) :
  Calls prog 209 #[.slice A n c] w fun e w'=>e = .returned (.int .i64 (bA0 l))/\w=w':=by
 obtain rfl:=h.1;have H:=aA0 h;clear h;have hcl:=aSo l 0;go_enter func209,ntmps209
 go_wp2_with fail
 go_loopg [3] (aMz l 0) (fun g rv wr=>∃ (k:Int),0<=k/\k+g=aMz l 0/\aMz l k<=g/\Hid (aJz l g k=bA0 l)/\rv = .int .i64 k/\w=wr)
 case atStart=>exact ⟨0,by omega,by omega,Nat.le_refl _,rfl,rfl,rfl⟩
 case round =>
  obtain ⟨k,hk0,hk,hg,HZ,rfl,rfl⟩:=hrel
  by_cases hm:k∈l
  .have hc:=aO8 hm
   obtain ⟨g,rfl⟩:∃ g,gk=g+1:=⟨gk-1,by omega⟩
   have HZ2:Hid (aJz l g (k+1)=bA0 l):=by
    have:=HZ.out;simp only [aJz] at this
    rw [if_pos hm] at this;exact this
   have hd:decide (k∈l)=true:=decide_eq_true hm;have hk6:k<=1000000:=by omega
   clear hm
   go_wp2_with (go_at_call 213;refine (aKi _ _ _ l _ _ H.out hl).mono ?_;rintro e w' ⟨rfl,rfl⟩;rw [hd])
   go_roundg g
   case rel=>exact ⟨k+1,by omega,by omega,by omega,HZ2,rfl,rfl⟩
   case measure=>omega
  .have HZ2:Hid (k=bA0 l):=by
    have:=HZ.out;cases gk with
    | zero=>exact this
    | succ g=>simp only [aJz] at this;rw [if_neg hm] at this;exact this
   have hd:decide (k∈l)=false:=decide_eq_false hm;clear hm
   go_wp2_with (go_at_call 213;refine (aKi _ _ _ l _ _ H.out hl).mono ?_;rintro e w' ⟨rfl,rfl⟩;rw [hd])
   go_ret;exact ⟨aA4 HZ2.out,rfl⟩
theorem aOk (f:FuncId) (p:Int->Bool) (hf:∀ a w,Calls prog f #[.int .i64 a] w fun e w'=>e = .returned (.bool (p a))/\w=w') (hcall:∀ a w,(callFunc f #[a]).run prog w = .ok (.enter f #[a]) w)
  (A:Option Addr) (n c:Nat) (l:List Int) (w:World) (h:aBc w A n l) (hl:n<=1000) :
  Calls prog 206 #[.slice A n c,.func (.func f) #[] #[]] w fun e w'=>e = .returned (.int .i64 (aE8 l p 0))/\w=w':=by
 obtain rfl:=h.1;have H:=aA0 h;clear h;have HF:=aA0 hf;clear hf;go_enter func206,ntmps206
 go_wp2_with fail
 go_loopg [8] l.length (fun g iv wr=>∃ (k:Nat),k+g=l.length/\Hid (aE8 (l.drop k) p k=aE8 l p 0)/\iv = .int .i64 k/\w=wr)
 case atStart=>exact ⟨0,by omega,rfl,rfl,rfl⟩
 case round =>
  obtain ⟨k,hk,HZ,rfl,rfl⟩:=hrel
  by_cases hlt:k<l.length
  .obtain ⟨b,o,rfl,hb,hc⟩:=H.out.at_ k hlt
   have hstep:Hid (aE8 (l.drop k) p k=if p l[k]=true then (k:Int) else aE8 (l.drop (k+1)) p ((k:Int)+1)):=by
    show aE8 (l.drop k) p k=_
    rw [List.drop_eq_getElem_cons hlt];rfl
   cases h0:p l[k] with
   | true =>
    have HZ2:Hid ((k:Int)=aE8 l p 0):=by show _=_;rw [<- HZ.out,hstep.out,if_pos h0]
    go_wp2_with (((with_reducible refine (HF.out _ _).mono ?_);rintro e w' ⟨rfl,rfl⟩;rw [h0]))
    go_ret;exact ⟨aA4 HZ2.out,rfl⟩
   | false =>
    have HZ2:Hid (aE8 (l.drop (k+1)) p ((k+1:Nat):Int)=aE8 l p 0):=by show _=_;rw [<- HZ.out,hstep.out,if_neg (by rw [h0];decide)];rfl
    go_wp2_with (((with_reducible refine (HF.out _ _).mono ?_);rintro e w' ⟨rfl,rfl⟩;rw [h0]))
    go_roundg (gk-1)
    case rel=>exact ⟨k+1,by omega,HZ2,by go_num,rfl⟩
    case measure=>omega
  .go_wp2_with fail
   go_ret;have hz:=HZ.out;rw [List.drop_eq_nil_of_le (by omega)] at hz
   exact ⟨aA4 hz,rfl⟩
theorem aSr (A:Option Addr) (n c:Nat) (l:List Int) (op:Int) (w:World) (h:aBc w A n l) (hl:n<=1000) (h1:20<=op) (h2:op<=29) (hn:∀ x∈l,Num x) :
  Calls prog 182 #[.int .i64 op,.slice A n c] w fun e w'=>e = .returned (.int .i64 (aM1 op l))/\w=w':=by
 obtain rfl:=h.1;have H:=aA0 h;clear h;have HN:=aA0 hn;clear hn;have hcase:op=20∨op=21∨op=22∨op=23∨op=24∨op=25∨op=26∨op=27∨op=28∨op=29:=by omega
 clear h1 h2
 rcases hcase with h | h | h | h | h | h | h | h | h | h
 .subst h
  go_enter func182,ntmps182
  go_wp2_with (first
   | (go_at_call 205;refine (aLs _ _ _ l _ H.out hl).mono ?_;rintro e w' ⟨rfl,rfl⟩)
   | (go_at_call 181;refine (aD9 _ _).mono ?_;rintro e w' ⟨rfl,rfl⟩))
  go_ret;exact ⟨rfl,rfl⟩
 .subst h
  go_enter func182,ntmps182
  go_wp2_with (first
   | (go_at_call 205;refine (aLs _ _ _ l _ H.out hl).mono ?_;rintro e w' ⟨rfl,rfl⟩)
   | (go_at_call 181;refine (aD9 _ _).mono ?_;rintro e w' ⟨rfl,rfl⟩))
  go_ret;exact ⟨rfl,rfl⟩
 .subst h
  go_enter func182,ntmps182
  go_wp2_with (first
   | (go_at_call 205;refine (aLs _ _ _ l _ H.out hl).mono ?_;rintro e w' ⟨rfl,rfl⟩))
  go_ret;exact ⟨rfl,rfl⟩
 .subst h
  have HF:Hid (aE8 l (fun a=>a != 0) 0=aM1 23 l):=aRr l 0;go_enter func182,ntmps182
  go_wp2_with (go_at_call 206;refine (aOk 207 (fun a=>a != 0) (fun a w=>aVn a w) (fun _ _=>by kernel_rfl) _ _ _ l _ H.out hl).mono ?_;rintro e w' ⟨rfl,rfl⟩)
  go_ret;exact ⟨aA4 HF.out,rfl⟩
 .subst h
  go_enter func182,ntmps182
  go_wp2_with fail
  go_loopg [5,42] l.length (fun g mv iv wr=>∃ (k:Nat) (z:Int),k+g=l.length/\Hid ((l.drop k).foldl min z=aM1 24 l)/\mv = .int .i64 z/\iv = .int .i64 k/\w=wr)
  case atStart=>exact ⟨0,_,by omega,rfl,rfl,rfl,rfl⟩
  case round =>
   obtain ⟨k,z,hk,HZ,rfl,rfl,rfl⟩:=hrel
   by_cases hlt:k<l.length
   .obtain ⟨b,o,rfl,hb,hc⟩:=H.out.at_ k hlt
    obtain ⟨m,hm,hm'⟩:=aZf z l[k]
    have HZ2:Hid ((l.drop (k+1)).foldl min m=aM1 24 l):=by
     have:=HZ.out;rw [List.drop_eq_getElem_cons hlt,List.foldl_cons,<- hm'] at this;exact this
    clear hm'
    go_wp2_with fail
    go_roundg (gk-1)
    case rel=>exact ⟨k+1,m,by omega,HZ2,rfl,by go_num,rfl⟩
    case measure=>omega
   .go_wp2_with fail
    go_ret;have hz:=HZ.out;rw [List.drop_eq_nil_of_le (by omega)] at hz
    exact ⟨aA4 hz,rfl⟩
 .subst h
  go_enter func182,ntmps182
  go_wp2_with (first
   | (go_at_call 208;refine (aX1 _ _ _ l _ H.out hl).mono ?_;rintro e w' ⟨rfl,rfl⟩))
  go_ret;exact ⟨rfl,rfl⟩
 .subst h
  go_enter func182,ntmps182
  go_wp2_with fail
  go_loopg [10,63] l.length (fun g sv iv wr=>∃ (k:Nat) (z:Int),k+g=l.length /\ -(1073741824*k)<=z/\z<=1073741824*k/\Hid (aUw ((l.drop k).foldl (·+·) z)=aM1 26 l)/\sv = .int .i64 z/\iv = .int .i64 k/\w=wr)
  case atStart=>exact ⟨0,0,by omega,by omega,by omega,rfl,rfl,rfl,rfl⟩
  case round =>
   obtain ⟨k,z,hk,hz1,hz2,HZ,rfl,rfl,rfl⟩:=hrel
   by_cases hlt:k<l.length
   .obtain ⟨b,o,rfl,hb,hc⟩:=H.out.at_ k hlt
    have hx:=HN.out l[k] (List.getElem_mem _);unfold Num at hx;obtain ⟨hx1,hx2⟩:=hx
    have HZ2:Hid (aUw ((l.drop (k+1)).foldl (·+·) (z+l[k]))=aM1 26 l):=by
     have:=HZ.out;rw [List.drop_eq_getElem_cons hlt,List.foldl_cons] at this;exact this
    go_wp2_with fail
    go_roundg (gk-1)
    case rel=>exact ⟨k+1,z+l[k],by omega,by omega,by omega,HZ2,rfl,by go_num,rfl⟩
    case measure=>omega
   .have hz:=HZ.out
    rw [List.drop_eq_nil_of_le (by omega)] at hz
    have HZ2:=aA0 hz;clear hz
    go_wp2_with (go_at_call 183;refine (aCx _ _).mono ?_;rintro e w' ⟨rfl,rfl⟩)
    go_ret;exact ⟨aA4 HZ2.out,rfl⟩
 .subst h
  go_enter func182,ntmps182
  go_wp2_with (first
   | (go_at_call 209;refine (aZl _ _ _ l _ H.out hl).mono ?_;rintro e w' ⟨rfl,rfl⟩))
  go_ret;exact ⟨rfl,rfl⟩
 .subst h
  go_enter func182,ntmps182
  go_wp2_with (first
   | (go_at_call 208;refine (aX1 _ _ _ l _ H.out hl).mono ?_;rintro e w' ⟨rfl,rfl⟩))
  go_ret;exact ⟨rfl,rfl⟩
 .subst h
  rcases l with _ | ⟨x,l⟩
  .go_enter func182,ntmps182
   go_wp2_with fail
   go_ret;exact ⟨rfl,rfl⟩
  .obtain ⟨b,o,rfl,hb,hc⟩:=H.out.at_ 0 (by simp)
   have hc':w.cell? ⟨b,o,none⟩=some (.int .i64 x):=by simpa using hc
   clear hc;have hne:(((x :: l).length:Int)==0)=false:=by simp;omega
   go_enter func182,ntmps182
   go_wp2_with fail
   go_ret;exact ⟨rfl,rfl⟩
end Go.Proofs.YtdcjnhoabbdanaaGreatDoor

