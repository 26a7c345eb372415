/- Merged. -/
import Derived.Test.YtdcjnhoabbdanaaGreatDoorZ09
import Derived.Test.YtdcjnhoabbdanaaGreatDoorZ08
set_option linter.unusedSimpArgs false
set_option linter.unnecessarySimpa false
set_option linter.unusedVariables false
set_option maxRecDepth 100000
set_option maxHeartbeats 4000000
open Go.Proofs.Tryz

namespace Go.Proofs.YtdcjnhoabbdanaaGreatDoor
open Go.RowKit Go.Maps
theorem aR4 (ids:List Int):aO4 ids=true↔(∀ i∈ids,0<=i/\i<=255)/\ids.Nodup:=by
 unfold aO4;simp only [Bool.and_eq_true,List.all_eq_true,decide_eq_true_eq]
theorem aMv {ids:List Int} (h:¬ ((∀ i∈ids,0<=i/\i<=255)/\ids.Nodup)):aO4 ids=false:=by
 rw [Bool.eq_false_iff];intro hb;exact h ((aR4 ids).1 hb)
theorem aHj (A:Option Addr) (c:Nat) (ids:List Int) (w:World) (h:aBr w A ids.length ids) (hl:ids.length<=1000) :
  Calls prog 122 #[.slice A ids.length c] w fun e w'=>e = .returned (.bool (aO4 ids))/\Bel w w':=by
 have H:=aA0 (fun w' (k:Bel w w')=>aBr.keep h k);clear h;have HZ:=aA0 (show Tryz.zeroCells182=Array.replicate 256 (Value.bool false) by kernel_rfl)
 have HB:=(Bel.refl w).alloc (.cells Tryz.zeroCells182 182);have HK:=aA0 (Blk.new w Tryz.zeroCells182 182);go_enter func122,ntmps122;go_wp2
 go_loopg [5,8] ids.length (fun m _x z wr=>∃ (j:Nat) (cs:Array Value),j<=ids.length/\m=ids.length-j/\z = .int .i64 j/\Hid ((∀ i∈ids.take j,0<=i/\i<=255)/\(ids.take j).Nodup)/\Hid (Blk wr w.heap.size cs 182/\∀ i:Nat,i<256->cs[i]?=some (.bool (decide ((i:Int)∈ids.take j))))/\Bel w wr)
 case atStart =>
  refine ⟨0,Tryz.zeroCells182,by omega,rfl,rfl,⟨by simp,by simp⟩,⟨HK.out,fun i hi=>?_⟩,HB⟩
  rw [HZ.out,Array.getElem?_replicate,if_pos hi];simp
 case round =>
  clear HB HK;obtain ⟨j,cs,hj,rfl,rfl,HJ,HC,HB⟩:=hrel
  by_cases hlt:j<ids.length
  .have hd0:decide (j<ids.length)=true:=by simpa using hlt
   obtain ⟨b,o,rfl,hb,hc⟩:=(H.out _ HB).at_ j hlt
   by_cases hr:0<=ids[j]/\ids[j]<=255
   .obtain ⟨q,hq⟩:=Int.eq_ofNat_of_zero_le hr.1
    have hq256:q<256:=by omega
    have y1:=HC.out.1.cell q (HC.out.2 q hq256);have y2:=HC.out.1.frozen q;have y3:=HC.out.1.lt;have HM:Hid (ids[j]=(q:Int)):=hq;rw [hq] at hc;have hd1:decide ((q:Int)<0)=false:=by simp
    have hd2:decide (255<(q:Int))=false:=by simp;omega
    by_cases hin:(q:Int)∈ids.take j
    .have HF:Hid (aO4 ids=false):=aMv fun h=>by
      obtain ⟨i,hi1,hi3⟩:=List.mem_take_iff_getElem.1 hin;exact aEq (j:=i) (by omega) hlt (by rw [hi3,HM.out]) h.2
     rw [decide_eq_true hin] at y1;clear hr hq
     go_wp2_with fail
     go_ret;exact ⟨aA2 HF.out.symm,HB⟩
    .rw [decide_eq_false hin] at y1
     have HIN:=aA0 hin;clear hr hq hin
     go_wp2_with fail
     go_roundg (ids.length-(j+1))
     case rel =>
      refine ⟨j+1,cs.setIfInBounds q (.bool true),by omega,rfl,by go_num,⟨?_,aE0 hlt HJ.out.2 ?_⟩,⟨HC.out.1.set q _,fun i hi=>?_⟩,HB.setCell (by simp) _⟩
      .intro i hi
       rw [List.take_succ_eq_append_getElem hlt,List.mem_append] at hi
       rcases hi with hi | hi
       .exact HJ.out.1 i hi
       .simp at hi;subst hi;rw [HM.out];omega
      .intro i hi he
       exact HIN.out (by rw [<- HM.out,<- he,List.mem_take_iff_getElem];exact ⟨i,by omega,rfl⟩)
      .have hs:q<cs.size:=by
        have:=HC.out.2 q hq256;rw [Array.getElem?_eq_some_iff] at this;exact this.1
       rw [Array.getElem?_setIfInBounds,List.take_succ_eq_append_getElem hlt,HM.out]
       by_cases hqi:q=i
       .subst hqi;rw [if_pos rfl,if_pos hs];simp
       .rw [if_neg hqi,HC.out.2 i hi]
        congr 2
        rw [Bool.eq_iff_iff];simp;omega
     case measure=>omega
   .have HF:Hid (aO4 ids=false):=aMv fun h=>hr (h.1 _ (List.getElem_mem hlt))
    by_cases hneg:ids[j]<0
    .have hd1:decide (ids[j]<0)=true:=by simpa using hneg
     clear hr
     go_wp2_with fail
     go_ret;exact ⟨aA2 HF.out.symm,HB⟩
    .have hd1:decide (ids[j]<0)=false:=by simpa using hneg
     have hd2:decide (255<ids[j])=true:=by simp;omega
     clear hr
     go_wp2_with fail
     go_ret;exact ⟨aA2 HF.out.symm,HB⟩
  .have hd0:decide (j<ids.length)=false:=by simpa using hlt
   go_wp2_with fail
   go_ret;refine ⟨aA2 ?_,HB⟩
   symm
   rw [aR4];have:=HJ.out;rw [List.take_of_length_le (by omega)] at this
   exact this
theorem pairK:PairK prog 149 3:=⟨underlying149,underlying3,by kernel_rfl,by kernel_rfl,by kernel_rfl,⟨_,rfl⟩⟩
theorem aX6 (w:World):(zeroValue 3).run prog w = .ok (.int .i64 0) w:=by kernel_rfl
theorem aQe (A:Option Addr) (c:Nat) (ports:List (List Link)) (w:World) (h:aF3 w A ports.length ports) (hl:ports.length<=30) (hl2:∀ r∈ports,r.length<=30) :
  Calls prog 123 #[.slice A ports.length c] w fun e w'=>e = .returned (.bool (aZu ports))/\Bel w w':=by
 have HP:=aA0 (fun w' (k:Bel w w')=>aF3.keep h k);clear h;have HL2:=aA0 hl2;clear hl2;have hmm:=@run_makeMap prog;have HM0:=aA0 (aGd.made prog 149 3 w);have HB:=(Bel.refl w).alloc (.map #[] 0);go_enter func123,ntmps123;go_wp2;clear hmm
 go_loopg [4,5,7,8,9,10,16] ports.length (fun m _x1 _x2 _x3 _x4 _x5 _x6 z wr=>∃ (v n:Nat) (D:DataW Unit),v<=ports.length/\m=ports.length-v/\z = .int .i64 v/\n<=40*v/\Hid (∀ u,u<v->(hu:u<ports.length)->aCt ports.length u ports[u]=true)/\Hid (aGd prog 149 3 wr w.heap.size n D (mOf ports v 0))/\Bel w wr)
 case atStart =>
  refine ⟨0,0,.map [],by omega,rfl,rfl,by omega,fun u hu=>absurd hu (by omega),?_,HB⟩
  have:(fun _ _=>0)=mOf ports 0 0:=by funext a b;rw [aXd]
  rw [<- this];exact HM0
 case round =>
  clear HB HM0;obtain ⟨v,n,D,hv,rfl,rfl,hn,HV,HM,HB⟩:=hrel
  by_cases hlt:v<ports.length
  .have hd0:decide (v<ports.length)=true:=by simpa using hlt
   obtain ⟨b,o,R,c1,rfl,hb,hrow,hL,_,_⟩:=(HP.out _ HB).at_ v hlt;have HL:=aA0 (fun w' (k:Bel wr w')=>aGj.keep hL k);clear hL;have hrl:=HL2.out _ (List.getElem_mem hlt);go_wp2;clear hd0 hrow hb;have HW:=Bel.refl wr;have hmn:w.heap.size<wr.heap.size:=HM.out.1.lt
   go_loopg [7,8,9,10,23] ports[v].length (fun m _x3 _x4 _x5 _x6 z ws=>∃ (j n:Nat) (D:DataW Unit),j<=ports[v].length/\m=ports[v].length-j/\z = .int .i64 j/\n<=40*v+j/\Hid ((ports[v].take j).all (aK2 ports.length v)=true/\((ports[v].map Link.to).take j).Nodup)/\Hid (aGd prog 149 3 ws w.heap.size n D (mOf ports v j))/\Bel w ws/\Hid (aGj ws R ports[v].length ports[v]))
   case atStart=>exact ⟨0,n,D,by omega,rfl,rfl,by omega,⟨rfl,by simp⟩,HM,HB,HL.out _ HW⟩
   case round =>
    clear HB HM HW HL hmn;obtain ⟨j,n,D,hj,rfl,rfl,hn,HJ,HM,HB,HL⟩:=hrel
    by_cases hlt2:j<ports[v].length
    .have hd0:decide (j<ports[v].length)=true:=by simpa using hlt2
     obtain ⟨b2,o2,rfl,hb2,l1,l2⟩:=HL.out.at_ j hlt2;cases hok:aK2 ports.length v ports[v][j] with
     | false =>
      have HF:Hid (aZu ports=false):=aL3 fun h=>by
       have:=(aBj.1 (h.links v hlt)).1 _ (List.getElem_mem hlt2);rw [hok] at this;cases this
      have HB2:=HB.alloc (.cells #[.int .i64 ports[v][j].to,.int .i64 ports[v][j].weight] 102);have HO:=aA0 hok;clear hok
      by_cases hq:0<=ports[v][j].to/\ports[v][j].to<(ports.length:Int)/\ports[v][j].to≠(v:Int)
      .obtain ⟨q1,q2,q3⟩:=hq
       have hw:ports[v][j].weight<1∨15<ports[v][j].weight:=by
        rcases Int.lt_or_le ports[v][j].weight 1 with h | h
        .exact .inl h
        .rcases Int.lt_or_le 15 ports[v][j].weight with h' | h'
         .exact .inr h'
         .have:=HO.out
          rw [aBt.2 ⟨q1,q2,q3,h,h'⟩] at this;cases this
       have d1:decide (ports[v][j].to<0)=false:=by simp;omega
       have d2:decide ((ports.length:Int)<=ports[v][j].to)=false:=by simp;omega
       have d3:(ports[v][j].to==(v:Int))=false:=by simpa using q3
       clear q1 q2 q3
       rcases hw with hw | hw
       .have d4:decide (ports[v][j].weight<1)=true:=by simpa using hw
        go_wp2_with fail
        go_ret;exact ⟨aA2 HF.out.symm,HB2⟩
       .have d4:decide (ports[v][j].weight<1)=false:=by simp;omega
        have d5:decide (15<ports[v][j].weight)=true:=by simpa using hw
        go_wp2_with fail
        go_ret;exact ⟨aA2 HF.out.symm,HB2⟩
      .have hcase:ports[v][j].to<0∨(0<=ports[v][j].to/\(ports.length:Int)<=ports[v][j].to)∨(0<=ports[v][j].to/\ports[v][j].to<(ports.length:Int)/\ports[v][j].to=(v:Int)):=by omega
       clear hq
       rcases hcase with h1 | ⟨h1,h2⟩ | ⟨h1,h2,h3⟩
       .have d1:decide (ports[v][j].to<0)=true:=by simpa using h1
        go_wp2_with fail
        go_ret;exact ⟨aA2 HF.out.symm,HB2⟩
       .have d1:decide (ports[v][j].to<0)=false:=by simp;omega
        have d2:decide ((ports.length:Int)<=ports[v][j].to)=true:=by simpa using h2
        go_wp2_with fail
        go_ret;exact ⟨aA2 HF.out.symm,HB2⟩
       .have d1:decide (ports[v][j].to<0)=false:=by simp;omega
        have d2:decide ((ports.length:Int)<=ports[v][j].to)=false:=by simp;omega
        have d3:(ports[v][j].to==(v:Int))=true:=by simpa using h3
        have HH:=aA0 h3;clear h3
        go_wp2_with fail
        go_ret;exact ⟨aA2 HF.out.symm,HB2⟩
     | true =>
      obtain ⟨q1,q2,q3,q4,q5⟩:=aBt.1 hok;obtain ⟨t,ht⟩:=Int.eq_ofNat_of_zero_le q1;have HO:=aA0 hok;have HTE:=aA0 ht;have d1:decide ((t:Int)<0)=false:=by simp
      have d2:decide (ports.length<=t)=false:=by simp;omega
      have d2':decide ((ports.length:Int)<=(t:Int))=false:=by simp;omega
      have d3:((t:Int)==(v:Int))=false:=by simp;omega
      have d3':(t==v)=false:=by simp;omega
      have d4:decide (ports[v][j].weight<1)=false:=by simp;omega
      have d5:decide (15<ports[v][j].weight)=false:=by simp;omega
      have wt:(Lit.int .i64 (t:Int)).wf=true:=WalkArith.wf_i64 (by omega)
      have wv:(Lit.int .i64 (v:Int)).wf=true:=WalkArith.wf_i64 (by omega)
      have ww:(Lit.int .i64 ports[v][j].weight).wf=true:=WalkArith.wf_i64 (by omega)
      have hwne:ports[v][j].weight≠0:=by omega
      rw [ht] at l1;have HB2:=(HB.alloc (.cells #[.int .i64 (t:Int),.int .i64 ports[v][j].weight] 102)).alloc (.cells #[.int .i64 (v:Int),.int .i64 (t:Int)] 149);have HW2:=((Bel.refl wr).alloc (.cells #[.int .i64 (t:Int),.int .i64 ports[v][j].weight] 102)).alloc (.cells #[.int .i64 (v:Int),.int .i64 (t:Int)] 149);have HM2:=aA0 (HM.out.keep HW2);have hlook:=aGd.lookOk pairK underlying183 HM2.out (aX6 _) wv wt;unfold aO8 at hlook;dsimp only at hlook
      have hwpos:∀ l∈ports[v].take j,1<=l.weight:=fun l hl=>by
       have:=List.all_eq_true.1 HJ.out.1 l hl;exact (aBt.1 this).2.2.2.1
      have hmv:mOf ports v j (v:Int) (t:Int)=wOf (ports[v].take j) (t:Int):=by
       unfold mOf;rw [if_neg (by omega),if_pos rfl,aAa hlt]
      by_cases hdup:mOf ports v j (v:Int) (t:Int)=0
      .have hno:∀ l∈ports[v].take j,l.to≠ports[v][j].to:=by
        rw [ht];exact bB0 hwpos (by rw [<- hmv];exact hdup)
       have hdd:decide (mOf ports v j (v:Int) (t:Int)≠0)=false:=by simpa using hdup
       rw [hdd,hdup] at hlook;have HNO:=aA0 hno;have HWL:=aA0 (fun w' (k:Bel wr w')=>HL.out.keep k);have hms:w.heap.size<wr.heap.size:=HM.out.1.lt;clear hdup hdd hno hwpos hmv q1 q2 q3 hok ht
       go_wp2_with (at_mapUpdate;refine wpList_mapUpdate_own _ rfl (.tmp 62) (.tmp 63) (.tmp 65) 183 rfl 149 3 pairK.law underlying183 _ w.heap.size n D rfl HM2.out.1 (by unfold maxLen;omega) _ _ _ rfl rfl (pairK.keyOf wv wt) _ [] (plainElem_int underlying3 ww) ?_;intro w3 hown hgr;have HB3:=HB2.map (Nat.le_refl _) hgr;have HP3:=aA0 (aGd.put pairK wv wt hwne HM2.out.2 hown);have HG3:=aA0 hgr;clear hown hgr)
       go_roundg (ports[v].length-(j+1))
       case rel =>
        refine ⟨j+1,n+1,D.put (pk (v:Int) (t:Int)) (.lit (.int .i64 ports[v][j].weight)),by omega,rfl,by go_num,by omega,⟨aAb hlt2 HJ.out.1 HO.out,?_⟩,?_,HB3,?_⟩
        .refine aE0 (by simpa using hlt2) HJ.out.2 (fun q hq he=>?_)
         simp at he
         exact HNO.out (ports[v][q]'(by omega)) (by rw [List.mem_take_iff_getElem];exact ⟨q,by omega,rfl⟩) he
        .have e:bB4 (mOf ports v j) (v:Int) (t:Int) ports[v][j].weight=mOf ports v (j+1):=by
          funext a b
          rw [aZb hlt hlt2 HNO.out,HTE.out];rfl
         rw [<- e];exact HP3
        .have hk:=HWL.out _ HW2
         refine ⟨hk.1,fun i x hx=>?_⟩
         obtain ⟨bb,oo,e,hlt',hE⟩:=HL.out.2 i x hx
         have hbb:bb≠w.heap.size:=by
          intro hh
          obtain ⟨es,clock,hb',_⟩:=HM.out.1;subst hh;have h1:=hE.1;unfold World.cell? at h1;rw [hb'] at h1;simp at h1
         have hblk:w3.heap[bb]?=wr.heap[bb]?:=by
          rw [HG3.out.block bb (by have:=HW2.size;omega) (by simpa using hbb)]
          exact HW2.block bb hlt'
         have hcell:∀ o',w3.cell? ⟨bb,o',none⟩=wr.cell? ⟨bb,o',none⟩:=fun o'=>by unfold World.cell?;rw [hblk]
         refine ⟨bb,oo,e,?_,(hcell _).trans hE.1,(hcell _).trans hE.2⟩
         have:=HW2.size;have:=HG3.out.size;omega
       case measure=>omega
      .have HF:Hid (aZu ports=false):=aL3 fun h=>by
        obtain ⟨l,hlm,hlt',_⟩:=aM8 (ls:=ports[v].take j) (b:=(t:Int)) (by rw [<- hmv];exact hdup)
        obtain ⟨q,hq,rfl⟩:=List.mem_take_iff_getElem.1 hlm;exact aEq (j:=q) (k:=j) (by omega) (by simpa using hlt2) (by simp [hlt',ht]) (aBj.1 (h.links v hlt)).2
       rw [decide_eq_true hdup] at hlook;clear hdup hwpos hmv q1 q2 q3 hok ht
       go_wp2_with fail
       go_ret;exact ⟨aA2 HF.out.symm,HB2⟩
    .have hd0:decide (j<ports[v].length)=false:=by simpa using hlt2
     have HLV:Hid (aCt ports.length v ports[v]=true):=by
      show aCt ports.length v ports[v]=true
      rw [aBj];have h1:=HJ.out;rw [List.take_of_length_le (by omega),List.take_of_length_le (by simp;omega)] at h1
      exact ⟨List.all_eq_true.1 h1.1,h1.2⟩
     go_wp2_with fail
     go_roundg (ports.length-(v+1))
     case rel =>
      refine ⟨v+1,n,D,by omega,rfl,by go_num,by omega,?_,?_,HB⟩
      .intro u hu hu'
       rcases Nat.lt_or_ge u v with h | h
       .exact HV.out u h hu'
       .obtain rfl:u=v:=by omega
        exact HLV.out
      .have e:mOf ports v j=mOf ports (v+1) 0:=by funext a b;exact bAo hlt (by omega) a b
       rw [<- e];exact HM
     case measure=>omega
  .obtain rfl:v=ports.length:=by omega
   have hd0:decide (ports.length<ports.length)=false:=by simp
   have HSM:=aA0 (aVw (fun u hu=>HV.out u (by omega) hu))
   have HLK:=aA0 (fun u (hu:u<ports.length)=>HV.out u (by omega) hu)
   clear HV hlt hv
   go_wp2_with (at_range;refine wpList_range_own _ rfl (.tmp 68) 183 rfl 149 3 pairK.law underlying183 _ w.heap.size n D rfl HM.out.1 ?_;intro w1 hrg hgr hsz;have HB1:=HB.grown hgr (fun k hk=>by cases hk);have HRG:=aA0 hrg;clear hrg hgr hsz;go_frame)
   have hr0:w.heap.size<wr.heap.size:=HM.out.1.lt;have HM2:=aA0 HM.out.2;clear hd0 HM;generalize hrr:wr.heap.size=r at *;clear hrr
   go_loopg [11,12] (size D) (fun m _x _y ws=>∃ (left:Lit->Bool) (cnt:Nat),m=cnt/\Hid (ws.ranges prog 149 (plainElem prog 3) w.heap.size r n D left cnt)/\Hid (∀ a b,(Lit.int .i64 a).wf=true->(Lit.int .i64 b).wf=true->mOf ports ports.length 0 a b≠0->left (pk a b)=false->mOf ports ports.length 0 b a=mOf ports ports.length 0 a b)/\Bel w ws)
   case atStart =>
    refine ⟨_,_,rfl,HRG,?_,HB1⟩
    intro a b wa wb hne hlf
    have:=((HM2.out.2 a b wa wb).2).2 hne;rw [this] at hlf;cases hlf
   case round =>
    clear HB HB1 HRG;obtain ⟨left,cnt,rfl,HRG,HI,HB⟩:=hrel
    go_wp2_with (at_next;refine wpList_next_ranges _ rfl (.tmp 69) rfl 149 pairK.law (plainElem prog 3) aO8 (Value.int .i64) (fun key kl hkey=>by obtain ⟨x,hx,_⟩:=pairK.inv hkey;exact ⟨x,hx⟩) (fun v y hv=>by obtain ⟨c,hc,_⟩:=plainElem_int_inv underlying3 hv;exact ⟨c,hc⟩) w.heap.size r n D left _ rfl HRG.out ?_ ?_)
    .intro _ hl0
     have HL0:=aA0 hl0;clear hl0
     go_wp2_with fail
     go_ret;refine ⟨aA2 ?_,HB⟩
     symm
     rw [aUk,HSM.out];intro a b hne
     obtain ⟨h0,h1⟩:=aXc hne;obtain ⟨a',rfl⟩:=Int.eq_ofNat_of_zero_le h0;have hlt:a' < ports.length:=by omega
     have hne2:=hne;rw [aR7 hlt hlt] at hne2;obtain ⟨l,hlm,rfl,_⟩:=aM8 hne2;obtain ⟨t1,t2,_⟩:=aBt.1 ((aBj.1 (HLK.out a' hlt)).1 l hlm);exact HI.out _ _ (WalkArith.wf_i64 (by omega)) (WalkArith.wf_i64 (by omega)) hne (HL0.out _)
    .intro x1 x2 cw kl y1 y2 w2 cnt2 hkey hlk hv hat hrg2 hlt2 hg2 hs2 hen
     obtain ⟨⟨x1',x2'⟩,hx,wx1,wx2,rfl⟩:=pairK.inv hkey;simp [aO8] at hx
     obtain ⟨rfl,rfl⟩:=hx;obtain ⟨c',hc',hy,wc⟩:=plainElem_int_inv underlying3 hv;injection hc' with _ hc'
     subst hc'
     have hM:mOf ports ports.length 0 x1 x2=cw:=by
      have h1:=(HM2.out.2 x1 x2 wx1 wx2).1;have hy1:y1 = .lit (.int .i64 cw):=congrArg Prod.fst hy;rw [hat,hy1] at h1;simp at h1
      exact h1.symm
     have hMne:mOf ports ports.length 0 x1 x2≠0:=by
      have h1:=(HM2.out.2 x1 x2 wx1 wx2).2;rw [<- h1];exact has_true_of_atKey (y:=y1) hat
     have HB2:Bel w w2:=HB.grown hg2 (fun k hk=>by injection hk with hk;omega)
     have HB3:=HB2.alloc (.cells #[.int .i64 x1,.int .i64 x2] 149);have HR3:=aA0 (hrg2.alloc (.cells #[.int .i64 x1,.int .i64 x2] 149));have hlook:=aGd.look pairK underlying183 (⟨HR3.out.owns,HM2.out⟩:aGd prog 149 3 _ _ _ _ _) (aX6 _) wx2 wx1;unfold aO8 at hlook hen;dsimp only at hlook hen;have HMM:=aA0 hM;have HME:=aA0 hMne;have HLT:=aA0 hlt2;have HLKK:=aA0 hlk;have hrl:=HR3.out.lt;clear hM hMne hkey hv hat hrg2 hg2 hy hlt2 hlk;generalize hmx:mOf ports ports.length 0 x2 x1=mx at *;have HMX:=aA0 hmx;clear hmx
     by_cases he:mx=cw
     .have heb:(mx != cw)=false:=by simpa using he
      have HE:=aA0 he;clear he
      go_wp2_with fail
      go_roundg cnt2
      case rel =>
       refine ⟨_,cnt2,rfl,HR3,?_,HB3⟩
       intro a b wa wb hne hlf
       rw [Bool.and_eq_false_iff] at hlf
       rcases hlf with hlf | hlf
       .exact HI.out a b wa wb hne hlf
       .simp at hlf
        have:=WideAt.sameKey_eq hlf;obtain ⟨rfl,rfl⟩:=bA6 pairK wa wb wx1 wx2 this;rw [HMX.out,HE.out,HMM.out]
      case measure=>exact HLT.out
     .have heb:(mx != cw)=true:=by simpa using he
      have HF:Hid (aZu ports=false):=aL3 fun h=>by
       have:=HSM.out.1 h x1 x2 HME.out;rw [HMX.out,HMM.out] at this;exact he this
      clear he
      go_wp2_with fail
      go_ret;exact ⟨aA2 HF.out.symm,HB3⟩
open Go.RowKit
theorem aMz (a b:Int):∃ m,(if b<a then b else a)=m/\m=min a b:=⟨_,rfl,by split <;> omega⟩
theorem aJf (a b:Int):∃ m,(if a<b then b else a)=m/\m=max a b:=⟨_,rfl,by split <;> omega⟩
theorem aWx (a:Int) (w:World):Calls prog 207 #[.int .i64 a] w fun e w'=>e = .returned (.bool (a != 0))/\w=w':=by
 go_enter func207,ntmps207;go_wp2;go_ret;exact ⟨rfl,rfl⟩
theorem aMj (A:Option Addr) (n c:Nat) (l:List Int) (w:World) (h:aBr w A n l) (hl:n<=1000) :
  Calls prog 205 #[.slice A n c] w fun e w'=>e = .returned (.int .i64 (aD1 l))/\w=w':=by
 obtain rfl:=h.1;have H:=aA0 h;clear h;go_enter func205,ntmps205
 go_wp2_with fail
 go_loopg [3,8] l.length (fun g cv iv wr=>∃ (k:Nat) (z:Int),k+g=l.length/\0<=z/\z<=k/\Hid (z+aD1 (l.drop k)=aD1 l)/\cv = .int .i64 z/\iv = .int .i64 k/\w=wr)
 case atStart=>exact ⟨0,0,by omega,by omega,by omega,by show _=_;simp,rfl,rfl,rfl⟩
 case round =>
  obtain ⟨k,z,hk,hz0,hz1,HZ,rfl,rfl,rfl⟩:=hrel
  by_cases hlt:k<l.length
  .obtain ⟨b,o,rfl,hb,hc⟩:=H.out.at_ k hlt
   have hstep:Hid (aD1 (l.drop k)=(if l[k]=0 then 0 else 1)+aD1 (l.drop (k+1))):=by
    show aD1 (l.drop k)=_
    rw [List.drop_eq_getElem_cons hlt,aMi]
   by_cases h0:l[k]=0
   .have hz:(l[k] != 0)=false:=by simpa using h0
    have HZ2:Hid (z+aD1 (l.drop (k+1))=aD1 l):=by show _=_;rw [<- HZ.out,hstep.out,if_pos h0];omega
    clear h0
    go_wp2_with fail
    go_roundg (gk-1)
    case rel=>exact ⟨k+1,z,by omega,by omega,by omega,HZ2,rfl,by go_num,rfl⟩
    case measure=>omega
   .have hz:(l[k] != 0)=true:=by simpa using h0
    have HZ2:Hid (z+1+aD1 (l.drop (k+1))=aD1 l):=by show _=_;rw [<- HZ.out,hstep.out,if_neg h0];omega
    clear h0
    go_wp2_with fail
    go_roundg (gk-1)
    case rel=>exact ⟨k+1,z+1,by omega,by omega,by omega,HZ2,rfl,by go_num,rfl⟩
    case measure=>omega
  .go_wp2_with fail
   go_ret;refine ⟨aA5 ?_,rfl⟩
   have:=HZ.out;rw [List.drop_eq_nil_of_le (by omega)] at this
   simpa [aD1] using this
theorem aYb (A:Option Addr) (n c:Nat) (l:List Int) (w:World) (h:aBr w A n l) (hl:n<=1000) :
  Calls prog 208 #[.slice A n c] w fun e w'=>e = .returned (.tuple #[.int .i64 (aZw l).1,.int .i64 (aZw l).2])/\w=w':=by
 obtain rfl:=h.1;have H:=aA0 h;clear h;go_enter func208,ntmps208
 go_wp2_with fail
 go_loopg [2,3,8] l.length (fun g av sv iv wr=>∃ (k:Nat) (a s:Int),k+g=l.length/\Hid (aJp (l.drop k) a s=aZw l)/\av = .int .i64 a/\sv = .int .i64 s/\iv = .int .i64 k/\w=wr)
 case atStart=>exact ⟨0,_,_,by omega,rfl,rfl,rfl,rfl,rfl⟩
 case round =>
  obtain ⟨k,a,s,hk,HZ,rfl,rfl,rfl,rfl⟩:=hrel
  by_cases hlt:k<l.length
  .obtain ⟨b,o,rfl,hb,hc⟩:=H.out.at_ k hlt
   have hstep:Hid (aJp (l.drop k) a s=if a<l[k] then aJp (l.drop (k+1)) l[k] a else aJp (l.drop (k+1)) a (max s l[k])):=by
    show aJp (l.drop k) a s=_
    rw [List.drop_eq_getElem_cons hlt];rfl
   obtain ⟨m,hm,hm'⟩:=aJf s l[k];have HM:=aA0 hm';clear hm'
   by_cases h0:a<l[k]
   .have hd:decide (a<l[k])=true:=by simpa using h0
    have HZ2:Hid (aJp (l.drop (k+1)) l[k] a=aZw l):=by show _=_;rw [<- HZ.out,hstep.out,if_pos h0]
    clear h0
    go_wp2_with fail
    go_roundg (gk-1)
    case rel=>exact ⟨k+1,l[k],a,by omega,HZ2,rfl,rfl,by go_num,rfl⟩
    case measure=>omega
   .have hd:decide (a<l[k])=false:=by simpa using h0
    have HZ2:Hid (aJp (l.drop (k+1)) a m=aZw l):=by show _=_;rw [<- HZ.out,hstep.out,if_neg h0,HM.out]
    clear h0
    go_wp2_with fail
    go_roundg (gk-1)
    case rel=>exact ⟨k+1,a,m,by omega,HZ2,rfl,rfl,by go_num,rfl⟩
    case measure=>omega
  .go_wp2_with fail
   go_ret2
   have hz:=HZ.out;rw [List.drop_eq_nil_of_le (by omega)] at hz
   exact ⟨aF9 hz.symm,rfl⟩
def aEp:List Int->(Int->Bool)->Int->Int
 | [],_,_ => -1
 | a :: l,f,i=>if f a then i else aEp l f (i+1)
theorem aT2 (l:List Int):∀ i,aEp l (fun a=>a != 0) i=aDw l i:=by
 induction l with
 | nil=>intro i;rfl
 | cons a l ih =>
  intro i
  simp only [aEp,aDw]
  by_cases h:a=0
  .simp [h,ih]
  .simp [h]
theorem aX3 (l:List Int) (x:Int):∀ i,0<=i->(0<=aEp l (fun a=>x==a) i↔x∈l):=by
 induction l with
 | nil=>intro i _;simp [aEp]
 | cons a l ih =>
  intro i hi
  simp only [aEp]
  by_cases h:x=a
  .simp [h,hi]
  .simp [h,ih (i+1) (by omega)]
theorem aX5 (A:Option Addr) (n c:Nat) (l:List Int) (x:Int) (w:World) (h:aBr w A n l) (hl:n<=1000) :
  Calls prog 214 #[.slice A n c,.int .i64 x] w fun e w'=>e = .returned (.int .i64 (aEp l (fun a=>x==a) 0))/\w=w':=by
 obtain rfl:=h.1;have H:=aA0 h;clear h;go_enter func214,ntmps214
 go_wp2_with fail
 go_loopg [8] l.length (fun g iv wr=>∃ (k:Nat),k+g=l.length/\Hid (aEp (l.drop k) (fun a=>x==a) k=aEp l (fun a=>x==a) 0)/\iv = .int .i64 k/\w=wr)
 case atStart=>exact ⟨0,by omega,rfl,rfl,rfl⟩
 case round =>
  obtain ⟨k,hk,HZ,rfl,rfl⟩:=hrel
  by_cases hlt:k<l.length
  .obtain ⟨b,o,rfl,hb,hc⟩:=H.out.at_ k hlt
   have hstep:Hid (aEp (l.drop k) (fun a=>x==a) k=if (x==l[k])=true then (k:Int) else aEp (l.drop (k+1)) (fun a=>x==a) ((k:Int)+1)):=by
    show aEp (l.drop k) (fun a=>x==a) k=_
    rw [List.drop_eq_getElem_cons hlt];rfl
   cases h0:(x==l[k]) with
   | true =>
    have HZ2:Hid ((k:Int)=aEp l (fun a=>x==a) 0):=by show _=_;rw [<- HZ.out,hstep.out,if_pos h0]
    go_wp2_with fail
    go_ret;exact ⟨aA5 HZ2.out,rfl⟩
   | false =>
    have HZ2:Hid (aEp (l.drop (k+1)) (fun a=>x==a) ((k+1:Nat):Int)=aEp l (fun a=>x==a) 0):=by show _=_;rw [<- HZ.out,hstep.out,if_neg (by rw [h0];decide)];rfl
    go_wp2_with fail
    go_roundg (gk-1)
    case rel=>exact ⟨k+1,by omega,HZ2,by go_num,rfl⟩
    case measure=>omega
  .go_wp2_with fail
   go_ret;have hz:=HZ.out;rw [List.drop_eq_nil_of_le (by omega)] at hz
   exact ⟨aA5 hz,rfl⟩
theorem aL8 (A:Option Addr) (n c:Nat) (l:List Int) (x:Int) (w:World) (h:aBr w A n l) (hl:n<=1000) :
  Calls prog 213 #[.slice A n c,.int .i64 x] w fun e w'=>e = .returned (.bool (decide (x∈l)))/\w=w':=by
 obtain rfl:=h.1;have H:=aA0 h;clear h
 have HF:Hid (decide (x∈l)=decide (0<=aEp l (fun a=>x==a) 0)):=by
  show decide (x∈l)=_
  rw [Bool.eq_iff_iff];simp [aX3 l x 0 (by omega)]
 go_enter func213,ntmps213
 go_wp2_with (go_at_call 214;refine (aX5 _ _ _ l _ _ H.out hl).mono ?_;rintro e w' ⟨rfl,rfl⟩)
 go_ret;exact ⟨aA2 HF.out.symm,rfl⟩
theorem bAp (A:Option Addr) (n c:Nat) (l:List Int) (w:World) (h:aBr w A n l) (hl:n<=1000) :
  Calls prog 209 #[.slice A n c] w fun e w'=>e = .returned (.int .i64 (aZc l))/\w=w':=by
 obtain rfl:=h.1;have H:=aA0 h;clear h;have hcl:=aPk l 0;go_enter func209,ntmps209
 go_wp2_with fail
 go_loopg [3] (aKn l 0) (fun g rv wr=>∃ (k:Int),0<=k/\k+g=aKn l 0/\aKn l k<=g/\Hid (aI2 l g k=aZc l)/\rv = .int .i64 k/\w=wr)
 case atStart=>exact ⟨0,by omega,by omega,Nat.le_refl _,rfl,rfl,rfl⟩
 case round =>
  obtain ⟨k,hk0,hk,hg,HZ,rfl,rfl⟩:=hrel
  by_cases hm:k∈l
  .have hc:=aM1 hm
   obtain ⟨g,rfl⟩:∃ g,gk=g+1:=⟨gk-1,by omega⟩
   have HZ2:Hid (aI2 l g (k+1)=aZc l):=by
    have:=HZ.out;simp only [aI2] at this
    rw [if_pos hm] at this;exact this
   have hd:decide (k∈l)=true:=decide_eq_true hm;have hk6:k<=1000000:=by omega
   clear hm
   go_wp2_with (go_at_call 213;refine (aL8 _ _ _ l _ _ H.out hl).mono ?_;rintro e w' ⟨rfl,rfl⟩;rw [hd])
   go_roundg g
   case rel=>exact ⟨k+1,by omega,by omega,by omega,HZ2,rfl,rfl⟩
   case measure=>omega
  .have HZ2:Hid (k=aZc l):=by
    have:=HZ.out;cases gk with
    | zero=>exact this
    | succ g=>simp only [aI2] at this;rw [if_neg hm] at this;exact this
   have hd:decide (k∈l)=false:=decide_eq_false hm;clear hm
   go_wp2_with (go_at_call 213;refine (aL8 _ _ _ l _ _ H.out hl).mono ?_;rintro e w' ⟨rfl,rfl⟩;rw [hd])
   go_ret;exact ⟨aA5 HZ2.out,rfl⟩
theorem aPv (f:FuncId) (p:Int->Bool) (hf:∀ a w,Calls prog f #[.int .i64 a] w fun e w'=>e = .returned (.bool (p a))/\w=w') (hcall:∀ a w,(callFunc f #[a]).run prog w = .ok (.enter f #[a]) w)
  (A:Option Addr) (n c:Nat) (l:List Int) (w:World) (h:aBr w A n l) (hl:n<=1000) :
  Calls prog 206 #[.slice A n c,.func (.func f) #[] #[]] w fun e w'=>e = .returned (.int .i64 (aEp l p 0))/\w=w':=by
 obtain rfl:=h.1;have H:=aA0 h;clear h;have HF:=aA0 hf;clear hf;go_enter func206,ntmps206
 go_wp2_with fail
 go_loopg [8] l.length (fun g iv wr=>∃ (k:Nat),k+g=l.length/\Hid (aEp (l.drop k) p k=aEp l p 0)/\iv = .int .i64 k/\w=wr)
 case atStart=>exact ⟨0,by omega,rfl,rfl,rfl⟩
 case round =>
  obtain ⟨k,hk,HZ,rfl,rfl⟩:=hrel
  by_cases hlt:k<l.length
  .obtain ⟨b,o,rfl,hb,hc⟩:=H.out.at_ k hlt
   have hstep:Hid (aEp (l.drop k) p k=if p l[k]=true then (k:Int) else aEp (l.drop (k+1)) p ((k:Int)+1)):=by
    show aEp (l.drop k) p k=_
    rw [List.drop_eq_getElem_cons hlt];rfl
   cases h0:p l[k] with
   | true =>
    have HZ2:Hid ((k:Int)=aEp l p 0):=by show _=_;rw [<- HZ.out,hstep.out,if_pos h0]
    go_wp2_with (((with_reducible refine (HF.out _ _).mono ?_);rintro e w' ⟨rfl,rfl⟩;rw [h0]))
    go_ret;exact ⟨aA5 HZ2.out,rfl⟩
   | false =>
    have HZ2:Hid (aEp (l.drop (k+1)) p ((k+1:Nat):Int)=aEp l p 0):=by show _=_;rw [<- HZ.out,hstep.out,if_neg (by rw [h0];decide)];rfl
    go_wp2_with (((with_reducible refine (HF.out _ _).mono ?_);rintro e w' ⟨rfl,rfl⟩;rw [h0]))
    go_roundg (gk-1)
    case rel=>exact ⟨k+1,by omega,HZ2,by go_num,rfl⟩
    case measure=>omega
  .go_wp2_with fail
   go_ret;have hz:=HZ.out;rw [List.drop_eq_nil_of_le (by omega)] at hz
   exact ⟨aA5 hz,rfl⟩
theorem aOs (A:Option Addr) (n c:Nat) (l:List Int) (x:Int) (w:World) (h:aBr w A n l) (hl:n<=1000) :
  Calls prog 154 #[.slice A n c,.int .i64 x] w fun e w'=>e = .returned (.bool (decide (x∈l)))/\w=w':=by
 obtain rfl:=h.1;have H:=aA0 h;clear h;go_enter func154,ntmps154
 go_wp2_with fail
 go_loopg [5] l.length (fun g iv wr=>∃ (k:Nat),k+g=l.length/\Hid (decide (x∈l.drop k)=decide (x∈l))/\iv = .int .i64 k/\w=wr)
 case atStart=>exact ⟨0,by omega,rfl,rfl,rfl⟩
 case round =>
  obtain ⟨k,hk,HZ,rfl,rfl⟩:=hrel
  by_cases hlt:k<l.length
  .obtain ⟨b,o,rfl,hb,hc⟩:=H.out.at_ k hlt
   have hstep:Hid (decide (x∈l.drop k)=((l[k]==x)||decide (x∈l.drop (k+1)))):=by
    show decide (x∈l.drop k)=_
    rw [List.drop_eq_getElem_cons hlt,Bool.eq_iff_iff];simp only [List.mem_cons,decide_eq_true_eq,Bool.or_eq_true,beq_iff_eq]
    exact ⟨fun h=>h.elim (fun e => .inl e.symm) .inr,fun h=>h.elim (fun e => .inl e.symm) .inr⟩
   cases h0:(l[k]==x) with
   | true =>
    have HZ2:Hid (true=decide (x∈l)):=by show _=_;rw [<- HZ.out,hstep.out,h0];rfl
    go_wp2_with fail
    go_ret;exact ⟨aA2 HZ2.out,rfl⟩
   | false =>
    have HZ2:Hid (decide (x∈l.drop (k+1))=decide (x∈l)):=by show _=_;rw [<- HZ.out,hstep.out,h0];rfl
    go_wp2_with fail
    go_roundg (gk-1)
    case rel=>exact ⟨k+1,by omega,HZ2,by go_num,rfl⟩
    case measure=>omega
  .go_wp2_with fail
   go_ret;have hz:=HZ.out;rw [List.drop_eq_nil_of_le (by omega)] at hz
   exact ⟨aA2 (by simpa using hz),rfl⟩
theorem aTx (A:Option Addr) (n c:Nat) (l:List Int) (op:Int) (w:World) (h:aBr w A n l) (hl:n<=1000) (h1:20<=op) (h2:op<=29) (hn:∀ x∈l,Num x) :
  Calls prog 182 #[.int .i64 op,.slice A n c] w fun e w'=>e = .returned (.int .i64 (aIt op l))/\w=w':=by
 obtain rfl:=h.1;have H:=aA0 h;clear h;have HN:=aA0 hn;clear hn;have hcase:op=20∨op=21∨op=22∨op=23∨op=24∨op=25∨op=26∨op=27∨op=28∨op=29:=by omega
 clear h1 h2
 rcases hcase with h | h | h | h | h | h | h | h | h | h
 .subst h
  go_enter func182,ntmps182
  go_wp2_with (first
   | (go_at_call 205;refine (aMj _ _ _ l _ H.out hl).mono ?_;rintro e w' ⟨rfl,rfl⟩)
   | (go_at_call 181;refine (aDk _ _).mono ?_;rintro e w' ⟨rfl,rfl⟩))
  go_ret;exact ⟨rfl,rfl⟩
 .subst h
  go_enter func182,ntmps182
  go_wp2_with (first
   | (go_at_call 205;refine (aMj _ _ _ l _ H.out hl).mono ?_;rintro e w' ⟨rfl,rfl⟩)
   | (go_at_call 181;refine (aDk _ _).mono ?_;rintro e w' ⟨rfl,rfl⟩))
  go_ret;exact ⟨rfl,rfl⟩
 .subst h
  go_enter func182,ntmps182
  go_wp2_with (first
   | (go_at_call 205;refine (aMj _ _ _ l _ H.out hl).mono ?_;rintro e w' ⟨rfl,rfl⟩))
  go_ret;exact ⟨rfl,rfl⟩
 .subst h
  have HF:Hid (aEp l (fun a=>a != 0) 0=aIt 23 l):=aT2 l 0;go_enter func182,ntmps182
  go_wp2_with (go_at_call 206;refine (aPv 207 (fun a=>a != 0) (fun a w=>aWx a w) (fun _ _=>by kernel_rfl) _ _ _ l _ H.out hl).mono ?_;rintro e w' ⟨rfl,rfl⟩)
  go_ret;exact ⟨aA5 HF.out,rfl⟩
 .subst h
  go_enter func182,ntmps182
  go_wp2_with fail
  go_loopg [5,42] l.length (fun g mv iv wr=>∃ (k:Nat) (z:Int),k+g=l.length/\Hid ((l.drop k).foldl min z=aIt 24 l)/\mv = .int .i64 z/\iv = .int .i64 k/\w=wr)
  case atStart=>exact ⟨0,_,by omega,rfl,rfl,rfl,rfl⟩
  case round =>
   obtain ⟨k,z,hk,HZ,rfl,rfl,rfl⟩:=hrel
   by_cases hlt:k<l.length
   .obtain ⟨b,o,rfl,hb,hc⟩:=H.out.at_ k hlt
    obtain ⟨m,hm,hm'⟩:=aMz z l[k]
    have HZ2:Hid ((l.drop (k+1)).foldl min m=aIt 24 l):=by
     have:=HZ.out;rw [List.drop_eq_getElem_cons hlt,List.foldl_cons,<- hm'] at this;exact this
    clear hm'
    go_wp2_with fail
    go_roundg (gk-1)
    case rel=>exact ⟨k+1,m,by omega,HZ2,rfl,by go_num,rfl⟩
    case measure=>omega
   .go_wp2_with fail
    go_ret;have hz:=HZ.out;rw [List.drop_eq_nil_of_le (by omega)] at hz
    exact ⟨aA5 hz,rfl⟩
 .subst h
  go_enter func182,ntmps182
  go_wp2_with (first
   | (go_at_call 208;refine (aYb _ _ _ l _ H.out hl).mono ?_;rintro e w' ⟨rfl,rfl⟩))
  go_ret;exact ⟨rfl,rfl⟩
 .subst h
  go_enter func182,ntmps182
  go_wp2_with fail
  go_loopg [10,63] l.length (fun g sv iv wr=>∃ (k:Nat) (z:Int),k+g=l.length /\ -(1073741824*k)<=z/\z<=1073741824*k/\Hid (aTn ((l.drop k).foldl (·+·) z)=aIt 26 l)/\sv = .int .i64 z/\iv = .int .i64 k/\w=wr)
  case atStart=>exact ⟨0,0,by omega,by omega,by omega,rfl,rfl,rfl,rfl⟩
  case round =>
   obtain ⟨k,z,hk,hz1,hz2,HZ,rfl,rfl,rfl⟩:=hrel
   by_cases hlt:k<l.length
   .obtain ⟨b,o,rfl,hb,hc⟩:=H.out.at_ k hlt
    have hx:=HN.out l[k] (List.getElem_mem _);unfold Num at hx;obtain ⟨hx1,hx2⟩:=hx
    have HZ2:Hid (aTn ((l.drop (k+1)).foldl (·+·) (z+l[k]))=aIt 26 l):=by
     have:=HZ.out;rw [List.drop_eq_getElem_cons hlt,List.foldl_cons] at this;exact this
    go_wp2_with fail
    go_roundg (gk-1)
    case rel=>exact ⟨k+1,z+l[k],by omega,by omega,by omega,HZ2,rfl,by go_num,rfl⟩
    case measure=>omega
   .have hz:=HZ.out
    rw [List.drop_eq_nil_of_le (by omega)] at hz
    have HZ2:=aA0 hz;clear hz
    go_wp2_with (go_at_call 183;refine (aDd _ _).mono ?_;rintro e w' ⟨rfl,rfl⟩)
    go_ret;exact ⟨aA5 HZ2.out,rfl⟩
 .subst h
  go_enter func182,ntmps182
  go_wp2_with (first
   | (go_at_call 209;refine (bAp _ _ _ l _ H.out hl).mono ?_;rintro e w' ⟨rfl,rfl⟩))
  go_ret;exact ⟨rfl,rfl⟩
 .subst h
  go_enter func182,ntmps182
  go_wp2_with (first
   | (go_at_call 208;refine (aYb _ _ _ l _ H.out hl).mono ?_;rintro e w' ⟨rfl,rfl⟩))
  go_ret;exact ⟨rfl,rfl⟩
 .subst h
  rcases l with _ | ⟨x,l⟩
  .go_enter func182,ntmps182
   go_wp2_with fail
   go_ret;exact ⟨rfl,rfl⟩
  .obtain ⟨b,o,rfl,hb,hc⟩:=H.out.at_ 0 (by simp)
   have hc':w.cell? ⟨b,o,none⟩=some (.int .i64 x):=by simpa using hc
   clear hc;have hne:(((x :: l).length:Int)==0)=false:=by simp;omega
   go_enter func182,ntmps182
   go_wp2_with fail
   go_ret;exact ⟨rfl,rfl⟩
structure Gathered (l:List Int) (k:Nat) (yes first least great second sum:Int):Prop where
 yes:yes+aD1 (l.drop k)=aD1 l
 first:(first<0->first = -1/\aDw (l.drop k) k=aDw l 0)/\(0<=first->first=aDw l 0)
 least:(l.drop k).foldl min least=minF l
 two:aJp (l.drop k) great second=aZw l
 ord:second<=great
 sum:(l.drop k).foldl (·+·) sum=sumF l
theorem aPu (l:List Int):Gathered l 0 0 (-1) 1073741824 (-1073741824) (-1073741824) 0 :=
 ⟨by simp,⟨fun _=>⟨rfl,rfl⟩,fun h=>by omega⟩,rfl,rfl,by omega,rfl⟩
theorem aPt {l:List Int} {k:Nat} {yes first least great second sum:Int} (h:Gathered l k yes first least great second sum) (hk:k<l.length) :
  Gathered l (k+1) (if l[k]=0 then yes else yes+1) (if l[k]≠0/\first<0 then (k:Int) else first) (min least l[k]) (max great l[k]) (max second (min great l[k])) (sum+l[k]):=by
 have hd:=List.drop_eq_getElem_cons hk;obtain ⟨h1,⟨h2a,h2b⟩,h3,h4,h5,h6⟩:=h;rw [hd] at h1 h3 h4 h6;rw [aMi] at h1;refine ⟨?_,?_,?_,?_,?_,?_⟩
 .split <;> simp_all <;> omega
 .constructor
  .intro hf
   split at hf
   .omega
   .rename_i hc
    rw [if_neg hc];obtain ⟨e1,e2⟩:=h2a hf;refine ⟨e1,?_⟩
    rw [hd] at e2;simp only [aDw] at e2
    rw [if_neg (by intro h0;exact hc ⟨h0,hf⟩)] at e2
    exact e2
  .intro hf
   split
   .rename_i hc
    obtain ⟨e1,e2⟩:=h2a hc.2;rw [hd] at e2;simp only [aDw] at e2
    rw [if_pos hc.1] at e2;exact e2
   .rename_i hc
    rw [if_neg hc] at hf;exact h2b hf
 .rw [List.foldl_cons] at h3;exact h3
 .simp only [aJp] at h4
  by_cases hg:great<l[k]
  .rw [if_pos hg] at h4
   rw [show max great l[k]=l[k] by omega,show max second (min great l[k])=great by omega]
   exact h4
  .rw [if_neg hg] at h4
   rw [show max great l[k]=great by omega,show max second (min great l[k])=max second l[k] by omega]
   exact h4
 .omega
 .rw [List.foldl_cons] at h6;exact h6
theorem aTl (A:Option Addr) (n c:Nat) (l:List Int) (op:Int) (w:World) (h:aBr w A n l) (hl:n<=1000) (h1:20<=op) (h2:op<=29) (hn:∀ x∈l,Num x) :
  Calls prog 135 #[.int .i64 op,.slice A n c] w fun e w'=>e = .returned (.int .i64 (aIt op l))/\w=w':=by
 obtain rfl:=h.1;have H:=aA0 h;clear h;have HN:=aA0 hn;clear hn;have HC:Hid (op=20∨op=21∨op=22∨op=23∨op=24∨op=25∨op=26∨op=27∨op=28∨op=29):=by show _∨_;omega
 clear h1 h2;go_enter func135,ntmps135
 go_wp2_with fail
 go_loopg [5,6,7,8,9,10,11] l.length (fun g yv fv lv gv sv mv iv wr=>∃ (k:Nat) (yes first least great second sum:Int),k+g=l.length/\0<=yes/\yes<=k /\ -(1073741824*k)<=sum/\sum<=1073741824*k/\Hid (Gathered l k yes first least great second sum) /\
  yv = .int .i64 yes/\fv = .int .i64 first/\lv = .int .i64 least/\gv = .int .i64 great/\sv = .int .i64 second/\mv = .int .i64 sum/\iv = .int .i64 k/\w=wr)
 case atStart=>exact ⟨0,0,-1,_,_,_,0,by omega,by omega,by omega,by omega,by omega,aPu l,rfl,rfl,rfl,rfl,rfl,rfl,rfl,rfl⟩
 case round =>
  obtain ⟨k,yes,first,least,great,second,sum,hk,hy1,hy2,hs1,hs2,HG,rfl,rfl,rfl,rfl,rfl,rfl,rfl,rfl⟩:=hrel
  by_cases hlt:k<l.length
  .obtain ⟨b,o,rfl,hb,hc⟩:=H.out.at_ k hlt
   have HS:=aA0 (aPt HG.out hlt);have hx:=HN.out l[k] (List.getElem_mem _);unfold Num at hx;obtain ⟨hx1,hx2⟩:=hx;generalize l[k]=x at *;obtain ⟨m1,hm1,hm1'⟩:=aMz least x;obtain ⟨m2,hm2,hm2'⟩:=aMz great x;obtain ⟨m3,hm3,hm3'⟩:=aJf second m2;obtain ⟨m4,hm4,hm4'⟩:=aJf great x;have HS2:=HS.out;rw [<- hm1',<- hm2',<- hm3',<- hm4'] at HS2;have HS3:=aA0 HS2;clear HS2 HS hm1' hm2' hm3' hm4'
   by_cases h0:x=0
   .have hz:(x != 0)=false:=by simpa using h0
    have HS4:Hid (Gathered l (k+1) yes first m1 m4 m3 (sum+x)):=by
     have:=HS3.out;rw [if_pos h0,if_neg (by simp [h0])] at this
     exact this
    clear h0
    go_wp2_with fail
    go_roundg (gk-1)
    case rel=>exact ⟨k+1,yes,first,m1,m4,m3,sum+x,by omega,by omega,by omega,by omega,by omega,HS4,rfl,rfl,rfl,rfl,rfl,rfl,by go_num,rfl⟩
    case measure=>omega
   .have hz:(x != 0)=true:=by simpa using h0
    by_cases hf:first<0
    .have hfd:decide (first<0)=true:=by simpa using hf
     have HS4:Hid (Gathered l (k+1) (yes+1) k m1 m4 m3 (sum+x)):=by
      have:=HS3.out;rw [if_neg h0,if_pos ⟨h0,hf⟩] at this;exact this
     clear h0 hf
     go_wp2_with fail
     go_roundg (gk-1)
     case rel=>exact ⟨k+1,yes+1,k,m1,m4,m3,sum+x,by omega,by omega,by omega,by omega,by omega,HS4,rfl,rfl,rfl,rfl,rfl,rfl,by go_num,rfl⟩
     case measure=>omega
    .have hfd:decide (first<0)=false:=by simpa using hf
     have HS4:Hid (Gathered l (k+1) (yes+1) first m1 m4 m3 (sum+x)):=by
      have:=HS3.out;rw [if_neg h0,if_neg (fun h=>hf h.2)] at this;exact this
     clear h0 hf
     go_wp2_with fail
     go_roundg (gk-1)
     case rel=>exact ⟨k+1,yes+1,first,m1,m4,m3,sum+x,by omega,by omega,by omega,by omega,by omega,HS4,rfl,rfl,rfl,rfl,rfl,rfl,by go_num,rfl⟩
     case measure=>omega
  .obtain ⟨g1,⟨g2a,g2b⟩,g3,g4,g5,g6⟩:=HG.out
   rw [List.drop_eq_nil_of_le (by omega)] at g1 g2a g3 g4 g6
   have e1:yes=aD1 l:=by simpa [aD1] using g1
   have e2:first=aDw l 0:=by
    by_cases hf:first<0
    .obtain ⟨a,b⟩:=g2a hf;rw [a,<- b];rfl
    .exact g2b (by omega)
   have e3:least=minF l:=g3;have e4:aZw l=(great,second):=g4.symm;have e5:sum=sumF l:=g6;clear g1 g2a g2b g3 g4 g5 g6 HG;have E1:=aA0 e1;have E2:=aA0 e2;have E3:=aA0 e3;have E4:=aA0 e4;have E5:=aA0 e5;clear e1 e2 e3 e4 e5;have hcl:=aPk l 0
   rcases HC.out with h | h | h | h | h | h | h | h | h | h
   case inr.inr.inr.inr.inr.inr.inr.inl =>
    subst h
    go_wp2_with fail
    go_loopg [12] (aKn l 0) (fun g rv wr=>∃ (q:Int),0<=q/\q+g=aKn l 0/\aKn l q<=g/\Hid (aI2 l g q=aZc l)/\rv = .int .i64 q/\w=wr)
    case atStart=>exact ⟨0,by omega,by omega,Nat.le_refl _,rfl,rfl,rfl⟩
    case round =>
     obtain ⟨q,hq0,hq,hg,HZ,rfl,rfl⟩:=hrel
     by_cases hm:q∈l
     .have hc:=aM1 hm
      obtain ⟨g,rfl⟩:∃ g,gk=g+1:=⟨gk-1,by omega⟩
      have HZ2:Hid (aI2 l g (q+1)=aZc l):=by
       have:=HZ.out;simp only [aI2] at this
       rw [if_pos hm] at this;exact this
      have hd:decide (q∈l)=true:=decide_eq_true hm;have hk6:q<=1000000:=by omega
      clear hm
      go_wp2_with (go_at_call 154;refine (aOs _ _ _ l _ _ H.out hl).mono ?_;rintro e w' ⟨rfl,rfl⟩;rw [hd])
      go_roundg g
      case rel=>exact ⟨q+1,by omega,by omega,by omega,HZ2,rfl,rfl⟩
      case measure=>omega
     .have HZ2:Hid (q=aZc l):=by
       have:=HZ.out;cases gk with
       | zero=>exact this
       | succ g=>simp only [aI2] at this;rw [if_neg hm] at this;exact this
      have hd:decide (q∈l)=false:=decide_eq_false hm;clear hm
      go_wp2_with (go_at_call 154;refine (aOs _ _ _ l _ _ H.out hl).mono ?_;rintro e w' ⟨rfl,rfl⟩;rw [hd])
      go_ret;exact ⟨aA5 HZ2.out,rfl⟩
   case inr.inr.inr.inr.inr.inr.inr.inr.inr =>
    subst h;clear E1 E2 E3 E4 E5
    by_cases h0:l.length=0
    .have HZ:Hid ((0:Int)=aIt 29 l):=by show _=_;rw [List.length_eq_zero_iff.1 h0];rfl
     have hb0:((l.length:Int)==0)=true:=by simp;exact List.length_eq_zero_iff.1 h0
     go_wp2_with fail
     go_ret;exact ⟨aA5 HZ.out,rfl⟩
    .obtain ⟨b,o,rfl,hb,hc⟩:=H.out.at_ 0 (by omega)
     have HZ:Hid (l[0]'(by omega)=aIt 29 l):=by
      show _=_
      cases l with
      | nil=>simp at h0
      | cons x l=>rfl
     have hc':w.cell? ⟨b,o,none⟩=some (.int .i64 (l[0]'(by omega))):=by simpa using hc
     clear hc;have hb0:((l.length:Int)==0)=false:=by simp;intro hh;rw [hh] at h0;exact h0 rfl
     have hpos:0<l.length:=by omega
     generalize (l[0]'(by omega):Int)=x0 at *
     clear h0
     go_wp2_with fail
     go_ret;exact ⟨aA5 HZ.out,rfl⟩
   all_goals
    subst h
    go_wp2_with (first
     | (go_at_call 152;refine (aCd _ _).mono ?_;rintro e w' ⟨rfl,rfl⟩)
     | (go_at_call 153;refine (aIb _ _).mono ?_;rintro e w' ⟨rfl,rfl⟩))
    go_ret;refine ⟨aA5 ?_,rfl⟩
    simp only [aIt]
    first
     | (rw [E1.out];rfl)
     | (rw [E2.out];rfl)
     | (rw [E3.out];rfl)
     | (rw [E4.out];rfl)
     | (rw [E5.out];rfl)
end Go.Proofs.YtdcjnhoabbdanaaGreatDoor

