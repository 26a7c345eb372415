/- Merged. -/
import Derived.Test.YtmoebklkkjbigaaGreatDoorZ05
set_option linter.unusedSimpArgs false
set_option linter.unnecessarySimpa false
set_option linter.unusedVariables false
set_option maxRecDepth 100000
set_option maxHeartbeats 4000000
open Go.Proofs.Tryz

namespace Go.Proofs.YtmoebklkkjbigaaGreatDoor
open Go.RowKit
open Go.RowKit Go.Maps
theorem aXr (ids:List Int):aS9 ids=true↔(∀ i∈ids,0<=i/\i<=255)/\ids.Nodup:=by
 unfold aS9;simp only [Bool.and_eq_true,List.all_eq_true,decide_eq_true_eq]
theorem aQr {ids:List Int} (h:¬ ((∀ i∈ids,0<=i/\i<=255)/\ids.Nodup)):aS9 ids=false:=by
 rw [Bool.eq_false_iff];intro hb;exact h ((aXr ids).1 hb)
theorem aIr (A:Option Addr) (c:Nat) (ids:List Int) (w:World) (h:aCr w A ids.length ids) (hl:ids.length<=1000) :
  Calls prog 68 #[.slice A ids.length c] w fun e w'=>e = .returned (.bool (aS9 ids))/\Bel w w':=by
 have H:=aA0 (fun w' (k:Bel w w')=>aCr.keep h k);clear h;have HZ:=aA0 (show Tryz.zeroCells202=Array.replicate 256 (Value.bool false) by kernel_rfl)
 have HB:=(Bel.refl w).alloc (.cells Tryz.zeroCells202 202);have HK:=aA0 (Blk.new w Tryz.zeroCells202 202);go_enter func68,ntmps68;go_wp2
 go_loopg [5,8] ids.length (fun m _x z wr=>∃ (j:Nat) (cs:Array Value),j<=ids.length/\m=ids.length-j/\z = .int .i64 j/\Hid ((∀ i∈ids.take j,0<=i/\i<=255)/\(ids.take j).Nodup)/\Hid (Blk wr w.heap.size cs 202/\∀ i:Nat,i<256->cs[i]?=some (.bool (decide ((i:Int)∈ids.take j))))/\Bel w wr)
 case atStart =>
  refine ⟨0,Tryz.zeroCells202,by omega,rfl,rfl,⟨by simp,by simp⟩,⟨HK.out,fun i hi=>?_⟩,HB⟩
  rw [HZ.out,Array.getElem?_replicate,if_pos hi];simp
 case round =>
  clear HB HK;obtain ⟨j,cs,hj,rfl,rfl,HJ,HC,HB⟩:=hrel
  by_cases hlt:j<ids.length
  .have hd0:decide (j<ids.length)=true:=by simpa using hlt
   obtain ⟨b,o,rfl,hb,hc⟩:=(H.out _ HB).at_ j hlt
   by_cases hr:0<=ids[j]/\ids[j]<=255
   .obtain ⟨q,hq⟩:=Int.eq_ofNat_of_zero_le hr.1
    have hq256:q<256:=by omega
    have y1:=HC.out.1.cell q (HC.out.2 q hq256);have y2:=HC.out.1.frozen q;have y3:=HC.out.1.lt;have HM:Hid (ids[j]=(q:Int)):=hq;rw [hq] at hc;have hd1:decide ((q:Int)<0)=false:=by simp
    have hd2:decide (255<(q:Int))=false:=by simp;omega
    by_cases hin:(q:Int)∈ids.take j
    .have HF:Hid (aS9 ids=false):=aQr fun h=>by
      obtain ⟨i,hi1,hi3⟩:=List.mem_take_iff_getElem.1 hin;exact aFw (j:=i) (by omega) hlt (by rw [hi3,HM.out]) h.2
     rw [decide_eq_true hin] at y1;clear hr hq
     go_wp2_with fail
     go_ret;exact ⟨aA1 HF.out.symm,HB⟩
    .rw [decide_eq_false hin] at y1
     have HIN:=aA0 hin;clear hr hq hin
     go_wp2_with fail
     go_roundg (ids.length-(j+1))
     case rel =>
      refine ⟨j+1,cs.setIfInBounds q (.bool true),by omega,rfl,by go_num,⟨?_,aF4 hlt HJ.out.2 ?_⟩,⟨HC.out.1.set q _,fun i hi=>?_⟩,HB.setCell (by simp) _⟩
      .intro i hi
       rw [List.take_succ_eq_append_getElem hlt,List.mem_append] at hi
       rcases hi with hi | hi
       .exact HJ.out.1 i hi
       .simp at hi;subst hi;rw [HM.out];omega
      .intro i hi he
       exact HIN.out (by rw [<- HM.out,<- he,List.mem_take_iff_getElem];exact ⟨i,by omega,rfl⟩)
      .have hs:q<cs.size:=by
        have:=HC.out.2 q hq256;rw [Array.getElem?_eq_some_iff] at this;exact this.1
       rw [Array.getElem?_setIfInBounds,List.take_succ_eq_append_getElem hlt,HM.out]
       by_cases hqi:q=i
       .subst hqi;rw [if_pos rfl,if_pos hs];simp
       .rw [if_neg hqi,HC.out.2 i hi]
        congr 2
        rw [Bool.eq_iff_iff];simp;omega
     case measure=>omega
   .have HF:Hid (aS9 ids=false):=aQr fun h=>hr (h.1 _ (List.getElem_mem hlt))
    by_cases hneg:ids[j]<0
    .have hd1:decide (ids[j]<0)=true:=by simpa using hneg
     clear hr
     go_wp2_with fail
     go_ret;exact ⟨aA1 HF.out.symm,HB⟩
    .have hd1:decide (ids[j]<0)=false:=by simpa using hneg
     have hd2:decide (255<ids[j])=true:=by simp;omega
     clear hr
     go_wp2_with fail
     go_ret;exact ⟨aA1 HF.out.symm,HB⟩
  .have hd0:decide (j<ids.length)=false:=by simpa using hlt
   go_wp2_with fail
   go_ret;refine ⟨aA1 ?_,HB⟩
   symm
   rw [aXr];have:=HJ.out;rw [List.take_of_length_le (by omega)] at this
   exact this
theorem pairK:PairK prog 159 3:=⟨underlying159,underlying3,by kernel_rfl,by kernel_rfl,by kernel_rfl,⟨_,rfl⟩⟩
theorem bHy (w:World):(zeroValue 3).run prog w = .ok (.int .i64 0) w:=by kernel_rfl
theorem aVz (A:Option Addr) (c:Nat) (ports:List (List Link)) (w:World) (h:aHk w A ports.length ports) (hl:ports.length<=30) (hl2:∀ r∈ports,r.length<=30) :
  Calls prog 69 #[.slice A ports.length c] w fun e w'=>e = .returned (.bool (bMq ports))/\Bel w w':=by
 have HP:=aA0 (fun w' (k:Bel w w')=>aHk.keep h k);clear h;have HL2:=aA0 hl2;clear hl2;have hmm:=@run_makeMap prog;have HM0:=aA0 (aHd.made prog 159 3 w);have HB:=(Bel.refl w).alloc (.map #[] 0);go_enter func69,ntmps69;go_wp2;clear hmm
 go_loopg [4,5,7,8,9,10,16] ports.length (fun m _x1 _x2 _x3 _x4 _x5 _x6 z wr=>∃ (v n:Nat) (D:DataW Unit),v<=ports.length/\m=ports.length-v/\z = .int .i64 v/\n<=40*v/\Hid (∀ u,u<v->(hu:u<ports.length)->aD8 ports.length u ports[u]=true)/\Hid (aHd prog 159 3 wr w.heap.size n D (mOf ports v 0))/\Bel w wr)
 case atStart =>
  refine ⟨0,0,.map [],by omega,rfl,rfl,by omega,fun u hu=>absurd hu (by omega),?_,HB⟩
  have:(fun _ _=>0)=mOf ports 0 0:=by funext a b;rw [bI7]
  rw [<- this];exact HM0
 case round =>
  clear HB HM0;obtain ⟨v,n,D,hv,rfl,rfl,hn,HV,HM,HB⟩:=hrel
  by_cases hlt:v<ports.length
  .have hd0:decide (v<ports.length)=true:=by simpa using hlt
   obtain ⟨b,o,R,c1,rfl,hb,hrow,hL,_,_⟩:=(HP.out _ HB).at_ v hlt;have HL:=aA0 (fun w' (k:Bel wr w')=>aHj.keep hL k);clear hL;have hrl:=HL2.out _ (List.getElem_mem hlt);go_wp2;clear hd0 hrow hb;have HW:=Bel.refl wr;have hmn:w.heap.size<wr.heap.size:=HM.out.1.lt
   go_loopg [7,8,9,10,23] ports[v].length (fun m _x3 _x4 _x5 _x6 z ws=>∃ (j n:Nat) (D:DataW Unit),j<=ports[v].length/\m=ports[v].length-j/\z = .int .i64 j/\n<=40*v+j/\Hid ((ports[v].take j).all (aMm ports.length v)=true/\((ports[v].map Link.to).take j).Nodup)/\Hid (aHd prog 159 3 ws w.heap.size n D (mOf ports v j))/\Bel w ws/\Hid (aHj ws R ports[v].length ports[v]))
   case atStart=>exact ⟨0,n,D,by omega,rfl,rfl,by omega,⟨rfl,by simp⟩,HM,HB,HL.out _ HW⟩
   case round =>
    clear HB HM HW HL hmn;obtain ⟨j,n,D,hj,rfl,rfl,hn,HJ,HM,HB,HL⟩:=hrel
    by_cases hlt2:j<ports[v].length
    .have hd0:decide (j<ports[v].length)=true:=by simpa using hlt2
     obtain ⟨b2,o2,rfl,hb2,l1,l2⟩:=HL.out.at_ j hlt2;cases hok:aMm ports.length v ports[v][j] with
     | false =>
      have HF:Hid (bMq ports=false):=aOl fun h=>by
       have:=(aBa.1 (h.links v hlt)).1 _ (List.getElem_mem hlt2);rw [hok] at this;cases this
      have HB2:=HB.alloc (.cells #[.int .i64 ports[v][j].to,.int .i64 ports[v][j].weight] 64);have HO:=aA0 hok;clear hok
      by_cases hq:0<=ports[v][j].to/\ports[v][j].to<(ports.length:Int)/\ports[v][j].to≠(v:Int)
      .obtain ⟨q1,q2,q3⟩:=hq
       have hw:ports[v][j].weight<1∨15<ports[v][j].weight:=by
        rcases Int.lt_or_le ports[v][j].weight 1 with h | h
        .exact .inl h
        .rcases Int.lt_or_le 15 ports[v][j].weight with h' | h'
         .exact .inr h'
         .have:=HO.out
          rw [aBg.2 ⟨q1,q2,q3,h,h'⟩] at this;cases this
       have d1:decide (ports[v][j].to<0)=false:=by simp;omega
       have d2:decide ((ports.length:Int)<=ports[v][j].to)=false:=by simp;omega
       have d3:(ports[v][j].to==(v:Int))=false:=by simpa using q3
       clear q1 q2 q3
       rcases hw with hw | hw
       .have d4:decide (ports[v][j].weight<1)=true:=by simpa using hw
        go_wp2_with fail
        go_ret;exact ⟨aA1 HF.out.symm,HB2⟩
       .have d4:decide (ports[v][j].weight<1)=false:=by simp;omega
        have d5:decide (15<ports[v][j].weight)=true:=by simpa using hw
        go_wp2_with fail
        go_ret;exact ⟨aA1 HF.out.symm,HB2⟩
      .have hcase:ports[v][j].to<0∨(0<=ports[v][j].to/\(ports.length:Int)<=ports[v][j].to)∨(0<=ports[v][j].to/\ports[v][j].to<(ports.length:Int)/\ports[v][j].to=(v:Int)):=by omega
       clear hq
       rcases hcase with h1 | ⟨h1,h2⟩ | ⟨h1,h2,h3⟩
       .have d1:decide (ports[v][j].to<0)=true:=by simpa using h1
        go_wp2_with fail
        go_ret;exact ⟨aA1 HF.out.symm,HB2⟩
       .have d1:decide (ports[v][j].to<0)=false:=by simp;omega
        have d2:decide ((ports.length:Int)<=ports[v][j].to)=true:=by simpa using h2
        go_wp2_with fail
        go_ret;exact ⟨aA1 HF.out.symm,HB2⟩
       .have d1:decide (ports[v][j].to<0)=false:=by simp;omega
        have d2:decide ((ports.length:Int)<=ports[v][j].to)=false:=by simp;omega
        have d3:(ports[v][j].to==(v:Int))=true:=by simpa using h3
        have HH:=aA0 h3;clear h3
        go_wp2_with fail
        go_ret;exact ⟨aA1 HF.out.symm,HB2⟩
     | true =>
      obtain ⟨q1,q2,q3,q4,q5⟩:=aBg.1 hok;obtain ⟨t,ht⟩:=Int.eq_ofNat_of_zero_le q1;have HO:=aA0 hok;have HTE:=aA0 ht;have d1:decide ((t:Int)<0)=false:=by simp
      have d2:decide (ports.length<=t)=false:=by simp;omega
      have d2':decide ((ports.length:Int)<=(t:Int))=false:=by simp;omega
      have d3:((t:Int)==(v:Int))=false:=by simp;omega
      have d3':(t==v)=false:=by simp;omega
      have d4:decide (ports[v][j].weight<1)=false:=by simp;omega
      have d5:decide (15<ports[v][j].weight)=false:=by simp;omega
      have wt:(Lit.int .i64 (t:Int)).wf=true:=WalkArith.wf_i64 (by omega)
      have wv:(Lit.int .i64 (v:Int)).wf=true:=WalkArith.wf_i64 (by omega)
      have ww:(Lit.int .i64 ports[v][j].weight).wf=true:=WalkArith.wf_i64 (by omega)
      have hwne:ports[v][j].weight≠0:=by omega
      rw [ht] at l1;have HB2:=(HB.alloc (.cells #[.int .i64 (t:Int),.int .i64 ports[v][j].weight] 64)).alloc (.cells #[.int .i64 (v:Int),.int .i64 (t:Int)] 159);have HW2:=((Bel.refl wr).alloc (.cells #[.int .i64 (t:Int),.int .i64 ports[v][j].weight] 64)).alloc (.cells #[.int .i64 (v:Int),.int .i64 (t:Int)] 159);have HM2:=aA0 (HM.out.keep HW2);have hlook:=aHd.lookOk pairK underlying203 HM2.out (bHy _) wv wt;unfold aSg at hlook;dsimp only at hlook
      have hwpos:∀ l∈ports[v].take j,1<=l.weight:=fun l hl=>by
       have:=List.all_eq_true.1 HJ.out.1 l hl;exact (aBg.1 this).2.2.2.1
      have hmv:mOf ports v j (v:Int) (t:Int)=wOf (ports[v].take j) (t:Int):=by
       unfold mOf;rw [if_neg (by omega),if_pos rfl,aA8 hlt]
      by_cases hdup:mOf ports v j (v:Int) (t:Int)=0
      .have hno:∀ l∈ports[v].take j,l.to≠ports[v][j].to:=by
        rw [ht];exact bOs hwpos (by rw [<- hmv];exact hdup)
       have hdd:decide (mOf ports v j (v:Int) (t:Int)≠0)=false:=by simpa using hdup
       rw [hdd,hdup] at hlook;have HNO:=aA0 hno;have HWL:=aA0 (fun w' (k:Bel wr w')=>HL.out.keep k);have hms:w.heap.size<wr.heap.size:=HM.out.1.lt;clear hdup hdd hno hwpos hmv q1 q2 q3 hok ht
       go_wp2_with (at_mapUpdate;refine wpList_mapUpdate_own _ rfl (.tmp 62) (.tmp 63) (.tmp 65) 203 rfl 159 3 pairK.law underlying203 _ w.heap.size n D rfl HM2.out.1 (by unfold maxLen;omega) _ _ _ rfl rfl (pairK.keyOf wv wt) _ [] (plainElem_int underlying3 ww) ?_;intro w3 hown hgr;have HB3:=HB2.map (Nat.le_refl _) hgr;have HP3:=aA0 (aHd.put pairK wv wt hwne HM2.out.2 hown);have HG3:=aA0 hgr;clear hown hgr)
       go_roundg (ports[v].length-(j+1))
       case rel =>
        refine ⟨j+1,n+1,D.put (pk (v:Int) (t:Int)) (.lit (.int .i64 ports[v][j].weight)),by omega,rfl,by go_num,by omega,⟨aAp hlt2 HJ.out.1 HO.out,?_⟩,?_,HB3,?_⟩
        .refine aF4 (by simpa using hlt2) HJ.out.2 (fun q hq he=>?_)
         simp at he
         exact HNO.out (ports[v][q]'(by omega)) (by rw [List.mem_take_iff_getElem];exact ⟨q,by omega,rfl⟩) he
        .have e:bOw (mOf ports v j) (v:Int) (t:Int) ports[v][j].weight=mOf ports v (j+1):=by
          funext a b
          rw [bLr hlt hlt2 HNO.out,HTE.out];rfl
         rw [<- e];exact HP3
        .have hk:=HWL.out _ HW2
         refine ⟨hk.1,fun i x hx=>?_⟩
         obtain ⟨bb,oo,e,hlt',hE⟩:=HL.out.2 i x hx
         have hbb:bb≠w.heap.size:=by
          intro hh
          obtain ⟨es,clock,hb',_⟩:=HM.out.1;subst hh;have h1:=hE.1;unfold World.cell? at h1;rw [hb'] at h1;simp at h1
         have hblk:w3.heap[bb]?=wr.heap[bb]?:=by
          rw [HG3.out.block bb (by have:=HW2.size;omega) (by simpa using hbb)]
          exact HW2.block bb hlt'
         have hcell:∀ o',w3.cell? ⟨bb,o',none⟩=wr.cell? ⟨bb,o',none⟩:=fun o'=>by unfold World.cell?;rw [hblk]
         refine ⟨bb,oo,e,?_,(hcell _).trans hE.1,(hcell _).trans hE.2⟩
         have:=HW2.size;have:=HG3.out.size;omega
       case measure=>omega
      .have HF:Hid (bMq ports=false):=aOl fun h=>by
        obtain ⟨l,hlm,hlt',_⟩:=aQ0 (ls:=ports[v].take j) (b:=(t:Int)) (by rw [<- hmv];exact hdup)
        obtain ⟨q,hq,rfl⟩:=List.mem_take_iff_getElem.1 hlm;exact aFw (j:=q) (k:=j) (by omega) (by simpa using hlt2) (by simp [hlt',ht]) (aBa.1 (h.links v hlt)).2
       rw [decide_eq_true hdup] at hlook;clear hdup hwpos hmv q1 q2 q3 hok ht
       go_wp2_with fail
       go_ret;exact ⟨aA1 HF.out.symm,HB2⟩
    .have hd0:decide (j<ports[v].length)=false:=by simpa using hlt2
     have HLV:Hid (aD8 ports.length v ports[v]=true):=by
      show aD8 ports.length v ports[v]=true
      rw [aBa];have h1:=HJ.out;rw [List.take_of_length_le (by omega),List.take_of_length_le (by simp;omega)] at h1
      exact ⟨List.all_eq_true.1 h1.1,h1.2⟩
     go_wp2_with fail
     go_roundg (ports.length-(v+1))
     case rel =>
      refine ⟨v+1,n,D,by omega,rfl,by go_num,by omega,?_,?_,HB⟩
      .intro u hu hu'
       rcases Nat.lt_or_ge u v with h | h
       .exact HV.out u h hu'
       .obtain rfl:u=v:=by omega
        exact HLV.out
      .have e:mOf ports v j=mOf ports (v+1) 0:=by funext a b;exact bO5 hlt (by omega) a b
       rw [<- e];exact HM
     case measure=>omega
  .obtain rfl:v=ports.length:=by omega
   have hd0:decide (ports.length<ports.length)=false:=by simp
   have HSM:=aA0 (bG9 (fun u hu=>HV.out u (by omega) hu))
   have HLK:=aA0 (fun u (hu:u<ports.length)=>HV.out u (by omega) hu)
   clear HV hlt hv
   go_wp2_with (at_range;refine wpList_range_own _ rfl (.tmp 68) 203 rfl 159 3 pairK.law underlying203 _ w.heap.size n D rfl HM.out.1 ?_;intro w1 hrg hgr hsz;have HB1:=HB.grown hgr (fun k hk=>by cases hk);have HRG:=aA0 hrg;clear hrg hgr hsz;go_frame)
   have hr0:w.heap.size<wr.heap.size:=HM.out.1.lt;have HM2:=aA0 HM.out.2;clear hd0 HM;generalize hrr:wr.heap.size=r at *;clear hrr
   go_loopg [11,12] (size D) (fun m _x _y ws=>∃ (left:Lit->Bool) (cnt:Nat),m=cnt/\Hid (ws.ranges prog 159 (plainElem prog 3) w.heap.size r n D left cnt)/\Hid (∀ a b,(Lit.int .i64 a).wf=true->(Lit.int .i64 b).wf=true->mOf ports ports.length 0 a b≠0->left (pk a b)=false->mOf ports ports.length 0 b a=mOf ports ports.length 0 a b)/\Bel w ws)
   case atStart =>
    refine ⟨_,_,rfl,HRG,?_,HB1⟩
    intro a b wa wb hne hlf
    have:=((HM2.out.2 a b wa wb).2).2 hne;rw [this] at hlf;cases hlf
   case round =>
    clear HB HB1 HRG;obtain ⟨left,cnt,rfl,HRG,HI,HB⟩:=hrel
    go_wp2_with (at_next;refine wpList_next_ranges _ rfl (.tmp 69) rfl 159 pairK.law (plainElem prog 3) aSg (Value.int .i64) (fun key kl hkey=>by obtain ⟨x,hx,_⟩:=pairK.inv hkey;exact ⟨x,hx⟩) (fun v y hv=>by obtain ⟨c,hc,_⟩:=plainElem_int_inv underlying3 hv;exact ⟨c,hc⟩) w.heap.size r n D left _ rfl HRG.out ?_ ?_)
    .intro _ hl0
     have HL0:=aA0 hl0;clear hl0
     go_wp2_with fail
     go_ret;refine ⟨aA1 ?_,HB⟩
     symm
     rw [bDo,HSM.out];intro a b hne
     obtain ⟨h0,h1⟩:=bI6 hne;obtain ⟨a',rfl⟩:=Int.eq_ofNat_of_zero_le h0;have hlt:a' < ports.length:=by omega
     have hne2:=hne;rw [aY1 hlt hlt] at hne2;obtain ⟨l,hlm,rfl,_⟩:=aQ0 hne2;obtain ⟨t1,t2,_⟩:=aBg.1 ((aBa.1 (HLK.out a' hlt)).1 l hlm);exact HI.out _ _ (WalkArith.wf_i64 (by omega)) (WalkArith.wf_i64 (by omega)) hne (HL0.out _)
    .intro x1 x2 cw kl y1 y2 w2 cnt2 hkey hlk hv hat hrg2 hlt2 hg2 hs2 hen
     obtain ⟨⟨x1',x2'⟩,hx,wx1,wx2,rfl⟩:=pairK.inv hkey;simp [aSg] at hx
     obtain ⟨rfl,rfl⟩:=hx;obtain ⟨c',hc',hy,wc⟩:=plainElem_int_inv underlying3 hv;injection hc' with _ hc'
     subst hc'
     have hM:mOf ports ports.length 0 x1 x2=cw:=by
      have h1:=(HM2.out.2 x1 x2 wx1 wx2).1;have hy1:y1 = .lit (.int .i64 cw):=congrArg Prod.fst hy;rw [hat,hy1] at h1;simp at h1
      exact h1.symm
     have hMne:mOf ports ports.length 0 x1 x2≠0:=by
      have h1:=(HM2.out.2 x1 x2 wx1 wx2).2;rw [<- h1];exact has_true_of_atKey (y:=y1) hat
     have HB2:Bel w w2:=HB.grown hg2 (fun k hk=>by injection hk with hk;omega)
     have HB3:=HB2.alloc (.cells #[.int .i64 x1,.int .i64 x2] 159);have HR3:=aA0 (hrg2.alloc (.cells #[.int .i64 x1,.int .i64 x2] 159));have hlook:=aHd.look pairK underlying203 (⟨HR3.out.owns,HM2.out⟩:aHd prog 159 3 _ _ _ _ _) (bHy _) wx2 wx1;unfold aSg at hlook hen;dsimp only at hlook hen;have HMM:=aA0 hM;have HME:=aA0 hMne;have HLT:=aA0 hlt2;have HLKK:=aA0 hlk;have hrl:=HR3.out.lt;clear hM hMne hkey hv hat hrg2 hg2 hy hlt2 hlk;generalize hmx:mOf ports ports.length 0 x2 x1=mx at *;have HMX:=aA0 hmx;clear hmx
     by_cases he:mx=cw
     .have heb:(mx != cw)=false:=by simpa using he
      have HE:=aA0 he;clear he
      go_wp2_with fail
      go_roundg cnt2
      case rel =>
       refine ⟨_,cnt2,rfl,HR3,?_,HB3⟩
       intro a b wa wb hne hlf
       rw [Bool.and_eq_false_iff] at hlf
       rcases hlf with hlf | hlf
       .exact HI.out a b wa wb hne hlf
       .simp at hlf
        have:=WideAt.sameKey_eq hlf;obtain ⟨rfl,rfl⟩:=bN4 pairK wa wb wx1 wx2 this;rw [HMX.out,HE.out,HMM.out]
      case measure=>exact HLT.out
     .have heb:(mx != cw)=true:=by simpa using he
      have HF:Hid (bMq ports=false):=aOl fun h=>by
       have:=HSM.out.1 h x1 x2 HME.out;rw [HMX.out,HMM.out] at this;exact he this
      clear he
      go_wp2_with fail
      go_ret;exact ⟨aA1 HF.out.symm,HB3⟩
end Go.Proofs.YtmoebklkkjbigaaGreatDoor

