/- Merged. -/
import Derived.Test.YtmoebklkkjbigaaGreatDoorZ17
import Derived.Shelf.Abstract
set_option linter.unusedSimpArgs false
set_option linter.unnecessarySimpa false
set_option linter.unusedVariables false
set_option maxRecDepth 100000
set_option maxHeartbeats 4000000
open Go.Proofs.Tryz

namespace Go.Proofs.YtmoebklkkjbigaaGreatDoor
open Go.RowKit
theorem bA5 (A:Option Addr) (c:Nat) (T:List (List (Int × Int))) (w:World) (hT:aFe w A T.length T) (hs:aJw T) (hn:T.length<=24) (hm:∀ t∈T,t.length<=10) :
  Calls prog 76 #[.slice A T.length c] w fun e w'=>e = .returned (.tuple #[.int .i64 (bNp (aAz T)).1,.int .i64 (bNp (aAz T)).2])/\Bel w w':=by
 have HT:=aA0 (fun w' (k:Bel w w')=>hT.keep k);have HS:=aA0 hs;have HM:=aA0 hm;have HW:=Bel.refl w;clear hT hs hm;go_enter func76,ntmps76
 go_wp2_with fail
 go_loopg [4,6,8,11] T.length (fun m x _y _z z wr=>∃ (v:Nat) (r:Int),v<=T.length/\m=T.length-v/\x = .int .i64 r/\z = .int .i64 v/\Hid (aTr T v r)/\Bel w wr)
 case atStart=>exact ⟨0,1,by omega,rfl,rfl,rfl,aTr.start T,HW⟩
 case round =>
  clear HW;obtain ⟨v,r,hv,rfl,rfl,rfl,HP,HW⟩:=hrel
  by_cases hlt:v<T.length
  .have hd0:decide (v<T.length)=true:=by simpa using hlt
   obtain ⟨b,o,R,rc,rfl,hbl,hcell,hR,_,_⟩:=(HT.out _ HW).at_ v hlt;have HR:=aA0 (fun w' (k:Bel wr w')=>aJ5.keep hR k);have hle:=HM.out _ (List.getElem_mem hlt);have HP0:=aA0 (HP.out.row hlt);clear hR;obtain ⟨wo,rfl⟩:∃ wo:World,wo=wr:=⟨_,rfl⟩;have HWo:=Bel.refl wo
   go_wp2_with fail
   go_loopg [4,8,17] T[v].length (fun m x _y z ws=>∃ (j:Nat) (r:Int),j<=T[v].length/\m=T[v].length-j/\x = .int .i64 r/\z = .int .i64 j/\Hid (Prod T v j r)/\Bel wo ws)
   case atStart=>exact ⟨0,r,by omega,rfl,rfl,rfl,HP0,HWo⟩
   case round =>
    clear HWo HP0 HP hcell hbl;obtain ⟨j,r,hj,rfl,rfl,rfl,HP,HWo⟩:=hrel
    by_cases hlt2:j<T[v].length
    .have hd2:decide (j<T[v].length)=true:=by simpa using hlt2
     obtain ⟨b1,o1,rfl,hb1,c0,c1⟩:=(HR.out _ HWo).at_ j hlt2;have hwd:=HS.out.width hlt hlt2;have hbn:=HS.out.at_ hlt hlt2;have hr1:=HP.out.1;have hr2:=HP.out.2.1;obtain ⟨hp1,hp2⟩:=HP.out.step HS.out.ok hlt hlt2;have hmr:=aHr (a:=r) (b:=T[v][j].2-T[v][j].1+1) (A:=32768) (B:=90000) (by omega) hr2 (by omega) hwd.2
     have HP1:=aA0 hp1;have HP2:=aA0 hp2;clear hp1 hp2
     by_cases hbig:32768<r*(T[v][j].2-T[v][j].1+1)
     .have hd3:decide (32768<r*(T[v][j].2-T[v][j].1+1))=true:=by simpa using hbig
      have hE:=aA0 (bL6 (HP1.out hbig));clear hbig
      go_wp2_with fail
      go_ret2
      exact ⟨by rw [hE.out];rfl,(HW.trans HWo).alloc _⟩
     .have hd3:decide (32768<r*(T[v][j].2-T[v][j].1+1))=false:=by simpa using hbig
      have HQ:=aA0 (HP2.out (by omega))
      clear hbig
      go_wp2_with fail
      go_roundg (T[v].length-(j+1))
      case rel=>exact ⟨j+1,_,by omega,rfl,rfl,by go_num,HQ,HWo.alloc _⟩
      case measure=>omega
    .have hd2:decide (j<T[v].length)=false:=by simpa using hlt2
     obtain rfl:j=T[v].length:=by omega
     go_wp2_with fail
     go_roundg (T.length-(v+1))
     case rel=>exact ⟨v+1,r,by omega,rfl,rfl,by go_num,HP.out.done hlt,HW.trans HWo⟩
     case measure=>omega
  .have hd0:decide (v<T.length)=false:=by simpa using hlt
   obtain rfl:v=T.length:=by omega
   have HE:=aA0 HP.out.end_
   go_wp2_with fail
   go_ret2
   exact ⟨by rw [HE.out];rfl,HW⟩
theorem aH4 (v1:Value) (p:Prg) (v2:Value) (g:Graph) (w:World) (h:aK5 w v1 p) (h2:aB2 w v2 g) (hL:aCc p=true) (hG:aBt g=true) :
  Calls prog 33 #[v1,v2] w fun e w'=>e = .returned (.tuple #[.int .i64 (aD3 p g).1,.int .i64 (aD3 p g).2])/\Bel w w':=by
 have HPV:=aA0 (fun w' (k:Bel w w')=>h.keep k);have HGV:=aA0 (fun w' (k:Bel w w')=>h2.keep k);obtain ⟨A1,k1,A2,k2,rfl,_,_,_,_,_,_⟩:=h;obtain ⟨A3,k3,A4,k4,rfl,_,_,_,_,_,_⟩:=h2;have HW:=Bel.refl ((w.alloc (.cells #[.string p.name,.slice A1 p.vars.length k1,.slice A2 p.rules.length k2] 31)).alloc (.cells #[.slice A3 g.ids.length k3,.slice A4 g.ports.length k4] 25));have HL:=aA0 hL;have HGL:=aA0 hG;clear hL hG;have hv10:=(aBl HL.out).2.1
 by_cases hf:aCw p g=0
 .have HF:=aA0 hf
  have HE:=aA0 (bBr hf);obtain ⟨h1,h3,_⟩:=aAt hf;have H1:=aA0 h1;have H3:=aA0 h3;have hle:(aAb p g).length<=24:=by rw [aAr,h3.ids];exact h3.le
  have HS:=aA0 (aIj hf)
  have HM:Hid (∀ t∈aAb p g,t.length<=10):=by
   intro t ht
   unfold aAb at ht;obtain ⟨v,_,rfl⟩:=List.mem_map.1 ht;simp [aJ3];exact hv10
  clear hf h1 h3;go_enter func33,ntmps33
  go_wp2_with (first
   | (go_at_call 75;refine (aKa _ p _ g _ (HPV.out _ (aA2 HW)) (HGV.out _ (aA2 HW)) HL.out HGL.out).mono ?_;rintro e w' ⟨rfl,hb⟩;rw [HF.out];replace HW:=HW.trans hb;clear hb;(try clear p0 p1 p2 g0 g1 gsz);obtain ⟨p0,p1,p2,g0,g1,gsz⟩:=aDh HW)
   | (go_at_call 77;refine (aJz _ p _ g _ (HPV.out _ (aA2 HW)) (HGV.out _ (aA2 HW)) H1.out H3.out HGL.out).mono ?_;rintro e w' ⟨tv,rfl,htv,hb⟩;obtain ⟨AT,kt,rfl,hTR,_⟩:=(id htv:aHl _ _ _);replace HW:=HW.trans hb;clear hb;(try clear p0 p1 p2 g0 g1 gsz);obtain ⟨p0,p1,p2,g0,g1,gsz⟩:=aDh HW)
   | (go_at_call 76;refine (bA5 AT kt (aAb p g) _ hTR HS.out hle HM.out).mono ?_;rintro e w' ⟨rfl,hb⟩;replace HW:=HW.trans hb;clear hb;(try clear p0 p1 p2 g0 g1 gsz);obtain ⟨p0,p1,p2,g0,g1,gsz⟩:=aDh HW))
  go_ret2
  exact ⟨by rw [HE.out];rfl,aA2 HW⟩
 .have hfb:(aCw p g != 0)=true:=by simpa using hf
  have HE:Hid (aD3 p g=(0,aCw p g)):=by show _=_;unfold aD3;rw [if_pos (by simpa using hf)]
  clear hf;go_enter func33,ntmps33
  go_wp2_with (go_at_call 75;refine (aKa _ p _ g _ (HPV.out _ (aA2 HW)) (HGV.out _ (aA2 HW)) HL.out HGL.out).mono ?_;rintro e w' ⟨rfl,hb⟩;replace HW:=HW.trans hb;clear hb;(try clear p0 p1 p2 g0 g1 gsz);obtain ⟨p0,p1,p2,g0,g1,gsz⟩:=aDh HW)
  go_ret2
  exact ⟨by rw [HE.out];rfl,aA2 HW⟩
def aWm (n m:Nat) (val:Nat->Nat->Int):aA3:=(List.range n).map fun v=>(List.range m).map fun x=>val v x
def aZi (m:Nat) (val:Nat->Int) (j:Nat):List Int:=(List.range m).map fun x=>if x<j then val x else 0
theorem bJe (m:Nat) (val:Nat->Int):(aZi m val 0).map (Value.int .i64)=List.replicate m (.int .i64 0):=by
 apply List.ext_getElem
 .simp [aZi]
 .intro i h1 h2;simp [aZi]
theorem bBi (m:Nat) (val:Nat->Int) (j:Nat):(aZi m val j).length=m:=by simp [aZi]
theorem bMg (m:Nat) (val:Nat->Int) (j:Nat):(aZi m val j).set j (val j)=aZi m val (j+1):=by
 apply List.ext_getElem
 .simp [aZi]
 .intro i h1 h2
  rw [List.getElem_set]
  by_cases h:j=i
  .subst h;rw [if_pos rfl];simp [aZi]
  .rw [if_neg h]
   simp only [aZi,List.getElem_map,List.getElem_range]
   by_cases hi:i<j
   .rw [if_pos hi,if_pos (by omega)]
   .rw [if_neg hi,if_neg (by omega)]
theorem bJd (m:Nat) (val:Nat->Int):aZi m val m=(List.range m).map fun x=>val x:=by
 unfold aZi;refine List.map_congr_left fun x hx=>?_
 rw [if_pos (List.mem_range.1 hx)]
theorem bH8 (n m:Nat) (val:Nat->Nat->Int):aWm (n+1) m val=aWm n m val++[(List.range m).map fun x=>val n x]:=by
 unfold aWm;rw [List.range_succ,List.map_append];rfl
theorem aD5 (n m:Nat) (val:Nat->Nat->Int):(aWm n m val).length=n:=by simp [aWm]
def bNd (m:Nat) (d:aA3) (w:World) (e:Ending) (w':World):Prop:=∃ gb cap bs,e = .returned (.slice (some ⟨gb,0,none⟩) d.length cap)/\RowsC w' w.heap.size (some ⟨gb,0,none⟩) cap m d bs/\Bel w w'
theorem aTa:(prog.info? 22).map (fun i=>(i.zero,i.size,i.bytes))=some (some (.slice none 0 0),1,24):=by kernel_rfl
theorem aY4 (f:FuncId) (caps:Array Value) (val:Nat->Nat->Int) (m:Nat) (A:Option Addr) (c:Nat) (T:List (List (Int × Int))) (w:World) (hT:aFe w A T.length T) (hm:∀ t∈T,t.length=m) (hn:T.length<=24) (hm10:m<=10)
  (hf:∀ v x w',v<T.length->x<m->Bel w w'->Calls prog f (#[.int .i64 (v:Int),.int .i64 (x:Int)]++caps) w' fun e w2=>e = .returned (.int .i64 (val v x))/\w'=w2)
  (hcall:∀ a b w',(callFunc f (#[a,b]++caps)).run prog w' = .ok (.enter f (#[a,b]++caps)) w') :
  Calls prog 80 #[.slice A T.length c,.func (.func f) #[] caps] w (bNd m (aWm T.length m val) w):=by
 have HT:=aA0 (fun w' (k:Bel w w')=>hT.keep k);have HM:=aA0 hm;have HF:=aA0 hf;have HW:=Bel.refl w;obtain ⟨i0,hi0,hz0,hz1,hz2⟩:=info_parts aTa;obtain ⟨j0,hj0,hy0,hy1,hy2⟩:=info_parts aKe;clear hT hm hf;go_enter func80,ntmps80
 go_wp2_with (at_make;refine aB7 _ rfl 66 (.tmp 9) (.tmp 9) rfl w.heap.size 22 i0 (.slice none 0 0) 1 underlying66 hi0 hz0 hz1 .i64 .i64 T.length rfl rfl (by rw [hz2];omega) (by unfold maxLen;omega) (Nat.le_refl _) ?_;intro gb w1 hown hb;have HW:=hb;rw [aB3 _ rfl] at hown;have HO:=aA0 hown;clear hown hb)
 have HD:Hid (BldC w1 w.heap.size gb T.length m (aWm 0 m val) []):=BldC.start HO.out;have hgb1:=(aAa HO.out).1;clear HO
 go_loopg [6,7,13] T.length (fun k _x _y z wr=>∃ (v:Nat) (bs:List (Nat × Nat)),v<=T.length/\k=T.length-v/\z = .int .i64 v/\Hid (BldC wr w.heap.size gb T.length m (aWm v m val) bs)/\Bel w wr)
 case atStart=>exact ⟨0,[],by omega,rfl,rfl,HD,HW⟩
 case round =>
  clear HW HD;obtain ⟨wo,rfl⟩:∃ wo:World,wo=wr:=⟨_,rfl⟩;obtain ⟨v,bs,hv,rfl,rfl,HD,HW⟩:=hrel
  by_cases hlt:v<T.length
  .have hd0:decide (v<T.length)=true:=by simpa using hlt
   obtain ⟨b,o,R,rc,rfl,hb,hcell,_,_,_⟩:=(HT.out _ (Bel.refl w)).at_ v hlt;rw [HM.out _ (List.getElem_mem hlt)] at hcell;have HTC:=aA0 (fun w' (k:Bel w w')=>show w'.cell? ⟨b,o+v,none⟩=some (.slice R m rc)/\b<w'.heap.size from ⟨(k.cell hb).trans hcell,Nat.lt_of_lt_of_le hb k.size⟩)
   clear hcell hb;obtain ⟨hcell,hb⟩:=HTC.out _ HW;have HLV:=aA0 (aD5 v m val);have hfz:=HD.out.own.frozenAt v;have hgl:=(aAa HD.out.own).2
   go_wp2_with (at_make;refine aB7 _ rfl 22 (.tmp 22) (.tmp 22) rfl wo.heap.size 3 j0 (.int .i64 0) 1 underlying22 hj0 hy0 hy1 .i64 .i64 m rfl rfl (by rw [hy2];omega) (by unfold maxLen;omega) (Nat.le_refl _) ?_;intro gr w1 hown hb1;rw [aB3 _ rfl,<- bJe m (val v)] at hown;have HP:=aA0 (HD.out.push (by rw [HLV.out];exact hlt) HW.size hb1 hown);rw [HLV.out] at HP;have hfz1:=(HD.out.keep hb1).own.frozenAt v;have hfr1:=(HD.out.keep hb1).free (by rw [HLV.out];exact hlt);rw [HLV.out] at hfr1;have hgl1:=Nat.lt_of_lt_of_le hgl hb1.size;have HW1:=(HW.trans hb1).setCell (p:=⟨gb,v,none⟩) hgb1 (.slice (some ⟨gr,0,none⟩) m m);have hgr:=aAa hown;clear hown hb1 hcell hb hfz;obtain ⟨hcell,hb⟩:=HTC.out _ HW1)
   clear hgr hfz1 hfr1 hcell hb hgl1;generalize hw2:w1.setCell ⟨gb,v,none⟩ (.slice (some ⟨gr,0,none⟩) m m)=w2 at *;clear hw2
   go_loopg [7,30] m (fun k _x z ws=>∃ j:Nat,j<=m/\k=m-j/\z = .int .i64 j/\Hid (BldC ws w.heap.size gb T.length m (aWm v m val++[aZi m (val v) j]) (bs++[(gr,m)]))/\Bel w ws)
   case atStart=>exact ⟨0,by omega,rfl,rfl,HP,HW1⟩
   case round =>
    clear HP HW1 HD HW hgl;obtain ⟨j,hj,rfl,rfl,HP,HW⟩:=hrel
    by_cases hlt2:j<m
    .have hd2:decide (j<m)=true:=by simpa using hlt2
     have hbl:bs.length=v:=by
      have:=HP.out.len;simp [aD5] at this;exact this
     have hbg:(bs++[(gr,m)])[v]?=some (gr,m):=by rw [List.getElem?_append_right (by omega),hbl];simp
     have hxg:(aWm v m val++[aZi m (val v) j])[v]?=some (aZi m (val v) j):=by rw [List.getElem?_append_right (by rw [aD5];exact Nat.le_refl _),aD5];simp
     have hhead:=HP.out.head hbg;obtain ⟨b',hb',hrow⟩:=HP.out.rows v _ hxg;rw [hbg] at hb';injection hb' with hb'
     subst hb';have hfz:=hrow.frozenAt j;have hyj:=aDy hrow j (by simp [bBi];exact hlt2)
     have hgrl:=(aAa hrow).2;have hgrb:=(aAa hrow).1;have hgbl:=(aAa HP.out.own).2;have hne:gb≠gr:=Ne.symm (HP.out.off hrow)
     have HPUT:Hid (∀ y:Int,BldC (wr.setCell ⟨gr,j,none⟩ (.int .i64 y)) w.heap.size gb T.length m (aWm v m val++[(aZi m (val v) j).set j y]) (bs++[(gr,m)])):=fun y=>by
      have:=HP.out.put hbg hxg j y;rw [List.set_append_right _ _ (by rw [aD5];exact Nat.le_refl _),aD5,Nat.sub_self] at this
      exact this
     have HC:=aA0 (HF.out v j wr.drew hlt hlt2 HW.drew);clear hbg hxg hrow
     go_wp2_with fail
     have HG:=(Fr.refl gr wr).drew;have hcell:=aA0 (fun w' (kk:Fr gr wr w')=>show w'.cell? ⟨gb,v,none⟩=some (.slice (some ⟨gr,0,none⟩) m m)/\gb<w'.heap.size/\gr<w'.heap.size from ⟨(kk.cell hgbl hne).trans hhead,Nat.lt_of_lt_of_le hgbl kk.1,Nat.lt_of_lt_of_le hgrl kk.1⟩)
     go_region_held3 (fun w'=>w'.cell? ⟨gb,v,none⟩=some (.slice (some ⟨gr,0,none⟩) m m)/\gb<w'.heap.size/\gr<w'.heap.size) (first | exact hcell.out _ HG | exact hcell.out _ (HG.set _ _)) (first | (go_simp;refine HC.out.mono ?_;rintro e w4 ⟨rfl,rfl⟩))
     go_wp2_with fail
     go_roundg (m-(j+1))
     case rel =>
      refine ⟨j+1,by omega,rfl,by go_num,?_,(HW.drew).setCell (by simpa using hgrb) _⟩
      have:=HPUT.out (val v j);rw [bMg] at this;exact this.keep (Bel.refl _).drew
     case measure=>omega
    .have hd2:decide (j<m)=false:=by simpa using hlt2
     obtain rfl:m=j:=by omega
     go_wp2_with fail
     go_roundg (T.length-(v+1))
     case rel =>
      refine ⟨v+1,bs++[(gr,m)],by omega,rfl,by go_num,?_,HW⟩
      have:=HP.out;rw [bJd,<- bH8] at this;exact this
     case measure=>omega
  .have hd0:decide (v<T.length)=false:=by simpa using hlt
   obtain rfl:v=T.length:=by omega
   have HR:=aA0 (HD.out.done (aD5 _ _ _))
   go_wp2_with fail
   go_ret;exact ⟨gb,T.length,bs,by rw [aD5];rfl,HR.out,HW⟩
def aXw (T:List (List (Int × Int))) (v x:Nat):Int:=((T.getD v []).getD x (0,0)).1
theorem aXx {T:List (List (Int × Int))} {v x:Nat} (hv:v<T.length) (hx:x<T[v].length):aXw T v x=T[v][x].1:=by
 unfold aXw;rw [List.getD_eq_getElem?_getD,List.getD_eq_getElem?_getD,List.getElem?_eq_getElem hv,Option.getD_some,List.getElem?_eq_getElem hx,Option.getD_some]
theorem bE7 {T:List (List (Int × Int))} {m:Nat} (hm:∀ t∈T,t.length=m):aWm T.length m (aXw T)=aDu T:=by
 apply List.ext_getElem
 .simp [aWm,aDu]
 .intro v h1 h2
  have hv:v<T.length:=by simpa [aWm] using h1
  have hl:=hm _ (List.getElem_mem hv);apply List.ext_getElem
  .simp [aWm,aDu,aDt,hl]
  .intro x h3 h4
   have hx:x<T[v].length:=by simpa [aWm,hl] using h3
   simp [aWm,aDu,aDt,aXx hv hx]
theorem bF5 (B:Nat) (A:Option Addr) (c:Nat) (T:List (List (Int × Int))) (v x:Nat) (w:World) (hB:Boxed w B 99 (.slice A T.length c)) (hT:aFe w A T.length T) (hv:v<T.length) (hx:x<T[v].length) (_:T.length<=24) (_:T[v].length<=10) :
  Calls prog 81 #[.int .i64 (v:Int),.int .i64 (x:Int),.pointer (some ⟨B,0,none⟩)] w fun e w2=>e = .returned (.int .i64 (aXw T v x))/\w=w2:=by
 obtain ⟨c1,f1,l1⟩:=aAs hB;obtain ⟨b,o,R,rc,rfl,hb,hcell,hR,_,_⟩:=hT.at_ v hv;obtain ⟨b1,o1,rfl,hb1,k0,k1⟩:=hR.at_ x hx;rw [aXx hv hx];clear hB hT hR;go_enter func81,ntmps81
 go_wp2_with fail
 go_ret;exact ⟨rfl,rfl⟩
def bKh (p:Prg) (g:Graph) (w:World) (e:Ending) (w':World):Prop :=
 ∃ gb cap bs,e = .returned (.tuple #[.slice (some ⟨gb,0,none⟩) g.ports.length cap,.int .i64 0])/\RowsC w' w.heap.size (some ⟨gb,0,none⟩) cap p.vars.length (aDu (aAb p g)) bs/\Bel w w'
theorem RowsC.lower {w:World} {base base' cap n:Nat} {B:Option Addr} {d:aA3} {bs:List (Nat × Nat)} (h:RowsC w base B cap n d bs) (hb:base'<=base):RowsC w base' B cap n d bs :=
 ⟨aAu h.own hb,fun u x hx=>by
  obtain ⟨b,h1,h2⟩:=h.rows u x hx;exact ⟨b,h1,aAu h2 hb⟩,h.apart⟩
theorem aY5 (v1:Value) (p:Prg) (v2:Value) (g:Graph) (w:World) (h:aK5 w v1 p) (h2:aB2 w v2 g) (hL:aCc p=true) (hG:aBt g=true) (hf:aCw p g=0) :
  Calls prog 36 #[v1,v2] w (bKh p g w):=by
 have HPV:=aA0 (fun w' (k:Bel w w')=>h.keep k);have HGV:=aA0 (fun w' (k:Bel w w')=>h2.keep k);obtain ⟨A1,k1,A2,k2,rfl,_,_,_,_,_,_⟩:=h;obtain ⟨A3,k3,A4,k4,rfl,_,_,_,_,_,_⟩:=h2;have HW:=Bel.refl ((w.alloc (.cells #[.string p.name,.slice A1 p.vars.length k1,.slice A2 p.rules.length k2] 31)).alloc (.cells #[.slice A3 g.ids.length k3,.slice A4 g.ports.length k4] 25));have HL:=aA0 hL;have HGL:=aA0 hG;clear hL hG;have hv10:=(aBl HL.out).2.1;have HF:=aA0 hf;obtain ⟨h1,h3,_⟩:=aAt hf;have H1:=aA0 h1;have H3:=aA0 h3;have hle:(aAb p g).length<=24:=by rw [aAr,h3.ids];exact h3.le
 have HTL:Hid ((aAb p g).length=g.ports.length):=by show _=_;rw [aAr,h3.ids]
 have HM:Hid (∀ t∈aAb p g,t.length=p.vars.length):=by
  intro t ht
  unfold aAb at ht;obtain ⟨v,_,rfl⟩:=List.mem_map.1 ht;simp [aJ3]
 clear hf h1 h3;go_enter func36,ntmps36
 go_wp2_with (first
  | (go_at_call 75;refine (aKa _ p _ g _ (HPV.out _ (aA2 HW)) (HGV.out _ (aA2 HW)) HL.out HGL.out).mono ?_;rintro e w' ⟨rfl,hb⟩;rw [HF.out];replace HW:=HW.trans hb;clear hb;(try clear p0 p1 p2 g0 g1 gsz);obtain ⟨p0,p1,p2,g0,g1,gsz⟩:=aDh HW)
  | (go_at_call 77;refine (aJz _ p _ g _ (HPV.out _ (aA2 HW)) (HGV.out _ (aA2 HW)) H1.out H3.out HGL.out).mono ?_;rintro e w1 ⟨tv,rfl,htv,hb⟩;obtain ⟨AT,kt,rfl,hTR,_⟩:=(id htv:aHl _ _ _);have HTR:=aA0 (fun w' (k:Bel w1 w')=>aFe.keep hTR k);clear hTR htv;replace HW:=HW.trans hb;clear hb;(try clear p0 p1 p2 g0 g1 gsz);obtain ⟨p0,p1,p2,g0,g1,gsz⟩:=aDh HW)
  | (go_at_call 80;go_must (refine (aY4 81 #[.pointer (some ⟨w1.heap.size,0,none⟩)] (aXw (aAb p g)) p.vars.length AT kt (aAb p g) _ (HTR.out _ ((Bel.refl w1).alloc _)) HM.out hle hv10 (fun v x w' hv hx hk=>bF5 w1.heap.size AT kt (aAb p g) v x w' (Blk.keep (Boxed.new w1 99 (.slice AT (aAb p g).length kt)) hk) (HTR.out _ (((Bel.refl w1).alloc _).trans hk)) hv (by rw [HM.out _ (List.getElem_mem hv)];exact hx) hle (by rw [HM.out _ (List.getElem_mem hv)];exact hv10)) (fun a b w'=>enters_of func81 (by kernel_rfl) rfl _ _)).mono ?_;rintro e w2 ⟨gb,cap,bs,rfl,hR,hb⟩;rw [bE7 HM.out] at hR;have HR:=aA0 (hR.lower (base':=w.heap.size) (by have:=HW.size;simp at this ⊢;omega));replace HW:=HW.alloc (.cells #[.slice AT (aAb p g).length kt] 99);clear hR;replace HW:=HW.trans hb;clear hb;(try clear p0 p1 p2 g0 g1 gsz);obtain ⟨p0,p1,p2,g0,g1,gsz⟩:=aDh HW)))
 go_ret2
 exact ⟨gb,cap,bs,by rw [aD5,HTL.out];rfl,HR.out,aA2 HW⟩
end Go.Proofs.YtmoebklkkjbigaaGreatDoor

