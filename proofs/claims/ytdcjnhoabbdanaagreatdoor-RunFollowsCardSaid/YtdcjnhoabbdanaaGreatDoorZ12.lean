/- Merged. -/
import Derived.Test.YtdcjnhoabbdanaaGreatDoorZ10
import Derived.Test.YtdcjnhoabbdanaaGreatDoorZ08
import Derived.Test.YtdcjnhoabbdanaaGreatDoorZ09
import Derived.Deep.RegionHeld3
import Derived.Lib.Strings
set_option linter.unusedSimpArgs false
set_option linter.unnecessarySimpa false
set_option linter.unusedVariables false
set_option maxRecDepth 100000
set_option maxHeartbeats 4000000
open Go.Proofs.Tryz

namespace Go.Proofs.YtdcjnhoabbdanaaGreatDoor
open Go.RowKit
def aW8 (l:List Int) (w:World) (e:Ending) (w':World):Prop:=∃ A c,e = .returned (.slice A l.length c)/\aBr w' A l.length l/\l.length<=c/\c<=maxLen/\Bel w w'
def aMs (l:List Int) (k:Nat):List Int:=l.take k++List.replicate (l.length-k) 0
theorem aBf {w:World} {base:Nat} {e:TypeId} {size g n c:Nat} {xs:List Value} (h:w.ownsRow base e size (.slice (some ⟨g,0,none⟩) n c) n xs):base<=g/\g<w.heap.size:=by
 rcases h.2 with ⟨hv,_⟩ | ⟨g',cap,cur,hv,hb,hg,_⟩
 .cases hv
 .injection hv with hA;injection hA with hA;injection hA with hA;subst hA;exact ⟨hb,lt_of_block hg⟩
theorem aV0 (l:List Int):aMs l 0=List.replicate l.length 0:=by simp [aMs]
theorem aUy (l:List Int) (k:Nat) (h:l.length<=k):aMs l k=l:=by simp [aMs,List.take_of_length_le h,show l.length-k=0 by omega]
theorem aWv (l:List Int) (k:Nat) (h:k<l.length):(aMs l k)[k]?=some 0:=by
 unfold aMs;rw [List.getElem?_append_right (by simp;omega)]
 rw [List.length_take,Nat.min_eq_left (Nat.le_of_lt h),Nat.sub_self,List.getElem?_replicate,if_pos (by omega)]
theorem aUz (l:List Int) (k:Nat) (h:k<l.length):(aMs l k).set k l[k]=aMs l (k+1):=by
 unfold aMs;rw [List.set_append_right _ _ (by simp;omega),List.length_take,Nat.min_eq_left (Nat.le_of_lt h),Nat.sub_self,show l.length-k=(l.length-(k+1))+1 by omega,List.replicate_succ,List.set_cons_zero]
 conv=>rhs;rw [List.take_succ_eq_append_getElem h,List.append_assoc]
 rfl
theorem aX8 (v:Value) (p:Prg) (w:World) (h:aEm w v p) (hl:p.vars.length<=1000) :
  Calls prog 142 #[v] w (aW8 (aBo p) w):=by
 obtain ⟨A,k,A2,k2,rfl,hV,_,_,_,_,_⟩:=h;have HV:=aA0 (fun w' (k:Bel w w')=>aHs.keep hV k);clear hV;obtain ⟨i0,hi0,hz0,hz1,hz2⟩:=info_parts aH4;have HN:Hid ((aBo p).length=p.vars.length):=by show (aBo p).length=_;simp [aBo]
 have HB0:=(Bel.refl w).alloc (.cells #[.string p.name,.slice A p.vars.length k,.slice A2 p.rules.length k2] 25);go_enter func142,ntmps142
 go_wp2_with (at_make;refine aFv _ rfl 26 (.tmp 8) (.tmp 8) rfl (w.heap.size+1) 3 i0 (.int .i64 0) 1 underlying26 hi0 hz0 hz1 .i64 .i64 p.vars.length rfl rfl (by rw [hz2];omega) (by unfold maxLen;omega) (by simp) ?_;intro g w2 hown hb2;have q1:=aA9 hb2 1 rfl;have q2:=aAx hb2;have HB:=HB0.trans hb2;rw [aK3 _ rfl] at hown;have HO:=aA0 hown;have HK2:=aA0 hb2;clear hown hb2 HB0)
 have hg:=aBf HO.out
 have H0:Hid (w2.ownsRow (w.heap.size+1) 3 1 (.slice (some ⟨g,0,none⟩) p.vars.length p.vars.length) p.vars.length ((aMs (aBo p) 0).map (Value.int .i64))):=by
  show World.ownsRow _ _ _ _ _ _ _
  rw [aV0,HN.out,List.map_replicate];exact HO.out
 clear HO
 go_loopg [4,5,13] p.vars.length (fun m _x _y z wr=>∃ j:Nat,j<=p.vars.length/\m=p.vars.length-j/\z = .int .i64 j/\Hid (wr.ownsRow (w.heap.size+1) 3 1 (.slice (some ⟨g,0,none⟩) p.vars.length p.vars.length) p.vars.length ((aMs (aBo p) j).map (Value.int .i64)))/\Bel w wr)
 case atStart=>exact ⟨0,by omega,rfl,rfl,H0,HB⟩
 case round =>
  clear HB H0 HK2 q1 q2;obtain ⟨j,hj,rfl,rfl,HO,HB⟩:=hrel
  by_cases hlt:j<p.vars.length
  .have hd0:decide (j<p.vars.length)=true:=by simpa using hlt
   obtain ⟨b,o,rfl,hb,v0,v1,v2,v3,v4,v5⟩:=(HV.out _ HB).at_ j hlt;obtain ⟨g',e',_,hgl,y1,y2⟩:=aCn HO.out (j:=j) (u := .int .i64 0) (by rw [List.getElem?_map,aWv _ _ (by rw [HN.out];exact hlt)];rfl)
   obtain rfl:g=g':=by simpa using e'
   have hst:=(HO.out.stored j (.int .i64 p.vars[j].kind)).1.alloc (.cells #[.string p.vars[j].name,.int .i64 p.vars[j].kind,.int .i64 p.vars[j].lo,.int .i64 p.vars[j].hi,.int .i64 p.vars[j].perNode,.int .i64 p.vars[j].perID] 100);rw [<- List.map_set,show p.vars[j].kind=(aBo p)[j]'(by rw [HN.out];exact hlt) by simp [aBo],aUz _ _ (by rw [HN.out];exact hlt)] at hst
   have HST:=aA0 hst;have HKE:=aA0 (show (aBo p)[j]'(by rw [HN.out];exact hlt)=p.vars[j].kind by simp [aBo])
   have hne:wr.heap.size≠g:=by omega
   clear hst e'
   go_wp2_with fail
   go_roundg (p.vars.length-(j+1))
   case rel=>exact ⟨j+1,by omega,rfl,by go_num,by rw [HKE.out] at HST;exact HST,(HB.setCell (by simp;omega) _).alloc _⟩
   case measure=>omega
  .have hd0:decide (j<p.vars.length)=false:=by simpa using hlt
   go_wp2_with fail
   go_ret;have h1:=HO.out;rw [aUy _ _ (by rw [HN.out];omega)] at h1
   refine ⟨some ⟨g,0,none⟩,p.vars.length,by rw [HN.out];rfl,by rw [HN.out];exact aKb h1,by rw [HN.out];exact Nat.le_refl _,by unfold maxLen;omega,HB⟩
theorem Bel.pushB {w wr w':World} {base:Nat} {e:TypeId} {size:Nat} {v:Value} {n:Nat} {xs:List Value} (h:Bel w wr) (ho:wr.ownsRow base e size v n xs) (hb:w.heap.size<=base) (hg:wr.grownBy w' v.ownBlock):Bel w w' :=
 h.grown hg (fun k hk=>Nat.le_trans hb (ho.lt k hk).1)
theorem aRr (v:Value) (p:Prg) (w:World) (h:aEm w v p) (hl:p.vars.length<=1000) :
  Calls prog 150 #[v] w (aW8 (aBo p) w):=by
 obtain ⟨A,k,A2,k2,rfl,hV,_,_,_,_,_⟩:=h;have HV:=aA0 (fun w' (k:Bel w w')=>aHs.keep hV k);clear hV;obtain ⟨i0,hi0,hz0,hz1,hz2⟩:=info_parts aH4;have HN:Hid ((aBo p).length=p.vars.length):=by show (aBo p).length=_;simp [aBo]
 go_enter func150,ntmps150;go_wp2
 go_loopg [3,4] p.vars.length (fun m s z wr=>∃ (j:Nat) (R:Option Addr) (rc:Nat),j<=p.vars.length/\m=p.vars.length-j/\z = .int .i64 j/\s = .slice R j rc/\Hid (wr.ownsRow (w.heap.size+1) 3 1 (.slice R j rc) j (((aBo p).take j).map (Value.int .i64)))/\Bel (w.alloc (.cells #[.string p.name,.slice A p.vars.length k,.slice A2 p.rules.length k2] 25)) wr)
 case atStart=>exact ⟨0,none,0,by omega,rfl,rfl,rfl,World.ownsRow_nil _ _ _ _,Bel.refl _⟩
 case round =>
  obtain ⟨j,R,rc,hj,rfl,rfl,rfl,HO,HB⟩:=hrel;have q1:=aA9 HB 1 rfl;have q2:=aAx HB
  by_cases hlt:j<p.vars.length
  .have hd0:decide (j<p.vars.length)=true:=by simpa using hlt
   obtain ⟨b,o,rfl,hb,v0,v1,v2,v3,v4,v5⟩:=(HV.out _ (aA4 HB)).at_ j hlt
   have HT:Hid (((aBo p).take (j+1)).map (Value.int .i64)=((aBo p).take j).map (Value.int .i64)++[.int .i64 p.vars[j].kind]):=by
    show ((aBo p).take (j+1)).map (Value.int .i64)=_
    rw [List.take_succ_eq_append_getElem (by rw [HN.out];exact hlt),List.map_append]
    simp [aBo]
   go_wp2_with (at_builtin;refine aDr _ rfl (.tmp 12) (.tmp 19) 26 rfl (w.heap.size+1) 3 i0 (.int .i64 0) 1 8 underlying26 hi0 hz0 hz1 hz2 rfl (by decide) R j rc _ (by simp [Act.eval]) (HO.out.alloc _) wr.heap.size #[.int .i64 p.vars[j].kind] 3 (0,0) (by simp [Act.eval]) (aEn _ _) rfl (aNc _ _) (by unfold maxLen;omega) (by omega) (by simp;omega) ?_;intro R2 rc2 w2 hown hgr hat;have HB2:=(HB.alloc _).pushB (HO.out.alloc _) (by simp) hgr;have HO2:=aA0 hown;clear hown hgr hat)
   go_roundg (p.vars.length-(j+1))
   case rel =>
    refine ⟨j+1,R2,rc2,by omega,rfl,by go_num,rfl,?_,HB2⟩
    show World.ownsRow _ _ _ _ _ _ _
    rw [HT.out];exact HO2.out
   case measure=>omega
  .obtain rfl:j=p.vars.length:=by omega
   have hd0:decide (p.vars.length<p.vars.length)=false:=by simp
   go_wp2_with fail
   go_ret;have h1:=HO.out;rw [List.take_of_length_le (by rw [HN.out];exact Nat.le_refl _)] at h1
   refine ⟨R,rc,by rw [HN.out];rfl,by rw [HN.out];exact aKb h1,by rw [HN.out];exact (aE3 h1).1,(aE3 h1).2,aA4 HB⟩
def aC4 (vars:Nat) (r:Rule):Bool :=
 decide (1<=r.sets.length/\r.sets.length<=6)&&aB2 r.guard vars&&r.sets.all (fun s=>decide (0<=s.var/\s.var<=(vars:Int)-1)&&aB2 s.value vars)&&decide ((r.sets.map SetT.var).Nodup)
def aC1 (kinds:List Int) (r:Rule):Bool:=(aB4 kinds false (aAt r.guard)==2)&&r.sets.all (fun s=>aB4 kinds false (aAt s.value)==kinds.getD s.var.toNat 0)
structure FOK (vars:Nat) (r:Rule):Prop where
 pos:1<=r.sets.length
 le:r.sets.length<=6
 guard:aB2 r.guard vars=true
 sets:∀ s∈r.sets,(0<=s.var/\s.var<=(vars:Int)-1)/\aB2 s.value vars=true
 diff:(r.sets.map SetT.var).Nodup
theorem aEd (vars:Nat) (r:Rule):aC4 vars r=true↔FOK vars r:=by
 unfold aC4;simp only [Bool.and_eq_true,decide_eq_true_eq,List.all_eq_true]
 constructor
 .rintro ⟨⟨⟨⟨h1,h2⟩,h3⟩,h4⟩,h5⟩
  exact ⟨h1,h2,h3,h4,h5⟩
 .rintro ⟨h1,h2,h3,h4,h5⟩
  exact ⟨⟨⟨⟨h1,h2⟩,h3⟩,h4⟩,h5⟩
theorem aXl {es:List Term} {kinds:List Int} (h6:kinds.length<=6) (hk:kinds.all aDy=true) (hv:aB2 es kinds.length=true):(ofF es kinds false).1=aB4 kinds false (aAt es):=by
 unfold ofF;rw [if_neg (by omega),if_neg (by rw [hk];decide),if_neg (by rw [hv];decide)]
 split
 .rename_i h;rw [h]
 .rfl
theorem aSa (v:Value) (r:Rule) (K:Option Addr) (ck:Nat) (kinds:List Int) (w:World) (h:aQj w v r) (hK:aBr w K kinds.length kinds) (h6:kinds.length<=6) (hk:kinds.all aDy=true) (hf:FOK kinds.length r) (hL:aF4 r=true) :
  Calls prog 143 #[v,.slice K kinds.length ck] w fun e w'=>e = .returned (.bool (aC1 kinds r))/\Bel w w':=by
 obtain ⟨G,c,S,c2,rfl,hG,_,_,hS,_,_⟩:=h;have HG:=aA0 (fun w' (k:Bel w w')=>aB0.keep hG k);clear hG;have HS:=aA0 (fun w' (k:Bel w w')=>aKm.keep hS k);clear hS;have HK:=aA0 (fun w' (k:Bel w w')=>aBr.keep hK k);clear hK;obtain ⟨_,l2,l3,l4⟩:=aBy hL;have HL4:=aA0 l4;clear l4;have HOg:=aA0 (aXl h6 hk hf.guard);have HFS:=aA0 hf.sets;have HKK:=aA0 hk;have HB:=Bel.refl (w.alloc (.cells #[.string r.name,.slice G r.guard.length c,.slice S r.sets.length c2] 93));clear hL hf hk
 by_cases hg:aB4 kinds false (aAt r.guard)=2
 .have hgb:(aB4 kinds false (aAt r.guard) != 2)=false:=by simp [hg]
  have HGG:=aA0 hg;clear hg;go_enter func143,ntmps143
  go_wp2_with (go_at_call 162;refine (aXk _ _ r.guard _ _ kinds _ _ (HG.out _ (aA4 HB)) (HK.out _ (aA4 HB)) (by omega)).mono ?_;rintro e w' ⟨rfl,hb⟩;rw [HOg.out];replace HB:=HB.trans hb;clear hb;have q1:=aA9 HB 2 rfl;have q2:=aAx HB)
  clear q1 q2 hgb
  go_loopg [8,9,10,23] r.sets.length (fun m _x _y _u z wr=>∃ j:Nat,j<=r.sets.length/\m=r.sets.length-j/\z = .int .i64 j/\Hid ((r.sets.take j).all (fun s=>aB4 kinds false (aAt s.value)==kinds.getD s.var.toNat 0)=true)/\Bel (w.alloc (.cells #[.string r.name,.slice G r.guard.length c,.slice S r.sets.length c2] 93)) wr)
  case atStart=>exact ⟨0,by omega,rfl,rfl,rfl,HB⟩
  case round =>
   clear HB;obtain ⟨j,hj,rfl,rfl,HJ,HB⟩:=hrel
   by_cases hlt:j<r.sets.length
   .have hd0:decide (j<r.sets.length)=true:=by simpa using hlt
    obtain ⟨⟨f1,f2⟩,f3⟩:=HFS.out _ (List.getElem_mem hlt);have hlen:=HL4.out _ (List.getElem_mem hlt);have HOs:=aA0 (aXl h6 HKK.out f3);obtain ⟨a,ha⟩:=Int.eq_ofNat_of_zero_le f1;have hak:a<kinds.length:=by omega
    have HAK:Hid (kinds.getD r.sets[j].var.toNat 0=kinds[a]):=by show kinds.getD r.sets[j].var.toNat 0=_;rw [ha,Int.toNat_natCast,aAa hak]
    obtain ⟨b,o,R,c',rfl,hb,s1,s2,hTv,_,_⟩:=(HS.out _ (aA4 HB)).at_ j hlt;rw [ha] at s1;have HTv:=aA0 (fun w' (k:Bel wr w')=>aB0.keep hTv k);clear hTv;have HAE:=aA0 ha;clear f1 f2 f3 ha;have HB2:=Bel.refl (wr.alloc (.cells #[.int .i64 (a:Int),.slice R r.sets[j].value.length c'] 95))
    go_wp2_with fail
    refine (aXk _ _ r.sets[j].value _ _ kinds _ _ (HTv.out _ (aA4 HB2)) (HK.out _ ((aA4 HB).trans (aA4 HB2))) (by omega)).mono ?_
    rintro e w' ⟨rfl,hb⟩;rw [HOs.out];replace HB2:=HB2.trans hb;clear hb;have q1:=aA9 HB2 0 rfl;have q2:=aAx HB2;obtain ⟨bk,ok,rfl,hbk,ck1⟩:=(HK.out _ ((aA4 HB).trans (aA4 HB2))).at_ a hak
    by_cases he:aB4 kinds false (aAt r.sets[j].value)=kinds[a]
    .have heb:(aB4 kinds false (aAt r.sets[j].value) != kinds[a])=false:=by simpa using he
     have HN:=aA0 (aAb hlt HJ.out (by simp only [HAK.out,he,BEq.rfl]))
     clear he
     go_wp2_with fail
     go_roundg (r.sets.length-(j+1))
     case rel=>exact ⟨j+1,by omega,rfl,by go_num,HN,HB.trans (aA4 HB2)⟩
     case measure=>omega
    .have heb:(aB4 kinds false (aAt r.sets[j].value) != kinds[a])=true:=by simpa using he
     have HF:Hid (aC1 kinds r=false):=by
      show aC1 kinds r=false
      unfold aC1;rw [aAo hlt (by rw [HAK.out];simpa using he)];simp
     clear he
     go_wp2_with fail
     go_ret;exact ⟨aA2 HF.out.symm,(aA4 HB).trans (aA4 HB2)⟩
   .have hd0:decide (j<r.sets.length)=false:=by simpa using hlt
    have HF:Hid (aC1 kinds r=true):=by
     show aC1 kinds r=true
     unfold aC1;rw [aAq (by omega) HJ.out,HGG.out];rfl
    go_wp2_with fail
    go_ret;exact ⟨aA2 HF.out.symm,aA4 HB⟩
 .have hgb:(aB4 kinds false (aAt r.guard) != 2)=true:=by simp [hg]
  have HF:Hid (aC1 kinds r=false):=by
   show aC1 kinds r=false
   unfold aC1;rw [show (aB4 kinds false (aAt r.guard)==2)=false by simpa using hg];rfl
  clear hg;go_enter func143,ntmps143
  go_wp2_with (go_at_call 162;refine (aXk _ _ r.guard _ _ kinds _ _ (HG.out _ (aA4 HB)) (HK.out _ (aA4 HB)) (by omega)).mono ?_;rintro e w' ⟨rfl,hb⟩;rw [HOg.out];replace HB:=HB.trans hb;clear hb)
  go_ret;exact ⟨aA2 HF.out.symm,aA4 HB⟩
theorem aRw (v:Value) (r:Rule) (K:Option Addr) (ck:Nat) (kinds:List Int) (w:World) (h:aQj w v r) (hK:aBr w K kinds.length kinds) (hf:FOK kinds.length r) (hL:aF4 r=true) :
  Calls prog 149 #[v,.slice K kinds.length ck] w fun e w'=>e = .returned (.bool (aC1 kinds r))/\Bel w w':=by
 obtain ⟨G,c,S,c2,rfl,hG,_,_,hS,_,_⟩:=h;have HG:=aA0 (fun w' (k:Bel w w')=>aB0.keep hG k);clear hG;have HS:=aA0 (fun w' (k:Bel w w')=>aKm.keep hS k);clear hS;have HK:=aA0 (fun w' (k:Bel w w')=>aBr.keep hK k);clear hK;obtain ⟨_,l2,l3,l4⟩:=aBy hL;have HL4:=aA0 l4;clear l4;obtain ⟨g1,g2,_,g4,_,_⟩:=aEy hf.guard;have HGA:=aA0 (At.whole g1 g2);have HG4:=aA0 g4;have HFS:=aA0 hf.sets;have HB:=Bel.refl (w.alloc (.cells #[.string r.name,.slice G r.guard.length c,.slice S r.sets.length c2] 93));clear hL hf g1 g2 g4
 by_cases hg:aB4 kinds false (aAt r.guard)=2
 .have hgb:(aB4 kinds false (aAt r.guard) != 2)=false:=by simp [hg]
  have HGG:=aA0 hg;clear hg;go_enter func149,ntmps149
  go_wp2_with (go_at_call 170;refine (aJm kinds (aAt r.guard) _ _ _ r.guard _ _ 0 _ HGA.out (HG.out _ (aA4 HB)) (HK.out _ (aA4 HB)) HG4.out (by omega)).mono ?_;rintro e w' ⟨rfl,hb⟩;replace HB:=HB.trans hb;clear hb;have q1:=aA9 HB 2 rfl;have q2:=aAx HB)
  clear q1 q2 hgb
  go_loopg [5] r.sets.length (fun m z wr=>∃ j:Nat,j<=r.sets.length/\m=r.sets.length-j/\z = .int .i64 j/\Hid ((r.sets.take j).all (fun s=>aB4 kinds false (aAt s.value)==kinds.getD s.var.toNat 0)=true)/\Bel (w.alloc (.cells #[.string r.name,.slice G r.guard.length c,.slice S r.sets.length c2] 93)) wr)
  case atStart=>exact ⟨0,by omega,rfl,rfl,rfl,HB⟩
  case round =>
   clear HB;obtain ⟨j,hj,rfl,rfl,HJ,HB⟩:=hrel;have q1:=aA9 HB 2 rfl;have q2:=aAx HB
   by_cases hlt:j<r.sets.length
   .have hd0:decide (j<r.sets.length)=true:=by simpa using hlt
    obtain ⟨⟨f1,f2⟩,f3⟩:=HFS.out _ (List.getElem_mem hlt);have hlen:=HL4.out _ (List.getElem_mem hlt);obtain ⟨t1,t2,_,t4,_,_⟩:=aEy f3;have HTA:=aA0 (At.whole t1 t2);have HT4:=aA0 t4;obtain ⟨a,ha⟩:=Int.eq_ofNat_of_zero_le f1;have hak:a<kinds.length:=by omega
    have HAK:Hid (kinds.getD r.sets[j].var.toNat 0=kinds[a]):=by show kinds.getD r.sets[j].var.toNat 0=_;rw [ha,Int.toNat_natCast,aAa hak]
    obtain ⟨b,o,R,c',rfl,hb,s1,s2,hTv,_,_⟩:=(HS.out _ (aA4 HB)).at_ j hlt;rw [ha] at s1;obtain ⟨bk,ok,rfl,hbk,ck1⟩:=(HK.out _ (aA4 HB)).at_ a hak;have HTv:=aA0 (fun w' (k:Bel wr w')=>aB0.keep hTv k);clear hTv;have hcell:=aA0 (fun w' (k:Bel wr w')=>And.intro ((k.cell q2).trans q1) (And.intro ((k.cell hb).trans s1) (And.intro ((k.cell hbk).trans ck1) (And.intro ((k.cell hb).trans s2) (Nat.lt_of_lt_of_le q2 k.size)))));clear f1 f2 f3 ha t1 t2 t4;have HB2:=Bel.refl wr
    go_wp2_with fail
    replace HB2:=HB2.drew
    go_region_held3 (fun w'=>w'.cell? ⟨w.heap.size,2,none⟩=some (.slice (some ⟨b,o,none⟩) r.sets.length c2)/\w'.cell? ⟨b,o+j*2,none⟩=some (.int .i64 (a:Int))/\w'.cell? ⟨bk,ok+a,none⟩=some (.int .i64 kinds[a])/\w'.cell? ⟨b,o+j*2+1,none⟩=some (.slice R r.sets[j].value.length c')/\w.heap.size<w'.heap.size) (exact hcell.out _ HB2) (first | (go_simp;go_at_call 170;refine (aJm kinds (aAt r.sets[j].value) _ _ _ r.sets[j].value _ _ 0 _ HTA.out (HTv.out _ HB2) (HK.out _ ((aA4 HB).trans HB2)) HT4.out (by omega)).mono ?_;rintro e w' ⟨rfl,hbb⟩;replace HB2:=HB2.trans hbb;clear hbb))
    go_wp2_with fail
    .have he:(aB4 kinds false (aAt r.sets[j].value) != kinds[a])=true:=by assumption
     have HF:Hid (aC1 kinds r=false):=by
      show aC1 kinds r=false
      unfold aC1;rw [aAo hlt (by rw [HAK.out];simpa using he)];simp
     go_ret;exact ⟨aA2 HF.out.symm,(aA4 HB).trans HB2⟩
    .have he:(aB4 kinds false (aAt r.sets[j].value) != kinds[a])=false:=by assumption
     have HN:=aA0 (aAb hlt HJ.out (by simp only [HAK.out];simpa using he))
     go_roundg (r.sets.length-(j+1))
     case rel=>exact ⟨j+1,by omega,rfl,by go_num,HN,HB.trans HB2⟩
     case measure=>omega
   .have hd0:decide (j<r.sets.length)=false:=by simpa using hlt
    have HF:Hid (aC1 kinds r=true):=by
     show aC1 kinds r=true
     unfold aC1;rw [aAq (by omega) HJ.out,HGG.out];rfl
    go_wp2_with fail
    go_ret;exact ⟨aA2 HF.out.symm,aA4 HB⟩
 .have hgb:(aB4 kinds false (aAt r.guard) != 2)=true:=by simp [hg]
  have HF:Hid (aC1 kinds r=false):=by
   show aC1 kinds r=false
   unfold aC1;rw [show (aB4 kinds false (aAt r.guard)==2)=false by simpa using hg];rfl
  clear hg;go_enter func149,ntmps149
  go_wp2_with (go_at_call 170;refine (aJm kinds (aAt r.guard) _ _ _ r.guard _ _ 0 _ HGA.out (HG.out _ (aA4 HB)) (HK.out _ (aA4 HB)) HG4.out (by omega)).mono ?_;rintro e w' ⟨rfl,hb⟩;replace HB:=HB.trans hb;clear hb)
  go_ret;exact ⟨aA2 HF.out.symm,aA4 HB⟩
theorem aBs {vars:Nat} {r:Rule} (h:¬ FOK vars r):aC4 vars r=false:=by
 rw [Bool.eq_false_iff];intro hb;exact h ((aEd vars r).1 hb)
theorem aC6 {α:Type} {l:List α} {k:Nat} (h:k<l.length) (hn:(l.take k).Nodup) (hne:∀ j (hj:j<k),l[j]≠l[k]):(l.take (k+1)).Nodup:=by
 rw [List.take_succ_eq_append_getElem h,List.nodup_append];refine ⟨hn,by simp,?_⟩
 intro a ha b hb
 simp at hb
 subst hb;rw [List.mem_take_iff_getElem] at ha;obtain ⟨j,hj,rfl⟩:=ha;exact hne j (by omega)
theorem aFb {α:Type} {l:List α} {j k:Nat} (hj:j<k) (hk:k<l.length) (he:l[j]=l[k]):¬ l.Nodup:=by
 intro hn
 have:=(List.nodup_iff_pairwise_ne.1 hn);rw [List.pairwise_iff_getElem] at this;exact this j k (by omega) hk hj he
theorem aKg (v:Value) (r:Rule) (vars:Nat) (w:World) (h:aQj w v r) (hvars:vars<=1000) (hL:aF4 r=true) :
  Calls prog 148 #[v,.int .i64 vars] w fun e w'=>e = .returned (.bool (aC4 vars r))/\Bel w w':=by
 obtain ⟨G,c,S,c2,rfl,hG,_,_,hS,_,_⟩:=h;have HG:=aA0 (fun w' (k:Bel w w')=>aB0.keep hG k);clear hG;have HS:=aA0 (fun w' (k:Bel w w')=>aKm.keep hS k);clear hS;obtain ⟨_,l2,l3,l4⟩:=aBy hL;have HL4:=aA0 l4;clear l4 hL;have HB:=Bel.refl (w.alloc (.cells #[.string r.name,.slice G r.guard.length c,.slice S r.sets.length c2] 93))
 by_cases hn:1<=r.sets.length/\r.sets.length<=6
 .have hin:inB (r.sets.length:Int) 1 6=true:=aDm (by omega) (by omega)
  cases hvg:aB2 r.guard vars with
  | false =>
   have HF:Hid (aC4 vars r=false):=aBs fun h=>by rw [h.guard] at hvg;cases hvg
   go_enter func148,ntmps148
   go_wp2_with (first
    | (go_at_call 145;refine (aDx _ _ _ _).mono ?_;rintro e w' ⟨rfl,rfl⟩)
    | (go_at_call 169;refine (aG8 _ _ _ r.guard _ _ (HG.out _ (aA4 HB)) (by omega)).mono ?_;rintro e w' ⟨rfl,hb⟩;rw [hvg];replace HB:=HB.trans hb;clear hb))
   go_ret;exact ⟨aA2 HF.out.symm,aA4 HB⟩
  | true =>
   have HVG:=aA0 hvg;clear hvg;go_enter func148,ntmps148
   go_wp2_with (first
    | (go_at_call 145;refine (aDx _ _ _ _).mono ?_;rintro e w' ⟨rfl,rfl⟩)
    | (go_at_call 169;refine (aG8 _ _ _ r.guard _ _ (HG.out _ (aA4 HB)) (by omega)).mono ?_;rintro e w' ⟨rfl,hb⟩;rw [HVG.out];replace HB:=HB.trans hb;clear hb))
   clear hin
   go_loopg [5,6] r.sets.length (fun m z _y wr=>∃ j:Nat,j<=r.sets.length/\m=r.sets.length-j/\z = .int .i64 j/\Hid ((r.sets.take j).all (fun s=>decide (0<=s.var/\s.var<=(vars:Int)-1)&&aB2 s.value vars)=true/\((r.sets.map SetT.var).take j).Nodup)/\Bel (w.alloc (.cells #[.string r.name,.slice G r.guard.length c,.slice S r.sets.length c2] 93)) wr)
   case atStart=>exact ⟨0,by omega,rfl,rfl,⟨rfl,by simp⟩,HB⟩
   case round =>
    clear HB;obtain ⟨i,hi,rfl,rfl,HJ,HB⟩:=hrel;have q1:=aA9 HB 2 rfl;have q2:=aAx HB
    by_cases hlt:i<r.sets.length
    .have hd0:decide (i<r.sets.length)=true:=by simpa using hlt
     obtain ⟨b,o,R,c',rfl,hb,s1,s2,hTv,_,_⟩:=(HS.out _ (aA4 HB)).at_ i hlt;have HTv:=aA0 hTv;clear hTv;have hlen:=HL4.out _ (List.getElem_mem hlt)
     by_cases hr:0<=r.sets[i].var/\r.sets[i].var<=(vars:Int)-1
     .have hin:inB r.sets[i].var 0 ((vars:Int)-1)=true:=aDm hr.1 hr.2
      cases hvs:aB2 r.sets[i].value vars with
      | false =>
       have HF:Hid (aC4 vars r=false):=aBs fun h=>by have:=(h.sets _ (List.getElem_mem hlt)).2;rw [hvs] at this;cases this
       go_wp2_with (first
        | (go_at_call 145;refine (aDx _ _ _ _).mono ?_;rintro e w' ⟨rfl,rfl⟩)
        | (go_at_call 169;refine (aG8 _ _ _ r.sets[i].value _ _ HTv.out (by omega)).mono ?_;rintro e w' ⟨rfl,hbb⟩;rw [hvs];replace HB:=HB.trans hbb;clear hbb))
       go_ret;exact ⟨aA2 HF.out.symm,aA4 HB⟩
      | true =>
       have HOK:=aA0 (show (decide (0<=r.sets[i].var/\r.sets[i].var<=(vars:Int)-1)&&aB2 r.sets[i].value vars)=true by rw [hvs,decide_eq_true hr];rfl)
       have HVS:=aA0 hvs;clear hvs hr
       go_wp2_with (first
        | (go_at_call 145;refine (aDx _ _ _ _).mono ?_;rintro e w' ⟨rfl,rfl⟩)
        | (go_at_call 169;refine (aG8 _ _ _ r.sets[i].value _ _ HTv.out (by omega)).mono ?_;rintro e w' ⟨rfl,hbb⟩;rw [HVS.out];replace HB:=HB.trans hbb;clear hbb hb s1 s2 q1 q2;clear HTv))
       clear hin hd0
       go_loopg [6] i (fun m x ws=>∃ j:Nat,j<=i/\m=i-j/\x = .int .i64 j/\Hid (∀ q,(hq:q<j)->(hq':q<r.sets.length)->r.sets[q].var≠r.sets[i].var)/\Bel (w.alloc (.cells #[.string r.name,.slice G r.guard.length c,.slice (some ⟨b,o,none⟩) r.sets.length c2] 93)) ws)
       case atStart=>exact ⟨0,by omega,rfl,rfl,fun q hq=>absurd hq (by omega),HB⟩
       case round =>
        clear HB;obtain ⟨j,hj,rfl,rfl,HQ,HB⟩:=hrel;have q1:=aA9 HB 2 rfl;have q2:=aAx HB
        by_cases hlt2:j<i
        .have hji:j<r.sets.length:=by omega
         obtain ⟨b',o',R',c'',e',hb',s1',_,_,_,_⟩:=(HS.out _ (aA4 HB)).at_ j hji;obtain ⟨rfl,rfl⟩:b=b'/\o=o':=by simpa using e'
         obtain ⟨b',o',R',c'',e',_,s1,_,_,_,_⟩:=(HS.out _ (aA4 HB)).at_ i hlt;obtain ⟨rfl,rfl⟩:b=b'/\o=o':=by simpa using e'
         clear e';have hd:decide (j<i)=true:=by simpa using hlt2
         go_wp2
         go_quiet (fail)
         go_wp2
         .have he:(r.sets[j].var==r.sets[i].var)=true:=by assumption
          go_ret;refine ⟨aA2 ?_,(aA4 HB).drewN _⟩
          symm
          refine aBs fun hf=>?_
          exact aFb hlt2 (by simpa using hlt) (by simpa using he) hf.diff
         .have he:(r.sets[j].var==r.sets[i].var)=false:=by assumption
          go_roundg (i-(j+1))
          case rel =>
           refine ⟨j+1,by omega,rfl,by go_num,?_,HB.drewN _⟩
           intro q hq hq'
           rcases Nat.lt_or_ge q j with h | h
           .exact HQ.out q h hq'
           .obtain rfl:q=j:=by omega
            simpa using he
          case measure=>omega
        .have hd:decide (j<i)=false:=by simpa using hlt2
         go_wp2
         go_roundg (r.sets.length-(i+1))
         case rel =>
          refine ⟨i+1,by omega,rfl,by go_num,⟨aAb hlt HJ.out.1 HOK.out,aC6 (by simpa using hlt) HJ.out.2 ?_⟩,HB⟩
          intro q hq
          have:=HQ.out q (by omega) (by omega)
          simpa using this
         case measure=>omega
     .have hin:inB r.sets[i].var 0 ((vars:Int)-1)=false:=by
       rw [aD9];omega
      have HF:Hid (aC4 vars r=false):=aBs fun h=>hr (h.sets _ (List.getElem_mem hlt)).1;clear hr
      go_wp2_with (go_at_call 145;refine (aDx _ _ _ _).mono ?_;rintro e w' ⟨rfl,rfl⟩)
      go_ret;exact ⟨aA2 HF.out.symm,aA4 HB⟩
    .have hd0:decide (i<r.sets.length)=false:=by simpa using hlt
     go_wp2_with fail
     go_ret;refine ⟨aA2 ?_,aA4 HB⟩
     symm
     rw [aEd];obtain ⟨a1,a2⟩:=HJ.out;rw [List.take_of_length_le (by omega)] at a1
     rw [List.take_of_length_le (by simp;omega)] at a2
     refine ⟨hn.1,hn.2,HVG.out,fun s hs=>?_,a2⟩
     have:=List.all_eq_true.1 a1 s hs;rw [Bool.and_eq_true] at this;exact ⟨of_decide_eq_true this.1,this.2⟩
 .have hin:inB (r.sets.length:Int) 1 6=false:=by rw [aD9];omega
  have HF:Hid (aC4 vars r=false):=aBs fun h=>hn ⟨h.pos,h.le⟩;clear hn;go_enter func148,ntmps148
  go_wp2_with (go_at_call 145;refine (aDx _ _ _ _).mono ?_;rintro e w' ⟨rfl,rfl⟩)
  go_ret;exact ⟨aA2 HF.out.symm,aA4 HB⟩
def aG5 (l:List ByteArray):Bool:=l.all aEi&&decide l.Nodup
def aCq (p:Prg):Bool:=aEi p.name&&aG5 (p.vars.map Var.name)&&aG5 (p.rules.map Rule.name)
theorem aY5 {a b:ByteArray} (h:(a.toList==b.toList)=true):a=b:=by
 have h1:a.toList=b.toList:=by simpa using h
 rw [Lib.toList_data,Lib.toList_data] at h1;cases a;cases b
 simp only [ByteArray.mk.injEq]
 exact Array.toList_inj.1 h1
theorem bAa {a b:ByteArray} (h:(a.toList==b.toList)=false):a≠b:=by
 rintro rfl;simp at h
theorem aC5 (l:List ByteArray):aG5 l=true↔(∀ s∈l,aEi s=true)/\l.Nodup:=by
 unfold aG5;simp only [Bool.and_eq_true,decide_eq_true_eq,List.all_eq_true]
theorem aF6 {p:Prg} (h:¬ aG5 (p.vars.map Var.name)=true):aCq p=false:=by
 unfold aCq;rw [Bool.eq_false_iff.2 h];simp
theorem aF7 {p:Prg} (h:¬ aG5 (p.rules.map Rule.name)=true):aCq p=false:=by
 unfold aCq;rw [Bool.eq_false_iff.2 h];simp
theorem aLm (v:Value) (p:Prg) (w:World) (h:aEm w v p) (hL:aAw p=true) :
  Calls prog 146 #[v] w fun e w'=>e = .returned (.bool (aCq p))/\Bel w w':=by
 obtain ⟨A,k,A2,k2,rfl,hV,_,_,hR,_,_⟩:=h;have HV:=aA0 (fun w' (k:Bel w w')=>aHs.keep hV k);clear hV;have HR:=aA0 (fun w' (k:Bel w w')=>aFe.keep hR k);clear hR;obtain ⟨p1,p2,p3,p4,p5⟩:=aB7 hL;have HP4:=aA0 p4;have HP5:=aA0 (fun r hr=>(aBy (p5 r hr)).1);clear p4 p5 hL;have HB:=Bel.refl (w.alloc (.cells #[.string p.name,.slice A p.vars.length k,.slice A2 p.rules.length k2] 25));cases hnm:aEi p.name with
 | false =>
  have HF:Hid (aCq p=false):=by show aCq p=false;unfold aCq;rw [hnm];rfl
  go_enter func146,ntmps146
  go_wp2_with (go_at_call 167;refine (aEk _ _ (by omega)).mono ?_;rintro e w' ⟨rfl,rfl⟩)
  go_ret;exact ⟨aA2 HF.out.symm,aA4 HB⟩
 | true =>
  have HNM:=aA0 hnm;go_enter func146,ntmps146
  go_wp2_with (go_at_call 167;refine (aEk _ _ (by omega)).mono ?_;rintro e w' ⟨rfl,rfl⟩)
  clear hnm
  go_loopg [3,4] p.vars.length (fun m z _y wr=>∃ j:Nat,j<=p.vars.length/\m=p.vars.length-j/\z = .int .i64 j/\Hid ((∀ q,q<j->(hq:q<p.vars.length)->aEi p.vars[q].name=true)/\((p.vars.map Var.name).take j).Nodup)/\Bel (w.alloc (.cells #[.string p.name,.slice A p.vars.length k,.slice A2 p.rules.length k2] 25)) wr)
  case atStart=>exact ⟨0,by omega,rfl,rfl,⟨fun q hq=>absurd hq (by omega),by simp⟩,HB⟩
  case round =>
   clear HB;obtain ⟨i,hi,rfl,rfl,HJ,HB⟩:=hrel;have q1:=aA9 HB 1 rfl;have q2:=aAx HB
   by_cases hlt:i<p.vars.length
   .have hd0:decide (i<p.vars.length)=true:=by simpa using hlt
    have hnl:=HP4.out _ (List.getElem_mem hlt);go_wp2;clear hd0 q1 q2
    go_loopg [4] i (fun m x ws=>∃ j:Nat,j<=i/\m=i-j/\x = .int .i64 j/\Hid (∀ q,(hq:q<j)->(hq':q<p.vars.length)->p.vars[q].name≠p.vars[i].name)/\Bel (w.alloc (.cells #[.string p.name,.slice A p.vars.length k,.slice A2 p.rules.length k2] 25)) ws)
    case atStart=>exact ⟨0,by omega,rfl,rfl,fun q hq=>absurd hq (by omega),HB⟩
    case round =>
     clear HB;obtain ⟨j,hj,rfl,rfl,HQ,HB⟩:=hrel;have q1:=aA9 HB 1 rfl;have q2:=aAx HB;obtain ⟨b,o,rfl,hb,hc,_⟩:=(HV.out _ (aA4 HB)).at_ i hlt
     by_cases hlt2:j<i
     .have hji:j<p.vars.length:=by omega
      obtain ⟨b',o',e',hb',hc',_⟩:=(HV.out _ (aA4 HB)).at_ j hji;obtain ⟨rfl,rfl⟩:b=b'/\o=o':=by simpa using e'
      clear e';have hd:decide (j<i)=true:=by simpa using hlt2
      go_wp2
      go_quiet (fail)
      go_wp2
      .have he:(p.vars[j].name.toList==p.vars[i].name.toList)=true:=by assumption
       go_ret;refine ⟨aA2 ?_,(aA4 HB).drewN _⟩
       symm
       refine aF6 fun hf=>?_
       exact aFb hlt2 (by simpa using hlt) (by simpa using aY5 he) ((aC5 _).1 hf).2
      .have he:(p.vars[j].name.toList==p.vars[i].name.toList)=false:=by assumption
       go_roundg (i-(j+1))
       case rel =>
        refine ⟨j+1,by omega,rfl,by go_num,?_,HB.drewN _⟩
        intro q hq hq'
        rcases Nat.lt_or_ge q j with h | h
        .exact HQ.out q h hq'
        .obtain rfl:q=j:=by omega
         exact bAa he
       case measure=>omega
     .have hd:decide (j<i)=false:=by simpa using hlt2
      cases hnn:aEi p.vars[i].name with
      | false =>
       have HF:Hid (aCq p=false):=aF6 fun hf=>by
        have:=((aC5 _).1 hf).1 p.vars[i].name (List.mem_map_of_mem (List.getElem_mem hlt));rw [hnn] at this;cases this
       go_wp2_with (go_at_call 167;refine (aEk _ _ (by omega)).mono ?_;rintro e w' ⟨rfl,rfl⟩)
       go_ret;exact ⟨aA2 HF.out.symm,aA4 HB⟩
      | true =>
       have HNN:=aA0 hnn
       go_wp2_with (go_at_call 167;refine (aEk _ _ (by omega)).mono ?_;rintro e w' ⟨rfl,rfl⟩)
       go_roundg (p.vars.length-(i+1))
       case rel =>
        refine ⟨i+1,by omega,rfl,by go_num,⟨?_,aC6 (by simpa using hlt) HJ.out.2 ?_⟩,HB⟩
        .intro q hq hq'
         rcases Nat.lt_or_ge q i with h | h
         .exact HJ.out.1 q h hq'
         .obtain rfl:q=i:=by omega
          exact HNN.out
        .intro q hq
         have:=HQ.out q (by omega) (by omega)
         simpa using this
       case measure=>omega
   .have hd0:decide (i<p.vars.length)=false:=by simpa using hlt
    have HE:Hid (aG5 (p.vars.map Var.name)=true):=by
     show aG5 (p.vars.map Var.name)=true
     rw [aC5];obtain ⟨a1,a2⟩:=HJ.out;rw [List.take_of_length_le (by simp;omega)] at a2
     refine ⟨fun s hs=>?_,a2⟩
     obtain ⟨x,hx,rfl⟩:=List.mem_map.1 hs;obtain ⟨q,hq,rfl⟩:=List.getElem_of_mem hx;exact a1 q (by omega) hq
    have HE1:=HE;clear HE HJ
    go_wp2_with fail
    clear hd0 q1 q2 hi hlt
    go_loopg [5,6] p.rules.length (fun m z _y wr=>∃ j:Nat,j<=p.rules.length/\m=p.rules.length-j/\z = .int .i64 j/\Hid ((∀ q,q<j->(hq:q<p.rules.length)->aEi p.rules[q].name=true)/\((p.rules.map Rule.name).take j).Nodup)/\Bel (w.alloc (.cells #[.string p.name,.slice A p.vars.length k,.slice A2 p.rules.length k2] 25)) wr)
    case atStart=>exact ⟨0,by omega,rfl,rfl,⟨fun q hq=>absurd hq (by omega),by simp⟩,HB⟩
    case round =>
     clear HB;obtain ⟨i,hi,rfl,rfl,HJ,HB⟩:=hrel;have q1:=aA9 HB 2 rfl;have q2:=aAx HB
     by_cases hlt:i<p.rules.length
     .have hd0:decide (i<p.rules.length)=true:=by simpa using hlt
      have hnl:=HP5.out _ (List.getElem_mem hlt);go_wp2;clear hd0 q1 q2
      go_loopg [6] i (fun m x ws=>∃ j:Nat,j<=i/\m=i-j/\x = .int .i64 j/\Hid (∀ q,(hq:q<j)->(hq':q<p.rules.length)->p.rules[q].name≠p.rules[i].name)/\Bel (w.alloc (.cells #[.string p.name,.slice A p.vars.length k,.slice A2 p.rules.length k2] 25)) ws)
      case atStart=>exact ⟨0,by omega,rfl,rfl,fun q hq=>absurd hq (by omega),HB⟩
      case round =>
       clear HB;obtain ⟨j,hj,rfl,rfl,HQ,HB⟩:=hrel;have q1:=aA9 HB 2 rfl;have q2:=aAx HB;obtain ⟨b,o,G1,c1,S1,c2,rfl,hb,hc,_⟩:=(HR.out _ (aA4 HB)).at_ i hlt
       by_cases hlt2:j<i
       .have hji:j<p.rules.length:=by omega
        obtain ⟨b',o',G2,c1p,S2,c2p,e',hb',hc',_⟩:=(HR.out _ (aA4 HB)).at_ j hji;obtain ⟨rfl,rfl⟩:b=b'/\o=o':=by simpa using e'
        clear e';have hd:decide (j<i)=true:=by simpa using hlt2
        go_wp2
        go_quiet (fail)
        go_wp2
        .have he:(p.rules[j].name.toList==p.rules[i].name.toList)=true:=by assumption
         go_ret;refine ⟨aA2 ?_,(aA4 HB).drewN _⟩
         symm
         refine aF7 fun hf=>?_
         exact aFb hlt2 (by simpa using hlt) (by simpa using aY5 he) ((aC5 _).1 hf).2
        .have he:(p.rules[j].name.toList==p.rules[i].name.toList)=false:=by assumption
         go_roundg (i-(j+1))
         case rel =>
          refine ⟨j+1,by omega,rfl,by go_num,?_,HB.drewN _⟩
          intro q hq hq'
          rcases Nat.lt_or_ge q j with h | h
          .exact HQ.out q h hq'
          .obtain rfl:q=j:=by omega
           exact bAa he
         case measure=>omega
       .have hd:decide (j<i)=false:=by simpa using hlt2
        cases hnn:aEi p.rules[i].name with
        | false =>
         have HF:Hid (aCq p=false):=aF7 fun hf=>by
          have:=((aC5 _).1 hf).1 p.rules[i].name (List.mem_map_of_mem (List.getElem_mem hlt));rw [hnn] at this;cases this
         go_wp2_with (go_at_call 167;refine (aEk _ _ (by omega)).mono ?_;rintro e w' ⟨rfl,rfl⟩)
         go_ret;exact ⟨aA2 HF.out.symm,aA4 HB⟩
        | true =>
         have HNN:=aA0 hnn
         go_wp2_with (go_at_call 167;refine (aEk _ _ (by omega)).mono ?_;rintro e w' ⟨rfl,rfl⟩)
         go_roundg (p.rules.length-(i+1))
         case rel =>
          refine ⟨i+1,by omega,rfl,by go_num,⟨?_,aC6 (by simpa using hlt) HJ.out.2 ?_⟩,HB⟩
          .intro q hq hq'
           rcases Nat.lt_or_ge q i with h | h
           .exact HJ.out.1 q h hq'
           .obtain rfl:q=i:=by omega
            exact HNN.out
          .intro q hq
           have:=HQ.out q (by omega) (by omega)
           simpa using this
         case measure=>omega
     .have hd0:decide (i<p.rules.length)=false:=by simpa using hlt
      have HE:Hid (aG5 (p.rules.map Rule.name)=true):=by
       show aG5 (p.rules.map Rule.name)=true
       rw [aC5];obtain ⟨a1,a2⟩:=HJ.out;rw [List.take_of_length_le (by simp;omega)] at a2
       refine ⟨fun s hs=>?_,a2⟩
       obtain ⟨x,hx,rfl⟩:=List.mem_map.1 hs;obtain ⟨q,hq,rfl⟩:=List.getElem_of_mem hx;exact a1 q (by omega) hq
      go_wp2_with fail
      go_ret;refine ⟨aA2 ?_,aA4 HB⟩
      symm
      unfold aCq;rw [HNM.out,HE1.out,HE.out];rfl
def aBq (p:Prg):Int :=
 if ¬ (1<=p.vars.length/\p.vars.length<=6/\p.rules.length<=12) then 3
 else if aCq p=false then 5
 else if p.vars.all aBu=false then 2
 else if p.rules.all (aC4 p.vars.length)=false then 7
 else if p.rules.all (aC1 (aBo p))=false then 6
 else 0
theorem aFe.at_V {w:World} {A:Option Addr} {n:Nat} {xs:List Rule} (h:aFe w A n xs) (k:Nat) (hk:k<xs.length) :
  ∃ b o G c S c2,A=some ⟨b,o,none⟩/\b<w.heap.size/\w.cell? ⟨b,o+k*3,none⟩=some (.string xs[k].name)/\w.cell? ⟨b,o+k*3+1,none⟩=some (.slice G xs[k].guard.length c)/\w.cell? ⟨b,o+k*3+2,none⟩=some (.slice S xs[k].sets.length c2)
   /\ aQj w (.agg #[.string xs[k].name,.slice G xs[k].guard.length c,.slice S xs[k].sets.length c2]) xs[k]:=by
 obtain ⟨b,o,G,c,S,c2,e,hb,h1,h2,h3,h4,h5,h6,h7,h8,h9⟩:=h.at_ k hk;exact ⟨b,o,G,c,S,c2,e,hb,h1,h2,h3,G,c,S,c2,rfl,h4,h5,h6,h7,h8,h9⟩
theorem aN1 {p:Prg} (h:p.vars.all aBu=true):(aBo p).all aDy=true:=by
 rw [List.all_eq_true] at *;intro k hk
 obtain ⟨x,hx,rfl⟩:=List.mem_map.1 hk;have:=h x hx;unfold aBu at this;have:=of_decide_eq_true this;unfold aDy;simp
 omega
theorem aDa (p:Prg):(aBo p).length=p.vars.length:=by simp [aBo]
theorem aRp (v:Value) (p:Prg) (w:World) (h:aEm w v p) (hL:aAw p=true) :
  Calls prog 131 #[v] w fun e w'=>e = .returned (.int .i64 (aBq p))/\Bel w w':=by
 have HPV:=aA0 (fun w' (k:Bel w w')=>h.keep k);obtain ⟨A,k,A2,k2,rfl,hV,_,_,hR,_,_⟩:=h;have HV:=aA0 (fun w' (k:Bel w w')=>aHs.keep hV k);clear hV;have HR:=aA0 (fun w' (k:Bel w w')=>aFe.keep hR k);clear hR;obtain ⟨p1,p2,p3,p4,p5⟩:=aB7 hL;have HP5:=aA0 p5;have HL:=aA0 hL;clear p4 p5 hL;have HB:=Bel.refl (w.alloc (.cells #[.string p.name,.slice A p.vars.length k,.slice A2 p.rules.length k2] 25))
 by_cases hn:1<=p.vars.length/\p.vars.length<=6/\p.rules.length<=12
 .obtain ⟨n1,n2,n3⟩:=hn
  have hin:inB (p.vars.length:Int) 1 6=true:=aDm (by omega) (by omega)
  have HC1:Hid (aBq p=if aCq p=false then 5 else if p.vars.all aBu=false then 2 else if p.rules.all (aC4 p.vars.length)=false then 7 else if p.rules.all (aC1 (aBo p))=false then 6 else 0):=by
   show aBq p=_
   unfold aBq;rw [if_neg (by omega)]
  cases hnm:aCq p with
  | false =>
   rw [hnm,if_pos rfl] at HC1;go_enter func131,ntmps131
   go_wp2_with (first
    | (go_at_call 145;refine (aDx _ _ _ _).mono ?_;rintro e w' ⟨rfl,rfl⟩)
    | (go_at_call 146;refine (aLm _ p _ (HPV.out _ (aA4 HB)) HL.out).mono ?_;rintro e w' ⟨rfl,hb⟩;rw [hnm];replace HB:=HB.trans hb;clear hb))
   go_ret;exact ⟨aA5 HC1.out.symm,aA4 HB⟩
  | true =>
   rw [hnm,if_neg (by decide)] at HC1
   have HNM:=aA0 hnm;clear hnm;go_enter func131,ntmps131
   go_wp2_with (first
    | (go_at_call 145;refine (aDx _ _ _ _).mono ?_;rintro e w' ⟨rfl,rfl⟩)
    | (go_at_call 146;refine (aLm _ p _ (HPV.out _ (aA4 HB)) HL.out).mono ?_;rintro e w' ⟨rfl,hb⟩;rw [HNM.out];replace HB:=HB.trans hb;clear hb))
   clear hin
   go_loopg [3] p.vars.length (fun m z wr=>∃ j:Nat,j<=p.vars.length/\m=p.vars.length-j/\z = .int .i64 j/\Hid ((p.vars.take j).all aBu=true)/\Bel (w.alloc (.cells #[.string p.name,.slice A p.vars.length k,.slice A2 p.rules.length k2] 25)) wr)
   case atStart=>exact ⟨0,by omega,rfl,rfl,rfl,HB⟩
   case round =>
    clear HB;obtain ⟨i,hi,rfl,rfl,HJ,HB⟩:=hrel;have q1:=aA9 HB 1 rfl;have q2:=aAx HB
    by_cases hlt:i<p.vars.length
    .have hd0:decide (i<p.vars.length)=true:=by simpa using hlt
     obtain ⟨b,o,rfl,hb,c0,c1,c2,c3,c4,c5⟩:=(HV.out _ (aA4 HB)).at_ i hlt;cases hnn:aBu p.vars[i] with
     | false =>
      rw [aAo hlt hnn,if_pos rfl] at HC1
      go_wp2_with (go_at_call 147;refine (aJ5 p.vars[i] _).mono ?_;rintro e w' ⟨rfl,hbb⟩;rw [hnn];replace HB:=HB.trans hbb;clear hbb)
      go_ret;exact ⟨aA5 HC1.out.symm,aA4 HB⟩
     | true =>
      have HN:=aA0 (aAb hlt HJ.out hnn);have HNN:=aA0 hnn;clear hnn
      go_wp2_with (go_at_call 147;refine (aJ5 p.vars[i] _).mono ?_;rintro e w' ⟨rfl,hbb⟩;rw [HNN.out];replace HB:=HB.trans hbb;clear hbb)
      go_roundg (p.vars.length-(i+1))
      case rel=>exact ⟨i+1,by omega,rfl,by go_num,HN,HB⟩
      case measure=>omega
    .have hd0:decide (i<p.vars.length)=false:=by simpa using hlt
     rw [aAq (by omega) HJ.out,if_neg (by decide)] at HC1
     clear HJ
     go_wp2_with fail
     clear hd0 q1 q2 hi hlt
     go_loopg [4] p.rules.length (fun m z wr=>∃ j:Nat,j<=p.rules.length/\m=p.rules.length-j/\z = .int .i64 j/\Hid ((p.rules.take j).all (aC4 p.vars.length)=true)/\Bel (w.alloc (.cells #[.string p.name,.slice A p.vars.length k,.slice A2 p.rules.length k2] 25)) wr)
     case atStart=>exact ⟨0,by omega,rfl,rfl,rfl,HB⟩
     case round =>
      clear HB;obtain ⟨i,hi,rfl,rfl,HJ,HB⟩:=hrel;have q1:=aA9 HB 1 rfl;have q3:=aA9 HB 2 rfl;have q2:=aAx HB
      by_cases hlt:i<p.rules.length
      .have hd0:decide (i<p.rules.length)=true:=by simpa using hlt
       have hLr:=HP5.out _ (List.getElem_mem hlt);obtain ⟨b,o,G,c,S,c2,rfl,hb,c0,c1,c2',hRV⟩:=(HR.out _ (aA4 HB)).at_V i hlt;have HRV:=aA0 (fun w' (k:Bel wr w')=>hRV.keep k);clear hRV;have hcell:=aA0 (fun w' (k:Bel wr w')=>And.intro ((k.cell q2).trans q1) (And.intro ((k.cell q2).trans q3) (And.intro ((k.cell hb).trans c0) (And.intro ((k.cell hb).trans c1) (And.intro ((k.cell hb).trans c2') (Nat.lt_of_lt_of_le q2 k.size))))));have HB2:=Bel.refl wr;have HLr:=aA0 hLr;clear hLr;cases hff:aC4 p.vars.length p.rules[i] with
       | false =>
        rw [aAo hlt hff,if_pos rfl] at HC1
        go_wp2_with fail
        replace HB2:=HB2.drew
        go_region_held3 (fun w'=>w'.cell? ⟨w.heap.size,1,none⟩=some (.slice A p.vars.length k)/\w'.cell? ⟨w.heap.size,2,none⟩=some (.slice (some ⟨b,o,none⟩) p.rules.length k2)/\w'.cell? ⟨b,o+i*3,none⟩=some (.string p.rules[i].name)/\w'.cell? ⟨b,o+i*3+1,none⟩=some (.slice G p.rules[i].guard.length c)/\w'.cell? ⟨b,o+i*3+2,none⟩=some (.slice S p.rules[i].sets.length c2)/\w.heap.size<w'.heap.size) (exact hcell.out _ HB2) (first | (go_simp;go_at_call 148;refine (aKg _ p.rules[i] p.vars.length _ (HRV.out _ HB2) (by omega) HLr.out).mono ?_;rintro e w' ⟨rfl,hbb⟩;rw [hff];replace HB2:=HB2.trans hbb;clear hbb))
        go_wp2_with fail
        go_ret;exact ⟨aA5 HC1.out.symm,(aA4 HB).trans HB2⟩
       | true =>
        have HN:=aA0 (aAb hlt HJ.out hff);have HFF:=aA0 hff;clear hff
        go_wp2_with fail
        replace HB2:=HB2.drew
        go_region_held3 (fun w'=>w'.cell? ⟨w.heap.size,1,none⟩=some (.slice A p.vars.length k)/\w'.cell? ⟨w.heap.size,2,none⟩=some (.slice (some ⟨b,o,none⟩) p.rules.length k2)/\w'.cell? ⟨b,o+i*3,none⟩=some (.string p.rules[i].name)/\w'.cell? ⟨b,o+i*3+1,none⟩=some (.slice G p.rules[i].guard.length c)/\w'.cell? ⟨b,o+i*3+2,none⟩=some (.slice S p.rules[i].sets.length c2)/\w.heap.size<w'.heap.size) (exact hcell.out _ HB2) (first | (go_simp;go_at_call 148;refine (aKg _ p.rules[i] p.vars.length _ (HRV.out _ HB2) (by omega) HLr.out).mono ?_;rintro e w' ⟨rfl,hbb⟩;rw [HFF.out];replace HB2:=HB2.trans hbb;clear hbb))
        go_wp2_with fail
        go_roundg (p.rules.length-(i+1))
        case rel=>exact ⟨i+1,by omega,rfl,by go_num,HN,HB.trans HB2⟩
        case measure=>omega
      .have hd0:decide (i<p.rules.length)=false:=by simpa using hlt
       have HALL:=aA0 (aAq (by omega) HJ.out)
       rw [HALL.out,if_neg (by decide)] at HC1
       clear HJ
       go_wp2_with fail
       clear hd0 q1 q2 q3 hi hlt
       go_loopg [5] p.rules.length (fun m z wr=>∃ j:Nat,j<=p.rules.length/\m=p.rules.length-j/\z = .int .i64 j/\Hid ((p.rules.take j).all (aC1 (aBo p))=true)/\Bel (w.alloc (.cells #[.string p.name,.slice A p.vars.length k,.slice A2 p.rules.length k2] 25)) wr)
       case atStart=>exact ⟨0,by omega,rfl,rfl,rfl,HB⟩
       case round =>
        clear HB;obtain ⟨i,hi,rfl,rfl,HJ,HB⟩:=hrel;have q0:=aA9 HB 0 rfl;have q1:=aA9 HB 1 rfl;have q3:=aA9 HB 2 rfl;have q2:=aAx HB
        by_cases hlt:i<p.rules.length
        .have hd0:decide (i<p.rules.length)=true:=by simpa using hlt
         have hLr:=HP5.out _ (List.getElem_mem hlt);have hfo:=(aEd _ _).1 (List.all_eq_true.1 HALL.out _ (List.getElem_mem hlt));rw [<- aDa p] at hfo;obtain ⟨b,o,G,c,S,c2,rfl,hb,c0,c1,c2',hRV⟩:=(HR.out _ (aA4 HB)).at_V i hlt;have HRV:=aA0 (fun w' (k:Bel wr w')=>hRV.keep k);clear hRV;have hcell:=aA0 (fun w' (k:Bel wr w')=>And.intro ((k.cell q2).trans q0) (And.intro ((k.cell q2).trans q1) (And.intro ((k.cell q2).trans q3) (And.intro ((k.cell hb).trans c0) (And.intro ((k.cell hb).trans c1) (And.intro ((k.cell hb).trans c2') (Nat.lt_of_lt_of_le q2 k.size)))))));have HB2:=Bel.refl wr;have HLr:=aA0 hLr;clear hLr;have HFO:=aA0 hfo;clear hfo;obtain ⟨tv,htv⟩:∃ tv,aC1 (aBo p) p.rules[i]=tv:=⟨_,rfl⟩;have HTV:=aA0 htv
         go_wp2_with fail
         replace HB2:=HB2.drew
         go_region_held3 (fun w'=>w'.cell? ⟨w.heap.size,0,none⟩=some (.string p.name)/\w'.cell? ⟨w.heap.size,1,none⟩=some (.slice A p.vars.length k)/\w'.cell? ⟨w.heap.size,2,none⟩=some (.slice (some ⟨b,o,none⟩) p.rules.length k2)/\w'.cell? ⟨b,o+i*3,none⟩=some (.string p.rules[i].name)/\w'.cell? ⟨b,o+i*3+1,none⟩=some (.slice G p.rules[i].guard.length c)/\w'.cell? ⟨b,o+i*3+2,none⟩=some (.slice S p.rules[i].sets.length c2)/\w.heap.size<w'.heap.size) (exact hcell.out _ HB2) (first
          | (go_simp;go_at_call 150;refine (aRr _ p _ (HPV.out _ ((aA4 HB).trans HB2)) (by omega)).mono ?_;rintro e w' ⟨KA,kc,rfl,hK,_,_,hbb⟩;replace HB2:=HB2.trans hbb;clear hbb)
          | (go_simp;go_at_call 149;refine (aRw _ p.rules[i] _ _ (aBo p) _ (HRV.out _ HB2) hK HFO.out HLr.out).mono ?_;rintro e w' ⟨rfl,hbb⟩;rw [HTV.out];replace HB2:=HB2.trans hbb;clear hbb))
         cases tv with
         | false =>
          rw [aAo hlt HTV.out,if_pos rfl] at HC1
          go_wp2_with fail
          go_ret;exact ⟨aA5 HC1.out.symm,(aA4 HB).trans HB2⟩
         | true =>
          have HN:=aA0 (aAb hlt HJ.out HTV.out)
          go_wp2_with fail
          go_roundg (p.rules.length-(i+1))
          case rel=>exact ⟨i+1,by omega,rfl,by go_num,HN,HB.trans HB2⟩
          case measure=>omega
        .have hd0:decide (i<p.rules.length)=false:=by simpa using hlt
         rw [aAq (by omega) HJ.out,if_neg (by decide)] at HC1
         go_wp2_with fail
         go_ret;exact ⟨aA5 HC1.out.symm,aA4 HB⟩
 .have HF:Hid (aBq p=3):=by show aBq p=3;unfold aBq;rw [if_pos hn]
  by_cases hv:1<=p.vars.length/\p.vars.length<=6
  .have hin:inB (p.vars.length:Int) 1 6=true:=aDm (by omega) (by omega)
   have hr:12<p.rules.length:=by omega
   have hd:decide (12<p.rules.length)=true:=by simpa using hr
   clear hn hv;go_enter func131,ntmps131
   go_wp2_with (go_at_call 145;refine (aDx _ _ _ _).mono ?_;rintro e w' ⟨rfl,rfl⟩)
   go_ret;exact ⟨aA5 HF.out.symm,aA4 HB⟩
  .have hin:inB (p.vars.length:Int) 1 6=false:=by rw [aD9];omega
   clear hn hv;go_enter func131,ntmps131
   go_wp2_with (go_at_call 145;refine (aDx _ _ _ _).mono ?_;rintro e w' ⟨rfl,rfl⟩)
   go_ret;exact ⟨aA5 HF.out.symm,aA4 HB⟩
theorem aFq (v:Value) (p:Prg) (w:World) (h:aEm w v p) (hL:aAw p=true) :
  Calls prog 114 #[v] w fun e w'=>e = .returned (.bool (decide (aBq p=0)))/\Bel w w':=by
 have HPV:=aA0 (fun w' (k:Bel w w')=>h.keep k);obtain ⟨A,k,A2,k2,rfl,_,_,_,_,_,_⟩:=h;have HB:=(Bel.refl w).alloc (.cells #[.string p.name,.slice A p.vars.length k,.slice A2 p.rules.length k2] 25);go_enter func114,ntmps114
 go_wp2_with (go_at_call 131;refine (aRp _ p _ (HPV.out _ HB) hL).mono ?_;rintro e w' ⟨rfl,hb⟩;replace HB:=HB.trans hb;clear hb)
 go_ret;exact ⟨aA2 (by rw [Bool.eq_iff_iff];simp),HB⟩
open Go.RowKit Go.Maps
def aGr (s:ByteArray):Lit := .string s.data.toList
theorem aVv {a b:ByteArray} (h:aGr a=aGr b):a=b:=by
 unfold aGr at h;injection h with h
 cases a;cases b
 simp only [ByteArray.mk.injEq]
 exact Array.toList_inj.1 h
theorem aHb {s:ByteArray} {l:List ByteArray}:aGr s∈l.map aGr↔s∈l:=by
 constructor
 .intro h
  obtain ⟨x,hx,he⟩:=List.mem_map.1 h
  rwa [aVv he] at hx
 .exact fun h=>List.mem_map_of_mem h
theorem aM7:Keyed prog 9:=string_keyed underlying9
theorem aPg (w:World):(zeroValue 4).run prog w = .ok (.bool false) w:=by kernel_rfl
theorem aJh {α:Type} {l:List α} {k:Nat} {x:α} (h:x∈l.take k):∃ j,∃ hj:j<l.length,j<k/\l[j]=x:=by
 rw [List.mem_take_iff_getElem] at h;obtain ⟨j,hj,rfl⟩:=h;exact ⟨j,by omega,by omega,rfl⟩
theorem aRa (v:Value) (p:Prg) (w:World) (h:aEm w v p) (hL:aAw p=true) :
  Calls prog 139 #[v] w fun e w'=>e = .returned (.bool (aCq p))/\Bel w w':=by
 obtain ⟨A,k,A2,k2,rfl,hV,_,_,hR,_,_⟩:=h;have HV:=aA0 (fun w' (k:Bel w w')=>aHs.keep hV k);clear hV;have HR:=aA0 (fun w' (k:Bel w w')=>aFe.keep hR k);clear hR;obtain ⟨p1,p2,p3,p4,p5⟩:=aB7 hL;have HP4:=aA0 p4;have HP5:=aA0 (fun r hr=>(aBy (p5 r hr)).1);clear p4 p5 hL;have HB:=Bel.refl (w.alloc (.cells #[.string p.name,.slice A p.vars.length k,.slice A2 p.rules.length k2] 25));have hmm:=@run_makeMap prog;cases hnm:aEi p.name with
 | false =>
  have HF:Hid (aCq p=false):=by show aCq p=false;unfold aCq;rw [hnm];rfl
  go_enter func139,ntmps139
  go_wp2_with (go_at_call 158;refine (aG4 _ _ (by omega)).mono ?_;rintro e w' ⟨rfl,rfl⟩)
  go_ret;exact ⟨aA2 HF.out.symm,aA4 HB⟩
 | true =>
  have HNM:=aA0 hnm;have HS0:=aA0 (aOh.made prog 9 4 (w.alloc (.cells #[.string p.name,.slice A p.vars.length k,.slice A2 p.rules.length k2] 25)));replace HB:=HB.alloc (.map #[] 0);simp only [World.size_alloc] at HS0
  go_enter func139,ntmps139
  go_wp2_with (go_at_call 158;refine (aG4 _ _ (by omega)).mono ?_;rintro e w' ⟨rfl,rfl⟩)
  clear hnm
  go_loopg [5,17] p.vars.length (fun m _x z wr=>∃ j:Nat,j<=p.vars.length/\m=p.vars.length-j/\z = .int .i64 j/\Hid ((∀ q,q<j->(hq:q<p.vars.length)->aEi p.vars[q].name=true)/\((p.vars.map Var.name).take j).Nodup)/\Hid (aOh prog 9 4 wr (w.heap.size+1) j (((p.vars.map Var.name).take j).map aGr))/\Bel (w.alloc (.cells #[.string p.name,.slice A p.vars.length k,.slice A2 p.rules.length k2] 25)) wr)
  case atStart=>exact ⟨0,by omega,rfl,rfl,⟨fun q hq=>absurd hq (by omega),by simp⟩,HS0,HB⟩
  case round =>
   clear HB HS0;obtain ⟨i,hi,rfl,rfl,HJ,HS,HB⟩:=hrel
   by_cases hlt:i<p.vars.length
   .have hd0:decide (i<p.vars.length)=true:=by simpa using hlt
    have hnl:=HP4.out _ (List.getElem_mem hlt);obtain ⟨b,o,rfl,hb,hc0,hc1,hc2,hc3,hc4,hc5⟩:=(HV.out _ (aA4 HB)).at_ i hlt;have hkey:=WideMaps.keyOf_string_mk (P:=prog) (k:=9) underlying9 (s:=p.vars[i].name) (by unfold maxLen;omega)
    have HB2:=HB.alloc (.cells #[.string p.vars[i].name,.int .i64 p.vars[i].kind,.int .i64 p.vars[i].lo,.int .i64 p.vars[i].hi,.int .i64 p.vars[i].perNode,.int .i64 p.vars[i].perID] 100);have HS2:=aA0 (HS.out.keep ((Bel.refl wr).alloc (.cells #[.string p.vars[i].name,.int .i64 p.vars[i].kind,.int .i64 p.vars[i].lo,.int .i64 p.vars[i].hi,.int .i64 p.vars[i].perNode,.int .i64 p.vars[i].perID] 100)));obtain ⟨x,hx,hxi⟩:=HS2.out.look aM7 underlying194 underlying4 (aPg _) hkey;have HXI:=aA0 hxi;have hms:=HS2.out.lt;have HKEY:=aA0 hkey;clear hxi hkey;cases hnn:aEi p.vars[i].name with
    | false =>
     have HF:Hid (aCq p=false):=aF6 fun hf=>by
      have:=((aC5 _).1 hf).1 p.vars[i].name (List.mem_map_of_mem (List.getElem_mem hlt));rw [hnn] at this;cases this
     go_wp2_with (go_at_call 158;refine (aG4 _ _ (by omega)).mono ?_;rintro e w' ⟨rfl,rfl⟩)
     go_ret;exact ⟨aA2 HF.out.symm,aA4 HB2⟩
    | true =>
     cases x with
     | true =>
      have HF:Hid (aCq p=false):=aF6 fun hf=>by
       have hm:=HXI.out.1 rfl;rw [show (Lit.string p.vars[i].name.data.toList)=aGr p.vars[i].name from rfl,aHb] at hm
       obtain ⟨j,hj1,hj2,hj3⟩:=aJh hm;exact aFb hj2 (by simpa using hlt) (by rw [hj3];simp) ((aC5 _).1 hf).2
      go_wp2_with (go_at_call 158;refine (aG4 _ _ (by omega)).mono ?_;rintro e w' ⟨rfl,rfl⟩)
      go_ret;exact ⟨aA2 HF.out.symm,aA4 HB2⟩
     | false =>
      have HNN:=aA0 hnn
      have HT:Hid (((p.vars.map Var.name).take (i+1)).Nodup):=by
       show List.Nodup _
       refine aC6 (by simpa using hlt) HJ.out.2 (fun q hq he=>?_)
       have:(false:Bool)=true:=HXI.out.2 (by
        rw [show (Lit.string p.vars[i].name.data.toList)=aGr p.vars[i].name from rfl,aHb,List.mem_take_iff_getElem]
        refine ⟨q,by simp;omega,?_⟩
        simp at he ⊢
        exact he)
       cases this
      go_wp2_with (first
       | (go_at_call 158;refine (aG4 _ _ (by omega)).mono ?_;rintro e w' ⟨rfl,rfl⟩)
       | (at_mapUpdate;refine aHd _ rfl (.tmp 31) (.tmp 33) (.const (.bool true)) 194 rfl 9 4 aM7 underlying194 underlying4 (w.heap.size+1) i _ rfl HS2.out (by unfold maxLen;omega) _ _ rfl rfl HKEY.out trivial ?_;intro w3 hset hgr;have HB3:=HB2.map (by simp <;> omega) hgr;have HS3:=aA0 hset;clear hset hgr))
      go_roundg (p.vars.length-(i+1))
      case rel =>
       refine ⟨i+1,by omega,rfl,by go_num,⟨?_,HT.out⟩,?_,HB3⟩
       .intro q hq hq'
        rcases Nat.lt_or_ge q i with h | h
        .exact HJ.out.1 q h hq'
        .obtain rfl:q=i:=by omega
         exact HNN.out
       .obtain ⟨D,d1,d2,d3⟩:=HS3.out
        refine ⟨D,d1,d2,fun kl=>?_⟩
        obtain ⟨y,hy,hyi⟩:=d3 kl;refine ⟨y,hy,?_⟩
        rw [hyi,List.take_succ_eq_append_getElem (by simpa using hlt)]
        simp [aGr,or_comm]
      case measure=>omega
   .have hd0:decide (i<p.vars.length)=false:=by simpa using hlt
    have HE:Hid (aG5 (p.vars.map Var.name)=true):=by
     show aG5 (p.vars.map Var.name)=true
     rw [aC5];obtain ⟨a1,a2⟩:=HJ.out;rw [List.take_of_length_le (by simp;omega)] at a2
     refine ⟨fun s hs=>?_,a2⟩
     obtain ⟨x,hx,rfl⟩:=List.mem_map.1 hs;obtain ⟨q,hq,rfl⟩:=List.getElem_of_mem hx;exact a1 q (by omega) hq
    have HE1:=HE;have q1:=aA9 HB 2 rfl;have q2:=aAx HB;have HS0:=aA0 (aOh.made prog 9 4 wr);clear HE HJ HS;have hmb:w.heap.size+1<=wr.heap.size:=by omega
    replace HB:=HB.alloc (.map #[] 0)
    go_wp2_with fail
    clear hd0 q1 q2 hi hlt;generalize hmbe:wr.heap.size=mb at *;clear hmbe
    go_loopg [8,39] p.rules.length (fun m _x z wr=>∃ j:Nat,j<=p.rules.length/\m=p.rules.length-j/\z = .int .i64 j/\Hid ((∀ q,q<j->(hq:q<p.rules.length)->aEi p.rules[q].name=true)/\((p.rules.map Rule.name).take j).Nodup)/\Hid (aOh prog 9 4 wr (mb) j (((p.rules.map Rule.name).take j).map aGr))/\Bel (w.alloc (.cells #[.string p.name,.slice A p.vars.length k,.slice A2 p.rules.length k2] 25)) wr)
    case atStart=>exact ⟨0,by omega,rfl,rfl,⟨fun q hq=>absurd hq (by omega),by simp⟩,HS0,HB⟩
    case round =>
     clear HB HS0;obtain ⟨i,hi,rfl,rfl,HJ,HS,HB⟩:=hrel
     by_cases hlt:i<p.rules.length
     .have hd0:decide (i<p.rules.length)=true:=by simpa using hlt
      have hnl:=HP5.out _ (List.getElem_mem hlt);obtain ⟨b,o,G,c,S,c2,rfl,hb,hc0,hc1,hc2,_⟩:=(HR.out _ (aA4 HB)).at_ i hlt;have hkey:=WideMaps.keyOf_string_mk (P:=prog) (k:=9) underlying9 (s:=p.rules[i].name) (by unfold maxLen;omega)
      have HB2:=HB.alloc (.cells #[.string p.rules[i].name,.slice G p.rules[i].guard.length c,.slice S p.rules[i].sets.length c2] 93);have HS2:=aA0 (HS.out.keep ((Bel.refl wr).alloc (.cells #[.string p.rules[i].name,.slice G p.rules[i].guard.length c,.slice S p.rules[i].sets.length c2] 93)));obtain ⟨x,hx,hxi⟩:=HS2.out.look aM7 underlying194 underlying4 (aPg _) hkey;have HXI:=aA0 hxi;have hms:=HS2.out.lt;have HKEY:=aA0 hkey;clear hxi hkey;cases hnn:aEi p.rules[i].name with
      | false =>
       have HF:Hid (aCq p=false):=aF7 fun hf=>by
        have:=((aC5 _).1 hf).1 p.rules[i].name (List.mem_map_of_mem (List.getElem_mem hlt));rw [hnn] at this;cases this
       go_wp2_with (go_at_call 158;refine (aG4 _ _ (by omega)).mono ?_;rintro e w' ⟨rfl,rfl⟩)
       go_ret;exact ⟨aA2 HF.out.symm,aA4 HB2⟩
      | true =>
       cases x with
       | true =>
        have HF:Hid (aCq p=false):=aF7 fun hf=>by
         have hm:=HXI.out.1 rfl;rw [show (Lit.string p.rules[i].name.data.toList)=aGr p.rules[i].name from rfl,aHb] at hm
         obtain ⟨j,hj1,hj2,hj3⟩:=aJh hm;exact aFb hj2 (by simpa using hlt) (by rw [hj3];simp) ((aC5 _).1 hf).2
        go_wp2_with (go_at_call 158;refine (aG4 _ _ (by omega)).mono ?_;rintro e w' ⟨rfl,rfl⟩)
        go_ret;exact ⟨aA2 HF.out.symm,aA4 HB2⟩
       | false =>
        have HNN:=aA0 hnn
        have HT:Hid (((p.rules.map Rule.name).take (i+1)).Nodup):=by
         show List.Nodup _
         refine aC6 (by simpa using hlt) HJ.out.2 (fun q hq he=>?_)
         have:(false:Bool)=true:=HXI.out.2 (by
          rw [show (Lit.string p.rules[i].name.data.toList)=aGr p.rules[i].name from rfl,aHb,List.mem_take_iff_getElem]
          refine ⟨q,by simp;omega,?_⟩
          simp at he ⊢
          exact he)
         cases this
        go_wp2_with (first
         | (go_at_call 158;refine (aG4 _ _ (by omega)).mono ?_;rintro e w' ⟨rfl,rfl⟩)
         | (at_mapUpdate;refine aHd _ rfl (.tmp 53) (.tmp 55) (.const (.bool true)) 194 rfl 9 4 aM7 underlying194 underlying4 (mb) i _ rfl HS2.out (by unfold maxLen;omega) _ _ rfl rfl HKEY.out trivial ?_;intro w3 hset hgr;have HB3:=HB2.map (by simp <;> omega) hgr;have HS3:=aA0 hset;clear hset hgr))
        go_roundg (p.rules.length-(i+1))
        case rel =>
         refine ⟨i+1,by omega,rfl,by go_num,⟨?_,HT.out⟩,?_,HB3⟩
         .intro q hq hq'
          rcases Nat.lt_or_ge q i with h | h
          .exact HJ.out.1 q h hq'
          .obtain rfl:q=i:=by omega
           exact HNN.out
         .obtain ⟨D,d1,d2,d3⟩:=HS3.out
          refine ⟨D,d1,d2,fun kl=>?_⟩
          obtain ⟨y,hy,hyi⟩:=d3 kl;refine ⟨y,hy,?_⟩
          rw [hyi,List.take_succ_eq_append_getElem (by simpa using hlt)]
          simp [aGr,or_comm]
        case measure=>omega
     .have hd0:decide (i<p.rules.length)=false:=by simpa using hlt
      have HE:Hid (aG5 (p.rules.map Rule.name)=true):=by
       show aG5 (p.rules.map Rule.name)=true
       rw [aC5];obtain ⟨a1,a2⟩:=HJ.out;rw [List.take_of_length_le (by simp;omega)] at a2
       refine ⟨fun s hs=>?_,a2⟩
       obtain ⟨x,hx,rfl⟩:=List.mem_map.1 hs;obtain ⟨q,hq,rfl⟩:=List.getElem_of_mem hx;exact a1 q (by omega) hq
      go_wp2_with fail
      go_ret;refine ⟨aA2 ?_,aA4 HB⟩
      symm
      unfold aCq;rw [HNM.out,HE1.out,HE.out];rfl
theorem aK8 {n:Nat} (h:1<=n):(n==0)=false:=by simp;omega
theorem aK0 {n:Nat} (h:1<=n):((n:Int)==0)=false:=by simp;omega
def aMx (x:Int):Lit := .int .i64 x
theorem aMy {x:Int} {l:List Int}:aMx x∈l.map aMx↔x∈l:=by
 constructor
 .intro h
  obtain ⟨y,hy,he⟩:=List.mem_map.1 h;unfold aMx at he;injection he with _ he
  subst he;exact hy
 .exact fun h=>List.mem_map_of_mem h
theorem aTz:Keyed prog 3:=int_keyed underlying3
theorem aOk (v:Value) (r:Rule) (vars:Nat) (w:World) (h:aQj w v r) (hvars:vars<=1000) (hL:aF4 r=true) :
  Calls prog 141 #[v,.int .i64 vars] w fun e w'=>e = .returned (.bool (aC4 vars r))/\Bel w w':=by
 obtain ⟨G,c,S,c2,rfl,hG,_,_,hS,_,_⟩:=h;have HG:=aA0 (fun w' (k:Bel w w')=>aB0.keep hG k);clear hG;have HS:=aA0 (fun w' (k:Bel w w')=>aKm.keep hS k);clear hS;obtain ⟨_,l2,l3,l4⟩:=aBy hL;have HL4:=aA0 l4;clear l4 hL;have HB:=Bel.refl (w.alloc (.cells #[.string r.name,.slice G r.guard.length c,.slice S r.sets.length c2] 93));have hmm:=@run_makeMap prog
 by_cases hn:1<=r.sets.length/\r.sets.length<=6
 .have hz:((r.sets.length:Int)==0)=false:=aK0 (by omega)
  have hz':(r.sets.length==0)=false:=aK8 (by omega)
  have hz2:decide (6<r.sets.length)=false:=by simp;omega
  cases hvg:aB2 r.guard vars with
  | false =>
   have HF:Hid (aC4 vars r=false):=aBs fun h=>by rw [h.guard] at hvg;cases hvg
   go_enter func141,ntmps141
   go_wp2_with (go_at_call 161;refine (aGs _ _ _ r.guard _ _ (HG.out _ (aA4 HB)) (by omega)).mono ?_;rintro e w' ⟨rfl,hb⟩;rw [hvg];replace HB:=HB.trans hb;clear hb)
   go_ret;exact ⟨aA2 HF.out.symm,aA4 HB⟩
  | true =>
   have HVG:=aA0 hvg;clear hvg;go_enter func141,ntmps141
   go_wp2_with (go_at_call 161;refine (aGs _ _ _ r.guard _ _ (HG.out _ (aA4 HB)) (by omega)).mono ?_;rintro e w1 ⟨rfl,hb⟩;rw [HVG.out];replace HB:=HB.trans hb;clear hb;have q1:=aA9 HB 2 rfl;have q2:=aAx HB)
   clear hz hz' hz2 q1;have HS0:=aA0 (aOh.made prog 3 4 w1);replace HB:=HB.alloc (.map #[] 0);obtain ⟨mb,hmb⟩:∃ mb,w1.heap.size=mb:=⟨_,rfl⟩;rw [hmb] at q2;simp only [hmb] at HS0 ⊢
   clear hmb
   go_loopg [7,29] r.sets.length (fun m _x z wr=>∃ j:Nat,j<=r.sets.length/\m=r.sets.length-j/\z = .int .i64 j/\Hid ((r.sets.take j).all (fun s=>decide (0<=s.var/\s.var<=(vars:Int)-1)&&aB2 s.value vars)=true/\((r.sets.map SetT.var).take j).Nodup)/\Hid (aOh prog 3 4 wr mb j (((r.sets.map SetT.var).take j).map aMx))/\Bel (w.alloc (.cells #[.string r.name,.slice G r.guard.length c,.slice S r.sets.length c2] 93)) wr)
   case atStart=>exact ⟨0,by omega,rfl,rfl,⟨rfl,by simp⟩,HS0,HB⟩
   case round =>
    clear HB HS0;obtain ⟨i,hi,rfl,rfl,HJ,HM,HB⟩:=hrel
    by_cases hlt:i<r.sets.length
    .have hd0:decide (i<r.sets.length)=true:=by simpa using hlt
     obtain ⟨b,o,R,c',rfl,hb,s1,s2,hTv,_,_⟩:=(HS.out _ (aA4 HB)).at_ i hlt;have HTv:=aA0 (fun w' (k:Bel wr w')=>aB0.keep hTv k);clear hTv;have hlen:=HL4.out _ (List.getElem_mem hlt);have HB2:=Bel.refl (wr.alloc (.cells #[.int .i64 r.sets[i].var,.slice R r.sets[i].value.length c'] 95))
     by_cases hr:0<=r.sets[i].var/\r.sets[i].var<=(vars:Int)-1
     .have hin:inB r.sets[i].var 0 ((vars:Int)-1)=true:=aDm hr.1 hr.2
      have hkey:=keyOf_int_mk (P:=prog) (k:=3) (q := .i64) underlying3 (a:=r.sets[i].var) (WalkArith.wf_i64 (by omega))
      have HM2:=aA0 (HM.out.keep (aA4 HB2));obtain ⟨x,hx,hxi⟩:=HM2.out.look aTz underlying196 underlying4 (aPg _) hkey;have HXI:=aA0 hxi;have HKEY:=aA0 hkey;clear hxi hkey;cases x with
      | true =>
       have HF:Hid (aC4 vars r=false):=aBs fun hf=>by
        have hm:=HXI.out.1 rfl;rw [show (Lit.int .i64 r.sets[i].var)=aMx r.sets[i].var from rfl,aMy] at hm
        obtain ⟨j,hj1,hj2,hj3⟩:=aJh hm;exact aFb hj2 (by simpa using hlt) (by rw [hj3];simp) hf.diff
       go_wp2_with (go_at_call 160;refine (aGt _ _ _ _).mono ?_;rintro e w' ⟨rfl,rfl⟩)
       go_ret;exact ⟨aA2 HF.out.symm,(aA4 HB).trans (aA4 HB2)⟩
      | false =>
       cases hvs:aB2 r.sets[i].value vars with
       | false =>
        have HF:Hid (aC4 vars r=false):=aBs fun h=>by have:=(h.sets _ (List.getElem_mem hlt)).2;rw [hvs] at this;cases this
        go_wp2_with (first
         | (go_at_call 160;refine (aGt _ _ _ _).mono ?_;rintro e w' ⟨rfl,rfl⟩)
         | (go_at_call 161;refine (aGs _ _ _ r.sets[i].value _ _ (HTv.out _ (aA4 HB2)) (by omega)).mono ?_;rintro e w' ⟨rfl,hbb⟩;rw [hvs];replace HB2:=HB2.trans hbb;clear hbb))
        go_ret;exact ⟨aA2 HF.out.symm,(aA4 HB).trans (aA4 HB2)⟩
       | true =>
        have HOK:=aA0 (show (decide (0<=r.sets[i].var/\r.sets[i].var<=(vars:Int)-1)&&aB2 r.sets[i].value vars)=true by rw [hvs,decide_eq_true hr];rfl)
        have HVS:=aA0 hvs
        have HT:Hid (((r.sets.map SetT.var).take (i+1)).Nodup):=by
         show List.Nodup _
         refine aC6 (by simpa using hlt) HJ.out.2 (fun q hq he=>?_)
         have:(false:Bool)=true:=HXI.out.2 (by
          rw [show (Lit.int .i64 r.sets[i].var)=aMx r.sets[i].var from rfl,aMy,List.mem_take_iff_getElem]
          refine ⟨q,by simp;omega,?_⟩
          simp at he ⊢
          exact he)
         cases this
        clear hvs hr
        go_wp2_with (first
         | (go_at_call 160;refine (aGt _ _ _ _).mono ?_;rintro e w' ⟨rfl,rfl⟩)
         | (go_at_call 161;refine (aGs _ _ _ r.sets[i].value _ _ (HTv.out _ (aA4 HB2)) (by omega)).mono ?_;rintro e w2 ⟨rfl,hbb⟩;rw [HVS.out];replace HB2:=HB2.trans hbb;have HM3:=aA0 (HM2.out.keep hbb);clear hbb hx;have q1:=aA9 HB2 0 rfl;have q3:=aAx HB2)
         | (at_mapUpdate;refine aHd _ rfl (.tmp 52) (.tmp 54) (.const (.bool true)) 196 rfl 3 4 aTz underlying196 underlying4 mb i _ rfl HM3.out (by unfold maxLen;omega) _ _ rfl rfl HKEY.out trivial ?_;intro w3 hset hgr;have HB3:=(HB.trans (aA4 HB2)).map (by simp <;> omega) hgr;have HM4:=aA0 hset;clear hset hgr))
        go_roundg (r.sets.length-(i+1))
        case rel =>
         refine ⟨i+1,by omega,rfl,by go_num,⟨aAb hlt HJ.out.1 HOK.out,HT.out⟩,?_,HB3⟩
         obtain ⟨D,d1,d2,d3⟩:=HM4.out;refine ⟨D,d1,d2,fun kl=>?_⟩
         obtain ⟨y,hy,hyi⟩:=d3 kl;refine ⟨y,hy,?_⟩
         rw [hyi,List.take_succ_eq_append_getElem (by simpa using hlt)]
         simp [aMx,or_comm]
        case measure=>omega
     .have hin:inB r.sets[i].var 0 ((vars:Int)-1)=false:=by
       rw [aD9];omega
      have HF:Hid (aC4 vars r=false):=aBs fun h=>hr (h.sets _ (List.getElem_mem hlt)).1;clear hr
      go_wp2_with (go_at_call 160;refine (aGt _ _ _ _).mono ?_;rintro e w' ⟨rfl,rfl⟩)
      go_ret;exact ⟨aA2 HF.out.symm,(aA4 HB).trans (aA4 HB2)⟩
    .have hd0:decide (i<r.sets.length)=false:=by simpa using hlt
     go_wp2_with fail
     go_ret;refine ⟨aA2 ?_,aA4 HB⟩
     symm
     rw [aEd];obtain ⟨a1,a2⟩:=HJ.out;rw [List.take_of_length_le (by omega)] at a1
     rw [List.take_of_length_le (by simp;omega)] at a2
     refine ⟨hn.1,hn.2,HVG.out,fun s hs=>?_,a2⟩
     have:=List.all_eq_true.1 a1 s hs;rw [Bool.and_eq_true] at this;exact ⟨of_decide_eq_true this.1,this.2⟩
 .have HF:Hid (aC4 vars r=false):=aBs fun h=>hn ⟨h.pos,h.le⟩
  rcases (show r.sets.length=0∨6<r.sets.length by omega) with h0 | h0
  .have hz:((r.sets.length:Int)==0)=true:=by simp [h0]
   have hz':(r.sets.length==0)=true:=by simp [h0]
   clear hn;have HH:=aA0 h0;clear h0;go_enter func141,ntmps141
   go_wp2_with fail
   go_ret;exact ⟨aA2 HF.out.symm,aA4 HB⟩
  .have hz:((r.sets.length:Int)==0)=false:=aK0 (by omega)
   have hz':(r.sets.length==0)=false:=aK8 (by omega)
   have hz2:decide (6<r.sets.length)=true:=by simpa using h0
   clear hn;go_enter func141,ntmps141
   go_wp2_with fail
   go_ret;exact ⟨aA2 HF.out.symm,aA4 HB⟩
end Go.Proofs.YtdcjnhoabbdanaaGreatDoor

